/- Part K05 of a proof of statements of chapter 15 (no condition). -/
import Derived.Test.YtkkbopkbjacfmaaGreatDoorK03
import Derived.Test.YtkkbopkbjacfmaaGreatDoorK02
import Derived.Laws.Cover1
import Derived.RangeFuncBox
import Derived.RangeFuncLeaves
import Derived.RangeFuncNested
import Derived.Shelf.Small.Bits
import Derived.Shelf.Small.Strs
import Derived.Shelf.Sort.Plain
import Derived.Shelf.Strconv.Itoa0
set_option linter.unusedVariables false
set_option linter.unusedSimpArgs false
set_option maxRecDepth 100000
set_option maxHeartbeats 64000000
namespace Go.Proofs.YtkkbopkbjacfmaaGreatDoor
open Go.RowKit Go.Proofs.Tryz
def Gr (S:Nat->Prop) (base:Nat) (w:World) (b:Nat):Prop:=b<w.heap.size/\(S b\/base<=b)
def In (w:World) (S:Nat->Prop):Prop:=∀b,S b->b<w.heap.size
section
variable {α:Type} {E:El α} {w w' w'':World} {S T:Nat->Prop} {A:Option Addr} {l:List α} {base base':Nat} {e:TypeId} {v:Value}
theorem RowsAt.lo (h:RowsAt E w S A l) (hS:In w S):RowsAt E w (Lo w.heap.size) A l:=h.mono hS
theorem RowsAt.grNew (h:RowsAt E w (P4 base w) A l):RowsAt E w (Gr S base w) A l:=h.mono fun _ hs=>⟨hs.2,.inr hs.1⟩
def El.inn {α:Type} (E:El α) (T:Nat->Prop):El α where
 n:=E.n
 pos:=E.pos
 rep:=fun w S x cs=>E.rep w (fun b=>S b/\T b) x cs
 len:=fun h=>E.len h
 one:=fun h=>E.one h
 same:=fun h hk hS=>E.same h (fun b hb=>hk b hb.1) fun b hb=>⟨hS b hb.1,hb.2⟩
theorem Reps.inn:∀{l:List α} {xs:List Value},Reps (E.inn T) w S l xs->Reps E w (fun b=>S b/\T b) l xs
 | [],_,h=>h
 | _ :: _,_,h=>by
  obtain ⟨cs,rest,rfl,h1,h2⟩:=h;exact ⟨cs,rest,rfl,h1,Reps.inn h2⟩
theorem Reps.toInn:∀{l:List α} {xs:List Value},Reps E w (fun b=>S b/\T b) l xs->Reps (E.inn T) w S l xs
 | [],_,h=>h
 | _ :: _,_,h=>by
  obtain ⟨cs,rest,rfl,h1,h2⟩:=h;exact ⟨cs,rest,rfl,h1,Reps.toInn h2⟩
theorem ElTB.inn {P:Program} {t:TypeId} {by_:Nat} (Q:ElTB P E t e by_) (T:Nat->Prop):ElTB P (E.inn T) t e by_:=⟨Q.under,Q.info⟩
theorem uI {xs cs vs:List Value} {n k j:Nat} (hk:k+n<=xs.length) (hcs:cs=(xs.drop k).take n) (hj:j+vs.length<=n) :
  xs.take (k+j)++vs++xs.drop (k+j+vs.length)=xs.take k++(cs.take j++vs++cs.drop (j+vs.length))++xs.drop (k+n):=by
 subst hcs;have e1:xs.take (k+j)=xs.take k++((xs.drop k).take n).take j:=by
  rw [List.take_take,Nat.min_eq_left (by omega),List.take_add]
 have e2:xs.drop (k+j+vs.length)=((xs.drop k).take n).drop (j+vs.length)++xs.drop (k+n):=by
  have h:(xs.drop k).drop (j+vs.length)=((xs.drop k).take n).drop (j+vs.length)++(xs.drop k).drop n:=by
   have h0:(xs.drop k).drop (j+vs.length)=((xs.drop k).take n++(xs.drop k).drop n).drop (j+vs.length):=by rw [List.take_append_drop]
   rw [h0,List.drop_append,List.length_take,List.length_drop,Nat.min_eq_left (by omega),Nat.sub_eq_zero_of_le hj,List.drop_zero]
  rw [List.drop_drop,List.drop_drop] at h;rw [<-h];congr 1
  omega
 rw [e1,e2];simp
end
section
variable {α:Type} {E:El α} {S:Nat->Prop} {l:List α} {e:TypeId}
end
section
variable {α:Type} {E:El α} {w:World} {S T:Nat->Prop} {l:List α} {e:TypeId} {v:Value} {base:Nat}
end
class ST {α:Type} (P:Program) (E:El α) (t:TypeId) (e:outParam TypeId) (by_:outParam Nat):Prop where
 T:ElTB P E t e by_
section
variable {P:Program} {o:Oper} {s:Mst} {α:Type} {E:El α}
def Ml (s:Mst) (E:El α) (x:Operand) (m:List α) (R:List Nat):Prop :=
 ∀(c:Ctx) (st:Mst) (ρ:Nat->Value) (a:Act) (w:World),Rp c st ρ a w->st.ev x=s.ev x->(∀k,aI R k=true->st.h k=s.h k)->
  ∃A cap ys,a.eval x = .slice A m.length cap/\Reps E w (Fz c st.h ρ w) m ys/\(0<m.length->∃b off,A=some ⟨b,off,none⟩/\∀j u,ys[j]? = some u->w.cell? ⟨b,off+j,none⟩=some u)
theorem CD {x:Operand} {m:List α} (hx:s.ev x = .c (.sl E m)):Ml s E x m []:=fun c st ρ a w hr he _=>by
 have hv:=hr.ev x;rw [he,hx] at hv;obtain ⟨A,cap,hv,_,ys,h1,h2⟩:=hv;exact ⟨A,cap,ys,hv,h1,fun h=>by obtain ⟨b,off,e,_,h3⟩:=h2 h;exact ⟨b,off,e,h3⟩⟩
theorem uJ {x:Operand} {m:List α} (hx:s.ev x = .c (.full E m)):Ml s E x m []:=fun c st ρ a w hr he _=>by
 have hv:=hr.ev x;rw [he,hx] at hv;obtain ⟨A,hv,_,ys,h1,h2⟩:=hv;exact ⟨A,_,ys,hv,h1,fun h=>by obtain ⟨b,off,e,_,h3⟩:=h2 h;exact ⟨b,off,e,h3⟩⟩
theorem yN {x:Operand} {k:Nat} {e:TypeId} {m:List α} (hx:s.ev x = .c (.own k)) (hk:s.h k=some (.arr e E m)):Ml s E x m [k]:=fun c st ρ a w hr he h2=>by
 have hv:=hr.ev x;rw [he,hx] at hv;obtain ⟨A,cap,hA,_,hp⟩:=dP (hr.hp k _ ((h2 k (by simp [aI])).trans hk));rcases Nat.eq_zero_or_pos m.length with h0|h0
 ·obtain rfl:m=[]:=List.eq_nil_of_length_eq_zero h0;exact ⟨A,cap,[],Eq.trans hv hA,rfl,fun h=>absurd h (by simp)⟩
 ·obtain ⟨g,xs,rfl,_,h3,h4,_⟩:=hp h0;exact ⟨_,cap,xs,Eq.trans hv hA,h3,fun _=>⟨g,0,rfl,fun j u hu=>by rw [Nat.zero_add];exact h4 j u hu⟩⟩
theorem gF [J:Dp E] {w:World} {F:Nat->Prop} {ρ:Nat->Value}:∀{m:List α} {vs:List Value},All2 (D.rep w F ρ) (m.flatMap J.deep) vs->Reps E w F m vs
 | [],vs,h=>by
  cases vs with
  | nil=>rfl
  | cons=>exact h.elim
 | x :: m,vs,h=>by
  rw [List.flatMap_cons] at h;refine ⟨vs.take (J.deep x).length,vs.drop (J.deep x).length,(List.take_append_drop _ _).symm,?_,?_⟩
  ·have:=h.take (J.deep x).length;rw [List.take_left] at this;exact J.put this
  ·have:=h.drop (J.deep x).length;rw [List.drop_left] at this;exact gF this
theorem aB [J:Dp E] {x:Operand} {k n:Nat} {e:TypeId} {cs:List D} (m:List α) (hx:s.ev x = .c (.slb k n)) (hk:s.h k=some (.box e cs)) (hm:m.flatMap J.deep=cs) (hn:m.length=n):Ml s E x m [k]:=fun c st ρ a w hr he h2=>by
 have hv:=hr.ev x;rw [he,hx] at hv;obtain ⟨g,hg,hv⟩:=hv;subst hm;subst hn;obtain ⟨vs,hB,hA,_⟩:=hr.box ((h2 k (by simp [aI])).trans hk) hg;exact ⟨_,_,vs,hv,gF hA,fun _=>⟨g,0,rfl,fun j u hu=>by rw [Nat.zero_add];exact hB.cellx j (by simpa using hu)⟩⟩
def KL (s:Mst) (E:El α) (e:TypeId) (x:Operand) (l:List α) (kr:Option Nat):Prop :=
 (∀k,kr=some k->∃b,s.h k=some b)/\
 ∀(c:Ctx) (st:Mst) (ρ:Nat->Value) (a:Act) (w:World),Rp c st ρ a w->st.ev x=s.ev x->(∀k,kr=some k->st.h k=s.h k)->
  ∃v xs,a.eval x=v/\w.ownsRow 0 e E.n v l.length xs/\Reps E w (Fz c st.h ρ w) l xs/\(∀g,kb v=some g->∃k,kr=some k/\kb (ρ k)=some g)
theorem av {x:Operand} {k:Nat} {e:TypeId} {l:List α} (hx:s.ev x = .c (.own k)) (hk:s.h k=some (.arr e E l)):KL s E e x l (some k) :=
 ⟨fun k' h=>by injection h with h;subst h;exact ⟨_,hk⟩,fun c st ρ a w hr he h2=>by
  have hv:=hr.ev x;rw [he,hx] at hv;obtain ⟨xs,h3,h4⟩:=hr.hp k _ ((h2 k rfl).trans hk);exact ⟨_,xs,hv,h3,h4,fun g hg=>⟨k,rfl,hg⟩⟩⟩
theorem tR {x:Operand} {e:TypeId} (hx:s.ev x = .c (.sc (.slice none 0 0))):KL s E e x [] none :=
 ⟨(fun k h=>by cases h),fun c st ρ a w hr he h2=>by
  have hv:=hr.ev x;rw [he,hx] at hv;exact ⟨_,[],hv,World.ownsRow_nil _ _ _ _,rfl,fun g hg=>by cases hg⟩⟩
theorem yO {x:Operand} {k:Nat} {e:TypeId} (hx:s.ev x = .c (.slb k 0)) (hk:s.h k=some (.box e [])):KL s E e x [] (some k) :=
 ⟨fun k' h=>by injection h with h;subst h;exact ⟨_,hk⟩,fun c st ρ a w hr he h2=>by
  have hv:=hr.ev x;rw [he,hx] at hv;obtain ⟨g,hg,hv⟩:=hv;obtain ⟨vs,hB,hA,_⟩:=hr.box ((h2 k rfl).trans hk) hg;cases vs with
  | cons=>exact hA.elim
  | nil=>exact ⟨_,[],hv,⟨by simp,.inr ⟨g,0,#[],rfl,Nat.zero_le _,hB,Nat.le_refl _,by simp [maxLen],by simp,by simp⟩⟩,rfl,fun g' hg'=>⟨k,rfl,by rw [hg];exact hg'⟩⟩⟩
def FB (kr:Option Nat):List (Nat×Option Box):=match kr with|some k=>[(k,none)]|none=>[]
def QC (kr:Option Nat):List Nat:=match kr with|some k=>[k]|none=>[]
theorem ae {t e:TypeId} {by_ k:Nat} {x y:Operand} {l m l':List α} {kr:Option Nat} {R:List Nat} [T:ST P E t e by_] (ho:o.op = .call { callee:=.builtin .append,args:=#[x,y],argTypes:=#[t,t] }) (hdk:o.dst=some k) (hx:KL s E e x l kr) (hy:Ml s E y m R) (hl':l++m=l')
  (hlen:l.length+m.length<=maxLen) (hby:(l.length+m.length)*by_<=140737488355328):LOp P o s (QC kr++R) ⟨.c (.own k),(k,some (.arr e E l')) :: FB kr,[k]⟩:=by
 intro c st ρ a w hr h1 h2 h3 h4;subst hl';have hfk:st.f k=true:=h3 k (by simp [aI]);have hkrs:∀j,kr=some j->st.h j=s.h j:=fun j hj=>h2 j (by subst hj;simp [QC,aI]);have hkx:∀j,kr=some j->∃b,st.h j=some b:=fun j hj=>by obtain ⟨b,hb⟩:=hx.1 j hj;exact ⟨b,(hkrs j hj).trans hb⟩
 have hne:∀j,kr=some j->k.beq j=false:=fun j hj=>by
  cases h9:k.beq j with
  | false=>rfl
  | true =>
   obtain ⟨b,hb⟩:=hkx j hj;rw [<-qNb h9,hr.wf.h k hfk] at hb;cases hb
 obtain ⟨v,xs,hv,hown,hreps,hvk⟩:=hx.2 c st ρ a w hr (h1 x (by simp [ho,Op.operands,Call.operands])) hkrs;obtain ⟨A,cap,ys,hyv,hyr,hyc⟩:=hy c st ρ a w hr (h1 y (by simp [ho,Op.operands,Call.operands])) fun j hj=>h2 j (by rw [mL,hj,Bool.or_true]);have hblk:∀g,v.ownBlock=some g->kb v=some g:=fun g h=>by
  cases v with
  | slice A n c=>cases A <;> exact h
  | _=>simp [Value.ownBlock] at h
 have hblk':∀(u:Value) g,kb u=some g->∀{nn xx},(∃w:World,w.ownsRow 0 e E.n u nn xx)->u.ownBlock=some g:=fun u g h nn xx ⟨w,hw⟩=>by
  rcases hw.2 with ⟨rfl,_⟩|⟨g',cap',cur,rfl,_⟩
  ·cases h
  ·exact h
 have hFv:∀b,Fz c st.h ρ w b->v.ownBlock≠some b:=fun b hb e=>by
  obtain ⟨j,hj,hjb⟩:=hvk b (hblk b e);obtain ⟨bx,hbx⟩:=hkx j hj;exact hb.2.2 j bx hbx hjb
 have hOwn:OwnRows (E.inn (Fz c st.h ρ w)) e w 0 v l:=⟨Nat.zero_le _,xs,hown,Reps.toInn (hreps.same (fun _ _=>rfl) fun b hb=>⟨⟨hb.2.1,hFv b hb⟩,hb⟩)⟩;obtain ⟨v',w',hrun,⟨_,zs,ho1,ho2⟩,hB,hS⟩:=xa (T.T.inn (Fz c st.h ρ w)) w o.type 0 v l m A cap hOwn ys (Reps.toInn (hyr.same (fun _ _=>rfl) fun b hb=>⟨⟨hb.2.1,hFv b hb⟩,hb⟩)) hyc hlen hby;have ho3:=Reps.inn ho2;have hg':∀g,kb v'=some g->g<w'.heap.size/\(w.heap.size<=g\/kb v=some g):=fun g hg=>by
  have hgo:=hblk' v' g hg ⟨w',ho1⟩;refine ⟨ho1.lt g hgo |>.2,?_⟩;by_cases hlt:w.heap.size<=g
  ·exact .inl hlt
  ·refine .inr ?_;by_cases hvg:v.ownBlock=some g
   ·exact hblk g hvg
   ·exact absurd hgo (hS g ⟨by omega,hvg⟩).2
 have hexec:(execOp a.eval o).run P w = .ok (.value v') w':=by
  unfold execOp;simp only [ho,resolve,invoke,builtin,Sem.run_bind,Sem.run_pure,Result.andThen_ok,List.map_toArray,List.map_cons,List.map_nil,hv,hyv,hrun]
 have hky:∀n,aF ((k,some (Box.arr e E (l++m))) :: FB kr) n=true↔n=k\/kr=some n:=fun n=>by
  simp only [aF,Bool.or_eq_true];constructor
  ·rintro (h|h)
   ·exact .inl (qNb h).symm
   ·cases kr with
    | none=>simp [FB,aF] at h
    | some j=>simp [FB,aF] at h;exact .inr (by rw [h])
  ·rintro (rfl|h)
   ·exact .inl (Nat.beq_refl _)
   ·subst h;exact .inr (by simp [FB,aF])
 have hputk:hput ((k,some (Box.arr e E (l++m))) :: FB kr) st.h k=some (.arr e E (l++m)):=by simp [hput]
 have hputr:∀j,kr=some j->hput ((k,some (Box.arr e E (l++m))) :: FB kr) st.h j=none:=fun j hj=>by
  simp only [hput,hne j hj,qCf];subst hj;simp [FB,hput]
 have hsm:∀n bx,aF ((k,some (Box.arr e E (l++m))) :: FB kr) n=true->hput ((k,some (Box.arr e E (l++m))) :: FB kr) st.h n=some bx->n=k/\bx = .arr e E (l++m):=fun n bx hn hb=>by
  rcases (hky n).1 hn with rfl|h
  ·exact RC
  ·rw [hputr n h] at hb;cases hb
 have hFz:∀b,Fz c st.h ρ w b->Fz c (hput ((k,some (Box.arr e E (l++m))) :: FB kr) st.h) (upd ρ k v') w' b/\w'.heap[b]? = w.heap[b]?:=fun b hb=>by
  refine ⟨⟨hb.1,Nat.lt_of_lt_of_le hb.2.1 hB.size,fun n bx hn he=>?_⟩,(hS b ⟨hb.2.1,hFv b hb⟩).1⟩;cases h9:aF ((k,some (Box.arr e E (l++m))) :: FB kr) n with
  | true =>
   obtain ⟨rfl,_⟩:=hsm n bx h9 hn;rw [aN] at he;rcases (hg' b he).2 with h|h
   ·have:=hb.2.1;omega
   ·exact hFv b hb (hblk' v b h ⟨w,hown⟩)
  | false =>
   rw [cc h9] at hn;have hkn:k.beq n=false:=by
    cases h8:k.beq n with
    | false=>rfl
    | true=>rw [<-qNb h8,hr.wf.h k hfk] at hn;cases hn
   rw [dQ hkn] at he;exact hb.2.2 n bx hn he
 refine Oper.wp_value hexec ⟨upd ρ k v',hr.app (e:=⟨.c (.own k),(k,some (.arr e E (l++m))) :: FB kr,[k]⟩) h4 (fun n hn=>?_) (fun n hn=>dQ (by simpa [aI] using hn)) (fun n hn=>?_) ⟨hB.os,hB.tape,hB.output,hB.size,fun b hlt hn=>(hS b ⟨hlt,fun e=>hn ?_⟩).1⟩ (fun n bx g hn hb hg=>?_) (fun n n' b b' g hn hn' hb hb' _ _=>?_) (fun n hn=>.inl ?_) (fun n n' bx hn hb hx2=>?_) (fun n bx hn hb=>?_) ?_⟩
 ·have:n=k:=by simp [aI] at hn;exact hn.symm
  subst this;exact ⟨hfk,(hky n).2 (.inl rfl)⟩
 ·rcases (hky n).1 hn with rfl|h
  ·exact .inl (by simp [aI])
  ·obtain ⟨b,hb⟩:=hkx n h;exact .inr (hr.nfh hb)
 ·obtain ⟨j,hj,hjb⟩:=hvk b (hblk b e);obtain ⟨bx,hbx⟩:=hkx j hj;exact ⟨j,bx,(hky j).2 (.inr hj),hbx,hjb⟩
 ·obtain ⟨rfl,_⟩:=hsm n bx hn hb;rw [aN] at hg;refine ⟨(hg' g hg).1,(hg' g hg).2.imp id fun h=>?_⟩;obtain ⟨j,hj,hjb⟩:=hvk g h;obtain ⟨b0,hb0⟩:=hkx j hj;exact ⟨j,b0,(hky j).2 (.inr hj),hb0,hjb⟩
 ·rw [(hsm n b hn hb).1,(hsm n' b' hn' hb').1]
 ·have:n=k:=by simp [TV.has,V0.has,D.has] at hn;exact hn.symm
  subst this;simp [aI]
 ·rw [(hsm n' bx hn hb).2] at hx2;simp [Box.has] at hx2
 ·obtain ⟨rfl,rfl⟩:=hsm n bx hn hb;rw [aN];refine ⟨zs,ho1,ho3.same (fun _ _=>rfl) fun b hb=>?_⟩;exact (hFz b hb.2).1
 ·exact (aN ρ k v').symm
end
def nH (pl:Nat->Option (Nat×Nat)):List D->List (Nat×TV)->Option (List D)
 | cs,[]=>some cs
 | cs,(i,d) :: r =>
  match pl i,d.cells with
  | some (off,size),some ds=>bif Nat.beq ds.length size && Nat.ble (off+size) cs.length then nH pl (cs.take off++ds++cs.drop (off+size)) r else none
  | _,_=>none
class SP (P:Program) (t:TypeId) (zs:outParam (List Value)) (pl:outParam (List (Nat×Nat))):Prop where
 z:∃i v,P.info? t=some i/\i.zero=some v/\v.cells=zs.toArray
 p:∃fs,P.underlying t=some (.struct fs)/\∀(w:World),((fs.mapM fun f=>do pure (f.offset,<-sizeOf f.type)):Sem (Array (Nat×Nat))).run P w = .ok pl.toArray w
section
variable {P:Program} {o:Oper} {s:Mst}
theorem uL (off:Nat):∀(vs old pre post:List Value) (k:Nat),pre.length=off+k->old.length=vs.length->(vs.zipIdx k).foldl (fun (l:List Value) (x:Value×Nat)=>l.set (off+x.2) x.1) (pre++old++post)=pre++vs++post
 | [],old,pre,post,k,_,h=>by
  obtain rfl:old=[]:=List.eq_nil_of_length_eq_zero h;rfl
 | v :: vs,[],pre,post,k,_,h=>by simp at h
 | v :: vs,u :: old,pre,post,k,hp,h=>by
  rw [List.zipIdx_cons,List.foldl_cons];have h1:(pre++u :: old++post).set (off+k) v=(pre++[v])++old++post:=by
   rw [<-hp,List.append_assoc,List.set_append_right _ _ (Nat.le_refl _),Nat.sub_self];simp
  rw [h1,uL off vs old (pre++[v]) post (k+1) (by simp;omega) (by simpa using h)];simp
theorem FC (vs:List Value) (cs:Array Value) (off:Nat) (h:off+vs.length<=cs.size):(vs.zipIdx.foldl (fun (cs:Array Value) (x:Value×Nat)=>cs.setIfInBounds (off+x.2) x.1) cs).toList=cs.toList.take off++vs++cs.toList.drop (off+vs.length):=by
 have h1:∀(l:List (Value×Nat)) (cs:Array Value),(l.foldl (fun (cs:Array Value) (x:Value×Nat)=>cs.setIfInBounds (off+x.2) x.1) cs).toList=l.foldl (fun (l:List Value) (x:Value×Nat)=>l.set (off+x.2) x.1) cs.toList:=by
  intro l;induction l with
  | nil=>intro cs;rfl
  | cons x l ih=>intro cs;rw [List.foldl_cons,ih,Array.toList_setIfInBounds,List.foldl_cons]
 rw [h1];have h2:cs.toList=cs.toList.take off++(cs.toList.drop off).take vs.length++cs.toList.drop (off+vs.length):=by
  rw [List.append_assoc,<-List.drop_drop,List.take_append_drop,List.take_append_drop]
 have hs:cs.toList.length=cs.size:=Array.length_toList;generalize cs.toList=l at *
 have h3:=uL off vs ((l.drop off).take vs.length) (l.take off) (l.drop (off+vs.length)) 0 (by rw [List.length_take];omega) (by rw [List.length_take,List.length_drop];omega);rw [<-h2] at h3;exact h3
theorem o8 {w:World} {F:Nat->Prop} {ρ:Nat->Value} (pl:Nat->Option (Nat×Nat)):∀(ts:List (Nat×TV)) (ps:List (Nat×Value)) (cs ds:List D) (vs:List Value),All2 (fun t p=>t.1=p.1/\t.2.rep w F ρ p.2) ts ps->All2 (D.rep w F ρ) cs vs->nH pl cs ts=some ds->
  (∀t∈ts,∀l,t.2.cells=some l->∀x∈l,∀u,x.rep w F ρ u->u.oneCell'=true)->∃us:List Value,Instr.fill pl vs.toArray ps=some us.toArray/\All2 (D.rep w F ρ) ds us
 | [],[],cs,ds,vs,_,h,e,_=>by simp only [nH,Option.some.injEq] at e;subst e;exact ⟨vs,rfl,h⟩
 | (i,d) :: ts,(j,v) :: ps,cs,ds,vs,hp,h,e,hok=>by
  obtain ⟨⟨rfl,hd⟩,hp⟩:=hp;simp only [nH] at e;split at e
  ·rename_i off size l h1 h2
   cases hb:Nat.beq l.length size && Nat.ble (off+size) cs.length with
   | false=>rw [hb] at e;cases e
   | true =>
    rw [hb] at e;simp only [qBa] at hb;have hb1:=qNb hb.1;have hb2:=qNl hb.2;obtain ⟨hc1,hc2⟩:=TV.cells_rep hd h2 (hok (i,d) (by simp) l h2);have hl1:=hc1.length;have hl2:=h.length;simp only [Array.length_toList] at hl1;obtain ⟨us,h3,h4⟩:=o8 pl ts ps _ ds (vs.take off++v.cells.toList++vs.drop (off+size)) hp (((h.take off).append hc1).append (h.drop (off+size))) e fun t ht=>hok t (by simp [ht]);refine ⟨us,?_,h4⟩;simp only [Instr.fill,h1];rw [if_neg (by simp;omega),<-h3];congr 1
    apply Array.toList_inj.1
    have:=FC v.cells.toList vs.toArray off (by simp;omega);simp only [Array.length_toList,<-hl1,hb1] at this;rw [<-Array.foldl_toList,Array.toList_zipIdx,this]
  ·cases e
 | [],_ :: _,_,_,_,h,_,_,_=>h.elim
 | _ :: _,[],_,_,_,h,_,_,_=>h.elim
def dX (s:Mst) (ps:Array (Nat×Operand)):List (Nat×TV):=ps.toList.map fun x=>(x.1,s.ev x.2)
theorem qN {c:Ctx} {st:Mst} {ρ:Nat->Value} {a:Act} {w:World} (hr:Rp c st ρ a w) {ps:Array (Nat×Operand)} (h:∀x∈ps.toList,st.ev x.2=s.ev x.2) :
  All2 (fun t p=>t.1=p.1/\t.2.rep w (Fz c st.h ρ w) ρ p.2) (dX s ps) (ps.map fun x=>(x.1,a.eval x.2)).toList:=by
 rw [Array.toList_map];unfold dX;generalize ps.toList=l at *
 induction l with
 | nil=>trivial
 | cons x l ih=>exact ⟨⟨rfl,by have:=hr.ev x.2;rwa [h x (by simp)] at this⟩,ih fun y hy=>h y (by simp [hy])⟩
def cellsOf:List (Nat×TV)->List D
 | []=>[]
 | (_,d) :: r=>(match d.cells with|some l=>l|none=>[])++cellsOf r
theorem sH:∀{ts:List (Nat×TV)} {t:Nat×TV} {l:List D} {x:D},t∈ts->t.2.cells=some l->x∈l->x∈cellsOf ts
 | (i,d) :: ts,t,l,x,ht,hl,hx=>by
  simp only [cellsOf,List.mem_append];rcases List.mem_cons.1 ht with rfl|ht
  ·simp only at hl;rw [hl];exact .inl hx
  ·exact .inr (sH ht hl hx)
theorem jF (pl:Nat->Option (Nat×Nat)):∀{ts:List (Nat×TV)} {cs ds:List D} {x:D},nH pl cs ts=some ds->x∈ds->x∈cs\/x∈cellsOf ts
 | [],cs,ds,x,e,hx=>by simp only [nH,Option.some.injEq] at e;subst e;exact .inl hx
 | (i,d) :: ts,cs,ds,x,e,hx=>by
  simp only [nH] at e;split at e
  ·rename_i off size l h1 h2
   cases hb:Nat.beq l.length size && Nat.ble (off+size) cs.length with
   | false=>rw [hb] at e;cases e
   | true =>
    rw [hb] at e;simp only [cellsOf,List.mem_append,h2];rcases jF pl e hx with h|h
    ·simp only [List.mem_append] at h;rcases h with (h|h)|h
     ·exact .inl (List.mem_of_mem_take h)
     ·exact .inr (.inl h)
     ·exact .inl (List.mem_of_mem_drop h)
    ·exact .inr (.inr h)
  ·cases e
theorem uM {c:Ctx} {st:Mst} {ρ:Nat->Value} {a:Act} {w:World} (hr:Rp c st ρ a w) {ps:Array (Nat×Operand)} (h:∀x∈ps.toList,st.ev x.2=s.ev x.2) (hok:(cellsOf (dX s ps)).all (okD s.h)=true) (h2:∀k,aI (gu (cellsOf (dX s ps))) k=true->st.h k=s.h k) :
  (∀t∈dX s ps,∀l,t.2.cells=some l->∀x∈l,∀u,x.rep w (Fz c st.h ρ w) ρ u->u.oneCell'=true)/\∀x∈cellsOf (dX s ps),∀k,x.has k=true->st.f k=false:=by
 constructor
 ·intro t ht l hl x hx u hu;have hm:=sH ht hl hx;exact hr.okD (ir (List.all_eq_true.1 hok x hm) fun j hj=>h2 j (by subst hj;exact fJ hm)) hu
 ·intro x hx k hk;unfold dX at hx;generalize ps.toList=l at *
  induction l with
  | nil=>simp [cellsOf] at hx
  | cons y l ih =>
   simp only [List.map_cons,cellsOf,List.mem_append] at hx;rcases hx with hx|hx
   ·refine hr.nf (x:=y.2) (h y (by simp)) ?_;generalize s.ev y.2=d at *
    unfold TV.cells at hx;cases d with
    | tup m=>simp at hx
    | v d =>
     cases d with
     | one d=>simp at hx;subst hx;exact hk
     | ag m=>simp only [TV.has,V0.has];exact List.any_eq_true.2 ⟨x,hx,hk⟩
   ·exact ih (fun z hz=>h z (by simp [hz])) hx
def P5 (pl:List (Nat×Nat)) (i:Nat):Option (Nat×Nat):=pl[i]?
theorem FD {t:TypeId} {ps:Array (Nat×Operand)} {zs:List Value} {pl:List (Nat×Nat)} {ds:List D} [I:SP P t zs pl] (ho:o.op = .build t ps) (hok:(cellsOf (dX s ps)).all (okD s.h)=true) (hd:nH (P5 pl) (zs.map D.sc) (dX s ps)=some ds) :
  LOp P o s (gu (cellsOf (dX s ps))) ⟨.v (.ag ds),[],[]⟩ :=
 bq fun c st ρ a w hr h1 h2=>by
  have he:∀x∈ps.toList,st.ev x.2=s.ev x.2:=fun x hx=>h1 x.2 (by rw [ho];simp only [Op.operands];simpa using ⟨x.1,by simpa using hx⟩);obtain ⟨p1,p2⟩:=uM hr he hok h2;obtain ⟨us,hf,hA⟩:=o8 (P5 pl) (dX s ps) _ _ ds zs (qN hr he) (All2.scs zs) hd p1;obtain ⟨i,v,z1,z2,z3⟩:=I.z;obtain ⟨fs,q1,q2⟩:=I.p;refine ⟨.agg us.toArray,?_,⟨us,rfl,hA⟩,fun k hk=>?_⟩
  ·unfold execOp;rw [ho];rw [show P5 pl=fun x=>pl[x]? from rfl,Array.toList_map] at hf;have hq:=q2 w;simp [Instr.build,zeroValue,typeInfo,z1,z2,run_underlying q1,z3] at hq ⊢;simp [hq,hf]
  ·obtain ⟨x,hx,hk⟩:=List.any_eq_true.1 (show ds.any (D.has k)=true from hk);rcases jF _ hd hx with h|h
   ·obtain ⟨v,_,rfl⟩:=List.mem_map.1 h;cases hk
   ·exact p2 x h k hk
theorem Hz (zs:List Value) (m:Nat):((Array.range (m*zs.length)).map fun x=>zs.toArray[x % zs.toArray.size]!).toList=(List.replicate m zs).flatten:=by
 rw [Array.toList_map,Array.toList_range];induction m with
 | zero=>simp
 | succ m ih =>
  rw [Nat.add_mul,Nat.one_mul,List.range_add,List.map_append,ih,List.replicate_succ',List.flatten_append,List.map_map];congr 1
  simp only [List.flatten_cons,List.flatten_nil,List.append_nil];apply List.ext_getElem
  ·simp
  ·intro i h1 h2;simp only [List.getElem_map,List.getElem_range,Function.comp_apply,List.size_toArray];rw [Nat.mul_comm m,Nat.mul_add_mod,Nat.mod_eq_of_lt h2];simp [h2]
theorem uN {R:D->Value->Prop}:∀{l:List D} {us:List Value},All2 R l us->(∀d∈l,∀u,R d u->u.oneCell'=true)->∀u∈us,u.oneCell'=true
 | [],[],_,_,u,hu=>by cases hu
 | d :: l,v :: us,h,f,u,hu=>by
  rcases List.mem_cons.1 hu with rfl|hu
  ·exact f d (by simp) _ h.1
  ·exact uN h.2 (fun x hx=>f x (by simp [hx])) u hu
 | [],_ :: _,h,_,_,_=>h.elim
 | _ :: _,[],h,_,_,_=>h.elim
theorem uO {t e:TypeId} {n k sz:Nat} {row:Bool} {ps:Array (Nat×Operand)} {zs:List Value} {ds:List D} [I:SE P t e] [J:TI P e row sz] [Z:TZ P e zs] (ho:o.op = .buildSlice t n ps) (hdk:o.dst=some k) (hok:(cellsOf (dX s ps)).all (okD s.h)=true) (hn:n*sz<=4096)
  (hd:nH (fun i=>some (i*sz,sz)) ((List.replicate n zs).flatten.map D.sc) (dX s ps)=some ds):LOp P o s (gu (cellsOf (dX s ps))) ⟨.c (.slb k n),[(k,some (.box e ds))],[k]⟩:=by
 intro c st ρ a w hr h1 h2 h3 h4;have he:∀x∈ps.toList,st.ev x.2=s.ev x.2:=fun x hx=>h1 x.2 (by rw [ho];simp only [Op.operands];simpa using ⟨x.1,by simpa using hx⟩);obtain ⟨p1,p2⟩:=uM hr he hok h2;obtain ⟨us,hf,hA⟩:=o8 _ (dX s ps) _ _ ds _ (qN hr he) (All2.scs (List.replicate n zs).flatten) hd p1;obtain ⟨i,v,z1,z2,z3⟩:=Z.z;have hi:i.size=sz:=by have:=J.s;rw [z1] at this;simpa using this
 have hone:∀u∈us,u.oneCell'=true:=uN hA fun d hd1 u hu=>by
  rcases jF _ hd hd1 with h|h
  ·obtain ⟨v,hv,rfl⟩:=List.mem_map.1 h;obtain ⟨l,hl,hv⟩:=List.mem_flatten.1 hv;rw [show u=v from hu];rw [List.eq_of_mem_replicate hl] at hv;exact Z.o v hv
  ·exact hr.okD (ir (List.all_eq_true.1 hok d h) fun j hj=>h2 j (by subst hj;exact fJ h)) hu
 obtain ⟨ρ',h⟩:=hr.newBox (k:=k) (t:=e) (cs:=ds) (vs:=us) (d:=.c (.slb k n)) (v:=.slice (some ⟨w.heap.size,0,none⟩) n n) h4 (h3 k (by simp [aI])) hA hone
  (fun k' hh=>by
   obtain ⟨x,hx,hk⟩:=List.any_eq_true.1 hh;rcases jF _ hd hx with h|h
   ·obtain ⟨v,_,rfl⟩:=List.mem_map.1 h;cases hk
   ·exact p2 x h k' hk) (fun k' hh=>by simp [TV.has,V0.has,D.has] at hh;exact hh.symm) (fun F ρ' hρ=>⟨_,hρ,rfl⟩)
 refine Oper.wp_value ?_ ⟨ρ',h⟩;have hzl:zs.length=sz:=by
  have h1:=Z.n;rw [z1] at h1;simp only [Option.map_some,Option.some.injEq] at h1;omega
 have hc:=Hz zs n;have hca:(Array.range (n*sz)).map (fun x=>zs.toArray[x % zs.toArray.size]!)=(List.replicate n zs).flatten.toArray:=by
  apply Array.toList_inj.1
  rw [<-hzl,hc]
 unfold execOp;rw [ho];rw [Array.toList_map] at hf;have hbig:¬(16777216<n*sz):=by omega
 by_cases h0:n*sz=0
 ·have hf0:(List.replicate n zs).flatten=[]:=by
   apply List.eq_nil_of_length_eq_zero
   simp [hzl,h0]
  rw [hf0] at hf;simp [Instr.buildSlice,run_underlying I.u,sizeOf,typeInfo,z1,hi,h0,newRow];rw [show Array.map (fun _=>(default:Value)) (Array.range 0) = #[] by simp,hf];simp
 ·simp [Instr.buildSlice,run_underlying I.u,sizeOf,typeInfo,z1,hi,h0,zeroValue,z2,z3,newRow,hbig];simp at hca;rw [hca,hf];simp
theorem uP {t e:TypeId} {row:Bool} {n b off len cap lo hi:Nat} [I:SE P t e] [J:TI P e row n] (w:World) (l h m:Option Value) (A:Option Addr) (hA:0<len->A=some ⟨b,off,none⟩)
  (hl:l=some (.int .i64 (lo:Int))\/l=none/\lo=0) (hh:h=some (.int .i64 (hi:Int))\/h=none/\hi=len/\m=none) (hm:m=some (.int .i64 (hi:Int))\/m=none) (h1:lo<=hi) (h2:hi<=len) (h3:len<=cap) (hlo:lo<hi\/True) :
  ∃A',(Instr.sliceAt t (.slice A len cap) l h m).run P w = .ok (.slice A' (hi-lo) ((if m=none then cap else hi)-lo)) w/\(lo<hi->A'=some ⟨b,off+lo*n,none⟩):=by
 obtain ⟨j,hj,hn⟩:∃j,P.info? e=some j/\j.size=n:=by
  have:=J.s;cases h:P.info? e with
  | none=>simp [h] at this
  | some j=>exact ⟨j,rfl,by simpa [h] using this⟩
 subst hn;refine ⟨if (if m=none then cap else hi)=lo then A else A.map (·.add (lo*j.size)),?_,fun hlt=>?_⟩
 ·rcases hl with rfl|⟨rfl,rfl⟩ <;> rcases hh with rfl|⟨rfl,rfl,rfl⟩ <;> rcases hm with hm|hm <;> (first|cases hm|subst hm) <;>
   simp [Instr.sliceAt,Instr.slice,Instr.sliceBounds,Instr.sliceBound,asIntOf,run_underlying I.u,sizeOf,typeInfo,hj,h1,h2,h3,Nat.le_trans h2 h3,Nat.le_trans h1 h2]
 ·rw [hA (by omega)];have:¬(if m=none then cap else hi)=lo:=by split <;> omega
  rw [if_neg this];simp [dd]
theorem Ae {w:World} {F:Nat->Prop} {α:Type} {E:El α} {A A':Option Addr} {l:List α} {lo hi:Nat} (h:RowsAt E w F A l) (hlh:lo<=hi) (hh:hi<=l.length) (hA:lo<hi->∀b off,A=some ⟨b,off,none⟩->A'=some ⟨b,off+lo*E.n,none⟩):RowsAt E w F A' ((l.take hi).drop lo):=by
 by_cases hlt:lo<hi
 ·obtain ⟨xs,h1,h2⟩:=h.take hi;obtain ⟨b,off,rfl,_,_⟩:=h2 (by simp;omega);rw [hA hlt b off rfl];exact (h.take hi).drop lo
 ·have:(l.take hi).drop lo=[]:=by
   apply List.eq_nil_of_length_eq_zero
   simp;omega
  rw [this];exact RowsAt.nil _ _ _ _
theorem qO {t e:TypeId} {row:Bool} {n lo hi:Nat} {x:Operand} {l h:Option Operand} {α:Type} {E:El α} {L L':List α} [I:SE P t e] [J:TI P e row n] (ho:o.op = .slice t x l h none) (hx:s.ev x = .c (.sl E L)) (hn:E.n=n)
  (hl:(∃y,l=some y/\s.ev y = .i lo)\/l=none/\lo=0) (hh:(∃y,h=some y/\s.ev y = .i hi)\/h=none/\hi=L.length) (h1:lo<=hi) (h2:hi<=L.length) (hL:(L.take hi).drop lo=L'):LOp P o s [] ⟨.c (.sl E L'),[],[]⟩ :=
 bq fun c st ρ a w hr hc _=>by
  subst hL;subst hn;have he:=hc x (by simp [ho,Op.operands]);rw [hx] at he;have hv:=hr.ev x;rw [he] at hv;obtain ⟨A,cap,hv,hcap,hR⟩:=hv;have hl':l.map a.eval=some (.int .i64 (lo:Int))\/l.map a.eval=none/\lo=0:=by
   rcases hl with ⟨y,rfl,hy⟩|⟨rfl,h⟩
   ·have:=hr.ev y;exact RF
   ·exact .inr ⟨rfl,h⟩
  have hh':h.map a.eval=some (.int .i64 (hi:Int))\/h.map a.eval=none/\hi=L.length/\(none:Option Value)=none:=by
   rcases hh with ⟨y,rfl,hy⟩|⟨rfl,h⟩
   ·have:=hr.ev y;exact RF
   ·exact .inr ⟨rfl,h,rfl⟩
  obtain ⟨b,off,hb⟩:∃b off,0<L.length->A=some ⟨b,off,none⟩:=by
   rcases Nat.eq_zero_or_pos L.length with h0|h0
   ·exact ⟨0,0,fun h=>by omega⟩
   ·obtain ⟨xs,_,h4⟩:=hR;obtain ⟨b,off,h5,_⟩:=h4 h0;exact ⟨b,off,fun _=>h5⟩
  obtain ⟨A',hrun,hA'⟩:=uP (P:=P) (t:=t) (b:=b) (off:=off) w (l.map a.eval) (h.map a.eval) none A hb hl' hh' (.inr rfl) h1 h2 hcap.1 (.inr trivial);have hlen:((L.take hi).drop lo).length=hi-lo:=by simp;omega
  refine ⟨.slice A' (hi-lo) (cap-lo),?_,⟨A',cap-lo,by rw [hlen],by rw [hlen];have:=hcap.2;omega,Ae hR h1 h2 fun hlt b' off' e=>?_⟩,fun k hk=>by simp [TV.has,V0.has,D.has] at hk⟩
  ·unfold execOp;rw [ho];simp only [hv,Option.map_none,Sem.run_bind,hrun,Result.andThen_ok,Sem.run_pure,if_true]
  ·rw [hb (by omega)] at e;injection e with e;injection e with e1 e2;subst e1;subst e2;exact hA' hlt
theorem uQ {t e:TypeId} {row:Bool} {n lo hi:Nat} {x y z:Operand} {l:Option Operand} {α:Type} {E:El α} {L L':List α} [I:SE P t e] [J:TI P e row n] (ho:o.op = .slice t x l (some y) (some z)) (hx:s.ev x = .c (.sl E L)) (hn:E.n=n)
  (hl:(∃y,l=some y/\s.ev y = .i lo)\/l=none/\lo=0) (hy:s.ev y = .i hi) (hz:s.ev z = .i hi) (h1:lo<=hi) (h2:hi<=L.length) (hL:(L.take hi).drop lo=L'):LOp P o s [] ⟨.c (.full E L'),[],[]⟩ :=
 bq fun c st ρ a w hr hc _=>by
  subst hL;subst hn;have he:=hc x (by simp [ho,Op.operands]);rw [hx] at he;have hv:=hr.ev x;rw [he] at hv;obtain ⟨A,cap,hv,hcap,hR⟩:=hv;have hl':l.map a.eval=some (.int .i64 (lo:Int))\/l.map a.eval=none/\lo=0:=by
   rcases hl with ⟨y,rfl,hy⟩|⟨rfl,h⟩
   ·have:=hr.ev y;exact RF
   ·exact .inr ⟨rfl,h⟩
  have hy':a.eval y = .int .i64 (hi:Int):=by have:=hr.ev y;rwa [hc y (by simp [ho,Op.operands]),hy] at this
  have hz':a.eval z = .int .i64 (hi:Int):=by have:=hr.ev z;rwa [hc z (by simp [ho,Op.operands]),hz] at this
  obtain ⟨b,off,hb⟩:∃b off,0<L.length->A=some ⟨b,off,none⟩:=by
   rcases Nat.eq_zero_or_pos L.length with h0|h0
   ·exact ⟨0,0,fun h=>by omega⟩
   ·obtain ⟨xs,_,h4⟩:=hR;obtain ⟨b,off,h5,_⟩:=h4 h0;exact ⟨b,off,fun _=>h5⟩
  obtain ⟨A',hrun,hA'⟩:=uP (P:=P) (t:=t) (b:=b) (off:=off) w (l.map a.eval) (some (.int .i64 (hi:Int))) (some (.int .i64 (hi:Int))) A hb hl' (.inl rfl) (.inl rfl) h1 h2 hcap.1 (.inr trivial);have hlen:((L.take hi).drop lo).length=hi-lo:=by simp;omega
  refine ⟨.slice A' (hi-lo) (hi-lo),?_,⟨A',by rw [hlen],by rw [hlen];have:=hcap.2;omega,Ae hR h1 h2 fun hlt b' off' e=>?_⟩,fun k hk=>by simp [TV.has,V0.has,D.has] at hk⟩
  ·unfold execOp;rw [ho];simp only [hv,Option.map_some,hy',hz',Sem.run_bind,hrun,Result.andThen_ok,Sem.run_pure];rfl
  ·rw [hb (by omega)] at e;injection e with e;injection e with e1 e2;subst e1;subst e2;exact hA' hlt
end
section
variable {P:Program}
def QD (P:Program) (t:TypeId):Option (Bool×Nat) :=
 match P.underlying t,P.info? t with
 | some d,some i=>some ((match d with | .struct _ | .array _ _=>true|_=>false),i.size)
 | _,_=>none
theorem TI.of {t n:Nat} {row:Bool} (h:QD P t=some (row,n)):TI P t row n:=by
 unfold QD at h;split at h
 ·rename_i d i h1 h2
  injection h with h;injection h with e1 e2;exact ⟨⟨d,h1,e1⟩,by rw [h2];simp [e2]⟩
 ·cases h
def QG (P:Program) (t:TypeId) (f:Nat):Option (Nat×Nat×Bool) :=
 match P.underlying t with
 | some (.struct fs)=>match fs[f]? with
  | some x=>match P.info? x.type with
   | some i=>some (x.offset,x.type,Nat.beq i.size 0)
   | none=>none
  | none=>none
 | _=>none
theorem FO.of {t f off ft:Nat} (h:QG P t f=some (off,ft,false)):FO P t f off ft:=by
 unfold QG at h;split at h
 ·rename_i fs h1
  split at h
  ·rename_i x h2
   split at h
   ·rename_i i h3
    injection h with h;injection h with e1 h;injection h with e2 e3;subst e1;subst e2;refine ⟨⟨fs,x,i,h1,h2,rfl,rfl,h3,fun e=>?_⟩⟩;rw [e] at e3;cases e3
   ·cases h
  ·cases h
 ·cases h
def PZ (P:Program) (t:TypeId):Option (List Value×Nat) :=
 match P.info? t with
 | some i=>match i.zero with
  | some v=>some (v.cells.toList,i.size)
  | none=>none
 | none=>none
theorem TZ.of {t:Nat} {zs:List Value} (h:PZ P t=some (zs,zs.length)) (ho:zs.all (·.oneCell')=true):TZ P t zs:=by
 unfold PZ at h;split at h
 ·rename_i i h1
  split at h
  ·rename_i v h2
   injection h with h;injection h with e1 e2;exact ⟨⟨i,v,h1,h2,by rw [<-e1]⟩,fun u hu=>List.all_eq_true.1 ho u hu,by rw [h1];simp [e2]⟩
  ·cases h
 ·cases h
def QH (P:Program) (t:TypeId):Option (List (Nat×Option Nat)) :=
 match P.underlying t with
 | some (.struct fs)=>some (fs.toList.map fun f=>(f.offset,(P.info? f.type).map (·.size)))
 | _=>none
theorem SP.of {t:Nat} {zs:List Value} {pl:List (Nat×Nat)} (hz:PZ P t=some (zs,zs.length)) (h:QH P t=some (pl.map fun x=>(x.1,some x.2))):SP P t zs pl:=by
 unfold PZ at hz;split at hz
 ·rename_i i h1
  split at hz
  ·rename_i v h2
   injection hz with hz;injection hz with e1 e2;refine ⟨⟨i,v,h1,h2,by rw [<-e1]⟩,?_⟩;unfold QH at h;split at h
   ·rename_i fs h3
    have h:=Option.some.inj h;refine ⟨fs,h3,fun w=>?_⟩;rw [Array.mapM_eq_mapM_toList,map_eq_pure_bind];have key:∀(l:List Field) (pl:List (Nat×Nat)),l.map (fun f=>(f.offset,(P.info? f.type).map (·.size)))=pl.map (fun x=>(x.1,some x.2))->((l.mapM fun f=>do pure (f.offset,<-sizeOf f.type)):Sem (List (Nat×Nat))).run P w = .ok pl w:=by
     intro l;induction l with
     | nil=>intro pl h;cases pl with
      | nil=>rfl
      | cons=>simp at h
     | cons f l ih =>
      intro pl h;cases pl with
      | nil=>simp at h
      | cons x pl =>
       simp only [List.map_cons,List.cons.injEq,Prod.mk.injEq] at h;obtain ⟨⟨e3,e4⟩,e5⟩:=h;cases hq:P.info? f.type with
       | none=>rw [hq] at e4;cases e4
       | some j =>
        rw [hq] at e4;simp only [Option.map_some,Option.some.injEq] at e4;have:=ih pl e5;simp [List.mapM_cons,sizeOf,typeInfo,hq,e4,e3] at this ⊢;simp [this]
    simp only [Sem.run_bind,key _ _ h,Result.andThen_ok,Sem.run_pure]
   ·cases h
  ·cases hz
 ·cases hz
theorem KP {o:Oper} {s:Mst} {t:TypeId} {k:Nat} {x:Operand} {ds:List D} (ho:o.op = .box t x) (hdk:o.dst=some k) (hd:(s.ev x).cells=some ds) (hok:ds.all (okD s.h)=true):LOp P o s (gu ds) ⟨.c (.ptr k 0),[(k,some (.box t ds))],[k]⟩:=by
 intro c st ρ a w hr h1 h2 h3 h4;have he:=h1 x (by simp [ho,Op.operands]);rw [<-he] at hd;obtain ⟨hc1,hc2⟩:=TV.cells_rep (hr.ev x) hd fun z hz u hu=>hr.okD (ir (List.all_eq_true.1 hok z hz) fun j hj=>h2 j (by subst hj;exact fJ hz)) hu;obtain ⟨ρ',h⟩:=hr.newBox (k:=k) (t:=t) (cs:=ds) (vs:=(a.eval x).cells.toList) (d:=.c (.ptr k 0)) (v:=.pointer (some ⟨w.heap.size,0,none⟩)) h4 (h3 k (by simp [aI])) hc1 hc2
  (fun k' hh=>by
   obtain ⟨z,hz,hk⟩:=List.any_eq_true.1 hh;refine hr.nf (x:=x) rfl ?_;generalize st.ev x=q at *
   unfold TV.cells at hd;split at hd
   ·injection hd with hd;subst hd;simp at hz;subst hz;exact hk
   ·injection hd with hd;subst hd;simp only [TV.has,V0.has];exact List.any_eq_true.2 ⟨z,hz,hk⟩
   ·cases hd) (fun k' hh=>by simp [TV.has,V0.has,D.has] at hh;exact hh.symm) (fun F ρ' hρ=>⟨_,hρ,rfl⟩)
 exact Oper.wp_value (by unfold execOp;rw [ho];simp [Instr.box,newVar,newRow,run_newObj_alloc]) ⟨ρ',h⟩
end
instance:TI prog 1 false 1:=.of (by kernel_rfl)
instance:TZ prog 1 [.nilFunc]:=.of (by kernel_rfl) rfl
instance:TI prog 3 false 1:=.of (by kernel_rfl)
instance:TZ prog 3 [.int .i64 0]:=.of (by kernel_rfl) rfl
instance:TI prog 4 false 1:=.of (by kernel_rfl)
instance:TZ prog 4 [.bool false]:=.of (by kernel_rfl) rfl
instance:TI prog 5 false 1:=.of (by kernel_rfl)
instance:TZ prog 5 [.int .u8 0]:=.of (by kernel_rfl) rfl
instance:TI prog 9 false 1:=.of (by kernel_rfl)
instance:TZ prog 9 [.string { data:=#[] }]:=.of (by kernel_rfl) rfl
instance:TI prog 22 false 1:=.of (by kernel_rfl)
instance:SE prog 22 3:=⟨underlying22⟩
instance:TZ prog 22 [.slice none 0 0]:=.of (by kernel_rfl) rfl
instance:TI prog 25 false 1:=.of (by kernel_rfl)
instance:SE prog 25 78:=⟨underlying25⟩
instance:TZ prog 25 [.slice none 0 0]:=.of (by kernel_rfl) rfl
instance:TI prog 26 false 1:=.of (by kernel_rfl)
instance:SE prog 26 68:=⟨underlying26⟩
instance:TZ prog 26 [.slice none 0 0]:=.of (by kernel_rfl) rfl
instance:TI prog 28 true 2:=.of (by kernel_rfl)
instance:TZ prog 28 [.slice none 0 0,.slice none 0 0]:=.of (by kernel_rfl) rfl
instance:SP prog 28 [.slice none 0 0,.slice none 0 0] [(0,1),(1,1)]:=.of (by kernel_rfl) (by kernel_rfl)
instance:FO prog 28 0 0 25:=.of (by kernel_rfl)
instance:FO prog 28 1 1 26:=.of (by kernel_rfl)
instance:TI prog 30 false 1:=.of (by kernel_rfl)
instance:SE prog 30 94:=⟨underlying30⟩
instance:TZ prog 30 [.slice none 0 0]:=.of (by kernel_rfl) rfl
instance:TI prog 31 false 1:=.of (by kernel_rfl)
instance:SE prog 31 42:=⟨underlying31⟩
instance:TZ prog 31 [.slice none 0 0]:=.of (by kernel_rfl) rfl
instance:TI prog 32 false 1:=.of (by kernel_rfl)
instance:TZ prog 32 [.int .i64 0]:=.of (by kernel_rfl) rfl
instance:TI prog 42 true 3:=.of (by kernel_rfl)
instance:TZ prog 42 [.int .i64 0,.int .i64 0,.int .i64 0]:=.of (by kernel_rfl) rfl
instance:SP prog 42 [.int .i64 0,.int .i64 0,.int .i64 0] [(0,1),(1,1),(2,1)]:=.of (by kernel_rfl) (by kernel_rfl)
instance:FO prog 42 0 0 3:=.of (by kernel_rfl)
instance:FO prog 42 1 1 3:=.of (by kernel_rfl)
instance:FO prog 42 2 2 3:=.of (by kernel_rfl)
instance:TI prog 44 false 1:=.of (by kernel_rfl)
instance:SE prog 44 63:=⟨underlying44⟩
instance:TZ prog 44 [.slice none 0 0]:=.of (by kernel_rfl) rfl
instance:TI prog 46 true 6:=.of (by kernel_rfl)
instance:TZ prog 46 [.int .i64 0,.int .i64 0,.int .i64 0,.int .i64 0,.int .i64 0,.slice none 0 0]:=.of (by kernel_rfl) rfl
instance:SP prog 46 [.int .i64 0,.int .i64 0,.int .i64 0,.int .i64 0,.int .i64 0,.slice none 0 0] [(0,3),(3,1),(4,1),(5,1)]:=.of (by kernel_rfl) (by kernel_rfl)
instance:FO prog 46 0 0 42:=.of (by kernel_rfl)
instance:FO prog 46 1 3 3:=.of (by kernel_rfl)
instance:FO prog 46 2 4 3:=.of (by kernel_rfl)
instance:FO prog 46 3 5 44:=.of (by kernel_rfl)
instance:TI prog 48 false 1:=.of (by kernel_rfl)
instance:SE prog 48 121:=⟨underlying48⟩
instance:TZ prog 48 [.slice none 0 0]:=.of (by kernel_rfl) rfl
instance:TI prog 50 true 3:=.of (by kernel_rfl)
instance:TZ prog 50 [.int .i64 0,.slice none 0 0,.slice none 0 0]:=.of (by kernel_rfl) rfl
instance:SP prog 50 [.int .i64 0,.slice none 0 0,.slice none 0 0] [(0,1),(1,1),(2,1)]:=.of (by kernel_rfl) (by kernel_rfl)
instance:FO prog 50 0 0 3:=.of (by kernel_rfl)
instance:FO prog 50 1 1 25:=.of (by kernel_rfl)
instance:FO prog 50 2 2 48:=.of (by kernel_rfl)
instance:TI prog 54 false 1:=.of (by kernel_rfl)
instance:SE prog 54 46:=⟨underlying54⟩
instance:TZ prog 54 [.slice none 0 0]:=.of (by kernel_rfl) rfl
instance:TI prog 61 true 2:=.of (by kernel_rfl)
instance:TZ prog 61 [.int .i64 0,.int .i64 0]:=.of (by kernel_rfl) rfl
instance:SP prog 61 [.int .i64 0,.int .i64 0] [(0,1),(1,1)]:=.of (by kernel_rfl) (by kernel_rfl)
instance:FO prog 61 0 0 3:=.of (by kernel_rfl)
instance:FO prog 61 1 1 3:=.of (by kernel_rfl)
instance:TI prog 63 true 3:=.of (by kernel_rfl)
instance:TZ prog 63 [.string { data:=#[] },.int .i64 0,.int .i64 0]:=.of (by kernel_rfl) rfl
instance:SP prog 63 [.string { data:=#[] },.int .i64 0,.int .i64 0] [(0,1),(1,2)]:=.of (by kernel_rfl) (by kernel_rfl)
instance:FO prog 63 0 0 9:=.of (by kernel_rfl)
instance:FO prog 63 1 1 61:=.of (by kernel_rfl)
instance:TI prog 64 false 1:=.of (by kernel_rfl)
instance:SE prog 64 66:=⟨underlying64⟩
instance:TZ prog 64 [.slice none 0 0]:=.of (by kernel_rfl) rfl
instance:TI prog 66 true 5:=.of (by kernel_rfl)
instance:TZ prog 66 [.int .i64 0,.string { data:=#[] },.int .i64 0,.int .i64 0,.slice none 0 0]:=.of (by kernel_rfl) rfl
instance:SP prog 66 [.int .i64 0,.string { data:=#[] },.int .i64 0,.int .i64 0,.slice none 0 0] [(0,1),(1,3),(4,1)]:=.of (by kernel_rfl) (by kernel_rfl)
instance:FO prog 66 0 0 3:=.of (by kernel_rfl)
instance:FO prog 66 1 1 63:=.of (by kernel_rfl)
instance:FO prog 66 2 4 64:=.of (by kernel_rfl)
instance:TI prog 68 true 9:=.of (by kernel_rfl)
instance:TZ prog 68 [.int .i64 0,.int .i64 0,.int .i64 0,.int .i64 0,.string { data:=#[] },.int .i64 0,.int .i64 0,.slice none 0 0,.int .i64 0]:=.of (by kernel_rfl) rfl
instance:SP prog 68 [.int .i64 0,.int .i64 0,.int .i64 0,.int .i64 0,.string { data:=#[] },.int .i64 0,.int .i64 0,.slice none 0 0,.int .i64 0] [(0,3),(3,5),(8,1)]:=.of (by kernel_rfl) (by kernel_rfl)
instance:FO prog 68 0 0 42:=.of (by kernel_rfl)
instance:FO prog 68 1 3 66:=.of (by kernel_rfl)
instance:FO prog 68 2 8 3:=.of (by kernel_rfl)
instance:TI prog 74 true 4:=.of (by kernel_rfl)
instance:TZ prog 74 [.string { data:=#[] },.int .i64 0,.int .i64 0,.int .i64 0]:=.of (by kernel_rfl) rfl
instance:SP prog 74 [.string { data:=#[] },.int .i64 0,.int .i64 0,.int .i64 0] [(0,1),(1,1),(2,1),(3,1)]:=.of (by kernel_rfl) (by kernel_rfl)
instance:FO prog 74 0 0 9:=.of (by kernel_rfl)
instance:FO prog 74 1 1 3:=.of (by kernel_rfl)
instance:FO prog 74 2 2 3:=.of (by kernel_rfl)
instance:FO prog 74 3 3 3:=.of (by kernel_rfl)
instance:TI prog 75 false 1:=.of (by kernel_rfl)
instance:SE prog 75 223:=⟨underlying75⟩
instance:TZ prog 75 [.slice none 0 0]:=.of (by kernel_rfl) rfl
instance:TI prog 76 false 1:=.of (by kernel_rfl)
instance:SE prog 76 154:=⟨underlying76⟩
instance:TZ prog 76 [.slice none 0 0]:=.of (by kernel_rfl) rfl
instance:TI prog 78 true 8:=.of (by kernel_rfl)
instance:TZ prog 78 [.string { data:=#[] },.int .i64 0,.int .i64 0,.int .i64 0,.slice none 0 0,.slice none 0 0,.slice none 0 0,.int .i64 0]:=.of (by kernel_rfl) rfl
instance:SP prog 78 [.string { data:=#[] },.int .i64 0,.int .i64 0,.int .i64 0,.slice none 0 0,.slice none 0 0,.slice none 0 0,.int .i64 0] [(0,4),(4,1),(5,1),(6,1),(7,1)]:=.of (by kernel_rfl) (by kernel_rfl)
instance:FO prog 78 0 0 74:=.of (by kernel_rfl)
instance:FO prog 78 1 4 75:=.of (by kernel_rfl)
instance:FO prog 78 2 5 76:=.of (by kernel_rfl)
instance:FO prog 78 3 6 76:=.of (by kernel_rfl)
instance:FO prog 78 4 7 3:=.of (by kernel_rfl)
instance:TI prog 85 true 7:=.of (by kernel_rfl)
instance:TZ prog 85 [.int .i64 0,.string { data:=#[] },.int .i64 0,.int .i64 0,.slice none 0 0,.int .i64 0,.int .i64 0]:=.of (by kernel_rfl) rfl
instance:SP prog 85 [.int .i64 0,.string { data:=#[] },.int .i64 0,.int .i64 0,.slice none 0 0,.int .i64 0,.int .i64 0] [(0,5),(5,1),(6,1)]:=.of (by kernel_rfl) (by kernel_rfl)
instance:FO prog 85 0 0 66:=.of (by kernel_rfl)
instance:FO prog 85 1 5 3:=.of (by kernel_rfl)
instance:FO prog 85 2 6 3:=.of (by kernel_rfl)
instance:TI prog 87 true 13:=.of (by kernel_rfl)
instance:TZ prog 87 [.int .i64 0,.int .i64 0,.int .i64 0,.int .i64 0,.int .i64 0,.string { data:=#[] },.int .i64 0,.int .i64 0,.slice none 0 0,.int .i64 0,.int .i64 0,.string { data:=#[] },.int .i64 0]:=.of (by kernel_rfl) rfl
instance:SP prog 87 [.int .i64 0,.int .i64 0,.int .i64 0,.int .i64 0,.int .i64 0,.string { data:=#[] },.int .i64 0,.int .i64 0,.slice none 0 0,.int .i64 0,.int .i64 0,.string { data:=#[] },.int .i64 0] [(0,1),(1,3),(4,7),(11,1),(12,1)]:=.of (by kernel_rfl) (by kernel_rfl)
instance:FO prog 87 0 0 3:=.of (by kernel_rfl)
instance:FO prog 87 1 1 42:=.of (by kernel_rfl)
instance:FO prog 87 2 4 85:=.of (by kernel_rfl)
instance:FO prog 87 3 11 9:=.of (by kernel_rfl)
instance:FO prog 87 4 12 3:=.of (by kernel_rfl)
instance:TI prog 88 false 1:=.of (by kernel_rfl)
instance:SE prog 88 355:=⟨underlying88⟩
instance:TZ prog 88 [.slice none 0 0]:=.of (by kernel_rfl) rfl
instance:TI prog 94 true 2:=.of (by kernel_rfl)
instance:TZ prog 94 [.int .i64 0,.slice none 0 0]:=.of (by kernel_rfl) rfl
instance:SP prog 94 [.int .i64 0,.slice none 0 0] [(0,1),(1,1)]:=.of (by kernel_rfl) (by kernel_rfl)
instance:FO prog 94 0 0 3:=.of (by kernel_rfl)
instance:FO prog 94 1 1 22:=.of (by kernel_rfl)
instance:TI prog 96 false 1:=.of (by kernel_rfl)
instance:SE prog 96 22:=⟨underlying96⟩
instance:TZ prog 96 [.slice none 0 0]:=.of (by kernel_rfl) rfl
instance:TI prog 112 false 1:=.of (by kernel_rfl)
instance:SE prog 112 4:=⟨underlying112⟩
instance:TZ prog 112 [.slice none 0 0]:=.of (by kernel_rfl) rfl
instance:TI prog 116 false 1:=.of (by kernel_rfl)
instance:SE prog 116 200:=⟨underlying116⟩
instance:TZ prog 116 [.slice none 0 0]:=.of (by kernel_rfl) rfl
instance:TI prog 117 false 1:=.of (by kernel_rfl)
instance:SE prog 117 197:=⟨underlying117⟩
instance:TZ prog 117 [.slice none 0 0]:=.of (by kernel_rfl) rfl
instance:TI prog 119 true 2:=.of (by kernel_rfl)
instance:TZ prog 119 [.slice none 0 0,.slice none 0 0]:=.of (by kernel_rfl) rfl
instance:SP prog 119 [.slice none 0 0,.slice none 0 0] [(0,1),(1,1)]:=.of (by kernel_rfl) (by kernel_rfl)
instance:FO prog 119 0 0 116:=.of (by kernel_rfl)
instance:FO prog 119 1 1 117:=.of (by kernel_rfl)
instance:TI prog 121 true 16:=.of (by kernel_rfl)
instance:TZ prog 121 [.int .i64 0,.int .i64 0,.int .i64 0,.int .i64 0,.slice none 0 0,.slice none 0 0,.bool false,.int .i64 0,.string { data:=#[] },.int .i64 0,.int .i64 0,.slice none 0 0,.int .i64 0,.int .i64 0,.int .i64 0,.int .i64 0]:=.of (by kernel_rfl) rfl
instance:SP prog 121 [.int .i64 0,.int .i64 0,.int .i64 0,.int .i64 0,.slice none 0 0,.slice none 0 0,.bool false,.int .i64 0,.string { data:=#[] },.int .i64 0,.int .i64 0,.slice none 0 0,.int .i64 0,.int .i64 0,.int .i64 0,.int .i64 0] [(0,3),(3,1),(4,2),(6,1),(7,7),(14,1),(15,1)]:=.of (by kernel_rfl) (by kernel_rfl)
instance:FO prog 121 0 0 42:=.of (by kernel_rfl)
instance:FO prog 121 1 3 3:=.of (by kernel_rfl)
instance:FO prog 121 2 4 119:=.of (by kernel_rfl)
instance:FO prog 121 3 6 4:=.of (by kernel_rfl)
instance:FO prog 121 4 7 85:=.of (by kernel_rfl)
instance:FO prog 121 5 14 3:=.of (by kernel_rfl)
instance:FO prog 121 6 15 3:=.of (by kernel_rfl)
instance:TI prog 123 false 1:=.of (by kernel_rfl)
instance:SE prog 123 5:=⟨underlying123⟩
instance:TZ prog 123 [.slice none 0 0]:=.of (by kernel_rfl) rfl
instance:TI prog 129 false 1:=.of (by kernel_rfl)
instance:SE prog 129 74:=⟨underlying129⟩
instance:TZ prog 129 [.slice none 0 0]:=.of (by kernel_rfl) rfl
instance:TI prog 130 false 1:=.of (by kernel_rfl)
instance:SE prog 130 87:=⟨underlying130⟩
instance:TZ prog 130 [.slice none 0 0]:=.of (by kernel_rfl) rfl
instance:TI prog 138 true 2:=.of (by kernel_rfl)
instance:TZ prog 138 [.slice none 0 0,.int .i64 0]:=.of (by kernel_rfl) rfl
instance:SP prog 138 [.slice none 0 0,.int .i64 0] [(0,1),(1,1)]:=.of (by kernel_rfl) (by kernel_rfl)
instance:FO prog 138 0 0 22:=.of (by kernel_rfl)
instance:FO prog 138 1 1 3:=.of (by kernel_rfl)
instance:TI prog 154 true 7:=.of (by kernel_rfl)
instance:TZ prog 154 [.int .i64 0,.int .i64 0,.int .i64 0,.int .i64 0,.int .i64 0,.int .i64 0,.int .i64 0]:=.of (by kernel_rfl) rfl
instance:SP prog 154 [.int .i64 0,.int .i64 0,.int .i64 0,.int .i64 0,.int .i64 0,.int .i64 0,.int .i64 0] [(0,3),(3,2),(5,1),(6,1)]:=.of (by kernel_rfl) (by kernel_rfl)
instance:FO prog 154 0 0 42:=.of (by kernel_rfl)
instance:FO prog 154 1 3 61:=.of (by kernel_rfl)
instance:FO prog 154 2 5 3:=.of (by kernel_rfl)
instance:FO prog 154 3 6 3:=.of (by kernel_rfl)
instance:TI prog 163 true 4:=.of (by kernel_rfl)
instance:TZ prog 163 [.int .i64 0,.slice none 0 0,.slice none 0 0,.slice none 0 0]:=.of (by kernel_rfl) rfl
instance:SP prog 163 [.int .i64 0,.slice none 0 0,.slice none 0 0,.slice none 0 0] [(0,3),(3,1)]:=.of (by kernel_rfl) (by kernel_rfl)
instance:FO prog 163 0 0 50:=.of (by kernel_rfl)
instance:FO prog 163 1 3 88:=.of (by kernel_rfl)
instance:TI prog 168 false 1:=.of (by kernel_rfl)
instance:SE prog 168 94:=⟨underlying168⟩
instance:TZ prog 168 [.slice none 0 0]:=.of (by kernel_rfl) rfl
instance:TI prog 185 false 1:=.of (by kernel_rfl)
instance:SE prog 185 61:=⟨underlying185⟩
instance:TZ prog 185 [.slice none 0 0]:=.of (by kernel_rfl) rfl
instance:TI prog 197 true 2:=.of (by kernel_rfl)
instance:TZ prog 197 [.int .i64 0,.int .i64 0]:=.of (by kernel_rfl) rfl
instance:SP prog 197 [.int .i64 0,.int .i64 0] [(0,1),(1,1)]:=.of (by kernel_rfl) (by kernel_rfl)
instance:FO prog 197 0 0 3:=.of (by kernel_rfl)
instance:FO prog 197 1 1 3:=.of (by kernel_rfl)
instance:TI prog 200 true 5:=.of (by kernel_rfl)
instance:TZ prog 200 [.string { data:=#[] },.int .i64 0,.int .i64 0,.int .i64 0,.int .i64 0]:=.of (by kernel_rfl) rfl
instance:SP prog 200 [.string { data:=#[] },.int .i64 0,.int .i64 0,.int .i64 0,.int .i64 0] [(0,1),(1,2),(3,2)]:=.of (by kernel_rfl) (by kernel_rfl)
instance:FO prog 200 0 0 9:=.of (by kernel_rfl)
instance:FO prog 200 1 1 61:=.of (by kernel_rfl)
instance:FO prog 200 2 3 61:=.of (by kernel_rfl)
instance:TI prog 208 true 3:=.of (by kernel_rfl)
instance:TZ prog 208 [.slice none 0 0,.int .i64 0,.int .i64 0]:=.of (by kernel_rfl) rfl
instance:SP prog 208 [.slice none 0 0,.int .i64 0,.int .i64 0] [(0,1),(1,1),(2,1)]:=.of (by kernel_rfl) (by kernel_rfl)
instance:FO prog 208 0 0 123:=.of (by kernel_rfl)
instance:FO prog 208 1 1 3:=.of (by kernel_rfl)
instance:FO prog 208 2 2 32:=.of (by kernel_rfl)
instance:TI prog 223 true 5:=.of (by kernel_rfl)
instance:TZ prog 223 [.int .i64 0,.int .i64 0,.int .i64 0,.int .i64 0,.int .i64 0]:=.of (by kernel_rfl) rfl
instance:SP prog 223 [.int .i64 0,.int .i64 0,.int .i64 0,.int .i64 0,.int .i64 0] [(0,3),(3,2)]:=.of (by kernel_rfl) (by kernel_rfl)
instance:FO prog 223 0 0 42:=.of (by kernel_rfl)
instance:FO prog 223 1 3 61:=.of (by kernel_rfl)
instance:TI prog 246 false 1:=.of (by kernel_rfl)
instance:SE prog 246 9:=⟨underlying246⟩
instance:TZ prog 246 [.slice none 0 0]:=.of (by kernel_rfl) rfl
instance:TI prog 318 false 1:=.of (by kernel_rfl)
instance:SE prog 318 76:=⟨underlying318⟩
instance:TZ prog 318 [.slice none 0 0]:=.of (by kernel_rfl) rfl
instance:TI prog 348 false 1:=.of (by kernel_rfl)
instance:SE prog 348 1:=⟨underlying348⟩
instance:TZ prog 348 [.slice none 0 0]:=.of (by kernel_rfl) rfl
instance:TI prog 355 true 7:=.of (by kernel_rfl)
instance:TZ prog 355 [.int .i64 0,.int .i64 0,.int .i64 0,.int .i64 0,.string { data:=#[] },.int .i64 0,.int .i64 0]:=.of (by kernel_rfl) rfl
instance:SP prog 355 [.int .i64 0,.int .i64 0,.int .i64 0,.int .i64 0,.string { data:=#[] },.int .i64 0,.int .i64 0] [(0,1),(1,3),(4,1),(5,2)]:=.of (by kernel_rfl) (by kernel_rfl)
instance:FO prog 355 0 0 3:=.of (by kernel_rfl)
instance:FO prog 355 1 1 42:=.of (by kernel_rfl)
instance:FO prog 355 2 4 9:=.of (by kernel_rfl)
instance:FO prog 355 3 5 61:=.of (by kernel_rfl)
section
variable {α:Type} {E:El α} {e:TypeId} {S:Nat->Prop}
section
variable {n:Nat} {pos:0<n} {f:α->List Value} {len:∀x,(f x).length=n} {one:∀x,∀u∈f x,u.oneCell'=true}
theorem OwnRows.nw {w:World} {base:Nat} {v:Value} {l:List α} (h:OwnRows (El.plain n pos f len one) e w base v l):∃A cap,v = .slice A l.length cap/\RowsAt (El.plain n pos f len one) w (P4 base w) A l/\l.length<=cap/\cap<=maxLen:=by
 obtain ⟨A,cap,rfl,h1,h2⟩:=h.newP;obtain ⟨_,_,e,_,_,h3⟩:=h.form;injection e with _ _ e;subst e;exact ⟨A,cap,rfl,h1,h2,h3⟩
end
end
section
variable {P:Program} {s:Mst} {o:Oper}
theorem V0.ren_id_rep {w:World} {F:Nat->Prop} {ρ:Nat->Value} {d:V0} {v:Value}:(V0.ren (fun k=>k) d).rep w F ρ v↔d.rep w F ρ v:=V0.rep_ren fun _ _=>rfl
theorem FSpec.calls {f:FuncId} {args:List V0} {res:TV} (hs:FSpec P f args [] [] res []) (hok:Ca args [] [] res []=true) {w:World} {S:Nat->Prop} {ρ:Nat->Value} {vs:List Value} (hS:∀b,S b->b<w.heap.size) (hp:PinW w fun _=>False) (ha:All2 (V0.rep w S ρ) args vs) :
  Calls P f vs.toArray w fun e w'=>∃v,e = .returned v/\Below w.heap.size w w'/\res.rep w' (Gr S w.heap.size w') ρ v:=by
 simp only [Ca,qBa] at hok;obtain ⟨⟨⟨⟨⟨⟨o1,_⟩,_⟩,_⟩,_⟩,o6⟩,_⟩:=hok;have hnor:∀k,res.has k=true->False:=fun k hk=>by have:=TV.in_has o6 hk;simp [aq,aI] at this
 let c:Ctx:={ w0:=w,S:=S,X:=fun _=>False,nt:=1,K:=[],ρ0:=ρ,hS:=hS,hX:=fun _ h=>h.elim,hpin:=hp }
 let st:Mst:={ t:=fun _=>.c .any,h:=fun _=>none,f:=fun _=>false }
 have hF:∀b,S b↔Fz c st.h ρ w b:=fun b=>⟨fun h=>⟨.inl h,hS b h,fun k bx hk=>by cases hk⟩,fun ⟨h,h2,_⟩=>h.elim id fun h3=>absurd h2 (Nat.not_lt.2 h3)⟩;have hr:Rp c st ρ { tmps:=#[undef],defers:=[] } w :=
  ⟨rfl,rfl,Frx.refl _ _,fun _=>trivial,fun k b hk=>(by cases hk),fun k b g hk=>(by cases hk),fun k k' b b' g hk=>(by cases hk),fun k hk=>(by cases hk),⟨fun k hk=>(by cases hk),fun k t hk=>(by cases hk),fun k k' b hk=>(by cases hk)⟩⟩
 refine (hs.ca (fun k=>k) c st ρ { tmps:=#[undef],defers:=[] } w vs hr (fun k k' hk=>by simp [aq,aI] at hk) (ha.imp fun d v _ h=>V0.ren_id_rep.2 (h.mono (fun b hb=>⟨(hF b).1 hb,rfl⟩) fun _ _=>rfl)) (fun k b hk=>by cases hk) fun k hk=>by simp [aI] at hk).mono ?_;rintro e w' ⟨v,rfl,h⟩;obtain ⟨ρ',h2⟩:=h (some 0) fun d hd=>by injection hd with hd;subst hd;exact Nat.one_pos
 have h3:=h2.frm;refine ⟨v,rfl,⟨h3.os,h3.tape,h3.output,h3.size,fun b hb=>h3.keep b hb fun h=>h⟩,?_⟩;have h4:=h2.tmp 0;have h5:((st.app (some 0) ⟨res.ren fun k=>k,fC (fun k=>k) [],[].map fun k=>k⟩).t 0)=res.ren fun k=>k:=rfl;rw [h5] at h4;have h6:(({ tmps:=#[undef],defers:=[] }:Act).put (some 0) v).tmps.getD 0 undef=v:=rfl;rw [h6] at h4;refine ((TV.rep_ren (ρ':=ρ) fun k hk=>(hnor k hk).elim).1 h4).mono (fun b hb=>⟨⟨hb.2.1,hb.1.imp (fun h=>h) fun h=>h⟩,rfl⟩) fun k hk=>(hnor k hk).elim
inductive DR (h:Nat->Option Box) (R:List Nat):D->D->Prop
 | same (d:D):DR h R d d
 | own {k:Nat} {α:Type} {e:TypeId} {E:El α} {l:List α} (hR:aI R k=true) (hk:h k=some (.arr e E l)):DR h R (.own k) (.sl E l)
 | ocut {k:Nat} {α:Type} {e:TypeId} {E:El α} {l:List α} (hR:aI R k=true) (hk:h k=some (.arr e E l)):DR h R (.ocut k) (.sl E l)
 | full {α:Type} {E:El α} {l:List α}:DR h R (.full E l) (.sl E l)
 | nil {α:Type} {E:El α}:DR h R (.sc (.slice none 0 0)) (.sl E [])
inductive VR (h:Nat->Option Box) (R:List Nat):V0->V0->Prop
 | same (d:V0):VR h R d d
 | one {d0 d:D} (x:DR h R d0 d):VR h R (.one d0) (.one d)
 | ag {l0 l:List D} (x:All2 (DR h R) l0 l):VR h R (.ag l0) (.ag l)
def AR (s:Mst) (R:List Nat) (x:TV) (d:V0):Prop:=∃y,x = .v y/\VR s.h R y d
theorem DR.rep {h:Nat->Option Box} {R:List Nat} {d0 d:D} (hd:DR h R d0 d) {c:Ctx} {st:Mst} {ρ:Nat->Value} {a:Act} {w:World} {F:Nat->Prop} {v:Value} (hr:Rp c st ρ a w) (hh:∀k,aI R k=true->st.h k=h k) (hF:∀b,Fz c st.h ρ w b->F b)
  (hO:∀k bx g,aI R k=true->st.h k=some bx->kb (ρ k)=some g->F g) (hv:d0.rep w (Fz c st.h ρ w) ρ v):d.rep w F ρ v:=by
 cases hd with
 | same=>exact hv.mono (fun b hb=>⟨hF b hb,rfl⟩) fun _ _=>rfl
 | @own k α e E l hR hk =>
  have hv:v=ρ k:=hv;subst hv;have hk':=(hh k hR).trans hk;obtain ⟨A,cap,hA,hc,hp⟩:=dP (hr.hp k _ hk');refine ⟨A,cap,hA,hc,?_⟩;rcases Nat.eq_zero_or_pos l.length with h0|h0
  ·obtain rfl:l=[]:=List.eq_nil_of_length_eq_zero h0;exact RowsAt.nil _ _ _ _
  ·obtain ⟨g,xs,rfl,_,h3,h4,_⟩:=hp h0;exact RG
 | @ocut k α e E l hR hk =>
  obtain ⟨A0,n0,cap0,c0,hρ0,hc0,rfl⟩:=hv;have hk':=(hh k hR).trans hk;obtain ⟨A,cap,hA,hc,hp⟩:=dP (hr.hp k _ hk');have hA':=hA;rw [hρ0] at hA';injection hA' with e1 e2 e3;subst e1;subst e2;subst e3;refine ⟨A0,c0,rfl,⟨hc0.1,Nat.le_trans hc0.2 hc.2⟩,?_⟩;rcases Nat.eq_zero_or_pos l.length with h0|h0
  ·obtain rfl:l=[]:=List.eq_nil_of_length_eq_zero h0;exact RowsAt.nil _ _ _ _
  ·obtain ⟨g,xs,rfl,_,h3,h4,_⟩:=hp h0;exact RG
 | full=>obtain ⟨A,h1,h2,h3⟩:=hv;exact ⟨A,_,h1,⟨Nat.le_refl _,h2⟩,h3.mono hF⟩
 | nil=>exact ⟨none,0,hv,by simp [maxLen],RowsAt.nil _ _ _ _⟩
theorem DR.reps {h:Nat->Option Box} {R:List Nat} {c:Ctx} {st:Mst} {ρ:Nat->Value} {a:Act} {w:World} {F:Nat->Prop} (hr:Rp c st ρ a w) (hh:∀k,aI R k=true->st.h k=h k) (hF:∀b,Fz c st.h ρ w b->F b)
  (hO:∀k bx g,aI R k=true->st.h k=some bx->kb (ρ k)=some g->F g):∀{l0 l:List D} {cs:List Value},All2 (DR h R) l0 l->All2 (D.rep w (Fz c st.h ρ w) ρ) l0 cs->All2 (D.rep w F ρ) l cs
 | [],[],[],_,_=>trivial
 | _ :: _,_ :: _,_ :: _,x,k=>⟨x.1.rep hr hh hF hO k.1,DR.reps hr hh hF hO x.2 k.2⟩
 | [],_ :: _,_,x,_=>x.elim
 | _ :: _,[],_,x,_=>x.elim
 | [],[],_ :: _,_,k=>k.elim
 | _ :: _,_ :: _,[],_,k=>k.elim
theorem VR.rep {h:Nat->Option Box} {R:List Nat} {d0 d:V0} (hd:VR h R d0 d) {c:Ctx} {st:Mst} {ρ:Nat->Value} {a:Act} {w:World} {F:Nat->Prop} {v:Value} (hr:Rp c st ρ a w) (hh:∀k,aI R k=true->st.h k=h k) (hF:∀b,Fz c st.h ρ w b->F b)
  (hO:∀k bx g,aI R k=true->st.h k=some bx->kb (ρ k)=some g->F g) (hv:d0.rep w (Fz c st.h ρ w) ρ v):d.rep w F ρ v:=by
 cases hd with
 | same=>exact hv.mono (fun b hb=>⟨hF b hb,rfl⟩) fun _ _=>rfl
 | one x=>exact x.rep hr hh hF hO hv
 | ag x=>obtain ⟨cs,e,h1⟩:=hv;exact ⟨cs,e,DR.reps hr hh hF hO x h1⟩
theorem ve {R:List Nat} {c:Ctx} {st:Mst} {ρ:Nat->Value} {a:Act} {w:World} {F:Nat->Prop} (hr:Rp c st ρ a w) (hh:∀k,aI R k=true->st.h k=s.h k) (hF:∀b,Fz c st.h ρ w b->F b)
  (hO:∀k bx g,aI R k=true->st.h k=some bx->kb (ρ k)=some g->F g):∀{l:List Operand} {m:List V0},(∀x∈l,st.ev x=s.ev x)->All2 (fun x d=>AR s R (s.ev x) d) l m->All2 (V0.rep w F ρ) m (l.map a.eval)
 | [],[],_,_=>trivial
 | x :: l,d :: m,he,h=>by
  refine ⟨?_,ve hr hh hF hO (fun y hy=>he y (by simp [hy])) h.2⟩;obtain ⟨y,h1,h2⟩:=h.1;have h3:=hr.ev x;rw [he x (by simp),h1] at h3;exact h2.rep hr hh hF hO h3
 | [],_ :: _,_,h=>h.elim
 | _ :: _,[],_,h=>h.elim
def D.isSc:D->Bool
 | .sc _=>true
 | _=>false
def V0.isSc:V0->Bool
 | .one d=>d.isSc
 | .ag l=>l.all D.isSc
def TV.isSc:TV->Bool
 | .v x=>x.isSc
 | .tup l=>l.all V0.isSc
theorem D.sc_any {w w':World} {F F':Nat->Prop} {ρ ρ':Nat->Value} {d:D} (h:d.isSc=true) {v:Value} (hv:d.rep w F ρ v):d.rep w' F' ρ' v:=by
 cases d <;> first|exact hv|cases h
theorem D.scs_any {w w':World} {F F':Nat->Prop} {ρ ρ':Nat->Value}:∀{l:List D} {vs:List Value},l.all D.isSc=true->All2 (D.rep w F ρ) l vs->All2 (D.rep w' F' ρ') l vs
 | [],[],_,_=>trivial
 | d :: l,v :: vs,h,k=>by
  simp only [List.all_cons,qBa] at h;exact ⟨D.sc_any h.1 k.1,D.scs_any h.2 k.2⟩
 | [],_ :: _,_,k=>k.elim
 | _ :: _,[],_,k=>k.elim
theorem V0.sc_any {w w':World} {F F':Nat->Prop} {ρ ρ':Nat->Value} {d:V0} (h:d.isSc=true) {v:Value} (hv:d.rep w F ρ v):d.rep w' F' ρ' v:=by
 cases d with
 | one d=>exact D.sc_any (d:=d) h hv
 | ag l=>obtain ⟨cs,e,h1⟩:=hv;exact ⟨cs,e,D.scs_any h h1⟩
theorem TV.sc_any {w w':World} {F F':Nat->Prop} {ρ ρ':Nat->Value} {d:TV} (h:d.isSc=true) {v:Value} (hv:d.rep w F ρ v):d.rep w' F' ρ' v:=by
 cases d with
 | v d=>exact V0.sc_any (d:=d) h hv
 | tup l =>
  obtain ⟨vs,e,h1⟩:=hv;refine ⟨vs,e,?_⟩;clear e;induction l generalizing vs with
  | nil=>cases vs with
   | nil=>trivial
   | cons=>exact h1.elim
  | cons x l ih=>cases vs with
   | nil=>exact h1.elim
   | cons v vs =>
    simp only [TV.isSc,List.all_cons,qBa] at h;exact ⟨V0.sc_any h.1 h1.1,ih h.2 vs h1.2⟩
theorem TV.sc_has {d:TV} (h:d.isSc=true) (k:Nat):d.has k=false:=by
 have h1:∀d:D,d.isSc=true->d.has k=false:=fun d h=>by cases d <;> first|rfl|cases h
 have h2:∀x:V0,x.isSc=true->x.has k=false:=fun x h=>by
  cases x with
  | one d=>exact h1 d h
  | ag l=>simp only [V0.has,List.any_eq_false];intro d hd;simp [h1 d (List.all_eq_true.1 h d hd)]
 cases d with
 | v x=>exact h2 x h
 | tup l=>simp only [TV.has,List.any_eq_false];intro d hd;simp [h2 d (List.all_eq_true.1 h d hd)]
theorem AC {f:FuncId} {xs:Array Operand} {ts:Array TypeId} {a:Act} {w:World} {K:Act->World->Prop} {Q:Ending->World->Prop} (hen:∀(vs:Array Value) (w:World),(callFunc f vs).run P w = .ok (.enter f vs) w) (ho:o.op = .call { callee:=.value (.func f),args:=xs,argTypes:=ts })
  (hc:Calls P f (xs.toList.map a.eval).toArray w Q) (hK:∀e w',Q e w'->∃v,e = .returned v/\K (a.put o.dst v) w'):o.wp P a w K fun _ _ _=>False:=by
 have he:(xs.toList.map a.eval).toArray=xs.map a.eval:=by apply Array.toList_inj.1;simp
 rw [he] at hc;unfold Oper.wp execOp;simp only [ho,resolve,Act.eval,Deferred.ofValue,invoke,Sem.run_bind,Sem.run_pure,Result.andThen_ok,Array.append_empty,Array.empty_append];rw [hen];refine hc.mono fun e w' h=>?_;obtain ⟨v,rfl,h2⟩:=hK e w' h;exact h2
theorem FR {f:FuncId} {xs:Array Operand} {ts:Array TypeId} {args:List V0} {res:TV} (R:List Nat) (hs:FSpec P f args [] [] res []) (ho:o.op = .call { callee:=.value (.func f),args:=xs,argTypes:=ts }) (hok:Ca args [] [] res []=true) (hb:res.isSc=true)
  (ha:All2 (fun x d=>AR s R (s.ev x) d) xs.toList args):LOp P o s R ⟨res,[],[]⟩:=by
 intro c st ρ a w hr h1 h2 h3 h4;have hargs:=ve (F:=fun b=>b<w.heap.size) hr (fun k hk=>h2 k hk) (fun b hb=>hb.2.1) (fun k bx g _ hk hg=>hr.ltb hk hg) (fun x hx=>h1 x (by simp [ho,Op.operands,Call.operands];exact .inr (by simpa using hx))) ha;refine AC hs.en ho (hs.calls hok (fun b hb=>hb) hr.pin hargs) ?_;rintro e w' ⟨v,rfl,hB,hv⟩;exact ⟨v,rfl,ρ,hr.app (e:=⟨res,[],[]⟩) h4 (fun k hk=>by simp [aI] at hk) (fun _ _=>rfl) (fun k hk=>by simp [aF] at hk) (Frx.below hB) (fun k bx g hk=>by simp [aF] at hk) (fun k k' b b' g hk=>by simp [aF] at hk) (fun k hk=>by rw [TV.sc_has hb k] at hk;cases hk) (fun k k' bx hk=>by simp [aF] at hk) (fun k bx hk=>by simp [aF] at hk) (TV.sc_any hb hv)⟩
def og (ks:List Nat):List (Nat×Option Box):=ks.map fun k=>(k,none)
theorem fc {ks:List Nat} {k:Nat}:aF (og ks) k=aI ks k:=by
 induction ks with
 | nil=>rfl
 | cons x l ih=>simp only [og,List.map_cons,aF,aI];rw [<-ih];rfl
theorem gw {ks:List Nat} {h:Nat->Option Box} {k:Nat} (hk:aI ks k=true):hput (og ks) h k=none:=by
 induction ks with
 | nil=>simp [aI] at hk
 | cons x l ih =>
  simp only [og,List.map_cons,hput];cases hx:x.beq k with
  | true=>rfl
  | false =>
   simp only [aI,hx,Bool.false_or] at hk;exact ih hk
theorem FS {f:FuncId} {xs:Array Operand} {ts:Array TypeId} {args:List V0} {res:TV} (ks:List Nat) (hs:FSpec P f args [] [] res []) (ho:o.op = .call { callee:=.value (.func f),args:=xs,argTypes:=ts }) (hok:Ca args [] [] res []=true)
  (hks:ks.all (fun k=>(s.h k).isSome)=true) (ha:All2 (fun x d=>AR s ks (s.ev x) d) xs.toList args):LOp P o s ks ⟨res,og ks,[]⟩:=by
 intro c st ρ a w hr h1 h2 h3 h4;have hsome:∀k,aI ks k=true->∃b,st.h k=some b:=fun k hk=>by
  have:=j9 hks k hk;rw [<-h2 k hk] at this;exact Option.isSome_iff_exists.1 this
 have hF:∀b,Fz c st.h ρ w b->Fz c (hput (og ks) st.h) ρ w b:=fun b ⟨f1,f2,f3⟩=>⟨f1,f2,fun k bx hk=>by
  cases hh:aF (og ks) k with
  | true=>rw [gw (by rw [<-fc];exact hh)] at hk;cases hk
  | false=>rw [cc hh] at hk;exact f3 k bx hk⟩
 have hO:∀k bx g,aI ks k=true->st.h k=some bx->kb (ρ k)=some g->Fz c (hput (og ks) st.h) ρ w g:=fun k bx g hk hb hg=>by
  refine ⟨(hr.inb k bx g hb hg).imp (c.hX g) id,hr.ltb hb hg,fun k' bx' hk' he=>?_⟩;cases hh:aF (og ks) k' with
  | true=>rw [gw (by rw [<-fc];exact hh)] at hk';cases hk'
  | false =>
   rw [cc hh] at hk';have:=hr.dis k k' bx bx' g hb hk' hg he;subst this;rw [fc,hk] at hh;cases hh
 have hargs:=ve hr (fun k hk=>h2 k hk) hF hO (fun x hx=>h1 x (by simp [ho,Op.operands,Call.operands];exact .inr (by simpa using hx))) ha;have hok':=hok;simp only [Ca,qBa] at hok;obtain ⟨⟨⟨⟨⟨⟨_,_⟩,_⟩,_⟩,_⟩,o6⟩,_⟩:=hok;have hnor:∀k,res.has k=true->False:=fun k hk=>by have:=TV.in_has o6 hk;simp [aq,aI] at this
 refine AC hs.en ho (hs.calls hok' (fun b hb=>hb.2.1) hr.pin hargs) ?_;rintro e w' ⟨v,rfl,hB,hv⟩;refine ⟨v,rfl,ρ,hr.app (e:=⟨res,og ks,[]⟩) h4 (fun k hk=>by simp [aI] at hk) (fun _ _=>rfl) (fun k hk=>.inr ?_) (Frx.below hB) (fun k bx g hk hb=>?_) (fun k k' b b' g hk _ hb=>?_) (fun k hk=>(hnor k hk).elim) (fun k k' bx hk hb=>?_) (fun k bx hk hb=>?_) ?_⟩
 ·obtain ⟨b,hb⟩:=hsome k (by rw [<-fc];exact hk);exact hr.nfh hb
 ·exact RR
 ·exact RR
 ·exact RR
 ·exact RR
 ·refine hv.mono (fun b hb=>⟨⟨?_,hb.1,fun k bx hk he=>?_⟩,rfl⟩) fun _ _=>rfl
  ·rcases hb.2 with h|h
   ·exact h.1
   ·exact .inr (Nat.le_trans hr.frm.size h)
  ·rcases hb.2 with h|h
   ·exact h.2.2 k bx hk he
   ·cases hh:aF (og ks) k with
    | true=>rw [gw (by rw [<-fc];exact hh)] at hk;cases hk
    | false =>
     rw [cc hh] at hk;have:=hr.ltb hk he;omega
end
section
variable {P:Program} {nt:Nat} {Ks:List Nat} {Q:Exit->Mst->Prop} {s:Mst}
theorem bK {x:Code} {α:Type} (t k:Nat) (e:TypeId) (E:El α) (ht:s.t t = .c (.sc (.slice none 0 0))) (hf:s.f k=true) (hnt:Nat.blt t nt=true) (h:AW P nt Ks x Q (s.app (some t) ⟨.c (.own k),[(k,some (.arr e E []))],[k]⟩)):AW P nt Ks x Q s:=by
 intro c ρ a w hc hK hr;have hkk:∀k':Nat,aF [(k,some (Box.arr e E ([]:List α)))] k'=true->k'=k:=fun k' h=>by
  exact Q0
 have hv:a.tmps.getD t undef = .slice none 0 0:=by have:=hr.tmp t;rw [ht] at this;exact this
 have hput:a.put (some t) (.slice none 0 0)=a:=by
  cases a with
  | mk tmps defers =>
   simp only [Act.put];congr 1
   apply Array.ext
   ·simp
   ·intro i h1 h2;rw [Array.getElem_setIfInBounds];split
    ·rename_i h3
     subst h3;rw [<-hv];simp [Array.getD_eq_getD_getElem?,h2]
    ·rfl
 have h2:=hr.app (ρ':=upd ρ k (.slice none 0 0)) (w':=w) (dst:=some t) (v:=.slice none 0 0) (e:=⟨.c (.own k),[(k,some (.arr e E []))],[k]⟩) (fun d hd=>by injection hd with hd;subst hd;rw [hc];simpa using hnt)
  (fun k' hk=>by have h9:k'=k:=(by simp [aI] at hk;exact hk.symm);subst h9;exact ⟨hf,by simp [aF]⟩)
  (fun k' hk=>dQ (by simpa [aI] using hk)) (fun k' hk=>.inl (by rw [hkk k' hk];simp [aI])) (Frx.refl _ _)
  (fun k' bx g hk _ hg=>by rw [hkk k' hk,aN] at hg;cases hg) (fun k1 k2 b b' g h1 h2 _ _ _ _=>by rw [hkk k1 h1,hkk k2 h2]) (fun k' hk=>.inl (by simp [TV.has,V0.has,D.has] at hk;simp [aI,hk])) (fun k1 k2 bx hk hb hx=>by
   rw [hkk k2 hk] at hb;simp only [Go.Proofs.YtkkbopkbjacfmaaGreatDoor.hput,Nat.beq_refl,qCt,Option.some.injEq] at hb;subst hb;simp [Box.has] at hx)
  (fun k' bx hk hb=>by
   rw [hkk k' hk] at hb ⊢;simp only [Go.Proofs.YtkkbopkbjacfmaaGreatDoor.hput,Nat.beq_refl,qCt,Option.some.injEq] at hb;subst hb;rw [aN];exact ⟨[],World.ownsRow_nil _ _ _ _,rfl⟩)
  (aN _ _ _).symm
 rw [hput] at h2;exact h c _ a w hc hK h2
def D.frz (d:D) (k:Nat) (r:D):D:=match d with
 | .own j=>bif j.beq k then r else .own j
 | .slb j n=>bif j.beq k then .any else .slb j n
 | .ptr j n=>bif j.beq k then .any else .ptr j n
 | .optr j m i n=>bif j.beq k then .any else .optr j m i n
 | .ocut j=>bif j.beq k then r else .ocut j
 | .osl j m a b f=>bif j.beq k then .any else .osl j m a b f
 | .clo f ks=>bif ks.any (fun j=>j.beq k) then .any else .clo f ks
 | d=>d
def V0.frz (x:V0) (k:Nat) (r:D):V0:=match x with
 | .one d=>.one (d.frz k r)
 | .ag l=>.ag (l.map (fun d=>D.frz d k r))
def TV.frz (x:TV) (k:Nat) (r:D):TV:=match x with
 | .v x=>.v (x.frz k r)
 | .tup l=>.tup (l.map (fun d=>V0.frz d k r))
def Box.frz (x:Box) (k:Nat) (r:D):Box:=match x with
 | .box t cs=>.box t (cs.map (fun d=>D.frz d k r))
 | b=>b
def Mst.frz (s:Mst) (k:Nat) (r:D):Mst:={ t:=fun t=>(s.t t).frz k r,h:=fun j=>bif j.beq k then none else (s.h j).map (fun d=>Box.frz d k r),f:=s.f }
theorem D.frz_has {k j:Nat} {α:Type} {E:El α} {l:List α} {d:D} (h:(d.frz k (.sl E l)).has j=true):d.has j=true:=by
 cases d with
 | own i=>have h0:=h;simp only [D.frz] at h0;clear h;revert h0;cases hb:i.beq k <;> intro h0 <;> first|exact h0|cases h0
 | slb i n=>have h0:=h;simp only [D.frz] at h0;clear h;revert h0;cases hb:i.beq k <;> intro h0 <;> first|exact h0|cases h0
 | ptr i n=>have h0:=h;simp only [D.frz] at h0;clear h;revert h0;cases hb:i.beq k <;> intro h0 <;> first|exact h0|cases h0
 | optr i m p n=>have h0:=h;simp only [D.frz] at h0;clear h;revert h0;cases hb:i.beq k <;> intro h0 <;> first|exact h0|cases h0
 | ocut i=>have h0:=h;simp only [D.frz] at h0;clear h;revert h0;cases hb:i.beq k <;> intro h0 <;> first|exact h0|cases h0
 | osl i m a b f=>have h0:=h;simp only [D.frz] at h0;clear h;revert h0;cases hb:i.beq k <;> intro h0 <;> first|exact h0|cases h0
 | clo f ks=>have h0:=h;simp only [D.frz] at h0;clear h;revert h0;cases hb:ks.any (fun j=>j.beq k) <;> intro h0 <;> first|exact h0|cases h0
 | _=>exact h
theorem D.frzL_has {k j:Nat} {α:Type} {E:El α} {l:List α} {ds:List D} (h:(ds.map (fun d=>D.frz d k (.sl E l))).any (D.has j)=true):ds.any (D.has j)=true:=by
 obtain ⟨d,h1,h2⟩:=List.any_eq_true.1 h;obtain ⟨d0,h3,rfl⟩:=List.mem_map.1 h1;exact List.any_eq_true.2 ⟨d0,h3,D.frz_has h2⟩
theorem V0.frz_has {k j:Nat} {α:Type} {E:El α} {l:List α} {d:V0} (h:(d.frz k (.sl E l)).has j=true):d.has j=true:=by
 cases d with
 | one d=>exact D.frz_has (d:=d) h
 | ag ds=>exact D.frzL_has (ds:=ds) h
theorem TV.frz_has {k j:Nat} {α:Type} {E:El α} {l:List α} {d:TV} (h:(d.frz k (.sl E l)).has j=true):d.has j=true:=by
 cases d with
 | v d=>exact V0.frz_has (d:=d) h
 | tup ds =>
  obtain ⟨d,h1,h2⟩:=List.any_eq_true.1 h;obtain ⟨d0,h3,rfl⟩:=List.mem_map.1 h1;exact List.any_eq_true.2 ⟨d0,h3,V0.frz_has h2⟩
theorem Box.frz_has {k j:Nat} {α:Type} {E:El α} {l:List α} {d:Box} (h:(d.frz k (.sl E l)).has j=true):d.has j=true:=by
 cases d with
 | box t ds=>exact D.frzL_has (ds:=ds) h
 | _=>exact h
theorem kx {x:Code} {α:Type} {e:TypeId} {E:El α} {l:List α} (k:Nat) (hk:s.h k=some (.arr e E l)) (h:AW P nt Ks x Q (s.frz k (.sl E l))):AW P nt Ks x Q s:=by
 intro c ρ a w hc hK hr;refine h c ρ a w hc hK ?_;have hh:∀j b,(s.frz k (.sl E l)).h j=some b->j.beq k=false/\∃b0,s.h j=some b0/\b=b0.frz k (.sl E l):=fun j b hb=>by
  simp only [Mst.frz] at hb;cases hj:j.beq k with
  | true=>rw [hj] at hb;cases hb
  | false =>
   rw [hj] at hb;cases hs:s.h j with
   | none=>simp only [qCf,hs,Option.map_none] at hb;cases hb
   | some b0=>simp only [qCf,hs,Option.map_some,Option.some.injEq] at hb;exact ⟨rfl,b0,rfl,hb.symm⟩
 have hF:∀b,Fz c s.h ρ w b->Fz c (s.frz k (.sl E l)).h ρ w b:=fun b ⟨f1,f2,f3⟩=>⟨f1,f2,fun j bx hj=>by obtain ⟨_,b0,h1,_⟩:=hh j bx hj;exact f3 j b0 h1⟩;have hsl:∀{v:Value},(D.ocut k).rep w (Fz c s.h ρ w) ρ v->(D.sl E l).rep w (Fz c (s.frz k (.sl E l)).h ρ w) ρ v:=fun hv=>CB (h:=s.h) hr hk hv hF fun g hg=>⟨(hr.inb k _ g hk hg).imp (c.hX g) id,hr.ltb hk hg,fun j bx hj he=>by
  obtain ⟨h0,b0,h1,_⟩:=hh j bx hj;have:=hr.dis k j _ b0 g hk h1 hg he;subst this;rw [Nat.beq_refl] at h0;cases h0⟩
 have hD:∀{d:D} {v:Value},d.rep w (Fz c s.h ρ w) ρ v->(d.frz k (.sl E l)).rep w (Fz c (s.frz k (.sl E l)).h ρ w) ρ v:=fun {d v} hd=>by
  have hm:d.rep w (Fz c (s.frz k (.sl E l)).h ρ w) ρ v:=hd.mono (fun b hb=>⟨hF b hb,rfl⟩) fun _ _=>rfl;cases d with
  | own j =>
   simp only [D.frz];cases hj:j.beq k with
   | false=>exact hm
   | true =>
    have hm:v=ρ j:=hm;rw [hm,qNb hj];exact hsl (oY hr hk rfl)
  | slb j n=>simp only [D.frz];cases hj:j.beq k with
   | false=>exact hm
   | true=>trivial
  | ptr j n=>simp only [D.frz];cases hj:j.beq k with
   | false=>exact hm
   | true=>trivial
  | optr j m i n=>simp only [D.frz];cases hj:j.beq k with
   | false=>exact hm
   | true=>trivial
  | osl j m i n f=>simp only [D.frz];cases hj:j.beq k with
   | false=>exact hm
   | true=>trivial
  | clo f ks=>simp only [D.frz];cases hj:ks.any (fun j=>j.beq k) with
   | false=>exact hm
   | true=>trivial
  | ocut j =>
   simp only [D.frz];cases hj:j.beq k with
   | false=>exact hm
   | true =>
    rw [qNb hj] at hd;exact hsl hd
  | _=>exact hm
 have hL:∀{ds:List D} {vs:List Value},All2 (D.rep w (Fz c s.h ρ w) ρ) ds vs->All2 (D.rep w (Fz c (s.frz k (.sl E l)).h ρ w) ρ) (ds.map (fun d=>D.frz d k (.sl E l))) vs:=fun {ds vs} h=>All2.mapL.2 (h.imp fun d v _ hd=>hD hd);have hV:∀{d:V0} {v:Value},d.rep w (Fz c s.h ρ w) ρ v->(d.frz k (.sl E l)).rep w (Fz c (s.frz k (.sl E l)).h ρ w) ρ v:=fun {d v} hd=>by
  cases d with
  | one d=>exact hD (d:=d) hd
  | ag ds=>obtain ⟨cs,e,h1⟩:=hd;exact ⟨cs,e,hL h1⟩
 refine ⟨hr.dfr,hr.siz,hr.frm,fun t=>?_,fun j b hj=>?_,fun j b g hj hg=>?_,fun j j' b b' g hj hj' hg hg'=>?_,hr.ent,⟨fun j hj=>?_,fun j t hj=>?_,fun j j' b hj hb=>?_⟩⟩
 ·have h1:=hr.tmp t;show TV.rep _ _ _ ((s.t t).frz k (.sl E l)) _;generalize s.t t=d at *
  cases d with
  | v d=>exact hV (d:=d) h1
  | tup ds=>obtain ⟨vs,e,h2⟩:=h1;exact ⟨vs,e,All2.mapL.2 (h2.imp fun d v _ hd=>hV hd)⟩
 ·obtain ⟨_,b0,h1,rfl⟩:=hh j b hj;have h2:=hr.hp j b0 h1;cases b0 with
  | box t cs=>obtain ⟨g,vs,e,hB,hA,h5⟩:=h2;exact ⟨g,vs,e,hB,hL hA,h5⟩
  | arr e' E' l'=>obtain ⟨xs,h3,h4⟩:=h2;exact ⟨xs,h3,h4.same (fun _ _=>rfl) hF⟩
  | mp l'=>exact h2
  | it k' n' l'=>exact h2
 ·obtain ⟨_,b0,h1,_⟩:=hh j b hj;exact hr.inb j b0 g h1 hg
 ·obtain ⟨_,b0,h1,_⟩:=hh j b hj;obtain ⟨_,b0',h1',_⟩:=hh j' b' hj';exact hr.dis j j' b0 b0' g h1 h1' hg hg'
 ·have hj:s.f j=true:=hj;simp only [Mst.frz,hr.wf.h j hj,Option.map_none,Bool.cond_self]
 ·have hj:s.f j=true:=hj;cases h9:((s.frz k (.sl E l)).t t).has j with
  | false=>rfl
  | true=>have:=TV.frz_has (d:=s.t t) h9;rw [hr.wf.t j t hj] at this;cases this
 ·have hj:s.f j=true:=hj;obtain ⟨_,b0,h1,rfl⟩:=hh j' b hb;cases h9:(b0.frz k (.sl E l)).has j with
  | false=>rfl
  | true=>have:=Box.frz_has h9;rw [hr.wf.b j j' b0 hj h1] at this;cases this
end
section
variable {P:Program} {o:Oper} {s:Mst} {α:Type} {E:El α}
theorem IZ {t e:TypeId} {by_ k kr:Nat} {x y:Operand} {l m l':List α} {R:List Nat} [T:ST P E t e by_] (ho:o.op = .call { callee:=.builtin .append,args:=#[x,y],argTypes:=#[t,t] }) (hdk:o.dst=some k) (hx:s.ev x = .c (.ocut kr)) (hkr:s.h kr=some (.arr e E l)) (hy:Ml s E y m R) (hl':l++m=l') (hm:0<m.length)
  (hlen:l.length+m.length<=maxLen) (hby:(l.length+m.length)*by_<=140737488355328):LOp P o s (kr :: R) ⟨.c (.ocut k),[(k,some (.arr e E l')),(kr,none)],[k]⟩:=by
 intro c st ρ a w hr h1 h2 h3 h4;subst hl';have hfk:st.f k=true:=h3 k (by simp [aI]);have hk2:=(h2 kr (by simp [aI])).trans hkr;have hne:k.beq kr=false:=by
  cases h9:k.beq kr with
  | false=>rfl
  | true=>rw [<-qNb h9,hr.wf.h k hfk] at hk2;cases hk2
 have hv1:=hr.ev x;rw [h1 x (by simp [ho,Op.operands,Call.operands]),hx] at hv1;obtain ⟨A1,n1,cap1,c1,hρ1,⟨b1,b2⟩,hv1⟩:=(show (D.ocut kr).rep w (Fz c st.h ρ w) ρ (a.eval x) from hv1);obtain ⟨xs,hown,hreps⟩:=hr.hp kr _ hk2;obtain ⟨A,cap,ys,hyv,hyr,hyc⟩:=hy c st ρ a w hr (h1 y (by simp [ho,Op.operands,Call.operands])) fun j hj=>h2 j (by simp only [aI,hj,Bool.or_true]);obtain ⟨b,off,hA,hcells⟩:=hyc hm;subst hA;have hyl:=hyr.length;have hpos:=E.pos;obtain ⟨ti,z,hi1,hi2,hi3,hi4,hi5⟩:=T.T.info;have hexec:∀v' w',(Builtin.append_ #[t,t] o.type #[.slice A1 n1 c1,.slice (some ⟨b,off,none⟩) m.length cap]).run P w = .ok v' w'->(execOp a.eval o).run P w = .ok (.value v') w':=fun v' w' hrun=>by
  unfold execOp;simp only [ho,resolve,invoke,builtin,Sem.run_bind,Sem.run_pure,Result.andThen_ok,List.map_toArray,List.map_cons,List.map_nil,hv1,hyv,hrun]
 have hya:∀j u,ys[j]? = some u->w.cell? ((⟨b,off,none⟩:Addr).add j)=some u:=fun j u hu=>by
  rw [dd];exact hcells j u hu
 rw [hρ1] at hown;have hxl:=hown.1;have hn1:n1=l.length/\(A1=none->c1=cap1):=by
  rcases hown.2 with ⟨hv,hz⟩|⟨g,cap',cur,hv,_⟩
  ·injection hv with e1 e2 e3;exact ⟨by omega,fun _=>by omega⟩
  ·injection hv with e1 e2 e3;exact ⟨e2,fun h=>by rw [h] at e1;cases e1⟩
 obtain ⟨rfl,hn1⟩:=hn1;have hyo:∀u∈ys,u.oneCell'=true:=hyr.one;have key:∃v' vg w',(execOp a.eval o).run P w = .ok (.value v') w'/\w'.ownsRow 0 e E.n vg (l.length+m.length) (xs++ys)/\w.grownBy w' (Value.slice A1 l.length cap1).ownBlock/\(∀g,vg.ownBlock=some g->(Value.slice A1 l.length cap1).ownBlock=some g\/w.heap.size<=g)/\∃A n cap c,vg = .slice A n cap/\(n<=c/\c<=cap)/\v' = .slice A n c:=by
  obtain ⟨v',w',hrun,ho1,hgr,_,hob⟩:=run_append_own_at (P:=P) w 0 t o.type e ti z E.n by_ T.T.under hi1 hi2 hi3 hi5 hi4 hpos (.slice A1 l.length cap1) l.length xs hown ⟨b,off,none⟩ m.length cap ys hyl hya hyo hlen hby (Nat.zero_le _);have hform:∃A n cap,v' = .slice A n cap/\n<=cap:=by
   rcases ho1.2 with ⟨hv,_⟩|⟨g',cap',cur',hv,_,_,hnc,_⟩
   ·exact ⟨none,0,0,hv,Nat.le_refl _⟩
   ·exact ⟨_,_,_,hv,hnc⟩
  have hobg:∀g,v'.ownBlock=some g->(Value.slice A1 l.length cap1).ownBlock=some g\/w.heap.size<=g:=fun g hg=>by
   rcases hob with h|h
   ·exact .inl (h▸hg)
   ·rw [h] at hg;injection hg with hg;exact .inr (by omega)
  by_cases hcc:c1=cap1
  ·subst hcc;obtain ⟨A,n,cp,hv',hnc⟩:=hform;exact ⟨v',v',w',hexec _ _ hrun,ho1,hgr,hobg,A,n,cp,cp,hv',⟨hnc,Nat.le_refl _⟩,hv'⟩
  ·cases A1 with
   | none=>exact absurd (hn1 rfl) hcc
   | some g0 =>
    obtain ⟨g,cur,rfl,hh,hcm,hcs,ht⟩:∃g cur,g0=⟨g,0,none⟩/\w.heap[g]? = some (.cells cur e (0,0))/\cap1<=maxLen/\cur.size=cap1*E.n/\cur.toList.take (l.length*E.n)=xs:=by
     rcases hown.2 with ⟨hv,_⟩|⟨g',cap',cur,hv,_,hh,_,q1,q2,q3⟩
     ·cases hv
     ·injection hv with e1 e2 e3;injection e1 with e1;subst e3;exact ⟨g',cur,e1,hh,q1,q2,q3⟩
    have hcell:∀j u,xs[j]? = some u->w.cell? ((⟨g,0,none⟩:Addr).add j)=some u:=fun j u hu=>by
     rw [dd,Nat.zero_add,cell_of_row w g j cur e (0,0) hh,<-Array.getElem?_toList];rw [<-ht,List.getElem?_take] at hu;split at hu
     ·exact hu
     ·cases hu
    by_cases hroom:l.length+m.length<=c1
    ·have hsz:(l.length+m.length)*E.n<=cap1*E.n:=Nat.mul_le_mul_right _ (by omega);have hin:∀j,j<ys.length->l.length*ti.size+j<cur.size:=fun j hj=>by rw [hcs,hi3];rw [hyl] at hj;rw [Nat.add_mul] at hsz;omega
     have hc:∀j,j<ys.length->(w.cell? ⟨g,0+l.length*ti.size+j,none⟩).isSome=true:=fun j hj=>by
      rw [cell_of_row w g _ cur e (0,0) hh];simp [Nat.zero_add,hin j hj]
     have hf:∀j,j<ys.length->w.frozen? ⟨g,0+l.length*ti.size+j,none⟩=false:=fun j _=>frozen_of_row w g _ cur e hh;have r1:=run_append_room_cells (P:=P) w t o.type e ti T.T.under hi1 g 0 l.length cap1 ⟨b,off,none⟩ m.length cap ys (by rw [hi3];exact hyl) hya hyo (by omega) hc hf;have r2:=run_append_room_cells (P:=P) w t o.type e ti T.T.under hi1 g 0 l.length c1 ⟨b,off,none⟩ m.length cap ys (by rw [hi3];exact hyl) hya hyo hroom hc hf;rw [hrun] at r1;injection r1 with r1 r1';subst r1;subst r1';exact ⟨_,_,_,hexec _ _ r2,ho1,hgr,hobg,_,_,_,_,rfl,⟨hroom,b2⟩,rfl⟩
    ·obtain ⟨v2,w2,hrun2,ho2,hgr2⟩:=run_append_arg_grows (P:=P) w t o.type e ti z E.n by_ T.T.under hi1 hi2 hi3 hi5 hi4 hpos ⟨g,0,none⟩ l.length c1 xs hxl hcell ⟨b,off,none⟩ m.length cap ys hyl hya (by omega) hlen hby;obtain ⟨g',cap',rfl,hb1,hb3⟩:∃g' cap',v2 = .slice (some ⟨g',0,none⟩) (l.length+m.length) cap'/\w.heap.size<=g'/\l.length+m.length<=cap':=by
      rcases ho2.2 with ⟨_,hz⟩|⟨g',cap',cur',hv,hb,_,hnc',_⟩
      ·omega
      ·exact ⟨g',cap',hv,hb,hnc'⟩
     refine ⟨_,_,w2,hexec _ _ hrun2,⟨ho2.1,ho2.2.imp id fun ⟨a1,a2,a3,a4,_,a6⟩=>⟨a1,a2,a3,a4,Nat.zero_le _,a6⟩⟩,⟨hgr2.os,hgr2.tape,hgr2.output,hgr2.size,fun b hb _=>hgr2.block b hb (by simp)⟩,fun g2 hg2=>.inr ?_,_,_,cap',cap',rfl,⟨hb3,Nat.le_refl _⟩,rfl⟩;injection hg2 with hg2;simp at hg2;omega
 obtain ⟨v',vg,w',hrun,ho1,hgr,hob,A',n',cap',c',hvg,hcc,hv'⟩:=key;have hob1:∀{g:Nat} {u:Value},(∃A n cap,u = .slice A n cap)->(kb u=some g↔u.ownBlock=some g):=fun {g u} ⟨A,n,cap,h⟩=>by
  subst h;cases A <;> exact Iff.rfl
 have hkb:∀g,(Value.slice A1 l.length cap1).ownBlock=some g↔kb (ρ kr)=some g:=fun g=>by rw [hρ1];exact (hob1 ⟨_,_,_,rfl⟩).symm
 have hg':∀g,kb vg=some g->g<w'.heap.size/\(w.heap.size<=g\/kb (ρ kr)=some g):=fun g hg=>by
  have h:=(hob1 ⟨_,_,_,hvg⟩).1 hg;exact ⟨(ho1.lt g h).2,(hob g h).symm.imp id (hkb g).1⟩
 have hky:∀n,aF [(k,some (Box.arr e E (l++m))),(kr,none)] n=true↔n=k\/n=kr:=fun n=>by
  simp only [aF,Bool.or_false,Bool.or_eq_true];constructor
  ·rintro (h|h)
   ·exact .inl (qNb h).symm
   ·exact .inr (qNb h).symm
  ·rintro (rfl|rfl)
   ·exact .inl (Nat.beq_refl _)
   ·exact .inr (Nat.beq_refl _)
 have hputk:hput [(k,some (Box.arr e E (l++m))),(kr,none)] st.h k=some (.arr e E (l++m)):=by simp [hput]
 have hputr:hput [(k,some (Box.arr e E (l++m))),(kr,none)] st.h kr=none:=by simp [hput,hne]
 have hsm:∀n bx,aF [(k,some (Box.arr e E (l++m))),(kr,none)] n=true->hput [(k,some (Box.arr e E (l++m))),(kr,none)] st.h n=some bx->n=k/\bx = .arr e E (l++m):=fun n bx hn hb=>by
  rcases (hky n).1 hn with rfl|rfl
  ·exact RC
  ·rw [hputr] at hb;cases hb
 have hblk:∀b,b<w.heap.size->kb (ρ kr)≠some b->w'.heap[b]? = w.heap[b]?:=fun b hlt hn=>hgr.block b hlt fun he=>hn ((hkb b).1 he.symm);have hFz:∀b,Fz c st.h ρ w b->Fz c (hput [(k,some (Box.arr e E (l++m))),(kr,none)] st.h) (upd ρ k vg) w' b/\w'.heap[b]? = w.heap[b]?:=fun b hb=>by
  have hnb:=hb.2.2 kr _ hk2;refine ⟨⟨hb.1,Nat.lt_of_lt_of_le hb.2.1 hgr.size,fun n bx hn he=>?_⟩,hblk b hb.2.1 hnb⟩;cases h9:aF [(k,some (Box.arr e E (l++m))),(kr,none)] n with
  | true =>
   obtain ⟨rfl,_⟩:=hsm n bx h9 hn;rw [aN] at he;rcases (hg' b he).2 with h|h
   ·have:=hb.2.1;omega
   ·exact hnb h
  | false =>
   rw [cc h9] at hn;have hkn:k.beq n=false:=by
    cases h8:k.beq n with
    | false=>rfl
    | true=>rw [<-qNb h8,hr.wf.h k hfk] at hn;cases hn
   rw [dQ hkn] at he;exact hb.2.2 n bx hn he
 refine Oper.wp_value hrun ⟨upd ρ k vg,hr.app (e:=⟨.c (.ocut k),[(k,some (.arr e E (l++m))),(kr,none)],[k]⟩) h4 (fun n hn=>?_) (fun n hn=>dQ (by simpa [aI] using hn)) (fun n hn=>?_) ⟨hgr.os,hgr.tape,hgr.output,hgr.size,fun b hlt hn=>hblk b hlt fun e=>hn ⟨kr,_,(hky kr).2 (.inr rfl),hk2,e⟩⟩ (fun n bx g' hn hb hg=>?_) (fun n n' b b' g' hn hn' hb hb' _ _=>?_) (fun n hn=>.inl ?_) (fun n n' bx hn hb hx2=>?_) (fun n bx hn hb=>?_) ?_⟩
 ·have:n=k:=by simp [aI] at hn;exact hn.symm
  subst this;exact ⟨hfk,(hky n).2 (.inl rfl)⟩
 ·rcases (hky n).1 hn with rfl|rfl
  ·exact .inl (by simp [aI])
  ·exact .inr (hr.nfh hk2)
 ·obtain ⟨rfl,_⟩:=hsm n bx hn hb;rw [aN] at hg;exact ⟨(hg' g' hg).1,(hg' g' hg).2.imp id fun h=>⟨kr,_,(hky kr).2 (.inr rfl),hk2,h⟩⟩
 ·rw [(hsm n b hn hb).1,(hsm n' b' hn' hb').1]
 ·have:n=k:=by simp [TV.has,V0.has,D.has] at hn;exact hn.symm
  subst this;simp [aI]
 ·rw [(hsm n' bx hn hb).2] at hx2;simp [Box.has] at hx2
 ·obtain ⟨rfl,rfl⟩:=hsm n bx hn hb;rw [aN];exact ⟨xs++ys,by rw [List.length_append];exact ho1,(hreps.append hyr).same (fun b hb=>(hFz b hb).2) fun b hb=>(hFz b hb).1⟩
 ·exact ⟨A',n',cap',c',(aN ρ k vg).trans hvg,hcc,hv'⟩
end
instance stExC (d:Nat):ST prog (qF (d+1)) 64 66 64:=⟨ElTB.mk' underlying64 (.agg #[.int .i64 0,.string ⟨#[]⟩,.int .i64 0,.int .i64 0,.slice none 0 0]) 5 64 (by kernel_rfl) rfl rfl⟩
theorem L6 (x:Ex):1<=x.cnt:=by
 obtain ⟨k,a,l⟩:=x;rw [Ex.cnt_mk];omega
theorem EY:∀(l:List Ex),l.length<=jg l/\∀x∈l,x.cnt<=jg l
 | []=>⟨Nat.zero_le _,fun _ h=>absurd h (by simp)⟩
 | y :: l=>by
  have ih:=EY l;have h1:=L6 y;rw [gp];refine ⟨by rw [List.length_cons];omega,fun x hx=>?_⟩;rcases List.mem_cons.1 hx with rfl|hx
  ·omega
  ·have:=ih.2 x hx;omega
end Go.Proofs.YtkkbopkbjacfmaaGreatDoor
