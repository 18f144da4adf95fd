/- Part 8 of 24 of the proof of rollbackOptions_holds (no condition). -/
import Derived.Test.YtdaajdflefnjfaaGreatK07
set_option linter.unusedVariables false
set_option linter.unusedSimpArgs false
set_option maxRecDepth 100000
set_option maxHeartbeats 64000000
namespace Go.Proofs.YtdaajdflefnjfaaGreat
open Go.RowKit
def Gr (S:Nat→Prop) (base:Nat) (w:World) (b:Nat):Prop:=b<w.heap.size∧(S b∨base≤b)
def In (w:World) (S:Nat→Prop):Prop:=∀b,S b→b<w.heap.size
theorem In.gr (S:Nat→Prop) (base:Nat) (w:World):In w (Gr S base w):=fun _ h=>h.1
theorem In.below {w w':World} {S:Nat→Prop} (h:In w S) (hb:Below w.heap.size w w'):In w' S:=fun b hs=>Nat.lt_of_lt_of_le (h b hs) hb.size
theorem In.lo (w:World):In w (Lo w.heap.size):=fun _ h=>h
section
variable {α:Type} {E:El α} {w w' w'':World} {S T:Nat→Prop} {A:Option Addr} {l:List α} {base base':Nat} {e:TypeId} {v:Value}
theorem RowsAt.grow (h:RowsAt E w S A l) (hS:In w S) (hb:Below w.heap.size w w'):RowsAt E w' S A l:=h.same (fun b hs=>hb.block b (hS b hs)) fun _ hs=>hs
theorem RowsAt.lo (h:RowsAt E w S A l) (hS:In w S):RowsAt E w (Lo w.heap.size) A l:=h.mono hS
theorem RowsAt.gr (h:RowsAt E w S A l) (hS:In w S) (hb:Below w.heap.size w w'):RowsAt E w' (Gr S base w') A l :=
 h.same (fun b hs=>hb.block b (hS b hs)) fun b hs=>⟨Nat.lt_of_lt_of_le (hS b hs) hb.size,.inl hs⟩
theorem RowsAt.grNew (h:RowsAt E w (New base w) A l):RowsAt E w (Gr S base w) A l:=h.mono fun _ hs=>⟨hs.2,.inr hs.1⟩
theorem Gr.next (h:RowsAt E w (Gr S base w) A l) (hb:Below w.heap.size w w'):RowsAt E w' (Gr S base w') A l :=
 h.same (fun b hs=>hb.block b hs.1) fun b hs=>⟨Nat.lt_of_lt_of_le hs.1 hb.size,hs.2⟩
theorem Gr.older (h:RowsAt E w (Gr S base' w) A l) (hb:base≤base'):RowsAt E w (Gr S base w) A l :=
 h.mono fun b hs=>⟨hs.1,by rcases hs.2 with h1|h1;exact .inl h1;exact .inr (Nat.le_trans hb h1)⟩
def El.inn {α:Type} (E:El α) (T:Nat→Prop):El α where
 n:=E.n
 pos:=E.pos
 rep:=fun w S x cs=>E.rep w (fun b=>S b∧T b) x cs
 len:=fun h=>E.len h
 one:=fun h=>E.one h
 same:=fun h hk hS=>E.same h (fun b hb=>hk b hb.1) fun b hb=>⟨hS b hb.1,hb.2⟩
theorem Reps.inn:∀{l:List α} {xs:List Value},Reps (E.inn T) w S l xs→Reps E w (fun b=>S b∧T b) l xs
 | [],_,h=>h
 | _ :: _,_,h=>by
  obtain ⟨cs,rest,rfl,h1,h2⟩:=h
  exact ⟨cs,rest,rfl,h1,Reps.inn h2⟩
theorem Reps.toInn:∀{l:List α} {xs:List Value},Reps E w (fun b=>S b∧T b) l xs→Reps (E.inn T) w S l xs
 | [],_,h=>h
 | _ :: _,_,h=>by
  obtain ⟨cs,rest,rfl,h1,h2⟩:=h
  exact ⟨cs,rest,rfl,h1,Reps.toInn h2⟩
theorem RowsAt.inn (h:RowsAt E w S A l) (hT:∀b,S b→T b):RowsAt (E.inn T) w S A l:=by
 obtain ⟨xs,h1,h2⟩:=h
 exact ⟨xs,Reps.toInn (h1.same (fun _ _=>rfl) fun b hb=>⟨hb,hT b hb⟩),h2⟩
theorem RowsAt.uninn (h:RowsAt (E.inn T) w S A l):RowsAt E w S A l:=by
 obtain ⟨xs,h1,h2⟩:=h
 exact ⟨xs,h1.inn.same (fun _ _=>rfl) fun b hb=>hb.1,h2⟩
theorem ElTB.inn {P:Program} {t:TypeId} {by_:Nat} (Q:ElTB P E t e by_) (T:Nat→Prop):ElTB P (E.inn T) t e by_:=⟨Q.under,Q.info⟩
theorem OwnRows.gr (h:OwnRows (E.inn fun b=>S b∨base≤b) e w base v l):∃A cap,v = .slice A l.length cap∧RowsAt E w (Gr S base w) A l∧l.length≤cap∧cap≤maxLen:=by
 obtain ⟨h0,xs,h1,h3⟩:=h
 rcases h1.2 with ⟨hv,hn⟩|⟨g,cap,cur,hv,hg,hh,hnc,hcm,hcs,ht⟩
 ·obtain rfl:l=[]:=List.eq_nil_of_length_eq_zero hn
  exact ⟨none,0,hv,RowsAt.nil _ _ _ _,by simp,by simp [maxLen]⟩
 ·refine ⟨_,cap,hv,⟨xs,h3.inn.same (fun _ _=>rfl) (fun b hb=>⟨hb.1.1,hb.2⟩),fun _=>⟨g,0,rfl,⟨(Array.getElem?_eq_some_iff.1 hh).1,.inr hg⟩,fun j u hu=>?_⟩⟩,hnc,hcm⟩
  have:=h1.cells (by rw [hv];rfl) j u hu
  rwa [dA] at this
theorem RowsAt.oth (h:RowsAt E w S A l) (hS:In w S) (hv:∀k,v.ownBlock=some k→¬S k) (hT:∀b,S b→T b):RowsAt (E.inn T) w (oL w v) A l:=by
 obtain ⟨xs,h1,h2⟩:=h.inn hT
 have hm:∀b,S b→oL w v b:=fun b hb=>⟨hS b hb,fun e=>hv b e hb⟩
 refine ⟨xs,h1.same (fun _ _=>rfl) hm,fun hp=>?_⟩
 obtain ⟨b,off,hA,hb,hc⟩:=h2 hp
 exact ⟨b,off,hA,hm b hb,hc⟩
structure Frm (M M':Nat→Prop) (w w':World):Prop where
 os:w'.os=w.os
 tape:w'.tape=w.tape
 output:w'.output=w.output
 size:w.heap.size≤w'.heap.size
 keep:∀b,b<w.heap.size→¬M b→w'.heap[b]? = w.heap[b]?∧¬M' b
theorem Frm.refl (M:Nat→Prop) (w:World):Frm M M w w:=⟨rfl,rfl,rfl,Nat.le_refl _,fun _ _ h=>⟨rfl,h⟩⟩
theorem Frm.trans {M M' M'':Nat→Prop} (h:Frm M M' w w') (k:Frm M' M'' w' w''):Frm M M'' w w'' :=
 ⟨k.os.trans h.os,k.tape.trans h.tape,k.output.trans h.output,Nat.le_trans h.size k.size,fun b hb hm =>
  have h1:=h.keep b hb hm
  have h2:=k.keep b (Nat.lt_of_lt_of_le hb h.size) h1.2
  ⟨h2.1.trans h1.1,h2.2⟩⟩
theorem Frm.of (M:Nat→Prop) (h:Below w.heap.size w w'):Frm M M w w':=⟨h.os,h.tape,h.output,h.size,fun b hb hm=>⟨h.block b hb,hm⟩⟩
theorem Frm.grow {M M':Nat→Prop} (h:Frm M M' w w') (k:Below w'.heap.size w' w''):Frm M M' w w'':=h.trans (Frm.of M' k)
theorem Frm.but {M:Nat→Prop} {g:Nat} (h:But g w w') (hg:M g):Frm M M w w':=⟨h.os,h.tape,h.output,h.size,fun b hb hm=>⟨h.block b hb (fun e=>hm (e▸hg)),hm⟩⟩
theorem Frm.sub {M M' N N':Nat→Prop} (h:Frm M M' w w') (hN:∀b,M b→N b) (hN':∀b,b<w.heap.size→N' b→M' b∨N b):Frm N N' w w' :=
 ⟨h.os,h.tape,h.output,h.size,fun b hb hm=>by
  obtain ⟨h1,h2⟩:=h.keep b hb (fun x=>hm (hN b x))
  exact ⟨h1,fun x=>by rcases hN' b hb x with y|y;exact h2 y;exact hm y⟩⟩
theorem Frm.below {M M':Nat→Prop} {B:Nat} (h:Frm M M' w w') (hM:∀b,M b→B≤b) (hB:B≤w.heap.size):Below B w w' :=
 ⟨h.os,h.tape,h.output,h.size,fun b hb=>(h.keep b (Nat.lt_of_lt_of_le hb hB) fun hm=>Nat.not_le_of_lt hb (hM b hm)).1⟩
theorem Frm.cell {M M':Nat→Prop} (h:Frm M M' w w') {b o:Nat} (hb:b<w.heap.size) (hm:¬M b):w'.cell? ⟨b,o,none⟩=w.cell? ⟨b,o,none⟩:=World.cell?_of_block (a:=⟨b,o,none⟩) (h.keep b hb hm).1
theorem Blk.frm {M M':Nat→Prop} {g:Nat} {t:TypeId} {cs:Array Value} (h:Blk w g t cs) (hf:Frm M M' w w') (hm:¬M g):Blk w' g t cs:=(hf.keep g h.lt hm).1.trans h
theorem RowsAt.frm {M M':Nat→Prop} (h:RowsAt E w S A l) (hf:Frm M M' w w') (hS:In w S) (hm:∀b,S b→¬M b):RowsAt E w' S A l:=h.same (fun b hb=>(hf.keep b (hS b hb) (hm b hb)).1) fun _ hb=>hb
def KC (w:World) (M:Nat→Prop) (b:Nat):Prop:=b<w.heap.size∧¬M b
theorem RowsAt.out {M M':Nat→Prop} (h:RowsAt E w (KC w M) A l) (hf:Frm M M' w w'):RowsAt E w' (KC w' M') A l :=
 h.same (fun b hb=>(hf.keep b hb.1 hb.2).1) fun b hb=>⟨Nat.lt_of_lt_of_le hb.1 hf.size,(hf.keep b hb.1 hb.2).2⟩
theorem rG {xs cs vs:List Value} {n k j:Nat} (hk:k+n≤xs.length) (hcs:cs=(xs.drop k).take n) (hj:j+vs.length≤n) :
  xs.take (k+j)++vs++xs.drop (k+j+vs.length)=xs.take k++(cs.take j++vs++cs.drop (j+vs.length))++xs.drop (k+n):=by
 subst hcs
 have e1:xs.take (k+j)=xs.take k++((xs.drop k).take n).take j:=by
  rw [List.take_take,Nat.min_eq_left (by omega),List.take_add]
 have e2:xs.drop (k+j+vs.length)=((xs.drop k).take n).drop (j+vs.length)++xs.drop (k+n):=by
  have h:(xs.drop k).drop (j+vs.length)=((xs.drop k).take n).drop (j+vs.length)++(xs.drop k).drop n:=by
   have h0:(xs.drop k).drop (j+vs.length)=((xs.drop k).take n++(xs.drop k).drop n).drop (j+vs.length):=by rw [List.take_append_drop]
   rw [h0,List.drop_append,List.length_take,List.length_drop,Nat.min_eq_left (by omega),Nat.sub_eq_zero_of_le hj,List.drop_zero]
  rw [List.drop_drop,List.drop_drop] at h
  rw [←h]
  congr 1
  omega
 rw [e1,e2]
 simp
end
section
variable {α:Type} {E:El α} {S:Nat→Prop} {l:List α} {e:TypeId}
theorem rH {P:Program} {t:TypeId} {by_:Nat} (T:ElTB P E t e by_) {ops:Array Oper} {rest:List Oper} {o:Oper} {a:Act} {Q:Exit→Act→World→Prop} (hgd:o.guard=none) (s x:Operand)
  (ho:o.op = .call { callee:=.builtin .append,args:=#[s,x],argTypes:=#[t,t] })
  (w:World) (n:Nat) (A:Option Addr) (c nb:Nat) (hs:a.eval s = .slice (some ⟨nb,0,none⟩) 0 0) (hnb:nb=w.heap.size) (hx:a.eval x = .slice A n c) (hn:l.length=n) (hr:RowsAt E w S A l) (hS:In w S) (hl:n≤1000000) (hby:by_≤1024)
  (h:∀v' w',OwnRows (E.inn S) e w' w.heap.size v' l→Below w.heap.size w w'→wpList P ops Q rest (a.put o.dst v') w'):wpList P ops Q (o :: rest) a (w.alloc (.cells #[] e)):=by
 subst hnb
 have hal:Below w.heap.size w (w.alloc (.cells #[] e)):=Below.al (Below.refl _ _) _
 refine rc (T.inn S) hgd s x ho _ w.heap.size _ [] l n hn A c hs (OwnRows.made (E.inn S) e w w.heap.size #[] 0 (Nat.le_refl _) (by simp [maxLen]) (by simp)) hx
  ((hr.grow hS hal).oth (hS.below hal) (fun k hk hs=>by injection hk with hk;have:=hS k hs;simp at hk;omega) fun _ h=>h) (by simp [maxLen];omega) (by simp;exact Nat.le_trans (Nat.mul_le_mul hl hby) (by decide)) ?_
 intro v' w' hown hb _
 rw [List.nil_append] at hown
 exact h v' w' hown (hal.trans hb)
end
theorem pe {P:Program} {ops:Array Oper} {rest:List Oper} {o:Oper} {a:Act} {w:World} {Q:Exit→Act→World→Prop} (hgd:o.guard=none) (ty:TypeId) (x y:Operand) (ho:o.op = .store ty x y) (g off:Nat) (t:TypeId) (old:Array Value) (v:Value) (new:Array Value)
  (hx:a.eval x = .pointer (some ⟨g,off,none⟩)) (hy:a.eval y=v) (hb:Blk w g t old) (hi:(P.info? ty).map (·.size)=some 1) (hl:off<old.size) (hv:v.cells = #[v]) (h1:v.oneCell'=true)
  (hn:(old.toList.take off++[v]++old.toList.drop (off+1)).toArray=new) (h:∀w',Blk w' g t new→But g w w'→wpList P ops Q rest (a.put o.dst undef) w'):wpList P ops Q (o :: rest) a w:=by
 refine wpList_plain hgd fun K hK=>?_
 have h2:=run_storeCells_at (P:=P) g off t [v] 0 old w hb (by simp;omega) (fun u hu=>by simp at hu;subst hu;exact h1)
 simp only [Nat.add_zero,List.length_singleton] at h2
 rw [hn] at h2
 unfold Oper.wp execOp
 cases hq:P.info? ty with
 | none=>simp [hq] at hi
 | some i =>
  have hs:1=i.size:=by simp [hq] at hi;omega
  simp only [ho,hx,hy,Instr.storeAt,Instr.sureAddr,Sem.run_bind,Sem.run_pure,Result.andThen_ok]
  have h3:(storeVar ty ⟨g,off,none⟩ v).run P w = .ok () (w.setRow g new):=by
   simp [storeVar,sizeOf,typeInfo,hq,hv,←hs,h2]
  rw [h3]
  exact hK _ _ (h _ (setRow_heap w g old new t (0,0) hb) ⟨rfl,rfl,rfl,by simp,fun k hk hg=>setRow_other w g k new hg⟩)
section
variable {α:Type} {E:El α} {w:World} {S T:Nat→Prop} {l:List α} {e:TypeId} {v:Value} {base:Nat}
theorem OwnRows.uninn (h:OwnRows (E.inn T) e w base v l):OwnRows E e w base v l:=by
 obtain ⟨h0,xs,h1,h3⟩:=h
 exact ⟨h0,xs,h1,h3.inn.same (fun _ _=>rfl) fun _ hb=>hb.1⟩
end
class ST {α:Type} (P:Program) (E:El α) (t:TypeId) (e:outParam TypeId) (by_:outParam Nat):Prop where
 T:ElTB P E t e by_
section
variable {P:Program} {o:Oper} {s:Mst} {α:Type} {E:El α}
def Iy (s:Mst) (E:El α) (x:Operand) (m:List α) (R:List Nat):Prop :=
 ∀(c:Ctx) (st:Mst) (ρ:Nat→Value) (a:Act) (w:World),Rp c st ρ a w→st.ev x=s.ev x→(∀k,aG R k=true→st.h k=s.h k)→
  ∃A cap ys,a.eval x = .slice A m.length cap∧Reps E w (Fz c st.h ρ w) m ys∧(0<m.length→∃b off,A=some ⟨b,off,none⟩∧∀j u,ys[j]? = some u→w.cell? ⟨b,off+j,none⟩=some u)
theorem vq {x:Operand} {m:List α} (hx:s.ev x = .c (.sl E m)):Iy s E x m []:=fun c st ρ a w hr he _=>by
 have hv:=hr.ev x
 rw [he,hx] at hv
 obtain ⟨A,cap,hv,_,ys,h1,h2⟩:=hv
 exact ⟨A,cap,ys,hv,h1,fun h=>by obtain ⟨b,off,e,_,h3⟩:=h2 h;exact ⟨b,off,e,h3⟩⟩
theorem rI {x:Operand} {m:List α} (hx:s.ev x = .c (.full E m)):Iy s E x m []:=fun c st ρ a w hr he _=>by
 have hv:=hr.ev x
 rw [he,hx] at hv
 obtain ⟨A,hv,_,ys,h1,h2⟩:=hv
 exact ⟨A,_,ys,hv,h1,fun h=>by obtain ⟨b,off,e,_,h3⟩:=h2 h;exact ⟨b,off,e,h3⟩⟩
theorem vr {x:Operand} {k:Nat} {e:TypeId} {m:List α} (hx:s.ev x = .c (.own k)) (hk:s.h k=some (.arr e E m)):Iy s E x m [k]:=fun c st ρ a w hr he h2=>by
 have hv:=hr.ev x
 rw [he,hx] at hv
 obtain ⟨A,cap,hA,_,hp⟩:=dZ (hr.hp k _ ((h2 k (by simp [aG])).trans hk))
 rcases Nat.eq_zero_or_pos m.length with h0|h0
 ·obtain rfl:m=[]:=List.eq_nil_of_length_eq_zero h0
  exact ⟨A,cap,[],Eq.trans hv hA,rfl,fun h=>absurd h (by simp)⟩
 ·obtain ⟨g,xs,rfl,_,h3,h4,_⟩:=hp h0
  exact ⟨_,cap,xs,Eq.trans hv hA,h3,fun _=>⟨g,0,rfl,fun j u hu=>by rw [Nat.zero_add];exact h4 j u hu⟩⟩
theorem eI [J:Dp E] {w:World} {F:Nat→Prop} {ρ:Nat→Value}:∀{m:List α} {vs:List Value},All2 (D.rep w F ρ) (m.flatMap J.deep) vs→Reps E w F m vs
 | [],vs,h=>by
  cases vs with
  | nil=>rfl
  | cons=>exact h.elim
 | x :: m,vs,h=>by
  rw [List.flatMap_cons] at h
  refine ⟨vs.take (J.deep x).length,vs.drop (J.deep x).length,(List.take_append_drop _ _).symm,?_,?_⟩
  ·have:=h.take (J.deep x).length
   rw [List.take_left] at this
   exact J.put this
  ·have:=h.drop (J.deep x).length
   rw [List.drop_left] at this
   exact eI this
theorem aO [J:Dp E] {x:Operand} {k n:Nat} {e:TypeId} {cs:List D} (m:List α) (hx:s.ev x = .c (.slb k n)) (hk:s.h k=some (.box e cs)) (hm:m.flatMap J.deep=cs) (hn:m.length=n):Iy s E x m [k]:=fun c st ρ a w hr he h2=>by
 have hv:=hr.ev x
 rw [he,hx] at hv
 obtain ⟨g,hg,hv⟩:=hv
 subst hm
 subst hn
 obtain ⟨vs,hB,hA,_⟩:=hr.box ((h2 k (by simp [aG])).trans hk) hg
 exact ⟨_,_,vs,hv,eI hA,fun _=>⟨g,0,rfl,fun j u hu=>by rw [Nat.zero_add];exact hB.cellx j (by simpa using hu)⟩⟩
def DN (s:Mst) (E:El α) (e:TypeId) (x:Operand) (l:List α) (kr:Option Nat):Prop :=
 (∀k,kr=some k→∃b,s.h k=some b)∧
 ∀(c:Ctx) (st:Mst) (ρ:Nat→Value) (a:Act) (w:World),Rp c st ρ a w→st.ev x=s.ev x→(∀k,kr=some k→st.h k=s.h k)→
  ∃v xs,a.eval x=v∧w.ownsRow 0 e E.n v l.length xs∧Reps E w (Fz c st.h ρ w) l xs∧(∀g,kb v=some g→∃k,kr=some k∧kb (ρ k)=some g)
theorem aI {x:Operand} {k:Nat} {e:TypeId} {l:List α} (hx:s.ev x = .c (.own k)) (hk:s.h k=some (.arr e E l)):DN s E e x l (some k) :=
 ⟨fun k' h=>by injection h with h;subst h;exact ⟨_,hk⟩,fun c st ρ a w hr he h2=>by
  have hv:=hr.ev x
  rw [he,hx] at hv
  obtain ⟨xs,h3,h4⟩:=hr.hp k _ ((h2 k rfl).trans hk)
  exact ⟨_,xs,hv,h3,h4,fun g hg=>⟨k,rfl,hg⟩⟩⟩
theorem qW {x:Operand} {e:TypeId} (hx:s.ev x = .c (.sc (.slice none 0 0))):DN s E e x [] none :=
 ⟨(fun k h=>by cases h),fun c st ρ a w hr he h2=>by
  have hv:=hr.ev x
  rw [he,hx] at hv
  exact ⟨_,[],hv,World.ownsRow_nil _ _ _ _,rfl,fun g hg=>by cases hg⟩⟩
theorem vt {x:Operand} {k:Nat} {e:TypeId} (hx:s.ev x = .c (.slb k 0)) (hk:s.h k=some (.box e [])):DN s E e x [] (some k) :=
 ⟨fun k' h=>by injection h with h;subst h;exact ⟨_,hk⟩,fun c st ρ a w hr he h2=>by
  have hv:=hr.ev x
  rw [he,hx] at hv
  obtain ⟨g,hg,hv⟩:=hv
  obtain ⟨vs,hB,hA,_⟩:=hr.box ((h2 k rfl).trans hk) hg
  cases vs with
  | cons=>exact hA.elim
  | nil=>exact ⟨_,[],hv,⟨by simp,.inr ⟨g,0,#[],rfl,Nat.zero_le _,hB,Nat.le_refl _,by simp [maxLen],by simp,by simp⟩⟩,rfl,fun g' hg'=>⟨k,rfl,by rw [hg];exact hg'⟩⟩⟩
def Cb (kr:Option Nat):List (Nat×Option Box):=match kr with|some k=>[(k,none)]|none=>[]
def MN (kr:Option Nat):List Nat:=match kr with|some k=>[k]|none=>[]
theorem ak {t e:TypeId} {by_ k:Nat} {x y:Operand} {l m l':List α} {kr:Option Nat} {R:List Nat} [T:ST P E t e by_] (ho:o.op = .call { callee:=.builtin .append,args:=#[x,y],argTypes:=#[t,t] }) (hdk:o.dst=some k) (hx:DN s E e x l kr) (hy:Iy s E y m R) (hl':l++m=l')
  (hlen:l.length+m.length≤maxLen) (hby:(l.length+m.length)*by_≤140737488355328):LOp P o s (MN kr++R) ⟨.c (.own k),(k,some (.arr e E l')) :: Cb kr,[k]⟩:=by
 intro c st ρ a w hr h1 h2 h3 h4
 subst hl'
 have hfk:st.f k=true:=h3 k (by simp [aG])
 have hkrs:∀j,kr=some j→st.h j=s.h j:=fun j hj=>h2 j (by subst hj;simp [MN,aG])
 have hkx:∀j,kr=some j→∃b,st.h j=some b:=fun j hj=>by obtain ⟨b,hb⟩:=hx.1 j hj;exact ⟨b,(hkrs j hj).trans hb⟩
 have hne:∀j,kr=some j→k.beq j=false:=fun j hj=>by
  cases h9:k.beq j with
  | false=>rfl
  | true =>
   obtain ⟨b,hb⟩:=hkx j hj
   rw [←Nat.eq_of_beq_eq_true h9,hr.wf.h k hfk] at hb
   cases hb
 obtain ⟨v,xs,hv,hown,hreps,hvk⟩:=hx.2 c st ρ a w hr (h1 x (by simp [ho,Op.operands,Call.operands])) hkrs
 obtain ⟨A,cap,ys,hyv,hyr,hyc⟩:=hy c st ρ a w hr (h1 y (by simp [ho,Op.operands,Call.operands])) fun j hj=>h2 j (by rw [lN,hj,Bool.or_true])
 have hblk:∀g,v.ownBlock=some g→kb v=some g:=fun g h=>by
  cases v with
  | slice A n c=>cases A <;> exact h
  | _=>simp [Value.ownBlock] at h
 have hblk':∀(u:Value) g,kb u=some g→∀{nn xx},(∃w:World,w.ownsRow 0 e E.n u nn xx)→u.ownBlock=some g:=fun u g h nn xx ⟨w,hw⟩=>by
  rcases hw.2 with ⟨rfl,_⟩|⟨g',cap',cur,rfl,_⟩
  ·cases h
  ·exact h
 have hFv:∀b,Fz c st.h ρ w b→v.ownBlock≠some b:=fun b hb e=>by
  obtain ⟨j,hj,hjb⟩:=hvk b (hblk b e)
  obtain ⟨bx,hbx⟩:=hkx j hj
  exact hb.2.2 j bx hbx hjb
 have hOwn:OwnRows (E.inn (Fz c st.h ρ w)) e w 0 v l:=⟨Nat.zero_le _,xs,hown,Reps.toInn (hreps.same (fun _ _=>rfl) fun b hb=>⟨⟨hb.2.1,hFv b hb⟩,hb⟩)⟩
 obtain ⟨v',w',hrun,⟨_,zs,ho1,ho2⟩,hB,hS⟩:=oP (T.T.inn (Fz c st.h ρ w)) w o.type 0 v l m A cap hOwn ys (Reps.toInn (hyr.same (fun _ _=>rfl) fun b hb=>⟨⟨hb.2.1,hFv b hb⟩,hb⟩)) hyc hlen hby
 have ho3:=Reps.inn ho2
 have hg':∀g,kb v'=some g→g<w'.heap.size∧(w.heap.size≤g∨kb v=some g):=fun g hg=>by
  have hgo:=hblk' v' g hg ⟨w',ho1⟩
  refine ⟨ho1.lt g hgo |>.2,?_⟩
  by_cases hlt:w.heap.size≤g
  ·exact .inl hlt
  ·refine .inr ?_
   by_cases hvg:v.ownBlock=some g
   ·exact hblk g hvg
   ·exact absurd hgo (hS g ⟨by omega,hvg⟩).2
 have hexec:(execOp a.eval o).run P w = .ok (.value v') w':=by
  unfold execOp
  simp only [ho,resolve,invoke,builtin,Sem.run_bind,Sem.run_pure,Result.andThen_ok,List.map_toArray,List.map_cons,List.map_nil,hv,hyv,hrun]
 have hky:∀n,aB ((k,some (Box.arr e E (l++m))) :: Cb kr) n=true↔n=k∨kr=some n:=fun n=>by
  simp only [aB,Bool.or_eq_true]
  constructor
  ·rintro (h|h)
   ·exact .inl (Nat.eq_of_beq_eq_true h).symm
   ·cases kr with
    | none=>simp [Cb,aB] at h
    | some j=>simp [Cb,aB] at h;exact .inr (by rw [h])
  ·rintro (rfl|h)
   ·exact .inl (Nat.beq_refl _)
   ·subst h;exact .inr (by simp [Cb,aB])
 have hputk:hput ((k,some (Box.arr e E (l++m))) :: Cb kr) st.h k=some (.arr e E (l++m)):=by simp [hput]
 have hputr:∀j,kr=some j→hput ((k,some (Box.arr e E (l++m))) :: Cb kr) st.h j=none:=fun j hj=>by
  simp only [hput,hne j hj,cond_false]
  subst hj
  simp [Cb,hput]
 have hsm:∀n bx,aB ((k,some (Box.arr e E (l++m))) :: Cb kr) n=true→hput ((k,some (Box.arr e E (l++m))) :: Cb kr) st.h n=some bx→n=k∧bx = .arr e E (l++m):=fun n bx hn hb=>by
  rcases (hky n).1 hn with rfl|h
  ·rw [hputk] at hb;exact ⟨rfl,(Option.some.inj hb).symm⟩
  ·rw [hputr n h] at hb;cases hb
 have hFz:∀b,Fz c st.h ρ w b→Fz c (hput ((k,some (Box.arr e E (l++m))) :: Cb kr) st.h) (upd ρ k v') w' b∧w'.heap[b]? = w.heap[b]?:=fun b hb=>by
  refine ⟨⟨hb.1,Nat.lt_of_lt_of_le hb.2.1 hB.size,fun n bx hn he=>?_⟩,(hS b ⟨hb.2.1,hFv b hb⟩).1⟩
  cases h9:aB ((k,some (Box.arr e E (l++m))) :: Cb kr) n with
  | true =>
   obtain ⟨rfl,_⟩:=hsm n bx h9 hn
   rw [aN] at he
   rcases (hg' b he).2 with h|h
   ·have:=hb.2.1;omega
   ·exact hFv b hb (hblk' v b h ⟨w,hown⟩)
  | false =>
   rw [bM h9] at hn
   have hkn:k.beq n=false:=by
    cases h8:k.beq n with
    | false=>rfl
    | true=>rw [←Nat.eq_of_beq_eq_true h8,hr.wf.h k hfk] at hn;cases hn
   rw [d8 hkn] at he
   exact hb.2.2 n bx hn he
 refine Oper.wp_value hexec ⟨upd ρ k v',hr.app (e:=⟨.c (.own k),(k,some (.arr e E (l++m))) :: Cb kr,[k]⟩) h4 (fun n hn=>?_) (fun n hn=>d8 (by simpa [aG] using hn)) (fun n hn=>?_) ⟨hB.os,hB.tape,hB.output,hB.size,fun b hlt hn=>(hS b ⟨hlt,fun e=>hn ?_⟩).1⟩ (fun n bx g hn hb hg=>?_) (fun n n' b b' g hn hn' hb hb' _ _=>?_) (fun n hn=>.inl ?_) (fun n n' bx hn hb hx2=>?_) (fun n bx hn hb=>?_) ?_⟩
 ·have:n=k:=by simp [aG] at hn;exact hn.symm
  subst this
  exact ⟨hfk,(hky n).2 (.inl rfl)⟩
 ·rcases (hky n).1 hn with rfl|h
  ·exact .inl (by simp [aG])
  ·obtain ⟨b,hb⟩:=hkx n h;exact .inr (hr.nfh hb)
 ·obtain ⟨j,hj,hjb⟩:=hvk b (hblk b e)
  obtain ⟨bx,hbx⟩:=hkx j hj
  exact ⟨j,bx,(hky j).2 (.inr hj),hbx,hjb⟩
 ·obtain ⟨rfl,_⟩:=hsm n bx hn hb
  rw [aN] at hg
  refine ⟨(hg' g hg).1,(hg' g hg).2.imp id fun h=>?_⟩
  obtain ⟨j,hj,hjb⟩:=hvk g h
  obtain ⟨b0,hb0⟩:=hkx j hj
  exact ⟨j,b0,(hky j).2 (.inr hj),hb0,hjb⟩
 ·rw [(hsm n b hn hb).1,(hsm n' b' hn' hb').1]
 ·have:n=k:=by simp [TV.has,V0.has,D.has] at hn;exact hn.symm
  subst this
  simp [aG]
 ·rw [(hsm n' bx hn hb).2] at hx2
  simp [Box.has] at hx2
 ·obtain ⟨rfl,rfl⟩:=hsm n bx hn hb
  rw [aN]
  refine ⟨zs,ho1,ho3.same (fun _ _=>rfl) fun b hb=>?_⟩
  exact (hFz b hb.2).1
 ·exact (aN ρ k v').symm
end
def mz (pl:Nat→Option (Nat×Nat)):List D→List (Nat×TV)→Option (List D)
 | cs,[]=>some cs
 | cs,(i,d) :: r =>
  match pl i,d.cells with
  | some (off,size),some ds=>bif Nat.beq ds.length size && Nat.ble (off+size) cs.length then mz pl (cs.take off++ds++cs.drop (off+size)) r else none
  | _,_=>none
class SP (P:Program) (t:TypeId) (zs:outParam (List Value)) (pl:outParam (List (Nat×Nat))):Prop where
 z:∃i v,P.info? t=some i∧i.zero=some v∧v.cells=zs.toArray
 p:∃fs,P.underlying t=some (.struct fs)∧∀(w:World),((fs.mapM fun f=>do pure (f.offset,←sizeOf f.type)):Sem (Array (Nat×Nat))).run P w = .ok pl.toArray w
section
variable {P:Program} {o:Oper} {s:Mst}
theorem rJ (off:Nat):∀(vs old pre post:List Value) (k:Nat),pre.length=off+k→old.length=vs.length→(vs.zipIdx k).foldl (fun (l:List Value) (x:Value×Nat)=>l.set (off+x.2) x.1) (pre++old++post)=pre++vs++post
 | [],old,pre,post,k,_,h=>by
  obtain rfl:old=[]:=List.eq_nil_of_length_eq_zero h
  rfl
 | v :: vs,[],pre,post,k,_,h=>by simp at h
 | v :: vs,u :: old,pre,post,k,hp,h=>by
  rw [List.zipIdx_cons,List.foldl_cons]
  have h1:(pre++u :: old++post).set (off+k) v=(pre++[v])++old++post:=by
   rw [←hp,List.append_assoc,List.set_append_right _ _ (Nat.le_refl _),Nat.sub_self]
   simp
  rw [h1,rJ off vs old (pre++[v]) post (k+1) (by simp;omega) (by simpa using h)]
  simp
theorem Cc (vs:List Value) (cs:Array Value) (off:Nat) (h:off+vs.length≤cs.size):(vs.zipIdx.foldl (fun (cs:Array Value) (x:Value×Nat)=>cs.setIfInBounds (off+x.2) x.1) cs).toList=cs.toList.take off++vs++cs.toList.drop (off+vs.length):=by
 have h1:∀(l:List (Value×Nat)) (cs:Array Value),(l.foldl (fun (cs:Array Value) (x:Value×Nat)=>cs.setIfInBounds (off+x.2) x.1) cs).toList=l.foldl (fun (l:List Value) (x:Value×Nat)=>l.set (off+x.2) x.1) cs.toList:=by
  intro l
  induction l with
  | nil=>intro cs;rfl
  | cons x l ih=>intro cs;rw [List.foldl_cons,ih,Array.toList_setIfInBounds,List.foldl_cons]
 rw [h1]
 have h2:cs.toList=cs.toList.take off++(cs.toList.drop off).take vs.length++cs.toList.drop (off+vs.length):=by
  rw [List.append_assoc,←List.drop_drop,List.take_append_drop,List.take_append_drop]
 have hs:cs.toList.length=cs.size:=Array.length_toList
 generalize cs.toList=l at *
 have h3:=rJ off vs ((l.drop off).take vs.length) (l.take off) (l.drop (off+vs.length)) 0 (by rw [List.length_take];omega) (by rw [List.length_take,List.length_drop];omega)
 rw [←h2] at h3
 exact h3
theorem nS {w:World} {F:Nat→Prop} {ρ:Nat→Value} (pl:Nat→Option (Nat×Nat)):∀(ts:List (Nat×TV)) (ps:List (Nat×Value)) (cs ds:List D) (vs:List Value),All2 (fun t p=>t.1=p.1∧t.2.rep w F ρ p.2) ts ps→All2 (D.rep w F ρ) cs vs→mz pl cs ts=some ds→
  (∀t∈ts,∀l,t.2.cells=some l→∀x∈l,∀u,x.rep w F ρ u→u.oneCell'=true)→∃us:List Value,Instr.fill pl vs.toArray ps=some us.toArray∧All2 (D.rep w F ρ) ds us
 | [],[],cs,ds,vs,_,h,e,_=>by simp only [mz,Option.some.injEq] at e;subst e;exact ⟨vs,rfl,h⟩
 | (i,d) :: ts,(j,v) :: ps,cs,ds,vs,hp,h,e,hok=>by
  obtain ⟨⟨rfl,hd⟩,hp⟩:=hp
  simp only [mz] at e
  split at e
  ·rename_i off size l h1 h2
   cases hb:Nat.beq l.length size && Nat.ble (off+size) cs.length with
   | false=>rw [hb] at e;cases e
   | true =>
    rw [hb] at e
    simp only [Bool.and_eq_true] at hb
    have hb1:=Nat.eq_of_beq_eq_true hb.1
    have hb2:=Nat.le_of_ble_eq_true hb.2
    obtain ⟨hc1,hc2⟩:=TV.cells_rep hd h2 (hok (i,d) (by simp) l h2)
    have hl1:=hc1.length
    have hl2:=h.length
    simp only [Array.length_toList] at hl1
    obtain ⟨us,h3,h4⟩:=nS pl ts ps _ ds (vs.take off++v.cells.toList++vs.drop (off+size)) hp (((h.take off).append hc1).append (h.drop (off+size))) e fun t ht=>hok t (by simp [ht])
    refine ⟨us,?_,h4⟩
    simp only [Instr.fill,h1]
    rw [if_neg (by simp;omega),←h3]
    congr 1
    apply Array.toList_inj.1
    have:=Cc v.cells.toList vs.toArray off (by simp;omega)
    simp only [Array.length_toList,←hl1,hb1] at this
    rw [←Array.foldl_toList,Array.toList_zipIdx,this]
  ·cases e
 | [],_ :: _,_,_,_,h,_,_,_=>h.elim
 | _ :: _,[],_,_,_,h,_,_,_=>h.elim
def dE (s:Mst) (ps:Array (Nat×Operand)):List (Nat×TV):=ps.toList.map fun x=>(x.1,s.ev x.2)
theorem pf {c:Ctx} {st:Mst} {ρ:Nat→Value} {a:Act} {w:World} (hr:Rp c st ρ a w) {ps:Array (Nat×Operand)} (h:∀x∈ps.toList,st.ev x.2=s.ev x.2) :
  All2 (fun t p=>t.1=p.1∧t.2.rep w (Fz c st.h ρ w) ρ p.2) (dE s ps) (ps.map fun x=>(x.1,a.eval x.2)).toList:=by
 rw [Array.toList_map]
 unfold dE
 generalize ps.toList=l at *
 induction l with
 | nil=>trivial
 | cons x l ih=>exact ⟨⟨rfl,by have:=hr.ev x.2;rwa [h x (by simp)] at this⟩,ih fun y hy=>h y (by simp [hy])⟩
def cellsOf:List (Nat×TV)→List D
 | []=>[]
 | (_,d) :: r=>(match d.cells with|some l=>l|none=>[])++cellsOf r
theorem qd:∀{ts:List (Nat×TV)} {t:Nat×TV} {l:List D} {x:D},t∈ts→t.2.cells=some l→x∈l→x∈cellsOf ts
 | (i,d) :: ts,t,l,x,ht,hl,hx=>by
  simp only [cellsOf,List.mem_append]
  rcases List.mem_cons.1 ht with rfl|ht
  ·simp only at hl
   rw [hl]
   exact .inl hx
  ·exact .inr (qd ht hl hx)
theorem jf (pl:Nat→Option (Nat×Nat)):∀{ts:List (Nat×TV)} {cs ds:List D} {x:D},mz pl cs ts=some ds→x∈ds→x∈cs∨x∈cellsOf ts
 | [],cs,ds,x,e,hx=>by simp only [mz,Option.some.injEq] at e;subst e;exact .inl hx
 | (i,d) :: ts,cs,ds,x,e,hx=>by
  simp only [mz] at e
  split at e
  ·rename_i off size l h1 h2
   cases hb:Nat.beq l.length size && Nat.ble (off+size) cs.length with
   | false=>rw [hb] at e;cases e
   | true =>
    rw [hb] at e
    simp only [cellsOf,List.mem_append,h2]
    rcases jf pl e hx with h|h
    ·simp only [List.mem_append] at h
     rcases h with (h|h)|h
     ·exact .inl (List.mem_of_mem_take h)
     ·exact .inr (.inl h)
     ·exact .inl (List.mem_of_mem_drop h)
    ·exact .inr (.inr h)
  ·cases e
theorem rK {c:Ctx} {st:Mst} {ρ:Nat→Value} {a:Act} {w:World} (hr:Rp c st ρ a w) {ps:Array (Nat×Operand)} (h:∀x∈ps.toList,st.ev x.2=s.ev x.2) (hok:(cellsOf (dE s ps)).all (okD s.h)=true) (h2:∀k,aG (fT (cellsOf (dE s ps))) k=true→st.h k=s.h k) :
  (∀t∈dE s ps,∀l,t.2.cells=some l→∀x∈l,∀u,x.rep w (Fz c st.h ρ w) ρ u→u.oneCell'=true)∧∀x∈cellsOf (dE s ps),∀k,x.has k=true→st.f k=false:=by
 constructor
 ·intro t ht l hl x hx u hu
  have hm:=qd ht hl hx
  exact hr.okD (gZ (List.all_eq_true.1 hok x hm) fun j hj=>h2 j (by subst hj;exact eW hm)) hu
 ·intro x hx k hk
  unfold dE at hx
  generalize ps.toList=l at *
  induction l with
  | nil=>simp [cellsOf] at hx
  | cons y l ih =>
   simp only [List.map_cons,cellsOf,List.mem_append] at hx
   rcases hx with hx|hx
   ·refine hr.nf (x:=y.2) (h y (by simp)) ?_
    generalize s.ev y.2=d at *
    unfold TV.cells at hx
    cases d with
    | tup m=>simp at hx
    | v d =>
     cases d with
     | one d=>simp at hx;subst hx;exact hk
     | ag m=>simp only [TV.has,V0.has];exact List.any_eq_true.2 ⟨x,hx,hk⟩
   ·exact ih (fun z hz=>h z (by simp [hz])) hx
def L9 (pl:List (Nat×Nat)) (i:Nat):Option (Nat×Nat):=pl[i]?
theorem Cd {t:TypeId} {ps:Array (Nat×Operand)} {zs:List Value} {pl:List (Nat×Nat)} {ds:List D} [I:SP P t zs pl] (ho:o.op = .build t ps) (hok:(cellsOf (dE s ps)).all (okD s.h)=true) (hd:mz (L9 pl) (zs.map D.sc) (dE s ps)=some ds) :
  LOp P o s (fT (cellsOf (dE s ps))) ⟨.v (.ag ds),[],[]⟩ :=
 aZ fun c st ρ a w hr h1 h2=>by
  have he:∀x∈ps.toList,st.ev x.2=s.ev x.2:=fun x hx=>h1 x.2 (by rw [ho];simp only [Op.operands];simpa using ⟨x.1,by simpa using hx⟩)
  obtain ⟨p1,p2⟩:=rK hr he hok h2
  obtain ⟨us,hf,hA⟩:=nS (L9 pl) (dE s ps) _ _ ds zs (pf hr he) (All2.scs zs) hd p1
  obtain ⟨i,v,z1,z2,z3⟩:=I.z
  obtain ⟨fs,q1,q2⟩:=I.p
  refine ⟨.agg us.toArray,?_,⟨us,rfl,hA⟩,fun k hk=>?_⟩
  ·unfold execOp
   rw [ho]
   rw [show L9 pl=fun x=>pl[x]? from rfl,Array.toList_map] at hf
   have hq:=q2 w
   simp [Instr.build,zeroValue,typeInfo,z1,z2,run_underlying q1,z3] at hq ⊢
   simp [hq,hf]
  ·obtain ⟨x,hx,hk⟩:=List.any_eq_true.1 (show ds.any (D.has k)=true from hk)
   rcases jf _ hd hx with h|h
   ·obtain ⟨v,_,rfl⟩:=List.mem_map.1 h
    cases hk
   ·exact p2 x h k hk
theorem DO (zs:List Value) (m:Nat):((Array.range (m*zs.length)).map fun x=>zs.toArray[x % zs.toArray.size]!).toList=(List.replicate m zs).flatten:=by
 rw [Array.toList_map,Array.toList_range]
 induction m with
 | zero=>simp
 | succ m ih =>
  rw [Nat.add_mul,Nat.one_mul,List.range_add,List.map_append,ih,List.replicate_succ',List.flatten_append,List.map_map]
  congr 1
  simp only [List.flatten_cons,List.flatten_nil,List.append_nil]
  apply List.ext_getElem
  ·simp
  ·intro i h1 h2
   simp only [List.getElem_map,List.getElem_range,Function.comp_apply,List.size_toArray]
   rw [Nat.mul_comm m,Nat.mul_add_mod,Nat.mod_eq_of_lt h2]
   simp [h2]
theorem rL {R:D→Value→Prop}:∀{l:List D} {us:List Value},All2 R l us→(∀d∈l,∀u,R d u→u.oneCell'=true)→∀u∈us,u.oneCell'=true
 | [],[],_,_,u,hu=>by cases hu
 | d :: l,v :: us,h,f,u,hu=>by
  rcases List.mem_cons.1 hu with rfl|hu
  ·exact f d (by simp) _ h.1
  ·exact rL h.2 (fun x hx=>f x (by simp [hx])) u hu
 | [],_ :: _,h,_,_,_=>h.elim
 | _ :: _,[],h,_,_,_=>h.elim
theorem rM {t e:TypeId} {n k sz:Nat} {row:Bool} {ps:Array (Nat×Operand)} {zs:List Value} {ds:List D} [I:SE P t e] [J:TI P e row sz] [Z:TZ P e zs] (ho:o.op = .buildSlice t n ps) (hdk:o.dst=some k) (hok:(cellsOf (dE s ps)).all (okD s.h)=true) (hn:n*sz≤4096)
  (hd:mz (fun i=>some (i*sz,sz)) ((List.replicate n zs).flatten.map D.sc) (dE s ps)=some ds):LOp P o s (fT (cellsOf (dE s ps))) ⟨.c (.slb k n),[(k,some (.box e ds))],[k]⟩:=by
 intro c st ρ a w hr h1 h2 h3 h4
 have he:∀x∈ps.toList,st.ev x.2=s.ev x.2:=fun x hx=>h1 x.2 (by rw [ho];simp only [Op.operands];simpa using ⟨x.1,by simpa using hx⟩)
 obtain ⟨p1,p2⟩:=rK hr he hok h2
 obtain ⟨us,hf,hA⟩:=nS _ (dE s ps) _ _ ds _ (pf hr he) (All2.scs (List.replicate n zs).flatten) hd p1
 obtain ⟨i,v,z1,z2,z3⟩:=Z.z
 have hi:i.size=sz:=by have:=J.s;rw [z1] at this;simpa using this
 have hone:∀u∈us,u.oneCell'=true:=rL hA fun d hd1 u hu=>by
  rcases jf _ hd hd1 with h|h
  ·obtain ⟨v,hv,rfl⟩:=List.mem_map.1 h
   obtain ⟨l,hl,hv⟩:=List.mem_flatten.1 hv
   rw [show u=v from hu]
   rw [List.eq_of_mem_replicate hl] at hv
   exact Z.o v hv
  ·exact hr.okD (gZ (List.all_eq_true.1 hok d h) fun j hj=>h2 j (by subst hj;exact eW h)) hu
 obtain ⟨ρ',h⟩:=hr.newBox (k:=k) (t:=e) (cs:=ds) (vs:=us) (d:=.c (.slb k n)) (v:=.slice (some ⟨w.heap.size,0,none⟩) n n) h4 (h3 k (by simp [aG])) hA hone
  (fun k' hh=>by
   obtain ⟨x,hx,hk⟩:=List.any_eq_true.1 hh
   rcases jf _ hd hx with h|h
   ·obtain ⟨v,_,rfl⟩:=List.mem_map.1 h
    cases hk
   ·exact p2 x h k' hk) (fun k' hh=>by simp [TV.has,V0.has,D.has] at hh;exact hh.symm) (fun F ρ' hρ=>⟨_,hρ,rfl⟩)
 refine Oper.wp_value ?_ ⟨ρ',h⟩
 have hzl:zs.length=sz:=by
  have h1:=Z.n
  rw [z1] at h1
  simp only [Option.map_some,Option.some.injEq] at h1
  omega
 have hc:=DO zs n
 have hca:(Array.range (n*sz)).map (fun x=>zs.toArray[x % zs.toArray.size]!)=(List.replicate n zs).flatten.toArray:=by
  apply Array.toList_inj.1
  rw [←hzl,hc]
 unfold execOp
 rw [ho]
 rw [Array.toList_map] at hf
 have hbig:¬(16777216<n*sz):=by omega
 by_cases h0:n*sz=0
 ·have hf0:(List.replicate n zs).flatten=[]:=by
   apply List.eq_nil_of_length_eq_zero
   simp [hzl,h0]
  rw [hf0] at hf
  simp [Instr.buildSlice,run_underlying I.u,sizeOf,typeInfo,z1,hi,h0,newRow]
  rw [show Array.map (fun _=>(default:Value)) (Array.range 0) = #[] by simp,hf]
  simp
 ·simp [Instr.buildSlice,run_underlying I.u,sizeOf,typeInfo,z1,hi,h0,zeroValue,z2,z3,newRow,hbig]
  simp at hca
  rw [hca,hf]
  simp
theorem rN {t e:TypeId} {row:Bool} {n b off len cap lo hi:Nat} [I:SE P t e] [J:TI P e row n] (w:World) (l h m:Option Value) (A:Option Addr) (hA:0<len→A=some ⟨b,off,none⟩)
  (hl:l=some (.int .i64 (lo:Int))∨l=none∧lo=0) (hh:h=some (.int .i64 (hi:Int))∨h=none∧hi=len∧m=none) (hm:m=some (.int .i64 (hi:Int))∨m=none) (h1:lo≤hi) (h2:hi≤len) (h3:len≤cap) (hlo:lo<hi∨True) :
  ∃A',(Instr.sliceAt t (.slice A len cap) l h m).run P w = .ok (.slice A' (hi-lo) ((if m=none then cap else hi)-lo)) w∧(lo<hi→A'=some ⟨b,off+lo*n,none⟩):=by
 obtain ⟨j,hj,hn⟩:∃j,P.info? e=some j∧j.size=n:=by
  have:=J.s
  cases h:P.info? e with
  | none=>simp [h] at this
  | some j=>exact ⟨j,rfl,by simpa [h] using this⟩
 subst hn
 refine ⟨if (if m=none then cap else hi)=lo then A else A.map (·.add (lo*j.size)),?_,fun hlt=>?_⟩
 ·rcases hl with rfl|⟨rfl,rfl⟩ <;> rcases hh with rfl|⟨rfl,rfl,rfl⟩ <;> rcases hm with hm|hm <;> (first|cases hm|subst hm) <;>
   simp [Instr.sliceAt,Instr.slice,Instr.sliceBounds,Instr.sliceBound,asIntOf,run_underlying I.u,sizeOf,typeInfo,hj,h1,h2,h3,Nat.le_trans h2 h3,Nat.le_trans h1 h2]
 ·rw [hA (by omega)]
  have:¬(if m=none then cap else hi)=lo:=by split <;> omega
  rw [if_neg this]
  simp [dQ]
theorem xg {w:World} {F:Nat→Prop} {α:Type} {E:El α} {A A':Option Addr} {l:List α} {lo hi:Nat} (h:RowsAt E w F A l) (hlh:lo≤hi) (hh:hi≤l.length) (hA:lo<hi→∀b off,A=some ⟨b,off,none⟩→A'=some ⟨b,off+lo*E.n,none⟩):RowsAt E w F A' ((l.take hi).drop lo):=by
 by_cases hlt:lo<hi
 ·obtain ⟨xs,h1,h2⟩:=h.take hi
  obtain ⟨b,off,rfl,_,_⟩:=h2 (by simp;omega)
  rw [hA hlt b off rfl]
  exact (h.take hi).drop lo
 ·have:(l.take hi).drop lo=[]:=by
   apply List.eq_nil_of_length_eq_zero
   simp
   omega
  rw [this]
  exact RowsAt.nil _ _ _ _
theorem pg {t e:TypeId} {row:Bool} {n lo hi:Nat} {x:Operand} {l h:Option Operand} {α:Type} {E:El α} {L L':List α} [I:SE P t e] [J:TI P e row n] (ho:o.op = .slice t x l h none) (hx:s.ev x = .c (.sl E L)) (hn:E.n=n)
  (hl:(∃y,l=some y∧s.ev y = .i lo)∨l=none∧lo=0) (hh:(∃y,h=some y∧s.ev y = .i hi)∨h=none∧hi=L.length) (h1:lo≤hi) (h2:hi≤L.length) (hL:(L.take hi).drop lo=L'):LOp P o s [] ⟨.c (.sl E L'),[],[]⟩ :=
 aZ fun c st ρ a w hr hc _=>by
  subst hL
  subst hn
  have he:=hc x (by simp [ho,Op.operands])
  rw [hx] at he
  have hv:=hr.ev x
  rw [he] at hv
  obtain ⟨A,cap,hv,hcap,hR⟩:=hv
  have hl':l.map a.eval=some (.int .i64 (lo:Int))∨l.map a.eval=none∧lo=0:=by
   rcases hl with ⟨y,rfl,hy⟩|⟨rfl,h⟩
   ·have:=hr.ev y
    rw [hc y (by simp [ho,Op.operands]),hy] at this
    exact .inl (congrArg some this)
   ·exact .inr ⟨rfl,h⟩
  have hh':h.map a.eval=some (.int .i64 (hi:Int))∨h.map a.eval=none∧hi=L.length∧(none:Option Value)=none:=by
   rcases hh with ⟨y,rfl,hy⟩|⟨rfl,h⟩
   ·have:=hr.ev y
    rw [hc y (by simp [ho,Op.operands]),hy] at this
    exact .inl (congrArg some this)
   ·exact .inr ⟨rfl,h,rfl⟩
  obtain ⟨b,off,hb⟩:∃b off,0<L.length→A=some ⟨b,off,none⟩:=by
   rcases Nat.eq_zero_or_pos L.length with h0|h0
   ·exact ⟨0,0,fun h=>by omega⟩
   ·obtain ⟨xs,_,h4⟩:=hR
    obtain ⟨b,off,h5,_⟩:=h4 h0
    exact ⟨b,off,fun _=>h5⟩
  obtain ⟨A',hrun,hA'⟩:=rN (P:=P) (t:=t) (b:=b) (off:=off) w (l.map a.eval) (h.map a.eval) none A hb hl' hh' (.inr rfl) h1 h2 hcap.1 (.inr trivial)
  have hlen:((L.take hi).drop lo).length=hi-lo:=by simp;omega
  refine ⟨.slice A' (hi-lo) (cap-lo),?_,⟨A',cap-lo,by rw [hlen],by rw [hlen];have:=hcap.2;omega,xg hR h1 h2 fun hlt b' off' e=>?_⟩,fun k hk=>by simp [TV.has,V0.has,D.has] at hk⟩
  ·unfold execOp
   rw [ho]
   simp only [hv,Option.map_none,Sem.run_bind,hrun,Result.andThen_ok,Sem.run_pure,if_true]
  ·rw [hb (by omega)] at e
   injection e with e
   injection e with e1 e2
   subst e1
   subst e2
   exact hA' hlt
theorem rO {t e:TypeId} {row:Bool} {n lo hi:Nat} {x y z:Operand} {l:Option Operand} {α:Type} {E:El α} {L L':List α} [I:SE P t e] [J:TI P e row n] (ho:o.op = .slice t x l (some y) (some z)) (hx:s.ev x = .c (.sl E L)) (hn:E.n=n)
  (hl:(∃y,l=some y∧s.ev y = .i lo)∨l=none∧lo=0) (hy:s.ev y = .i hi) (hz:s.ev z = .i hi) (h1:lo≤hi) (h2:hi≤L.length) (hL:(L.take hi).drop lo=L'):LOp P o s [] ⟨.c (.full E L'),[],[]⟩ :=
 aZ fun c st ρ a w hr hc _=>by
  subst hL
  subst hn
  have he:=hc x (by simp [ho,Op.operands])
  rw [hx] at he
  have hv:=hr.ev x
  rw [he] at hv
  obtain ⟨A,cap,hv,hcap,hR⟩:=hv
  have hl':l.map a.eval=some (.int .i64 (lo:Int))∨l.map a.eval=none∧lo=0:=by
   rcases hl with ⟨y,rfl,hy⟩|⟨rfl,h⟩
   ·have:=hr.ev y
    rw [hc y (by simp [ho,Op.operands]),hy] at this
    exact .inl (congrArg some this)
   ·exact .inr ⟨rfl,h⟩
  have hy':a.eval y = .int .i64 (hi:Int):=by have:=hr.ev y;rwa [hc y (by simp [ho,Op.operands]),hy] at this
  have hz':a.eval z = .int .i64 (hi:Int):=by have:=hr.ev z;rwa [hc z (by simp [ho,Op.operands]),hz] at this
  obtain ⟨b,off,hb⟩:∃b off,0<L.length→A=some ⟨b,off,none⟩:=by
   rcases Nat.eq_zero_or_pos L.length with h0|h0
   ·exact ⟨0,0,fun h=>by omega⟩
   ·obtain ⟨xs,_,h4⟩:=hR
    obtain ⟨b,off,h5,_⟩:=h4 h0
    exact ⟨b,off,fun _=>h5⟩
  obtain ⟨A',hrun,hA'⟩:=rN (P:=P) (t:=t) (b:=b) (off:=off) w (l.map a.eval) (some (.int .i64 (hi:Int))) (some (.int .i64 (hi:Int))) A hb hl' (.inl rfl) (.inl rfl) h1 h2 hcap.1 (.inr trivial)
  have hlen:((L.take hi).drop lo).length=hi-lo:=by simp;omega
  refine ⟨.slice A' (hi-lo) (hi-lo),?_,⟨A',by rw [hlen],by rw [hlen];have:=hcap.2;omega,xg hR h1 h2 fun hlt b' off' e=>?_⟩,fun k hk=>by simp [TV.has,V0.has,D.has] at hk⟩
  ·unfold execOp
   rw [ho]
   simp only [hv,Option.map_some,hy',hz',Sem.run_bind,hrun,Result.andThen_ok,Sem.run_pure]
   rfl
  ·rw [hb (by omega)] at e
   injection e with e
   injection e with e1 e2
   subst e1
   subst e2
   exact hA' hlt
end
section
variable {P:Program} {o:Oper} {s:Mst}
theorem Ce {x:Operand} {k off:Nat} (ho:o.op = .nilCheck x) (hx:s.ev x = .c (.ptr k off)):LOp P o s [] ⟨.c (.ptr k off),[],[]⟩ :=
 aZ fun c st ρ a w hr h1 _=>by
  have he:=h1 x (by simp [ho,Op.operands])
  rw [hx] at he
  have hv:=hr.ev x
  rw [he] at hv
  obtain ⟨g,hg,hv⟩:=hv
  exact ⟨_,by unfold execOp;rw [ho];simp only [hv];rfl,⟨g,hg,rfl⟩,fun k' hk=>hr.nf (x:=x) he hk⟩
theorem lQ {w:World} {e:TypeId} {n g len cap:Nat} {xs:List Value} (h:w.ownsRow 0 e n (.slice (some ⟨g,0,none⟩) len cap) len xs) {j:Nat} (hj:j<xs.length):(w.cell? ⟨g,j,none⟩).isSome=true∧w.frozen? ⟨g,j,none⟩=false:=by
 rcases h.2 with ⟨hv,_⟩|⟨g',cap',cur,hv,_,hh,hnc,hcm,hcs,ht⟩
 ·cases hv
 ·injection hv with e1 _ e2
  injection e1 with e1
  injection e1 with e1
  subst e1
  subst e2
  have hl:j<cur.size:=by
   have:=congrArg List.length ht
   simp only [List.length_take,Array.length_toList] at this
   omega
  rw [cell_of_row w g j cur e (0,0) hh]
  exact ⟨by simp [hl],by simp [World.frozen?,hh]⟩
theorem aL {t e:TypeId} {x y:Operand} {row:Bool} {n m i k off:Nat} {α:Type} {E:El α} {l l':List α} {u z:α} {ds:List D} [I:TI P t row n] [J:Dp E] (ho:o.op = .store t x y) (hx:s.ev x = .c (.optr k m i off)) (hk:s.h k=some (.arr e E l)) (hm:E.n=m) (hu:l[i]? = some u)
  (hd:(s.ev y).cells=some ds) (hok:ds.all (okD s.h)=true) (hno:fT ds=[]) (hn:ds.length=n) (hl:off+n≤m) (hz:(J.deep u).take off++ds++(J.deep u).drop (off+n)=J.deep z) (hl':l.set i z=l'):LOp P o s [k] ⟨.c .any,[(k,some (.arr e E l'))],[]⟩:=by
 intro c st ρ a w hr h1 h2 _ h4
 subst hl'
 subst hm
 have he:=h1 x (by simp [ho,Op.operands])
 have he2:=h1 y (by simp [ho,Op.operands])
 rw [hx] at he
 rw [←he2] at hd
 have hv:=hr.ev x
 rw [he] at hv
 obtain ⟨g,len,cap,hg,hv⟩:=hv
 have hk':=(h2 k (by simp [aG])).trans hk
 have hil:i<l.length:=(List.getElem?_eq_some_iff.1 hu).1
 have hui:l[i]=u:=by rw [List.getElem?_eq_getElem hil] at hu;exact Option.some.inj hu
 obtain ⟨xs,hown,hreps⟩:=hr.hp k _ hk'
 have hown0:=hown
 rw [hg] at hown
 obtain rfl:len=l.length:=by
  rcases hown.2 with ⟨hv,_⟩|⟨g',cap',cur,hv,_⟩
  ·cases hv
  ·injection hv
 obtain ⟨hc1,hc2⟩:=TV.cells_rep (hr.ev y) hd fun q hq u hu=>hr.okD (gZ (List.all_eq_true.1 hok q hq) fun j hj=>by have:=eW (hj▸hq);rw [hno] at this;simp [aG] at this) hu
 generalize hvs:(a.eval y).cells.toList=vs at *
 have hsz:vs.length=n:=by rw [←hc1.length,hn]
 have hxl:=hown.1
 have hin:i*E.n+E.n≤l.length*E.n:=by have:=Nat.mul_le_mul_right E.n (show i+1≤l.length from hil);rwa [Nat.add_mul,Nat.one_mul] at this
 have hst:=run_storeCells_cells (P:=P) g (i*E.n+off) vs 0 w (fun j hj=>by have:=(lQ hown (j:=i*E.n+off+j) (by omega)).1;simpa using this) (fun j hj=>by have:=(lQ hown (j:=i*E.n+off+j) (by omega)).2;simpa using this) hc2
 simp only [Nat.add_zero] at hst
 obtain ⟨cs,hcs1,hcs2⟩:=hreps.get i hil
 have hcl:=E.len hcs1
 rw [hui] at hcs1
 have hcs:cs=(xs.drop (i*E.n)).take E.n:=by
  apply List.ext_getElem?
  intro j
  rw [List.getElem?_take]
  by_cases hj:j<E.n
  ·rw [if_pos hj,List.getElem?_drop,hcs2 j hj]
  ·rw [if_neg hj,List.getElem?_eq_none (by omega)]
 have hz':E.rep w (Fz c st.h ρ w) z (cs.take off++vs++cs.drop (off+n)):=J.put (ρ:=ρ) (by rw [←hz];exact (((J.get hcs1).take off).append hc1).append ((J.get hcs1).drop (off+n)))
 have hrow:=jv vs (i*E.n+off) w xs hown (by omega)
 rw [rG (n:=E.n) (by omega) hcs (by omega),hsz] at hrow
 have hkb:kb (ρ k)=some g:=by rw [hg];rfl
 have hsize:=dO (g:=g) vs (i*E.n+off) w
 have hoth:∀b,b≠g→(w.setCells g (i*E.n+off) vs).heap[b]? = w.heap[b]?:=fun b hb=>dX vs _ w b hb
 have hbel:=dY (B:=0) (w:=w) (Nat.zero_le g) vs (i*E.n+off) w (Below.refl _ _)
 have hkk:∀k':Nat,aB [(k,some (Box.arr e E (l.set i z)))] k'=true→k'=k:=fun k' h=>by
  simp only [aB,Bool.or_false] at h
  exact (Nat.eq_of_beq_eq_true h).symm
 have hfz:∀b,Fz c st.h ρ w b→Fz c (hput [(k,some (Box.arr e E (l.set i z)))] st.h) ρ (w.setCells g (i*E.n+off) vs) b∧(w.setCells g (i*E.n+off) vs).heap[b]? = w.heap[b]?:=fun b ⟨f1,f2,f3⟩=>by
  have hbg:b≠g:=fun e=>f3 k _ hk' (by rw [hkb,e])
  refine ⟨⟨f1,by rw [hsize];exact f2,fun k' bx hk2=>?_⟩,hoth b hbg⟩
  simp only [hput] at hk2
  cases h9:k.beq k' with
  | true=>rw [←Nat.eq_of_beq_eq_true h9,hkb];intro e;injection e with e;exact hbg e.symm
  | false=>rw [h9] at hk2;exact f3 k' bx hk2
 refine Oper.wp_skip (w':=w.setCells g (i*E.n+off) vs) ?_ ⟨ρ,hr.app (e:=⟨.c .any,[(k,some (.arr e E (l.set i z)))],[]⟩) h4 (fun k h=>by simp [aG] at h) (fun _ _=>rfl) (fun k' h=>.inr (by rw [hkk k' h];exact hr.nfh hk')) ⟨hbel.os,hbel.tape,hbel.output,hbel.size,fun b hlt hn=>hoth b fun e=>hn ⟨k,_,by simp [aB],hk',by rw [hkb,e]⟩⟩ ?_ ?_ (fun k h=>by simp [TV.has,V0.has,D.has] at h) ?_ ?_ trivial⟩
 ·unfold execOp
  rw [ho]
  have hi:=I.s
  cases hq:P.info? t with
  | none=>simp [hq] at hi
  | some ti =>
   have hs:(a.eval y).cells.size=ti.size:=by
    simp [hq] at hi
    rw [←Array.length_toList,hvs]
    omega
   simp only [hv,Instr.storeAt,Instr.sureAddr,Sem.run_bind,Sem.run_pure,Result.andThen_ok]
   have h3:(storeVar t ⟨g,i*E.n+off,none⟩ (a.eval y)).run P w = .ok () (w.setCells g (i*E.n+off) vs):=by
    simp [storeVar,sizeOf,typeInfo,hq,hs,hvs,hst]
   rw [h3]
   rfl
 ·intro k' bx g' h _ hg'
  rw [hkk k' h,hkb] at hg'
  injection hg' with hg'
  subst hg'
  exact ⟨by rw [hsize];exact hr.ltb hk' hkb,.inr ⟨k,_,by simp [aB],hk',hkb⟩⟩
 ·intro k1 k2 _ _ _ h h' _ _ _ _
  rw [hkk k1 h,hkk k2 h']
 ·intro k1 k2 bx h hp hx
  rw [hkk k2 h] at hp
  simp only [hput,Nat.beq_refl,cond_true,Option.some.injEq] at hp
  subst hp
  simp [Box.has] at hx
 ·intro k2 bx h hp
  rw [hkk k2 h] at hp ⊢
  simp only [hput,Nat.beq_refl,cond_true,Option.some.injEq] at hp
  subst hp
  refine ⟨_,by rw [List.length_set,hg];exact hrow,?_⟩
  exact (Reps.set hreps hz' hil).same (fun b hb=>(hfz b hb).2) fun b hb=>(hfz b hb).1
end
section
variable {P:Program} {nt:Nat} {Ks:List Nat} {Q:Exit→Mst→Prop} {s:Mst} {K:Mst→Prop} {ops:Array Oper}
def DA (P:Program) (ops:Array Oper) (draw:Bool) (l:List Oper) (acc:List (List Nat×List Nat)) (s:Mst) (K:Mst→Prop):Prop :=
 ∃fps,DW P ops l fps s K∧(draw=true→nK ops (acc.reverse++fps) ops.size 0 (Array.replicate ops.size false)=true)
theorem Jr {acc:List (List Nat×List Nat)} (h:K s):DA P ops false [] acc s K:=⟨[],h,fun h=>by cases h⟩
theorem GF {acc:List (List Nat×List Nat)} (hB:nK ops acc.reverse ops.size 0 (Array.replicate ops.size false)=true) (h:K s):DA P ops true [] acc s K:=⟨[],h,fun _=>by simpa using hB⟩
theorem DP {draw:Bool} {o:Oper} {l:List Oper} {acc:List (List Nat×List Nat)} {R:List Nat} {e:Mef} (he:LOp P o s R e) (hg:s.gd ops o=some true) (hf:e.us.all s.f=true) (h:DA P ops draw l ((R,ar e.hs) :: acc) (s.app o.dst e) K):DA P ops draw (o :: l) acc s K:=by
 obtain ⟨fps,h1,h2⟩:=h
 refine ⟨(R,ar e.hs) :: fps,⟨R,ar e.hs,fps,rfl,true,hg,fun _=>⟨e,⟨he,fun k hk=>by rw [←jb];exact hk,fun k hk=>jB hf k hk⟩,h1⟩,fun h=>by cases h⟩,fun hd=>by simpa using h2 hd⟩
theorem aJ {P:Prop} (h:P:=by (try simp only [List.length_cons,List.length_nil,List.length_append,List.length_take,List.length_drop,List.length_map,maxLen]);omega):P:=h
theorem bc {draw:Bool} {o:Oper} {l:List Oper} {acc:List (List Nat×List Nat)} {R us:List Nat} {t:Nat} {d:TV} {hs:List (Nat×Option Box)} (he:LOp P o s R ⟨d,hs,us⟩) (hd:o.dst=some t) (hg:s.gd ops o=some true) (hf:us.all s.f=true) (h:DA P ops draw l ((R,ar hs) :: acc) (s.app (some t) ⟨d,hs,us⟩) K):DA P ops draw (o :: l) acc s K :=
 DP he hg hf (by rw [hd];exact h)
theorem bW {draw:Bool} {o:Oper} {l:List Oper} {acc:List (List Nat×List Nat)} {R us:List Nat} {d:TV} {hs:List (Nat×Option Box)} (he:LOp P o s R ⟨d,hs,us⟩) (hd:o.dst=none) (hg:s.gd ops o=some true) (hf:us.all s.f=true) (h:DA P ops draw l ((R,ar hs) :: acc) (s.app none ⟨d,hs,us⟩) K):DA P ops draw (o :: l) acc s K :=
 DP he hg hf (by rw [hd];exact h)
theorem GG {draw:Bool} {o:Oper} {l:List Oper} {acc:List (List Nat×List Nat)} {t:Nat} (hd:o.dst=some t) (hg:s.gd ops o=some false) (h:DA P ops draw l (([],[]) :: acc) (s.app (some t) ⟨.c (.sc undef),[],[]⟩) K):DA P ops draw (o :: l) acc s K:=by
 obtain ⟨fps,h3,h4⟩:=h
 exact ⟨([],[]) :: fps,⟨[],[],fps,rfl,false,hg,fun h=>(by cases h),fun _=>by rw [hd];exact h3⟩,fun hd=>by simpa using h4 hd⟩
theorem KD {id:Nat} {l:List Oper} (hnt:fx nt l=true) (h:DA P l.toArray false l [] s fun s'=>Q .normal s'):AW P nt Ks (.region id l.toArray false) Q s:=by
 obtain ⟨fps,h1,_⟩:=h
 exact BY hnt h1
theorem Iz {id:Nat} {l:List Oper} (hm:P.follows .mixedOrders=true) (hnt:fx nt l=true) (h:DA P l.toArray true l [] s fun s'=>Q .normal s'):AW P nt Ks (.region id l.toArray true) Q s:=by
 obtain ⟨fps,h1,h2⟩:=h
 exact rA hm hnt h1 (by simpa using h2 rfl)
theorem KE {id:Nat} {l:List Oper} {y:Code} (hnt:fx nt l=true) (h:DA P l.toArray false l [] s fun s'=>AW P nt Ks y Q s'):AW P nt Ks (.seq (.region id l.toArray false) y) Q s:=vj (KD hnt h)
theorem Js {id:Nat} {l:List Oper} {y:Code} (hm:P.follows .mixedOrders=true) (hnt:fx nt l=true) (h:DA P l.toArray true l [] s fun s'=>AW P nt Ks y Q s'):AW P nt Ks (.seq (.region id l.toArray true) y) Q s:=vj (Iz hm hnt h)
theorem Ma {i:Nat} (h:Q .normal s):fB i Q (.exit i) s:=by simpa [fB] using h
theorem Mb {i j:Nat} (hj:j.beq i=false) (h:Q (.exit j) s):fB i Q (.exit j) s:=by simpa [fB,hj] using h
theorem Mc {fn:Func} {t:Nat} {x:V0} {res:TV} {e:Exit} (he:e = .normal∨e = .ret) (hr:fn.results.toList=[.tmp t]) (hx:s.t t = .v x) (h:TVLe s (qf []) (fun j=>∀k:Nat,hput [] (fun _=>none) k≠none→qf [] k≠j) (.v x) res):qa P fn [] res [] e s :=
 rF he [x] (qf []) (by rw [hr];exact ⟨.tmp hx,trivial⟩) rfl rfl trivial h
theorem Jt {fn:Func} {hin:List (Nat×Box)} {r1:ResultVar} {x1:V0} {res:TV} {hout:List (Nat×Option Box)} {e:Exit} (q:Nat→Nat) (he:e = .normal∨e = .ret) (hr:fn.results.toList=[r1]) (h1:RV P s r1 x1) (hq:(ar hin).all (fun k=>(q k).beq k)=true) (hn:eX ((ar (hout.filter fun x=>x.2.isSome)).map q)=true) (hh:qP s q (fun j=>∀k,hput hout (fun _=>none) k≠none→q k≠j) hout)
  (h:TVLe s q (fun j=>∀k,hput hout (fun _=>none) k≠none→q k≠j) (.v x1) res):qa P fn hin res hout e s:=rF he [x1] q (by rw [hr];exact ⟨h1,trivial⟩) hq hn hh h
theorem Ju {fn:Func} {hin:List (Nat×Box)} {r1 r2:ResultVar} {x1 x2:V0} {res:TV} {hout:List (Nat×Option Box)} {e:Exit} (q:Nat→Nat) (he:e = .normal∨e = .ret) (hr:fn.results.toList=[r1,r2]) (h1:RV P s r1 x1) (h2:RV P s r2 x2) (hq:(ar hin).all (fun k=>(q k).beq k)=true) (hn:eX ((ar (hout.filter fun x=>x.2.isSome)).map q)=true) (hh:qP s q (fun j=>∀k,hput hout (fun _=>none) k≠none→q k≠j) hout)
  (h:TVLe s q (fun j=>∀k,hput hout (fun _=>none) k≠none→q k≠j) (.tup [x1,x2]) res):qa P fn hin res hout e s:=rF he [x1,x2] q (by rw [hr];exact ⟨h1,h2,trivial⟩) hq hn hh h
theorem Jv {fn:Func} {hin:List (Nat×Box)} {r1 r2 r3:ResultVar} {x1 x2 x3:V0} {res:TV} {hout:List (Nat×Option Box)} {e:Exit} (q:Nat→Nat) (he:e = .normal∨e = .ret) (hr:fn.results.toList=[r1,r2,r3]) (h1:RV P s r1 x1) (h2:RV P s r2 x2) (h3:RV P s r3 x3) (hq:(ar hin).all (fun k=>(q k).beq k)=true) (hn:eX ((ar (hout.filter fun x=>x.2.isSome)).map q)=true) (hh:qP s q (fun j=>∀k,hput hout (fun _=>none) k≠none→q k≠j) hout)
  (h:TVLe s q (fun j=>∀k,hput hout (fun _=>none) k≠none→q k≠j) (.tup [x1,x2,x3]) res):qa P fn hin res hout e s:=rF he [x1,x2,x3] q (by rw [hr];exact ⟨h1,h2,h3,trivial⟩) hq hn hh h
theorem Jw {fn:Func} {hin:List (Nat×Box)} {hout:List (Nat×Option Box)} {e:Exit} (q:Nat→Nat) (he:e = .normal∨e = .ret) (hr:fn.results.toList=[]) (hq:(ar hin).all (fun k=>(q k).beq k)=true) (hn:eX ((ar (hout.filter fun x=>x.2.isSome)).map q)=true) (hh:qP s q (fun j=>∀k,hput hout (fun _=>none) k≠none→q k≠j) hout):qa P fn hin (.tup []) hout e s:=rF he [] q (by rw [hr];trivial) hq hn hh (.tup trivial)
theorem zy {fn:Func} {t:Nat} {v v':Value} {e:Exit} (he:e = .normal∨e = .ret) (hr:fn.results.toList=[.tmp t]) (hx:s.t t = .c (.sc v)) (h:v=v'):qa P fn [] (.c (.sc v')) [] e s :=
 Mc he hr hx (by subst h;exact .v (.one (.ren (.sc v))))
theorem Jy {q:Nat→Nat} {g:Nat→Prop}:∀(l:List D),All2 (DLe s q g) (l.map (D.ren q)) l
 | []=>trivial
 | d :: l=>⟨.ren d,Jy l⟩
theorem IA {q:Nat→Nat} {g:Nat→Prop} (d:V0):V0Le s q g (d.ren q) d:=by
 cases d with
 | one d=>exact .one (.ren d)
 | ag l=>exact .ag (Jy l)
theorem KF {q:Nat→Nat} {g:Nat→Prop} (d:TV):TVLe s q g (d.ren q) d:=by
 cases d with
 | v d=>exact .v (IA d)
 | tup l =>
  refine .tup ?_
  induction l with
  | nil=>trivial
  | cons d l ih=>exact ⟨IA d,ih⟩
theorem Jz {q:Nat→Nat} {g:Nat→Prop} (b:Box):BoxLe s q g (b.ren q) b:=by
 cases b with
 | box t l=>exact .box t (Jy l)
 | arr e E l=>exact .arr e E l
 | mp l=>exact .mp l
 | it k n l=>exact .it k n l
theorem eJ {q:Nat→Nat} {g:Nat→Prop} {d0 d:D} (h:d0=d.ren q):DLe s q g d0 d:=h▸.ren d
theorem eL {hout:List (Nat×Option Box)} {q:Nat→Nat} {j:Nat} (h:aG ((ar (hout.filter fun x=>x.2.isSome)).map q) j=false):∀k,hput hout (fun _=>none) k≠none→q k≠j:=fun k hk e=>by
 cases h9:hput hout (fun _=>none) k with
 | none=>exact hk h9
 | some b =>
  have:aG ((ar (hout.filter fun x=>x.2.isSome)).map q) j=true:=by rw [bD,←e];exact List.mem_map.2 ⟨k,bD.1 (by rw [bD];exact List.mem_map.2 ⟨(k,some b),List.mem_filter.2 ⟨nO h9,rfl⟩,rfl⟩),rfl⟩
  rw [this] at h
  cases h
theorem gw {q:Nat→Nat} {g:Nat→Prop} {b0 b:Box} (h:b0=b.ren q):BoxLe s q g b0 b:=h▸Jz b
theorem jD {q:Nat→Nat} {g:Nat→Prop} {d0 d:TV} (h:d0=d.ren q):TVLe s q g d0 d:=h▸KF d
theorem DQ {w:World} {F:Nat→Prop} {ρ:Nat→Value} {d:D} {v:Value} (h:d.rep w F ρ v) {α:Type} {E:El α} {l:List α} (hd:d = .sl E l):l.length≤9223372036854775807:=by
 subst hd
 obtain ⟨A,cap,_,h1,_⟩:=h
 have:=h1.2
 simp only [maxLen] at this
 omega
theorem gc {c:Ctx} {ρ:Nat→Value} {a:Act} {w:World} (hr:Rp c s ρ a w) {t:Nat} {α:Type} {E:El α} {l:List α} (h:s.t t = .c (.sl E l)):l.length≤9223372036854775807:=by
 have h1:=hr.tmp t
 rw [h] at h1
 have h1:(D.sl E l).rep w (Fz c s.h ρ w) ρ (a.tmps.getD t undef):=h1
 exact DQ h1 rfl
theorem lR {c:Ctx} {ρ:Nat→Value} {a:Act} {w:World} (hr:Rp c s ρ a w) {t i:Nat} {cs:List D} {α:Type} {E:El α} {l:List α} (h:s.t t = .v (.ag cs)) (hi:cs[i]? = some (.sl E l)):l.length≤9223372036854775807:=by
 have:=hr.tmp t
 rw [h] at this
 obtain ⟨vs,_,h2⟩:=this
 obtain ⟨v,_,h3⟩:=h2.get hi
 exact DQ h3 rfl
end
section
variable {P:Program}
def MO (P:Program) (t:TypeId):Option (Bool×Nat) :=
 match P.underlying t,P.info? t with
 | some d,some i=>some ((match d with | .struct _ | .array _ _=>true|_=>false),i.size)
 | _,_=>none
theorem TI.of {t n:Nat} {row:Bool} (h:MO P t=some (row,n)):TI P t row n:=by
 unfold MO at h
 split at h
 ·rename_i d i h1 h2
  injection h with h
  injection h with e1 e2
  exact ⟨⟨d,h1,e1⟩,by rw [h2];simp [e2]⟩
 ·cases h
def MP (P:Program) (t:TypeId) (f:Nat):Option (Nat×Nat×Bool) :=
 match P.underlying t with
 | some (.struct fs)=>match fs[f]? with
  | some x=>match P.info? x.type with
   | some i=>some (x.offset,x.type,Nat.beq i.size 0)
   | none=>none
  | none=>none
 | _=>none
theorem FO.of {t f off ft:Nat} (h:MP P t f=some (off,ft,false)):FO P t f off ft:=by
 unfold MP at h
 split at h
 ·rename_i fs h1
  split at h
  ·rename_i x h2
   split at h
   ·rename_i i h3
    injection h with h
    injection h with e1 h
    injection h with e2 e3
    subst e1
    subst e2
    refine ⟨⟨fs,x,i,h1,h2,rfl,rfl,h3,fun e=>?_⟩⟩
    rw [e] at e3
    cases e3
   ·cases h
  ·cases h
 ·cases h
def L3 (P:Program) (t:TypeId):Option (List Value×Nat) :=
 match P.info? t with
 | some i=>match i.zero with
  | some v=>some (v.cells.toList,i.size)
  | none=>none
 | none=>none
theorem TZ.of {t:Nat} {zs:List Value} (h:L3 P t=some (zs,zs.length)) (ho:zs.all (·.oneCell')=true):TZ P t zs:=by
 unfold L3 at h
 split at h
 ·rename_i i h1
  split at h
  ·rename_i v h2
   injection h with h
   injection h with e1 e2
   exact ⟨⟨i,v,h1,h2,by rw [←e1]⟩,fun u hu=>List.all_eq_true.1 ho u hu,by rw [h1];simp [e2]⟩
  ·cases h
 ·cases h
def MQ (P:Program) (t:TypeId):Option (List (Nat×Option Nat)) :=
 match P.underlying t with
 | some (.struct fs)=>some (fs.toList.map fun f=>(f.offset,(P.info? f.type).map (·.size)))
 | _=>none
theorem SP.of {t:Nat} {zs:List Value} {pl:List (Nat×Nat)} (hz:L3 P t=some (zs,zs.length)) (h:MQ P t=some (pl.map fun x=>(x.1,some x.2))):SP P t zs pl:=by
 unfold L3 at hz
 split at hz
 ·rename_i i h1
  split at hz
  ·rename_i v h2
   injection hz with hz
   injection hz with e1 e2
   refine ⟨⟨i,v,h1,h2,by rw [←e1]⟩,?_⟩
   unfold MQ at h
   split at h
   ·rename_i fs h3
    have h:=Option.some.inj h
    refine ⟨fs,h3,fun w=>?_⟩
    rw [Array.mapM_eq_mapM_toList,map_eq_pure_bind]
    have key:∀(l:List Field) (pl:List (Nat×Nat)),l.map (fun f=>(f.offset,(P.info? f.type).map (·.size)))=pl.map (fun x=>(x.1,some x.2))→((l.mapM fun f=>do pure (f.offset,←sizeOf f.type)):Sem (List (Nat×Nat))).run P w = .ok pl w:=by
     intro l
     induction l with
     | nil=>intro pl h;cases pl with
      | nil=>rfl
      | cons=>simp at h
     | cons f l ih =>
      intro pl h
      cases pl with
      | nil=>simp at h
      | cons x pl =>
       simp only [List.map_cons,List.cons.injEq,Prod.mk.injEq] at h
       obtain ⟨⟨e3,e4⟩,e5⟩:=h
       cases hq:P.info? f.type with
       | none=>rw [hq] at e4;cases e4
       | some j =>
        rw [hq] at e4
        simp only [Option.map_some,Option.some.injEq] at e4
        have:=ih pl e5
        simp [List.mapM_cons,sizeOf,typeInfo,hq,e4,e3] at this ⊢
        simp [this]
    simp only [Sem.run_bind,key _ _ h,Result.andThen_ok,Sem.run_pure]
   ·cases h
  ·cases hz
 ·cases hz
theorem ST.of {α:Type} {E:El α} {t e by_ n:Nat} {z:Value} (hu:P.underlying t=some (.slice e)) (hi:(P.info? e).map (fun i=>(i.zero,i.size,i.bytes))=some (some z,n,by_)) (hn:n=E.n) (hz:z.cells.size=n):ST P E t e by_:=⟨ElTB.mk' hu z n by_ hi hn hz⟩
theorem GH {o:Oper} {s:Mst} {t:TypeId} {k:Nat} {x:Operand} {ds:List D} (ho:o.op = .box t x) (hdk:o.dst=some k) (hd:(s.ev x).cells=some ds) (hok:ds.all (okD s.h)=true):LOp P o s (fT ds) ⟨.c (.ptr k 0),[(k,some (.box t ds))],[k]⟩:=by
 intro c st ρ a w hr h1 h2 h3 h4
 have he:=h1 x (by simp [ho,Op.operands])
 rw [←he] at hd
 obtain ⟨hc1,hc2⟩:=TV.cells_rep (hr.ev x) hd fun z hz u hu=>hr.okD (gZ (List.all_eq_true.1 hok z hz) fun j hj=>h2 j (by subst hj;exact eW hz)) hu
 obtain ⟨ρ',h⟩:=hr.newBox (k:=k) (t:=t) (cs:=ds) (vs:=(a.eval x).cells.toList) (d:=.c (.ptr k 0)) (v:=.pointer (some ⟨w.heap.size,0,none⟩)) h4 (h3 k (by simp [aG])) hc1 hc2
  (fun k' hh=>by
   obtain ⟨z,hz,hk⟩:=List.any_eq_true.1 hh
   refine hr.nf (x:=x) rfl ?_
   generalize st.ev x=q at *
   unfold TV.cells at hd
   split at hd
   ·injection hd with hd;subst hd;simp at hz;subst hz;exact hk
   ·injection hd with hd;subst hd;simp only [TV.has,V0.has];exact List.any_eq_true.2 ⟨z,hz,hk⟩
   ·cases hd) (fun k' hh=>by simp [TV.has,V0.has,D.has] at hh;exact hh.symm) (fun F ρ' hρ=>⟨_,hρ,rfl⟩)
 exact Oper.wp_value (by unfold execOp;rw [ho];simp [Instr.box,newVar,newRow,run_newObj_alloc]) ⟨ρ',h⟩
end
end Go.Proofs.YtdaajdflefnjfaaGreat
