/- Part K03 of a proof of statements of chapter 15 (no condition). -/
import Derived.Test.YtkkbopkbjacfmaaGreatDoorK01
import Derived.Handy
import Derived.Lib.SlicesCompact
import Derived.Sort.LotA
import Derived.Shelf.SlSortCmp.NoneTotal
import Derived.Shelf.RegionOpenPlain
import Derived.Lib.SliceRun
import Derived.Ground.SlsfProg
import Derived.Shelf.SlGeneric
import Derived.Shelf.SlLaysF0
import Derived.Laws.BitsAllLaws
import Derived.LoopN
set_option linter.unusedVariables false
set_option linter.unusedSimpArgs false
set_option maxRecDepth 100000
set_option maxHeartbeats 64000000
namespace Go.Proofs.YtkkbopkbjacfmaaGreatDoor
open Go.RowKit Go.Proofs.Tryz
theorem nU (a b:Int):(a<b/\oL a b = -1)\/(a=b/\oL a b=0)\/(b<a/\oL a b=1):=by
 unfold oL;split
 ·exact Or.inl ⟨by assumption,rfl⟩
 ·split
  ·exact Or.inr (Or.inr ⟨by assumption,rfl⟩)
  ·exact Or.inr (Or.inl ⟨by omega,rfl⟩)
def fS (p q:Pr):Prop:=p.site<q.site\/p.site=q.site/\(p.inc<q.inc\/p.inc=q.inc/\p.num<q.num)
theorem dg (p q:Pr):(fS p q/\bH p q = -1)\/(p=q/\bH p q=0)\/(fS q p/\bH p q=1):=by
 unfold bH fS;rcases nU p.site q.site with ⟨h,e⟩|⟨h,e⟩|⟨h,e⟩ <;> rw [e]
 ·exact Or.inl ⟨Or.inl h,rfl⟩
 ·rw [if_neg (by decide)];rcases nU p.inc q.inc with ⟨h2,e⟩|⟨h2,e⟩|⟨h2,e⟩ <;> rw [e]
  ·exact Or.inl ⟨Or.inr ⟨h,Or.inl h2⟩,rfl⟩
  ·rw [if_neg (by decide)];rcases nU p.num q.num with ⟨h3,e⟩|⟨h3,e⟩|⟨h3,e⟩ <;> rw [e]
   ·exact Or.inl ⟨Or.inr ⟨h,Or.inr ⟨h2,h3⟩⟩,rfl⟩
   ·refine Or.inr (Or.inl ⟨?_,rfl⟩);cases p;cases q
    simp_all
   ·exact Or.inr (Or.inr ⟨Or.inr ⟨h.symm,Or.inr ⟨h2.symm,h3⟩⟩,rfl⟩)
  ·exact Or.inr (Or.inr ⟨Or.inr ⟨h.symm,Or.inl h2⟩,rfl⟩)
 ·exact Or.inr (Or.inr ⟨Or.inl h,rfl⟩)
theorem bz (p:Pr):¬fS p p:=by
 unfold fS;omega
theorem cq {p q r:Pr} (h1:fS p q) (h2:fS q r):fS p r:=by
 unfold fS at *
 omega
theorem mF {p q:Pr} (h1:fS p q):¬fS q p:=fun h2=>bz p (cq h1 h2)
theorem xe (p q:Pr):bH p q=0↔p=q:=by
 rcases dg p q with ⟨h,e⟩|⟨h,e⟩|⟨h,e⟩ <;> rw [e]
 ·exact ⟨fun c=>absurd c (by decide),fun c=>absurd h (by rw [c];exact bz _)⟩
 ·exact ⟨fun _=>h,fun _=>rfl⟩
 ·exact ⟨fun c=>absurd c (by decide),fun c=>absurd h (by rw [c];exact bz _)⟩
def Pr.cells (p:Pr):List Value:=[.int .i64 p.site,.int .i64 p.inc,.int .i64 p.num]
def eh:El Pr:=El.plain 3 (by decide) Pr.cells (fun _=>rfl) (by intro x u hu;simp [Pr.cells] at hu;rcases hu with rfl|rfl|rfl <;> rfl)
theorem lO {w:World} {S:Nat->Prop} {A:Option Addr} {l:List Pr} {i:Nat} {a b c:Int} (h:RowsAt eh w S A l) (hi:i<l.length) (hx:l[i]=⟨a,b,c⟩) :
  ∃k off,A=some ⟨k,off,none⟩/\S k/\w.cell? ⟨k,off+i*3,none⟩=some (.int .i64 a)/\w.cell? ⟨k,off+i*3+1,none⟩=some (.int .i64 b)/\w.cell? ⟨k,off+i*3+2,none⟩=some (.int .i64 c):=by
 obtain ⟨k,off,cs,hA,hS,hc,hd⟩:=h.getx hi hx;have hc':cs=[.int .i64 a,.int .i64 b,.int .i64 c]:=hc;subst hc';exact ⟨k,off,hA,hS,hd 0 (show 0<3 by decide),hd 1 (show 1<3 by decide),hd 2 (show 2<3 by decide)⟩
theorem P1:ElTB prog eh 31 42 24:=ElTB.mk' underlying31 (.agg #[.int .i64 0,.int .i64 0,.int .i64 0]) 3 24 (by kernel_rfl) rfl rfl
def cw:El UInt8:=El.plain 1 (by decide) (fun c=>[.int .u8 (c.toNat:Int)]) (fun _=>rfl) (by intro x u hu;simp at hu;subst hu;rfl)
theorem E7 {w:World} {S:Nat->Prop} {A:Option Addr} {l:List UInt8} {i:Nat} (h:RowsAt cw w S A l) (hi:i<l.length) :
  ∃b off,A=some ⟨b,off,none⟩/\S b/\w.cell? ⟨b,off+i,none⟩=some (.int .u8 (l[i].toNat:Int)):=by
 obtain ⟨b,off,cs,hA,hS,hc,hd⟩:=h.get hi;have hc':cs=[.int .u8 (l[i].toNat:Int)]:=hc;subst hc';have:=hd 0 (show 0<1 by decide);exact ⟨b,off,hA,hS,by simpa [show cw.n=1 from rfl] using this⟩
theorem jf:ElTB prog cw 123 5 1:=ElTB.mk' underlying123 (.int .u8 0) 1 1 (by kernel_rfl) rfl rfl
theorem zJ (a b c x y z:Int) (w:World):Calls prog 164 #[.agg #[.int .i64 a,.int .i64 b,.int .i64 c],.agg #[.int .i64 x,.int .i64 y,.int .i64 z]] w (xc w (.int .i64 (bH ⟨a,b,c⟩ ⟨x,y,z⟩))):=by
 have i0:∀w:World,(Instr.index 228 (.agg #[.int .i64 a,.int .i64 b,.int .i64 c]) (.int .i64 0)).run prog w = .ok (.int .i64 a) w:=fun _=>by kernel_rfl
 have i1:∀w:World,(Instr.index 228 (.agg #[.int .i64 a,.int .i64 b,.int .i64 c]) (.int .i64 1)).run prog w = .ok (.int .i64 b) w:=fun _=>by kernel_rfl
 have i2:∀w:World,(Instr.index 228 (.agg #[.int .i64 a,.int .i64 b,.int .i64 c]) (.int .i64 2)).run prog w = .ok (.int .i64 c) w:=fun _=>by kernel_rfl
 obtain ⟨r,hr⟩:=qGe (bH ⟨a,b,c⟩ ⟨x,y,z⟩);rw [hr];have HR:=Lib.hid hr;clear hr
 go_enter func164,ntmps164
 go_wp2
 go_rounds 4
 all_goals go_ret
 all_goals refine ⟨tO ?_,((Below.refl _ _).alloc (Nat.le_refl _) _).alloc (by simp) _⟩
 all_goals rw [<-HR.out]
 all_goals rcases dg ⟨a,b,c⟩ ⟨x,y,z⟩ with ⟨h,e⟩|⟨h,e⟩|⟨h,e⟩ <;> rw [e] <;> first|rfl|(exfalso;unfold fS at h;simp only at h;omega)|(exfalso;simp only [Pr.mk.injEq] at h;omega)
theorem Fc (p q:Pr) (w:World):Calls prog 74 #[p.val,q.val] w (xc w (.int .i64 (bH p q))):=by
 obtain ⟨a,b,c⟩:=p;obtain ⟨x,y,z⟩:=q;have HC:=Lib.hid (fun w=>zJ a b c x y z w);obtain ⟨r,hr⟩:=qGe (bH ⟨a,b,c⟩ ⟨x,y,z⟩);rw [hr] at HC ⊢;clear hr;unfold Pr.val
 go_enter func74,ntmps74
 go_wp2_with fail
 refine (HC.out _).mono ?_;rintro e w1 ⟨rfl,hb⟩;have HB:=Lib.hid (((Below.refl w.heap.size w).alloc (Nat.le_refl _) _).alloc (by simp) _ |>.trans (hb.mono (by simp;omega)));go_wp2
 go_ret
 exact ⟨rfl,HB.out⟩
section
variable {α:Type} {E:El α} {w w':World} {l:List α} {base:Nat} {e:TypeId} {size:Nat} {xs:List Value} {g n cap:Nat}
theorem MX {xs:List Value} {j:Nat} {v:Value} (r:List Value) (h:j+1+r.length<=xs.length):(xs.set j v).take (j+1)++r++(xs.set j v).drop (j+1+r.length)=xs.take j++v :: r++xs.drop (j+(v :: r).length):=by
 have h1:(xs.set j v).take (j+1)=xs.take j++[v]:=by
  rw [List.set_eq_take_append_cons_drop,if_pos (by omega),List.take_append,List.length_take,Nat.min_eq_left (by omega),List.take_of_length_le (by rw [List.length_take];omega),show j+1-j=1 by omega];rfl
 have h2:(xs.set j v).drop (j+1+r.length)=xs.drop (j+(v :: r).length):=by
  rw [List.drop_set_of_lt (by omega),List.length_cons];congr 1
  omega
 rw [h1,h2];simp
theorem iC:∀(vs:List Value) (j:Nat) (w:World) (xs:List Value),w.ownsRow base e size (.slice (some ⟨g,0,none⟩) n cap) n xs->j+vs.length<=xs.length->
  (w.setCells g j vs).ownsRow base e size (.slice (some ⟨g,0,none⟩) n cap) n (xs.take j++vs++xs.drop (j+vs.length))
 | [],j,w,xs,h,_=>by simpa [World.setCells] using h
 | v :: r,j,w,xs,h,hl=>by
  have hl':j+1+r.length<=xs.length:=by simp at hl;omega
  rw [World.setCells,<-MX r hl'];exact iC r (j+1) _ _ (h.stored j v).1 (by simpa using hl')
theorem sq:∀(vs:List Value) (j:Nat) (w:World) (xs:List Value),w.ownsRow base e size (.slice (some ⟨g,0,none⟩) n cap) n xs->xs.length<=j->
  (w.setCells g j vs).ownsRow base e size (.slice (some ⟨g,0,none⟩) n cap) n xs
 | [],j,w,xs,h,_=>by simpa [World.setCells] using h
 | v :: r,j,w,xs,h,hl=>by
  rw [World.setCells];have:=(h.stored j v).1;rw [List.set_eq_of_length_le hl] at this;exact sq r (j+1) _ _ this (by omega)
theorem dN:∀(vs:List Value) (j:Nat) (w:World) (b:Nat),b≠g->(w.setCells g j vs).heap[b]? = w.heap[b]?
 | [],_,_,_,_=>rfl
 | v :: r,j,w,b,h=>by
  rw [World.setCells,dN r (j+1) _ b h];exact heap_setCell_other w ⟨g,j,none⟩ b v h
theorem dG:∀(vs:List Value) (j:Nat) (w:World),(w.setCells g j vs).heap.size=w.heap.size
 | [],_,_=>rfl
 | v :: r,j,w=>by
  rw [World.setCells,dG r (j+1)];simp [World.setCell]
theorem dO {B:Nat} (hg:B<=g):∀(vs:List Value) (j:Nat) (w':World),Below B w w'->Below B w (w'.setCells g j vs)
 | [],_,_,h=>h
 | v :: r,j,w',h=>by
  rw [World.setCells];exact dO hg r (j+1) _ (h.setCell hg v)
theorem OwnRows.cut (h:OwnRows E e w base (.slice (some ⟨g,0,none⟩) l.length cap) l) {k:Nat} (hk:k<=l.length):OwnRows E e w base (.slice (some ⟨g,0,none⟩) k cap) (l.take k):=by
 obtain ⟨h0,xs,⟨h1,h2⟩,h3⟩:=h;refine ⟨h0,xs.take (k*E.n),?_,h3.take k⟩;rw [List.length_take,Nat.min_eq_left hk];have hle:k*E.n<=l.length*E.n:=Nat.mul_le_mul_right _ hk;refine ⟨by rw [List.length_take,h1,Nat.min_eq_left hle],?_⟩;rcases h2 with ⟨hv,_⟩|⟨g',cap',cur,hv,hg,hh,hnc,hcm,hcs,ht⟩
 ·cases hv
 ·injection hv with e1 _ e3;injection e1 with e1;injection e1 with e1;subst e1;subst e3;refine .inr ⟨_,_,cur,rfl,hg,hh,by omega,hcm,hcs,?_⟩;rw [<-ht,List.take_take,Nat.min_eq_left hle]
theorem OwnRows.setRow (h:OwnRows E e w base (.slice (some ⟨g,0,none⟩) l.length cap) l) {i:Nat} (hi:i<l.length) {y:α} {cs:List Value}
  (hy:E.rep (w.setCells g (i*E.n) cs) (ym (w.setCells g (i*E.n) cs) (.slice (some ⟨g,0,none⟩) l.length cap)) y cs) :
  OwnRows E e (w.setCells g (i*E.n) cs) base (.slice (some ⟨g,0,none⟩) l.length cap) (l.set i y):=by
 have hl:=E.len hy;refine h.setAll hi hy (dG _ _ _) (fun b hb=>dN _ _ _ _ fun e=>hb.2 (by rw [e];rfl)) fun xs hx=>?_;have:=iC cs (i*E.n) w xs hx (by
  rw [hl,hx.1];have:=Nat.mul_le_mul_right E.n (show i+1<=l.length from hi);rw [Nat.add_mul,Nat.one_mul] at this;exact this)
 rwa [hl] at this
theorem OwnRows.off (h:OwnRows E e w base (.slice (some ⟨g,0,none⟩) l.length cap) l) (vs:List Value) {j:Nat} (hj:l.length*E.n<=j):OwnRows E e (w.setCells g j vs) base (.slice (some ⟨g,0,none⟩) l.length cap) l:=by
 obtain ⟨h0,xs,h1,h3⟩:=h;refine ⟨by rw [dG];exact h0,xs,sq vs j w xs h1 (by rw [h1.1];exact hj),h3.same (fun b hb=>dN _ _ _ _ fun e=>hb.2 (by rw [e];rfl)) fun b hb=>⟨by rw [dG];exact hb.1,hb.2⟩⟩
theorem OwnRows.cellAt (h:OwnRows E e w base (.slice (some ⟨g,0,none⟩) l.length cap) l) {j:Nat} (hj:j<cap*E.n):(w.cell? ⟨g,j,none⟩).isSome=true/\w.frozen? ⟨g,j,none⟩=false:=by
 obtain ⟨h0,xs,⟨h1,h2⟩,h3⟩:=h;rcases h2 with ⟨hv,_⟩|⟨g',cap',cur,hv,hg,hh,hnc,hcm,hcs,ht⟩
 ·cases hv
 ·injection hv with e1 _ e3;injection e1 with e1;injection e1 with e1;subst e1;subst e3;refine ⟨?_,frozen_of_row w _ j cur e hh⟩;have:w.cell? ⟨g,j,none⟩=cur[j]?:=by simp [World.cell?,hh]
  rw [this,Array.getElem?_eq_getElem (by rw [hcs];exact hj)];rfl
end
section
variable {α:Type} {E:El α} {w w':World} {l ys:List α} {base:Nat} {e:TypeId} {g cap:Nat}
theorem Fe {P:Program} (w:World) (t ty e:TypeId) (k:Nat) (b o dLen dCap:Nat) (a:Addr) (sLen sCap:Nat) (cs:List Value)
  (hu:P.underlying t=some (.slice e)) (hs:(P.info? e).map (·.size)=some k) (hn:cs.length=Nat.min sLen dLen*k)
  (hsrc:∀j v,cs[j]? = some v->w.cell? (a.add j)=some v) (hc:∀j,j<cs.length->(w.cell? ⟨b,o+j,none⟩).isSome=true) (hf:∀j,j<cs.length->w.frozen? ⟨b,o+j,none⟩=false) (h1:∀v∈cs,v.oneCell'=true) :
  (Builtin.copy_ #[t,t] ty #[.slice (some ⟨b,o,none⟩) dLen dCap,.slice (some a) sLen sCap]).run P w = .ok (goInt (Nat.min sLen dLen)) (w.setCells b o cs):=by
 have hl:=run_loadCells_list (P:=P) w a cs hsrc;have hst:=run_storeCells_cells (P:=P) b o cs 0 w (by simpa using hc) (by simpa using hf) h1;cases hq:P.info? e with
 | none=>simp [hq] at hs
 | some i =>
  have hi:i.size=k:=by simpa [hq] using hs
  simp [Builtin.copy_,run_underlying hu,Builtin.lenOf,Builtin.firstCells,sizeOf,typeInfo,hq,hi,<-hn,hl,hst]
theorem uh {P:Program} (w:World) (t ty e:TypeId) (k:Nat) (d a:Option Addr) (dLen dCap sLen sCap:Nat) (hu:P.underlying t=some (.slice e)) (hs:(P.info? e).map (·.size)=some k) (hn:Nat.min sLen dLen=0) :
  (Builtin.copy_ #[t,t] ty #[.slice d dLen dCap,.slice a sLen sCap]).run P w = .ok (goInt 0) w:=by
 cases hq:P.info? e with
 | none=>simp [hq] at hs
 | some i =>
  have hl:∀(x:Addr),(loadCells x 0).run P w = .ok #[] w:=fun x=>by simpa using run_loadCells_list (P:=P) w x [] (by simp)
  cases d <;> cases a <;> simp [Builtin.copy_,run_underlying hu,Builtin.lenOf,Builtin.firstCells,sizeOf,typeInfo,hq,hn,storeCells,hl]
end
def qE (A:Option Addr) (cap k size:Nat):Option Addr:=if cap=k then A else A.map (·.add (k*size))
theorem RowsAt.cut {α:Type} {E:El α} {w:World} {S:Nat->Prop} {A:Option Addr} {l:List α} {k cap:Nat} (h:RowsAt E w S A l) (hk:k<=l.length) (hc:l.length<=cap):RowsAt E w S (qE A cap k E.n) (l.drop k):=by
 unfold qE;rcases Nat.eq_or_lt_of_le hk with e|e
 ·rw [e,List.drop_length];exact RowsAt.nil _ _ _ _
 ·rw [if_neg (by omega)];obtain ⟨b,off,_,hA,_⟩:=h.get e;subst hA;simp only [Option.map_some,fy];exact h.drop k
theorem GZ {P:Program} {t e:TypeId} {i:TypeInfo} (ht:P.underlying t=some (.slice e)) (hi:P.info? e=some i) (A:Option Addr) (n cap k:Nat) (hk:k<=cap) (w:World) :
  (Instr.slice t (.slice A n cap) none (some (.int .i64 (k:Int))) none).run P w = .ok (.slice A k cap) w:=by
 have he:P.elem t=e:=by simp [Program.elem,ht]
 have hh:((k:Int)).toNat=k:=by omega
 rw [run_slice_h w t A n cap (by rw [he];exact ht) .i64 k (by omega) (by omega),he,hh];have h0:∀a:Addr,a.add 0=a:=fun a=>by unfold Addr.add;simp
 cases A <;> simp [sizeOf,typeInfo,hi,sliced,Result.andThen,h0]
theorem G0 {P:Program} {t e:TypeId} {i:TypeInfo} (ht:P.underlying t=some (.slice e)) (hi:P.info? e=some i) (A:Option Addr) (n cap k:Nat) (hk:k<=n) (w:World) :
  (Instr.slice t (.slice A n cap) (some (.int .i64 (k:Int))) none none).run P w = .ok (.slice (qE A cap k i.size) (n-k) (cap-k)) w:=by
 have he:P.elem t=e:=by simp [Program.elem,ht]
 have hh:((k:Int)).toNat=k:=by omega
 rw [run_slice_l w t A n cap (by rw [he];exact ht) .i64 k (by omega) (by omega),he,hh];simp [sizeOf,typeInfo,hi,sliced,Result.andThen,qE]
theorem Ki {t e:TypeId} {z:Value} {sz by_:Nat} (ht:prog.underlying t=some (.slice e)) (hi:(prog.info? e).map (fun i=>(i.zero,i.size,i.bytes))=some (some z,sz,by_)) (A:Option Addr) (n cap k:Nat) (hk:k<=n) (hc:n<=cap) :
  (∀w,(Instr.sliceAt t (.slice A n cap) none (some (.int .i64 (k:Int))) none).run prog w = .ok (.slice A k cap) w)/\
  ∀w,(Instr.sliceAt t (.slice A n cap) (some (.int .i64 (k:Int))) none none).run prog w = .ok (.slice (qE A cap k sz) (n-k) (cap-k)) w:=by
 obtain ⟨i0,hi0,hz0,hz1,hz2⟩:=info_parts hi;have he:prog.elem t=e:=by simp [Program.elem,ht]
 constructor
 ·intro w;rw [run_sliceAt_slice w t _ _ _ _ (by rw [he];exact ht)];exact GZ ht hi0 A n cap k (by omega) w
 ·intro w;rw [run_sliceAt_slice w t _ _ _ _ (by rw [he];exact ht),G0 ht hi0 A n cap k hk w,hz1]
instance:Inhabited Pr:=⟨ll⟩
theorem ig (p q:Pr):fS p q\/p=q\/fS q p:=by
 rcases dg p q with ⟨h,_⟩|⟨h,_⟩|⟨h,_⟩
 ·exact Or.inl h
 ·exact Or.inr (Or.inl h)
 ·exact Or.inr (Or.inr h)
theorem eX (p q:Pr):bH p q<0↔fS p q:=by
 rcases dg p q with ⟨h,e⟩|⟨h,e⟩|⟨h,e⟩ <;> rw [e]
 ·exact ⟨fun _=>h,fun _=>by decide⟩
 ·subst h;exact ⟨fun c=>absurd c (by decide),fun c=>absurd c (bz _)⟩
 ·exact ⟨fun c=>absurd c (by decide),fun c=>absurd h (mF c)⟩
def J9 (l:List Pr):Prop:=l.Pairwise fS
theorem lT (d:Array Pr):∀m x,x∈Go.Lib.compactUpTo d m↔∃j,j<m/\d[j]! = x
 | 0,x=>by simp [Go.Lib.compactUpTo]
 | m+1,x=>by
  rw [Go.Lib.compactUpTo_succ,List.mem_append,lT d m x];by_cases h:Go.Lib.keeps d m=true
  ·rw [if_pos h,List.mem_singleton];constructor
   ·rintro (⟨j,hj,e⟩|e)
    ·exact ⟨j,by omega,e⟩
    ·exact ⟨m,by omega,e.symm⟩
   ·rintro ⟨j,hj,e⟩;rcases Nat.lt_or_ge j m with h1|h1
    ·exact Or.inl ⟨j,h1,e⟩
    ·have:j=m:=by omega
     subst this;exact Or.inr e.symm
  ·rw [if_neg h];have hk:¬(m=0\/d[m]!≠d[m-1]!):=by simpa [Go.Lib.keeps] using h
   have h0:m≠0:=fun e=>hk (Or.inl e);have he:d[m]! = d[m-1]!:=Classical.byContradiction fun e=>hk (Or.inr e);constructor
   ·rintro (⟨j,hj,e⟩|e)
    ·exact ⟨j,by omega,e⟩
    ·cases e
   ·rintro ⟨j,hj,e⟩;rcases Nat.lt_or_ge j m with h1|h1
    ·exact Or.inl ⟨j,h1,e⟩
    ·have:j=m:=by omega
     subst this;exact Or.inl ⟨j-1,by omega,he.symm.trans e⟩
theorem su (d:Array Pr) (hs:∀i j,i<j->j<d.size->¬fS d[j]! d[i]!):∀m,m<=d.size->J9 (Go.Lib.compactUpTo d m)
 | 0,_=>by simp [Go.Lib.compactUpTo,J9]
 | m+1,hm=>by
  have ih:=su d hs m (by omega);rw [Go.Lib.compactUpTo_succ];by_cases h:Go.Lib.keeps d m=true
  ·rw [if_pos h];unfold J9 at *
   rw [List.pairwise_append];refine ⟨ih,by simp,fun x hx y hy=>?_⟩;rw [List.mem_singleton.1 hy];obtain ⟨j,hj,rfl⟩:=(lT d m x).1 hx;have hk:m=0\/d[m]!≠d[m-1]!:=by simpa [Go.Lib.keeps] using h
   have hne:d[m]!≠d[m-1]!:=hk.resolve_left (by omega);rcases ig d[j]! d[m]! with h1|h1|h1
   ·exact h1
   ·exfalso;have a1:¬fS d[m]! d[m-1]!:=hs (m-1) m (by omega) (by omega);rcases Nat.lt_or_ge j (m-1) with h2|h2
    ·have a2:=hs j (m-1) h2 (by omega);rw [h1] at a2;rcases ig d[m]! d[m-1]! with h3|h3|h3
     ·exact a1 h3
     ·exact hne h3
     ·exact a2 h3
    ·have:j=m-1:=by omega
     subst this;exact hne h1.symm
   ·exact absurd h1 (hs j m hj (by omega))
  ·rw [if_neg h,List.append_nil];exact ih
def dw (l:List Pr):List Pr:=Go.Lib.compact (l.mergeSort fun x y=>!decide (bH y x<0))
theorem bf (l:List Pr) (x:Pr):x∈dw l↔x∈l:=by
 unfold dw Go.Lib.compact;rw [lT];have hp:=List.mergeSort_perm l fun x y=>!decide (bH y x<0);rw [<-hp.mem_iff];constructor
 ·rintro ⟨j,hj,rfl⟩;rw [getElem!_pos _ j (by simpa using hj)];simp
 ·intro h;obtain ⟨j,hj,rfl⟩:=List.getElem_of_mem h;exact ⟨j,hj,by rw [getElem!_pos _ j (by simpa using hj)];simp⟩
theorem iq (l:List Pr):J9 (dw l):=by
 unfold dw Go.Lib.compact;have hp:(l.mergeSort fun x y=>!decide (bH y x<0)).Pairwise fun x y=>(!decide (bH y x<0))=true:=by
  apply List.pairwise_mergeSort
  ·intro a b c h1 h2;simp only [Bool.not_eq_true',decide_eq_false_iff_not,eX] at *
   intro h3;rcases ig b c with h|h|h
   ·exact h1 (cq h h3)
   ·subst h;exact h1 h3
   ·exact h2 h
  ·intro a b;simp only [Bool.or_eq_true,Bool.not_eq_true',decide_eq_false_iff_not,eX];rcases ig a b with h|h|h
   ·exact Or.inl (mF h)
   ·subst h;exact Or.inl (bz _)
   ·exact Or.inr (mF h)
 generalize (l.mergeSort fun x y=>!decide (bH y x<0))=M at *
 refine su _ ?_ _ (by simp);intro i j hij hj;have hj':j<M.length:=by simpa using hj
 rw [getElem!_pos _ j hj,getElem!_pos _ i (by omega)];have:=List.pairwise_iff_getElem.1 hp i j (by omega) hj' hij;simp only [Bool.not_eq_true',decide_eq_false_iff_not,eX] at this;simpa using this
theorem mJ (l:List Pr):(dw l).length<=l.length:=by
 unfold dw Go.Lib.compact Go.Lib.compactUpTo;rw [List.length_map];refine Nat.le_trans (List.length_filter_le _ _) ?_;simp
theorem yt:∀{l l':List Pr},J9 l->J9 l'->(∀x,x∈l↔x∈l')->l=l'
 | [],[],_,_,_=>rfl
 | [],y :: l',_,_,h=>absurd ((h y).2 (by simp)) (by simp)
 | x :: l,[],_,_,h=>absurd ((h x).1 (by simp)) (by simp)
 | x :: l,y :: l',ha,hb,h=>by
  unfold J9 at ha hb;rw [List.pairwise_cons] at ha hb;have hxy:x=y:=by
   rcases List.mem_cons.1 ((h x).1 (by simp)) with e|e
   ·exact e
   ·rcases List.mem_cons.1 ((h y).2 (by simp)) with e'|e'
    ·exact e'.symm
    ·exact absurd (cq (hb.1 x e) (ha.1 y e')) (bz _)
  subst hxy;rw [yt (l:=l) (l':=l') ha.2 hb.2 fun z=>⟨fun hz=>?_,fun hz=>?_⟩]
  ·rcases List.mem_cons.1 ((h z).1 (List.mem_cons_of_mem _ hz)) with e|e
   ·subst e;exact absurd (ha.1 z hz) (bz _)
   ·exact e
  ·rcases List.mem_cons.1 ((h z).2 (List.mem_cons_of_mem _ hz)) with e|e
   ·subst e;exact absurd (hb.1 z hz) (bz _)
   ·exact e
def i4 (x:Pr) (L:List Pr) (k:Nat):List Pr:=L.take k++x :: L.drop k
theorem uj (x:Pr) (L:List Pr) (k:Nat):(i4 x L k).length=L.length+1:=by
 unfold i4;rw [List.length_append,List.length_cons,List.length_take,List.length_drop];omega
theorem G7 (x:Pr) (L:List Pr) (k:Nat) (y:Pr):y∈i4 x L k↔y=x\/y∈L:=by
 unfold i4;rw [List.mem_append,List.mem_cons];have:y∈L↔y∈L.take k\/y∈L.drop k:=by rw [<-List.mem_append,List.take_append_drop]
 rw [this];constructor
 ·rintro (h|h|h)
  ·exact Or.inr (Or.inl h)
  ·exact Or.inl h
  ·exact Or.inr (Or.inr h)
 ·rintro (h|h|h)
  ·exact Or.inr (Or.inl h)
  ·exact Or.inl h
  ·exact Or.inr (Or.inr h)
theorem G8 {x:Pr} {L:List Pr} {k:Nat} (ha:J9 L) (hk:k<=L.length) (hd:∀y∈L.drop k,fS x y) (ht:k=0\/∃h:k-1<L.length,fS L[k-1] x):J9 (i4 x L k):=by
 unfold i4 J9 at *
 rw [List.pairwise_append];refine ⟨ha.sublist (List.take_sublist _ _),List.pairwise_cons.2 ⟨hd,ha.sublist (List.drop_sublist _ _)⟩,fun a h1 b h2=>?_⟩;have hax:fS a x:=by
  obtain ⟨i,hi,rfl⟩:=List.getElem_of_mem h1;rw [List.length_take] at hi;rcases ht with rfl|⟨h,hlt⟩
  ·omega
  ·rw [List.getElem_take];rcases Nat.lt_or_ge i (k-1) with h3|h3
   ·exact cq (List.pairwise_iff_getElem.1 ha i (k-1) (by omega) (by omega) h3) hlt
   ·have:i=k-1:=by omega
    subst this;exact hlt
 rcases List.mem_cons.1 h2 with rfl|h2
 ·exact hax
 ·exact cq hax (hd b h2)
theorem Fj {l:List Pr} {x:Pr} {k j:Nat} (hk:k<l.length) (hx:l[k]=x) (hj:j<=(dw (l.take k)).length) (hd:∀y∈(dw (l.take k)).drop j,fS x y) (ht:j=0\/∃h:j-1<(dw (l.take k)).length,fS (dw (l.take k))[j-1] x) :
  i4 x (dw (l.take k)) j=dw (l.take (k+1)):=by
 refine yt (G8 (iq _) hj hd ht) (iq _) fun y=>?_;rw [G7,bf,bf,List.take_add_one,qGg hk,hx];simp [or_comm]
theorem Fk {l:List Pr} {x:Pr} {k:Nat} (hk:k<l.length) (hx:l[k]=x) (hm:x∈dw (l.take k)):dw (l.take k)=dw (l.take (k+1)):=by
 refine yt (iq _) (iq _) fun y=>?_;rw [bf] at hm;rw [bf,bf,List.take_add_one,qGg hk,hx];simp only [Option.toList_some,List.mem_append,List.mem_singleton];constructor
 ·exact Or.inl
 ·rintro (h|rfl)
  ·exact h
  ·exact hm
theorem Fl {x:Pr} {L:List Pr} {j:Nat} (h0:0<j) (hj:j<=L.length):((i4 x L j).set (j-1) x).set j (L[j-1]'(by omega))=i4 x L (j-1):=by
 obtain ⟨i,rfl⟩:∃i,j=i+1:=⟨j-1,by omega⟩;simp only [Nat.add_sub_cancel];unfold i4;have hl:(L.take i).length=i:=by rw [List.length_take];omega
 rw [List.take_add_one,qGg (show i<L.length by omega),qDc (show i<L.length by omega)];simp only [Option.toList_some,List.append_assoc,List.singleton_append];rw [List.set_append_right _ _ (by omega),hl,Nat.sub_self,List.set_cons_zero,List.set_append_right _ _ (by omega),hl];simp
theorem Kk {x:Pr} {L:List Pr} {j:Nat} (hj:j<=L.length):(i4 x L j)[j]'(by rw [uj];omega)=x:=by
 unfold i4;rw [List.getElem_append_right (by rw [List.length_take];omega)];simp [List.length_take,Nat.min_eq_left hj]
theorem zM {x:Pr} {L:List Pr} {j:Nat} (h0:0<j) (hj:j<=L.length):(i4 x L j)[j-1]'(by rw [uj];omega)=L[j-1]'(by omega):=by
 unfold i4;rw [List.getElem_append_left (by rw [List.length_take];omega),List.getElem_take]
section
open Go.Sort Go.Lib
section
variable {α:Type}
theorem zN (f:α->List Value) (k:Nat) (hk:∀x,(f x).length=k) (h0:0<k):∀(l:List α) (t:Nat),((l.map f).flatten)[t]? = (l[t / k]?).bind fun x=>(f x)[t % k]?
 | [],t=>by simp
 | x :: l,t=>by
  rw [List.map_cons,List.flatten_cons];rcases Nat.lt_or_ge t k with h|h
  ·rw [List.getElem?_append_left (by rw [hk];exact h),Nat.div_eq_of_lt h,Nat.mod_eq_of_lt h];rfl
  ·rw [List.getElem?_append_right (by rw [hk];exact h),hk,zN f k hk h0 l (t-k)];obtain ⟨u,rfl⟩:∃u,t=u+k:=⟨t-k,by omega⟩;rw [Nat.add_sub_cancel,Nat.add_div_right _ h0,Nat.add_mod_right];rfl
theorem j5 [Inhabited α] (f:α->List Value) (k:Nat) (hk:∀x,(f x).length=k) (h0:0<k) (l:List α):(flatK f k l.toArray).toList=(l.map f).flatten:=by
 apply List.ext_getElem?
 intro t;rw [zN f k hk h0];rcases Nat.lt_or_ge t (l.length*k) with h|h
 ·have hd:t / k<l.length:=(Nat.div_lt_iff_lt_mul h0).2 h;have hm:t % k<k:=Nat.mod_lt _ h0;rw [Array.getElem?_toList,Array.getElem?_eq_getElem (by simpa using h),<-getElem!_pos _ t (by simpa using h),get_flatK _ _ _ _ (by simpa using h),getElem!_pos _ (t / k) (by simpa using hd),qGg hd,Option.bind_some,getElem!_pos _ (t % k) (by rw [hk];exact hm),qGg (by rw [hk];exact hm)];rfl
 ·have hd:l.length<=t / k:=by
   rw [Nat.le_div_iff_mul_le h0];exact h
  rw [List.getElem?_eq_none hd,Array.getElem?_toList,Array.getElem?_eq_none (by simpa using h)];rfl
variable {n:Nat} {pos:0<n} {f:α->List Value} {len:∀x,(f x).length=n} {one:∀x,∀u∈f x,u.oneCell'=true} {w:World} {S:Nat->Prop} {base:Nat} {e:TypeId} {g cap:Nat} {l:List α}
theorem Reps.plain:∀{l:List α} {xs:List Value},Reps (El.plain n pos f len one) w S l xs->xs=(l.map f).flatten
 | [],xs,h=>h
 | x :: l,xs,h=>by
  obtain ⟨cs,rest,rfl,h1,h2⟩:=h;rw [Reps.plain h2,show cs=f x from h1];rfl
theorem Reps.plain_mk:∀(l:List α),Reps (El.plain n pos f len one) w S l (l.map f).flatten
 | []=>rfl
 | x :: l=>⟨f x,(l.map f).flatten,rfl,rfl,Reps.plain_mk l⟩
theorem OwnRows.holdsK [Inhabited α] (h:OwnRows (El.plain n pos f len one) e w base (.slice (some ⟨g,0,none⟩) l.length cap) l):HoldsK f n w g 0 l.toArray:=by
 intro t ht;rw [size_flatK] at ht;have ht':t<l.length*n:=ht;have hcapn:l.length<=cap:=by
  obtain ⟨A,cap',hA,_,hc,_⟩:=h.form;injection hA with _ _ e3;omega
 have hcell:=h.cellAt (j:=t) (Nat.lt_of_lt_of_le ht' (Nat.mul_le_mul_right _ hcapn));rw [Nat.zero_add];refine ⟨?_,hcell.2⟩;obtain ⟨h0,xs,⟨h1,h2⟩,h3⟩:=h;rcases h2 with ⟨hv,_⟩|⟨g',cap',cur,hv,hg,hh,hnc,hcm,hcs,htk⟩
 ·cases hv
 ·injection hv with e1 _ e3;injection e1 with e1;injection e1 with e1;subst e1;subst e3;have hx:=Reps.plain h3;have hlt:t<cur.size:=by rw [hcs];exact Nat.lt_of_lt_of_le ht' (Nat.mul_le_mul_right _ hcapn)
  have hc:w.cell? ⟨g,t,none⟩=cur[t]?:=by simp [World.cell?,hh]
  have hxt:cur[t]? = xs[t]?:=by
   rw [<-htk,List.getElem?_take,if_pos (show t<l.length*(El.plain n pos f len one).n from ht'),Array.getElem?_toList]
  rw [hc,hxt,hx,<-j5 f n len pos l,Array.getElem?_toList,Array.getElem?_eq_getElem (by simpa using ht'),<-getElem!_pos _ t (by simpa using ht')];rfl
theorem OwnRows.sorted [Inhabited α] (h:OwnRows (El.plain n pos f len one) e w base (.slice (some ⟨g,0,none⟩) l.length cap) l) (hg:g<w.heap.size) {l':List α} (hl:l'.length=l.length) (m:Nat) (os:Array Obj) :
  OwnRows (El.plain n pos f len one) e (sortWorldK f n w g 0 m l'.toArray os) base (.slice (some ⟨g,0,none⟩) l.length cap) l':=by
 obtain ⟨h0,xs,⟨h1,h2⟩,h3⟩:=h;have hsz:w.heap.size<=(sortWorldK f n w g 0 m l'.toArray os).heap.size:=by
  simp [sortWorldK,grow,putRowK,putRow,mapBlock]
 refine ⟨Nat.le_trans h0 hsz,(l'.map f).flatten,?_,Reps.plain_mk l'⟩;rw [hl];have hfl:((l'.map f).flatten).length=l.length*n:=by
  rw [<-j5 f n len pos l',Array.length_toList,size_flatK];simp [hl]
 refine ⟨hfl,?_⟩;rcases h2 with ⟨hv,_⟩|⟨g',cap',cur,hv,hgb,hh,hnc,hcm,hcs,htk⟩
 ·cases hv
 ·injection hv with e1 _ e3;injection e1 with e1;injection e1 with e1;subst e1;subst e3;have hF:(flatK f n l'.toArray).size=l.length*n:=by simp [hl]
  have hle:l.length*n<=cap*n:=Nat.mul_le_mul_right _ hnc;refine .inr ⟨g,cap,putCells id 0 (flatK f n l'.toArray) cur,rfl,hgb,?_,hnc,hcm,by simp [putCells,hcs],?_⟩
  ·show (w.heap.modify g (onCells (putCells id 0 (flatK f n l'.toArray)))++os)[g]? = _;rw [Array.getElem?_append_left (by simpa using hg),Array.getElem?_modify,if_pos rfl,hh];rfl
  ·rw [<-j5 f n len pos l'];apply List.ext_getElem?
   intro t;rw [List.getElem?_take];show (if t<l.length*n then _ else _)=_;split
   ·next ht =>
    rw [Array.getElem?_toList,Array.getElem?_toList];unfold putCells;rw [Array.getElem?_mapIdx,Array.getElem?_eq_getElem (by rw [hcs];exact Nat.lt_of_lt_of_le ht hle),Option.map_some,if_pos ⟨Nat.zero_le _,by rw [hF];omega⟩,Array.getElem?_eq_getElem (by rw [hF];exact ht),Nat.sub_zero,<-getElem!_pos _ t (by rw [hF];exact ht)];rfl
   ·next ht =>
    rw [Array.getElem?_toList,Array.getElem?_eq_none (by rw [hF];omega)]
theorem yu [Inhabited α] {w0:World} {B:Nat} (hb:Go.RowKit.Below B w0 w) (hg:B<=g) (hg2:g<w.heap.size) (m:Nat) (d:Array α) (os:Array Obj):Go.RowKit.Below B w0 (sortWorldK f n w g 0 m d os):=by
 refine hb.trans ⟨rfl,rfl,rfl,by simp [sortWorldK,grow,putRowK,putRow,mapBlock],fun k hk=>?_⟩;show (w.heap.modify g (onCells (putCells id 0 (flatK f n d)))++os)[k]? = _;rw [Array.getElem?_append_left (by simp;omega),Array.getElem?_modify,if_neg (by omega)]
end
end
section
open Go.Lib
theorem tl {P:Program} (w:World) (t e:TypeId) (z:Value) (ht:P.underlying t=some (.slice e)) (hv:∀w,(zeroValue e).run P w = .ok z w) (h1:∀u∈z.cells.toList,u.oneCell'=true) (h0:0<z.cells.size) (b o n c:Nat) (hn:0<n)
  (hc:∀j,j<n*z.cells.size->(w.cell? ⟨b,o+j,none⟩).isSome=true/\w.frozen? ⟨b,o+j,none⟩=false) :
  ∃vs,∀ty,(Builtin.clear_ #[t] ty #[.slice (some ⟨b,o,none⟩) n c]).run P w = .ok (.tuple #[]) (w.setCells b o vs):=by
 have hl:(Builtin.zeroCells z.cells n).toList.length=n*z.cells.size:=by simp [Builtin.zeroCells]
 have hm:∀v∈(Builtin.zeroCells z.cells n).toList,v.oneCell'=true:=by
  intro v hv;simp only [Builtin.zeroCells,Array.toList_map,List.mem_map] at hv;obtain ⟨i,_,rfl⟩:=hv;have hi:i % z.cells.size<z.cells.size:=Nat.mod_lt _ h0;rw [getElem!_pos z.cells _ hi];exact h1 _ (by simp)
 have hst:=run_storeCells_cells (P:=P) b o (Builtin.zeroCells z.cells n).toList 0 w (fun j hj=>(hc j (by rw [<-hl];exact hj)).1) (fun j hj=>(hc j (by rw [<-hl];exact hj)).2) hm;simp only [Nat.add_zero] at hst;obtain ⟨m,rfl⟩:∃m,n=m+1:=⟨n-1,by omega⟩;exact ⟨_,fun ty=>by simp [Builtin.clear_,run_underlying ht,hv,hst];rfl⟩
theorem zO {d dk:List Pr} {k:Nat} (h:CompInv d.toArray d.length k dk.toArray):dk.take k=compact d:=by
 have hs:dk.length=d.length:=by simpa using h.size
 apply List.ext_getElem?
 intro j;unfold compact;have hk:=h.lt;rcases Nat.lt_or_ge j k with hj|hj
 ·rw [h.low j hj,List.getElem?_take,if_pos hj,qGg (by omega),getElem!_pos _ j (by simp;omega)];simp
 ·rw [List.getElem?_eq_none (by rw [List.length_take];omega),List.getElem?_eq_none (by rw [h.len];exact hj)]
theorem zP {d:List Pr} {j:Nat} (hj:j<d.length) (h0:0<j) {x y:Pr} (hx:d[j]=x) (hy:d[j-1]=y):keeps d.toArray j=decide (x≠y):=by
 unfold keeps;rw [getElem!_pos _ j (by simpa using hj),getElem!_pos _ (j-1) (by simp;omega)];have:j≠0:=by omega
 simp [this,hx,hy]
theorem xm {d dk:List Pr} {m k:Nat} (h:CompInv d.toArray m k dk.toArray) (hm:m<dk.length) {x y:Pr} (hx:dk[m]=x) (hy:dk[m-1]'(by omega)=y):keeps d.toArray m=decide (x≠y):=by
 have hs:dk.length=d.length:=by simpa using h.size
 have hk:=h.lt;have e1:=h.high m (by omega);have e2:=h.high (m-1) (by omega);rw [getElem!_pos _ m (by simpa using hm),getElem!_pos _ m (by simp;omega)] at e1;rw [getElem!_pos _ (m-1) (by simp;omega),getElem!_pos _ (m-1) (by simp;omega)] at e2;simp only [List.getElem_toArray] at e1 e2;exact zP (by omega) (by omega) (e1.symm.trans hx) (e2.symm.trans hy)
theorem zQ {w0:World} {base:Nat} {v:Value} {l:List Pr} (w:World) (hown:OwnRows eh 42 w base v l) (hb:Below base w0 w) (hsz:l.length<=281474976710656) :
  Calls prog 201 #[v] w fun e w'=>∃v',e = .returned v'/\OwnRows eh 42 w' base v' (compact l)/\Below base w0 w':=by
 rcases Nat.lt_or_ge l.length 2 with h2|h2
 ·have hc:compact l=l:=compact_all l fun j hj=>keeps_lt_one _ j (by omega);obtain ⟨A,cap,rfl,_,_,_,_⟩:=hown.form2;rw [hc];have HOWN:=Lib.hid hown;have h2i:(l.length:Int)<2:=by omega
  have HB:=Lib.hid hb;clear hown hc hb
  go_enter func201,ntmps201
  go_wp2_with fail
  go_ret
  exact ⟨_,rfl,HOWN.out,HB.out⟩
 ·obtain ⟨g,cap,rfl,hg,hg2,hncap,hcm,hfz,hr⟩:=hown.addr (by omega);have HR:=Lib.hid hr;have HOWN:=Lib.hid hown;have HB:=Lib.hid hb;have HG:=Lib.hid hg;have h2i:¬(l.length:Int)<2:=by omega
  clear hr hown hb hfz hg
  go_enter func201,ntmps201
  go_wp2_with fail
  go_loopg [3] l.length (fun m v wq=>∃k q:Nat,1<=k/\k<=l.length/\l.length-k<=m/\v = .int .i64 (k:Int)/\wq=w.drewN q/\Hid (∀j,j<k->keeps l.toArray j=true))
  case atStart=>exact ⟨1,0,Nat.le_refl _,by omega,by omega,rfl,rfl,Lib.hid (keeps_lt_one _)⟩
  case round =>
   obtain ⟨k,q,hk1,hk,hm,rfl,rfl,hall⟩:=hrel;by_cases hlt:k<l.length
   ·obtain ⟨⟨a,b,c⟩,hx⟩:∃x,l[k]=x:=⟨_,rfl⟩;obtain ⟨⟨x,y,z⟩,hy⟩:∃x,l[k-1]=x:=⟨_,rfl⟩;obtain ⟨g',off,hA,_,hc0,hc1,hc2⟩:=lO HR.out hlt hx;injection hA with hA;injection hA with e1 e2;subst e1;subst e2;obtain ⟨g',off,hA,_,hd0,hd1,hd2⟩:=lO HR.out (by omega) hy;injection hA with hA;injection hA with e1 e2;subst e1;subst e2;simp only [Nat.zero_add] at hc0 hc1 hc2 hd0 hd1 hd2;have HK:=Lib.hid (zP hlt (by omega) hx hy);clear hx hy;have hlti:(k:Int)<(l.length:Int):=by omega
    have hw1:IntKind.i64.wrap ((k:Int)-1)=((k-1:Nat):Int):=by rw [IntWalk.i64_in _ (by omega)];omega
    obtain ⟨_,k2,k3⟩:=Mj a b c x y z;obtain ⟨qq,hq⟩:∃q,decide ((⟨a,b,c⟩:Pr)=⟨x,y,z⟩)=q:=⟨_,rfl⟩;rw [hq] at k2;have HQ:=Lib.hid hq;clear hq;cases qq with
    | false =>
     go_wp2_with fail
     go_quiet (fail)
     go_wp2_with fail
     go_roundg (l.length-(k+1))
     case measure=>omega
     case rel=>exact ⟨k+1,_,by omega,by omega,Nat.le_refl _,by go_num,rfl,Lib.hid (fun j hj=>by
      rcases Nat.lt_or_ge j k with h|h
      ·exact hall.out j h
      ·obtain rfl:j=k:=by omega
       rw [HK.out];exact qDt (of_decide_eq_false HQ.out))⟩
    | true =>
     have HEQ:(⟨a,b,c⟩:Pr)=⟨x,y,z⟩:=of_decide_eq_true HQ.out;have HKF:Hid (keeps l.toArray k=false):=Lib.hid (by rw [HK.out];exact qDf fun h=>h HEQ);have hct:=(Ki underlying31 (e:=42) (z:=.agg #[.int .i64 0,.int .i64 0,.int .i64 0]) (sz:=3) (by_:=24) (by kernel_rfl) (some ⟨g,0,none⟩) l.length cap k hk hncap).2;rw [show qE (some ⟨g,0,none⟩) cap k 3=some ⟨g,k*3,none⟩ by unfold qE;rw [if_neg (by omega),Option.map_some,fy,Nat.zero_add]] at hct;go_wp2_with fail
     go_quiet (fail)
     go_wp2_with fail
     clear hc0 hc1 hc2 hd0 hd1 hd2 k2 k3 HEQ hw1;go_loopg [3,5] l.length (fun m v5 v6 wq=>∃(kk k2:Nat) (dk:List Pr),v5 = .int .i64 (kk:Int)/\v6 = .int .i64 (k2:Int)/\1<=k2/\k+k2<=l.length/\l.length-(k+k2)<=m/\g<wq.heap.size/\dk.length=l.length/\Hid (OwnRows eh 42 wq base (.slice (some ⟨g,0,none⟩) l.length cap) dk)/\Hid (Below base w0 wq)/\Hid (CompInv l.toArray (k+k2) kk dk.toArray))
     case atStart=>exact ⟨k,1,l,rfl,rfl,Nat.le_refl _,by omega,by omega,hg2,rfl,Lib.hid (HOWN.out.below (B:=w.heap.size) (cZ (Below.refl _ _) _) (Nat.le_refl _)),Lib.hid (cZ HB.out _),Lib.hid (CompInv.start hall.out HKF.out)⟩
     case round =>
      obtain ⟨kk,k2,dk,rfl,rfl,h1,hle,hm2,hgw,hdk,HO,HBW,HI⟩:=hrel;have hkk:=HI.out.lt;have HO':OwnRows eh 42 wr base (.slice (some ⟨g,0,none⟩) dk.length cap) dk:=by rw [hdk];exact HO.out
      obtain ⟨g',cap',hv,_,_,_,_,hfz,hr⟩:=HO'.addr (by omega);injection hv with hv _ hv3;injection hv with hv;injection hv with hv;subst hv;subst hv3;by_cases hlt2:k+k2<l.length
      ·obtain ⟨⟨a',b',c'⟩,hx⟩:∃x,dk[k+k2]=x:=⟨_,rfl⟩;obtain ⟨⟨x',y',z'⟩,hy⟩:∃x,dk[k+k2-1]=x:=⟨_,rfl⟩;obtain ⟨⟨s',t',u'⟩,hz⟩:∃x,dk[kk]=x:=⟨_,rfl⟩;obtain ⟨_,_,hA,_,hc0,hc1,hc2⟩:=lO hr (by omega) hx;injection hA with hA;injection hA with e1 e2;subst e1;subst e2;obtain ⟨_,_,hA,_,hd0,hd1,hd2⟩:=lO hr (by omega) hy;injection hA with hA;injection hA with e1 e2;subst e1;subst e2;obtain ⟨_,_,hA,_,he0,he1,he2⟩:=lO hr (by omega) hz;injection hA with hA;injection hA with e1 e2;subst e1;subst e2;rw [show 0+(k+k2)*3=k*3+k2*3 by omega] at hc0 hc1 hc2;rw [show 0+(k+k2-1)*3=k*3+(k2-1)*3 by omega] at hd0 hd1 hd2;simp only [Nat.zero_add] at he0 he1 he2;have hfz0:=hfz (kk*3);have hfz1:=hfz (kk*3+1);have hfz2:=hfz (kk*3+2);have HX:=Lib.hid (And.intro hx hy);clear hr hx hy hz hfz HO';have hlti2:(k2:Int)<((l.length-k:Nat):Int):=by omega
       have hw1:IntKind.i64.wrap ((k2:Int)-1)=((k2-1:Nat):Int):=by rw [IntWalk.i64_in _ (by omega)];omega
       obtain ⟨k1,_,k3⟩:=Mj a' b' c' x' y' z';obtain ⟨qq,hq⟩:∃q,decide ((⟨a',b',c'⟩:Pr)=⟨x',y',z'⟩)=q:=⟨_,rfl⟩;rw [hq] at k1;have HQ2:=Lib.hid hq;clear hq;cases qq with
       | true =>
        simp only [Bool.not_true] at k1;go_wp2_with fail
        go_quiet (fail)
        go_wp2_with fail
        go_roundg (l.length-(k+(k2+1)))
        case measure=>omega
        case rel =>
         have HKF2:Hid (keeps l.toArray (k+k2)=false):=Lib.hid (by
          rw [xm HI.out (by omega) HX.out.1 HX.out.2];exact qDf fun h=>h (of_decide_eq_true HQ2.out))
         exact ⟨kk,k2+1,dk,rfl,by go_num,by omega,by omega,Nat.le_refl _,by simpa using hgw,hdk,Lib.hid (HO.out.below (B:=wr.heap.size) (cZ (Below.refl _ _) _) (Nat.le_refl _)),Lib.hid (cZ HBW.out _),Lib.hid (HI.out.skip HKF2.out)⟩
       | false =>
        simp only [Bool.not_false] at k1;go_wp2_with fail
        go_quiet (fail)
        go_wp2_with fail
        go_roundg (l.length-(k+(k2+1)))
        case measure=>omega
        case rel =>
         have HKT:Hid (keeps l.toArray (k+k2)=true):=Lib.hid (by
          rw [xm HI.out (by omega) HX.out.1 HX.out.2];exact qDt (of_decide_eq_false HQ2.out))
         have HO2:Hid (OwnRows eh 42 ((wr.drewN nq).setCells g (kk*3) [.int .i64 a',.int .i64 b',.int .i64 c']) base (.slice (some ⟨g,0,none⟩) l.length cap) (dk.set kk ⟨a',b',c'⟩)):=Lib.hid (by
          have h1:OwnRows eh 42 (wr.drewN nq) base (.slice (some ⟨g,0,none⟩) dk.length cap) dk:=by
           rw [hdk];exact HO.out.below (B:=wr.heap.size) (cZ (Below.refl _ _) _) (Nat.le_refl _)
          rw [<-hdk];exact h1.setRow (by omega) rfl)
         have HB2:Hid (Below base w0 ((wr.drewN nq).setCells g (kk*3) [.int .i64 a',.int .i64 b',.int .i64 c'])):=Lib.hid (dO HG.out _ _ _ (cZ HBW.out _));have HI2:Hid (CompInv l.toArray (k+(k2+1)) (kk+1) (dk.set kk ⟨a',b',c'⟩).toArray):=Lib.hid (by
          have:=HI.out.keep (by simp;omega) HKT.out;rw [<-HI.out.high (k+k2) (by omega),getElem!_pos _ (k+k2) (by simp;omega),List.getElem_toArray,HX.out.1,List.setIfInBounds_toArray] at this;exact this)
         exact ⟨kk+1,k2+1,_,by go_num,by go_num,by omega,by omega,Nat.le_refl _,by simpa using hgw,by rw [List.length_set];exact hdk,HO2,HB2,HI2⟩
      ·have hend:k+k2=l.length:=by omega
       have hlti2:¬(k2:Int)<((l.length-k:Nat):Int):=by omega
       obtain ⟨vs,hcl⟩:=tl (P:=prog) wr 31 42 (.agg #[.int .i64 0,.int .i64 0,.int .i64 0]) underlying31 (fun w=>by kernel_rfl) (by intro u hu;simp [Value.cells] at hu;rcases hu with rfl|rfl|rfl <;> rfl) (by decide) g (kk*3) (l.length-kk) (cap-kk) (by omega) (fun j hj=>by
        have hj':j<(l.length-kk)*3:=hj;exact HO'.cellAt (by show kk*3+j<cap*3;omega))
       have hct1:=(Ki underlying31 (e:=42) (z:=.agg #[.int .i64 0,.int .i64 0,.int .i64 0]) (sz:=3) (by_:=24) (by kernel_rfl) (some ⟨g,0,none⟩) l.length cap kk (by omega) hncap);obtain ⟨hct1,hct2⟩:=hct1;rw [show qE (some ⟨g,0,none⟩) cap kk 3=some ⟨g,kk*3,none⟩ by unfold qE;rw [if_neg (by omega),Option.map_some,fy,Nat.zero_add]] at hct2;have HEND:Hid (OwnRows eh 42 (wr.setCells g (kk*3) vs) base (.slice (some ⟨g,0,none⟩) kk cap) (compact l)):=Lib.hid (by
        have h1:=HO'.cut (k:=kk) (by omega);have h2:(dk.take kk).length=kk:=by rw [List.length_take];omega
        have h3:=OwnRows.off (g:=g) (cap:=cap) (l:=dk.take kk) (by rw [h2];exact h1) vs (j:=kk*3) (by rw [h2];exact Nat.le_refl _);rw [h2] at h3;rw [<-zO (by rw [<-hend];exact HI.out)];exact h3)
       have HBE:Hid (Below base w0 (wr.setCells g (kk*3) vs)):=Lib.hid (dO HG.out _ _ _ HBW.out);clear hfz hr HO';go_wp2_with fail
       go_ret
       exact ⟨_,rfl,HEND.out,HBE.out⟩
   ·have hkl:k=l.length:=by omega
    have HC:Hid (compact l=l):=Lib.hid (compact_all l fun j hj=>hall.out j (by omega));have hlti:¬(k:Int)<(l.length:Int):=by omega
    have HOQ:=Lib.hid (HOWN.out.below (B:=w.heap.size) (cZ (Below.refl _ _) q) (Nat.le_refl _));have HBQ:=Lib.hid (cZ HB.out q);go_wp2_with fail
    go_ret
    exact ⟨_,rfl,by rw [HC.out];exact HOQ.out,HBQ.out⟩
end
def xn (l:List UInt8):Value:=.tuple #[.int .u64 ((aQ l).1:Int),.int .i64 ((aQ l).2.1:Int),.int .i64 (aQ l).2.2]
theorem oR {l:List UInt8} {v n:Nat} {e:Int} (h:aQ l=(v,n,e)):xn l = .tuple #[.int .u64 (v:Int),.int .i64 (n:Int),.int .i64 e]:=by unfold xn;rw [h]
theorem Cj {x:Nat} (h:x<256):bits .and .u8 (x:Int) 127=((x % 128:Nat):Int):=by
 have:=u8_and_nat x 127 h (by decide);rw [nat_mask7] at this;exact this
theorem Ck {x:Nat} (h:x<256):bits .and .u8 (x:Int) 128=((x / 128*128:Nat):Int):=by
 have:=u8_and_nat x 128 h (by decide);rw [show (128:Nat)=2 ^ 7 from rfl,nat_bit] at this;rw [show ((2 ^ 7:Nat):Int)=128 from rfl] at this;rw [this];congr 1
 have:x / 2 ^ 7 % 2=x / 128:=by omega
 rw [this]
theorem P3 (k:Nat):2 ^ (7*(k+1))=2 ^ (7*k)*128:=by rw [show 7*(k+1)=7*k+7 by omega,Nat.pow_add]
theorem yw {x k:Nat} (hx:x<128) (hk:k<=9) (h9:k=9->x<=1):x*2 ^ (7*k)<2 ^ 64:=by
 rcases Nat.lt_or_ge k 9 with h|h
 ·have h1:x*2 ^ (7*k)<128*2 ^ (7*k):=Nat.mul_lt_mul_of_pos_right hx (Nat.two_pow_pos _);have h2:128*2 ^ (7*k)=2 ^ (7+7*k):=by rw [Nat.pow_add]
  have h3:2 ^ (7+7*k)<=2 ^ 64:=Nat.pow_le_pow_right (by decide) (by omega);omega
 ·have:k=9:=by omega
  subst this;have h1:=Nat.mul_le_mul_right (2 ^ (7*9)) (h9 rfl);have h2:1*2 ^ (7*9)<2 ^ 64:=by decide
  exact Nat.lt_of_le_of_lt h1 h2
theorem Hb {x k:Nat} (hx:x<128) (hk:k<=9) (h9:k=9->x<=1):IntKind.u64.wrap ((x:Int)*2 ^ min (7*(k:Int)).toNat 64)=((x*2 ^ (7*k):Nat):Int):=by
 have h:=yw hx hk h9;rw [show min (7*(k:Int)).toNat 64=7*k by omega];have e:(x:Int)*2 ^ (7*k)=((x*2 ^ (7*k):Nat):Int):=by simp
 rw [e];exact IntWalk.u64_in _ (by
  have:(2 ^ 64:Nat)=18446744073709551616:=by decide
  omega)
theorem MZ {acc x k:Nat} (hacc:acc<2 ^ (7*k)) (hx:x<128) (hk:k<=9) (h9:k=9->x<=1):bits .or .u64 (acc:Int) ((x*2 ^ (7*k):Nat):Int)=((acc+x*2 ^ (7*k):Nat):Int):=by
 have h:=yw hx hk h9;have e64:(2 ^ 64:Nat)=18446744073709551616:=by decide
 have h2:2 ^ (7*k)<=2 ^ 63:=Nat.pow_le_pow_right (by decide) (by omega);have e63:(2 ^ 63:Nat)=9223372036854775808:=by decide
 rw [u64_or_nat acc _ (by omega) (by omega)];congr 1
 rw [Nat.or_comm,nat_join (7*k) _ acc (Nat.mul_mod_left _ _) hacc,Nat.add_comm]
theorem Cl {k acc:Nat} {l:List UInt8} (hk:k<10) (hlt:k<l.length) (h:(k=9/\1<l[k].toNat)\/(l[k].toNat=0/\0<k)):dJ (10-k) k acc (l.drop k)=(0,0,6):=by
 rw [qDc hlt,show 10-k=(9-k)+1 by omega];unfold dJ;rw [if_pos h]
theorem Cn {k acc:Nat} {l:List UInt8} (hk:k<10) (hlt:k<l.length) (h:¬((k=9/\1<l[k].toNat)\/(l[k].toNat=0/\0<k))) (hc:l[k].toNat<128):dJ (10-k) k acc (l.drop k)=(acc+l[k].toNat % 128*2 ^ (7*k),k+1,0):=by
 rw [qDc hlt,show 10-k=(9-k)+1 by omega];unfold dJ;rw [if_neg h,if_pos hc]
theorem Co {k acc:Nat} {l:List UInt8} (hk:k<10) (hlt:k<l.length) (h:¬((k=9/\1<l[k].toNat)\/(l[k].toNat=0/\0<k))) (hc:¬l[k].toNat<128):dJ (10-k) k acc (l.drop k)=dJ (10-(k+1)) (k+1) (acc+l[k].toNat % 128*2 ^ (7*k)) (l.drop (k+1)):=by
 rw [qDc hlt,show 10-k=(9-k)+1 by omega]
 conv=>lhs;unfold dJ
 rw [if_neg h,if_neg hc,show 9-k=10-(k+1) by omega]
theorem zR {k acc:Nat} {l:List UInt8} (hk:k<10) (hlt:l.length<=k):dJ (10-k) k acc (l.drop k)=(0,0,5):=by
 rw [qDn hlt,show 10-k=(9-k)+1 by omega];rfl
theorem ul (A:Option Addr) (B cap:Nat) (l:List UInt8) (w:World) (hm:l.length<=281474976710656) (hr:RowsAt cw w (Lo B) A l):Calls prog 227 #[.slice A l.length cap] w (qA w (xn l)):=by
 have HR:=Lib.hid hr;have HV:=Lib.hid (fun v n e h=>oR (l:=l) (v:=v) (n:=n) (e:=e) h);obtain ⟨res,hres⟩:=qGe (xn l);rw [hres] at HV ⊢;clear hr hres
 go_enter func227,ntmps227
 go_wp2
 go_loop [5,8] (fun v i=>∃(k acc:Nat),k<=10/\k<=l.length/\i = .int .i64 (k:Int)/\v = .int .u64 (acc:Int)/\acc<2 ^ (7*k)/\Hid (aQ l=dJ (10-k) k acc (l.drop k))) (fun _ i=>10-(intOf i).toNat)
 case atStart=>exact ⟨0,0,by omega,Nat.zero_le _,rfl,rfl,by decide,Lib.hid rfl⟩
 case round =>
  obtain ⟨k,acc,hk,hkl,rfl,rfl,hacc,HU⟩:=hrel;have HACC:=Lib.hid hacc;clear hacc;by_cases h10:k<10
  ·by_cases hlt:k<l.length
   ·obtain ⟨b,off,rfl,_,hc⟩:=E7 HR.out hlt;have hcb:=l[k].toNat_lt;have F1:=Lib.hid (fun h=>Cl (acc:=acc) h10 hlt h);have F2:=Lib.hid (fun h h'=>Cn (acc:=acc) h10 hlt h h');have F3:=Lib.hid (fun h h'=>Co (acc:=acc) h10 hlt h h');generalize l[k].toNat=x at *
    have hlti:(k:Int)<(l.length:Int):=by omega
    have m1:=Cj hcb;have m2:=Ck hcb;by_cases hA:k=9/\1<x
    ·have HVV:=Lib.hid (HV.out 0 0 6 (HU.out.trans (F1.out (Or.inl hA))));obtain ⟨h9,h1⟩:=hA;have hk9:((k:Int) == 9)=true:=beq_iff_eq.2 (by omega);have h1i:(1:Int)<(x:Int):=by omega
     clear h9 h1 m1 m2;go_wp2
     (refine bodyPost_ret (v:=res) (by simp [results,results227,go_sem,HVV.out]) rfl ⟨rfl,rfl⟩)
    ·have hx1:k=9->x % 128<=1:=fun h=>by omega
     have eE:(((x % 128*2 ^ (7*k):Nat)):Int)=(x:Int) % 128*2 ^ (7*k):=by push_cast;rfl
     have m3:=Hb (x:=x % 128) (k:=k) (by omega) (by omega) hx1;have m4:=MZ (x:=x % 128) (k:=k) HACC.out (by omega) (by omega) hx1;rw [show min (7*(k:Int)).toNat 64=7*k by omega,eE,show ((x % 128:Nat):Int)=(x:Int) % 128 by omega] at m3;rw [Int.natCast_add,eE] at m4;have EE:Hid (((acc+x % 128*2 ^ (7*k):Nat):Int)=(acc:Int)+(x:Int) % 128*2 ^ (7*k)):=Lib.hid (by rw [Int.natCast_add,eE]);clear eE;have HA:=Lib.hid hA;by_cases hB:128<=x
     ·have HU2:=Lib.hid (HU.out.trans (F3.out (fun h=>h.elim hA (fun h=>by omega)) (by omega)));have HL:=Lib.hid (yw (x:=x % 128) (k:=k) (by omega) (by omega) hx1);have m2':bits .and .u8 (x:Int) 128=128:=by rw [m2,show x / 128*128=128 by omega];rfl
      clear m2;have H9:k=9/\x<=1\/k≠9:=by omega
      have hk9:((k:Int) == 9)=false:=beq_eq_false_iff_ne.2 (by omega);clear hA H9 hx1;go_wp2
      go_round
      case rel=>exact ⟨k+1,acc+x % 128*2 ^ (7*k),by omega,by omega,by go_num,by rw [EE.out],by
       have:=HACC.out;rw [P3];have h1:x % 128<=127:=by omega
       have h2:=Nat.mul_le_mul_right (2 ^ (7*k)) h1;omega,HU2⟩
      case measure=>simp [intOf];omega
     ·have m2':bits .and .u8 (x:Int) 128=0:=by rw [m2,show x / 128*128=0 by omega];rfl
      clear m2;by_cases hZ:x=0/\0<k
      ·have HVV:=Lib.hid (HV.out 0 0 6 (HU.out.trans (F1.out (Or.inr hZ))));obtain ⟨hz1,hz2⟩:=hZ;have hz3:((x:Int) == 0)=true:=beq_iff_eq.2 (by omega);have hz4:(0:Int)<(k:Int):=by omega
       have hx2:¬(1:Int)<(x:Int):=by omega
       clear hz1 hz2 hA hx1;go_wp2
       all_goals (refine bodyPost_ret (v:=res) (by simp [results,results227,go_sem,HVV.out]) rfl ⟨rfl,rfl⟩)
      ·have HVV:=Lib.hid (HV.out _ _ _ (HU.out.trans (F2.out (fun h=>h.elim hA hZ) (by omega))));rw [EE.out] at HVV;have hk01:k=0\/x≠0:=by omega
       have hk90:k=9/\x<=1\/k≠9:=by omega
       clear hx1 hA hZ;rcases hk90 with ⟨h9,hx1⟩|h9
       ·have hk9:((k:Int) == 9)=true:=beq_iff_eq.2 (by omega);have hz3:((x:Int) == 0)=false:=beq_eq_false_iff_ne.2 (by omega);have hx2:(x:Int)<=1:=by omega
        clear h9 hk01 hx1;go_wp2
        all_goals (refine bodyPost_ret (v:=res) (by simp [results,results227,go_sem,HVV.out]) rfl ⟨rfl,rfl⟩)
       ·have hk9:((k:Int) == 9)=false:=beq_eq_false_iff_ne.2 (by omega);clear h9;rcases hk01 with h0|h0
        ·have hk0:¬(0:Int)<(k:Int):=by omega
         clear h0;by_cases hx0:x=0
         ·subst hx0;have m5:bits .or .u64 (acc:Int) 0=(acc:Int):=by simpa using m4
          have m6:bits .and .u8 (0:Int) 127=0:=by simpa using m1
          have m7:bits .and .u8 (0:Int) 128=0:=by simpa using m2'
          have m8:IntKind.u64.wrap 0=0:=by rw [IntWalk.u64_in _ (by omega)]
          clear m1 m2' m3 m4;go_wp2
          all_goals (refine bodyPost_ret (v:=res) (by simp [results,results227,go_sem,HVV.out]) rfl ⟨rfl,rfl⟩)
         have hz3:((x:Int) == 0)=false:=beq_eq_false_iff_ne.2 (by omega);clear hx0;go_wp2
         all_goals (refine bodyPost_ret (v:=res) (by simp [results,results227,go_sem,HVV.out]) rfl ⟨rfl,rfl⟩)
        ·have hz3:((x:Int) == 0)=false:=beq_eq_false_iff_ne.2 (by omega);clear h0;go_wp2
         all_goals (refine bodyPost_ret (v:=res) (by simp [results,results227,go_sem,HVV.out]) rfl ⟨rfl,rfl⟩)
   ·have HVV:=Lib.hid (HV.out 0 0 5 (HU.out.trans (zR h10 (by omega))));go_wp2
    (refine bodyPost_ret (v:=res) (by simp [results,results227,go_sem,HVV.out]) rfl ⟨rfl,rfl⟩)
  ·obtain rfl:k=10:=by omega
   have HVV:=Lib.hid (HV.out 0 0 6 (HU.out.trans rfl));go_wp2
   (refine bodyPost_ret (v:=res) (by simp [results,results227,go_sem,HVV.out]) rfl ⟨rfl,rfl⟩)
theorem zS {m:Nat} (h:m<18446744073709551616):bits .and .u64 (m:Int) 127=(m:Int) % 128:=by
 have:=u64_and_nat m 127 h (by decide);rw [nat_mask7] at this;exact this.trans (by omega)
theorem Fm {x:Nat} (h:x<128):bits .or .u8 (x:Int) 128=(x:Int)+128:=by
 have:=u8_or_nat x 128 (by omega) (by decide);rw [Nat.or_comm,nat_join 7 128 x (by decide) (by omega)] at this;exact this.trans (by omega)
def OE (A:Option Addr) (w:World) (l pre:List UInt8) (v:Value) (wq:World):Prop :=
 (pre=[]/\v = .slice A l.length l.length/\wq=w)\/OwnRows cw 5 wq w.heap.size v (l++pre)
theorem lU (A:Option Addr) (cap:Nat) (l:List UInt8) (v:Nat) (w:World) (hv:v<18446744073709551616) (hA:A=none->l.length=0) (hc:l.length<=cap) (hcm:cap<=maxLen) (hm:l.length<=140737488355300) (hr:RowsAt cw w (Lo w.heap.size) A l) :
  Calls prog 139 #[.slice A l.length cap,.int .u64 (v:Int)] w (iz cw 5 w (l++bp v)):=by
 unfold maxLen at hcm;have HR:=Lib.hid hr;have HA:Hid (A=none->l.length=0/\l.length=0):=Lib.hid (fun h=>⟨hA h,hA h⟩);have hlen:(bp v).length<=10:=jr 9 v (by
  have e70:(2:Nat) ^ (7*(9+1))=1180591620717411303424:=by decide
  omega)
 have HLEN:=Lib.hid hlen;have HV64:=Lib.hid hv;clear hr hA hlen hv
 go_enter func139,ntmps139
 go_wp2_with fail
 go_loopg [1,5] (bp v).length (fun g v1 v5 wq=>∃(m:Nat) (pre:List UInt8),v1 = .int .u64 (m:Int)/\Hid (m<18446744073709551616)/\Hid (bp v=pre++bp m)/\(bp m).length<=g/\Hid (OE A w l pre v5 wq)/\Below w.heap.size w wq)
 case atStart=>exact ⟨v,[],rfl,HV64,Lib.hid rfl,Nat.le_refl _,Lib.hid (Or.inl ⟨rfl,rfl,rfl⟩),Below.refl _ _⟩
 case round =>
  obtain ⟨m,pre,rfl,HM,HE,hg,HP,hbw⟩:=hrel;have HBW:=Lib.hid hbw;have hpre:Hid (pre.length+(bp m).length<=10):=Lib.hid (by have:=HLEN.out;rw [HE.out,List.length_append] at this;exact this);clear hbw;by_cases hlt:m<128
  ·have es:=jX hlt;have hw8:IntKind.u8.wrap (m:Int)=(m:Int):=IntWalk.u8_in _ (by omega);have htn:((UInt8.ofNat m).toNat:Int)=(m:Int):=by rw [i8 (by omega)]
   have ES:=Lib.hid es;have HT:=Lib.hid htn;clear es htn;rcases HP.out with ⟨rfl,rfl,rfl⟩|hown
   ·go_wp2_with (at_builtin;refine xf jf rfl (.tmp 23) (.tmp 26) rfl wr A l.length l.length l rfl (UInt8.ofNat m) [.int .u8 (m:Int)] _ rfl rfl (Nat.le_refl _) HA.out HR.out wr.heap.size rfl rfl (by show [_]=[_];rw [HT.out]) (by unfold maxLen;omega) (by omega) ?_;intro v7 w7 hown7 hb7;have HOWN7:=Lib.hid hown7;have HB7:=Lib.hid hb7;clear hown7 hb7)
    go_ret
    exact ⟨_,rfl,by rw [HE.out,ES.out];exact HOWN7.out,HB7.out⟩
   ·have HOWN:=Lib.hid hown;have hl10:Hid ((l++pre).length<maxLen/\((l++pre).length+1)*1<=140737488355328):=Lib.hid (by have:=hpre.out;simp [maxLen];omega);clear hown;go_wp2_with (at_builtin;refine zC jf rfl (.tmp 23) (.tmp 26) rfl wr w.heap.size u5 (l++pre) (UInt8.ofNat m) [.int .u8 (m:Int)] _ rfl rfl HOWN.out wr.heap.size rfl rfl (by show [_]=[_];rw [HT.out]) hl10.out.1 hl10.out.2 ?_;intro v7 w7 hown7 hb7 hsp7;have HOWN7:=Lib.hid hown7;have HB7:=Lib.hid (HBW.out.trans hb7);clear hown7 hb7 hsp7)
    go_ret
    exact ⟨_,rfl,by rw [HE.out,ES.out,<-List.append_assoc];exact HOWN7.out,HB7.out⟩
  ·have es:=t8 hlt;have a1:=zS HM.out;have a2:IntKind.u8.wrap ((m:Int) % 128)=(m:Int) % 128:=IntWalk.u8_in _ (by omega);have a3:bits .or .u8 ((m:Int) % 128) 128=(m:Int) % 128+128:=by
    have:=Fm (x:=m % 128) (by omega)
    rwa [show ((m % 128:Nat):Int)=(m:Int) % 128 by omega] at this
   have htn:((UInt8.ofNat (m % 128+128)).toNat:Int)=(m:Int) % 128+128:=by rw [i8 (by omega)];omega
   have ES:=Lib.hid es;have HT:=Lib.hid htn;have hgr:Hid ((bp (m / 128)).length+1<=gk):=Lib.hid (by rw [es] at hg;simpa using hg);have hM2:Hid (m / 128<18446744073709551616):=Lib.hid (by have:=HM.out;omega);have hlti:(127:Int)<(m:Int):=by omega
   clear es htn;rcases HP.out with ⟨rfl,rfl,rfl⟩|hown
   ·go_wp2_with (at_builtin;refine xf jf rfl (.tmp 14) (.tmp 19) rfl wr A l.length l.length l rfl (UInt8.ofNat (m % 128+128)) [.int .u8 ((m:Int) % 128+128)] _ rfl rfl (Nat.le_refl _) HA.out HR.out wr.heap.size rfl rfl (by show [_]=[_];rw [HT.out]) (by unfold maxLen;omega) (by omega) ?_;intro v7 w7 hown7 hb7;have HOWN7:=Lib.hid hown7;have HB7:=Lib.hid hb7;clear hown7 hb7)
    go_roundg (gk-1)
    case measure=>have:=hgr.out;omega
    case rel=>exact ⟨m / 128,[UInt8.ofNat (m % 128+128)],by congr 1,hM2,Lib.hid (by rw [HE.out,ES.out];rfl),by have:=hgr.out;omega,Lib.hid (Or.inr HOWN7.out),HB7.out⟩
   ·have HOWN:=Lib.hid hown;have hl10:Hid ((l++pre).length<maxLen/\((l++pre).length+1)*1<=140737488355328):=Lib.hid (by have:=hpre.out;simp [maxLen];omega);clear hown;go_wp2_with (at_builtin;refine zC jf rfl (.tmp 14) (.tmp 19) rfl wr w.heap.size u5 (l++pre) (UInt8.ofNat (m % 128+128)) [.int .u8 ((m:Int) % 128+128)] _ rfl rfl HOWN.out wr.heap.size rfl rfl (by show [_]=[_];rw [HT.out]) hl10.out.1 hl10.out.2 ?_;intro v7 w7 hown7 hb7 hsp7;have HOWN7:=Lib.hid hown7;have HB7:=Lib.hid (HBW.out.trans hb7);clear hown7 hb7 hsp7)
    go_roundg (gk-1)
    case measure=>have:=hgr.out;omega
    case rel=>exact ⟨m / 128,pre++[UInt8.ofNat (m % 128+128)],by congr 1,hM2,Lib.hid (by rw [HE.out,ES.out];simp),by have:=hgr.out;omega,Lib.hid (Or.inr (by rw [<-List.append_assoc];exact HOWN7.out)),HB7.out⟩
theorem zT (A:Option Addr) (cap:Nat) (l:List UInt8) (v:Nat) (w:World) (hv:v<18446744073709551616) (hA:A=none->l.length=0/\cap=0) (hc:l.length<=cap) (hcm:cap<=maxLen) (hm:l.length<=140737488355300) (hr:RowsAt cw w (Lo w.heap.size) A l) :
  Calls prog 139 #[.slice A l.length cap,.int .u64 (v:Int)] w (iz cw 5 w (l++bp v)) :=
 lU A cap l v w hv (fun h=>(hA h).1) hc hcm hm hr
theorem mA {w0:World} {base:Nat} {v:Value} {l:List UInt8} (n:Int) (w:World) (hown:OwnRows cw 5 w base v l) (hb:Below base w0 w) (h0:0<=n) (h1:n<=999) (hm:l.length<=140737488355300) :
  Calls prog 139 #[v,.int .u64 n] w fun e w'=>∃v',e = .returned v'/\OwnRows cw 5 w' base v' (l++bp n.toNat)/\Below base w0 w':=by
 obtain ⟨A,cap,rfl,hA,hr,hc,hcm⟩:=hown.form2;have:=zT A cap l n.toNat w (by omega) hA hc hcm hm hr;rw [show ((n.toNat:Nat):Int)=n by omega] at this;refine this.mono ?_;rintro e w' ⟨v',rfl,ho,hbl⟩;exact ⟨v',rfl,ho.older hown.1,hb.trans (hbl.mono hown.1)⟩
theorem Bw (A:Option Addr) (cap:Nat) (l:List UInt8) (p:Pr) (w:World) (hm:l.length<=140737488355200) (hr:RowsAt cw w (Lo w.heap.size) A l) :
  Calls prog 138 #[.slice A l.length cap,p.val] w (iz cw 5 w (l++wK p)):=by
 have HR:=Lib.hid hr;have HV:=Lib.hid (fun W=>qC p W);obtain ⟨bv,hbv⟩:∃b,gm p=b:=⟨_,rfl⟩;rw [hbv] at HV;have HBV:=Lib.hid hbv;obtain ⟨L,hL⟩:=qGe (l++wK p);rw [hL];have HL:=Lib.hid hL;clear hr hbv hL;obtain ⟨a,b,c⟩:=p;unfold Pr.val at *
 have i0:∀w:World,(Instr.index 228 (.agg #[.int .i64 a,.int .i64 b,.int .i64 c]) (.int .i64 0)).run prog w = .ok (.int .i64 a) w:=fun _=>by kernel_rfl
 have i1:∀w:World,(Instr.index 228 (.agg #[.int .i64 a,.int .i64 b,.int .i64 c]) (.int .i64 1)).run prog w = .ok (.int .i64 b) w:=fun _=>by kernel_rfl
 have i2:∀w:World,(Instr.index 228 (.agg #[.int .i64 a,.int .i64 b,.int .i64 c]) (.int .i64 2)).run prog w = .ok (.int .i64 c) w:=fun _=>by kernel_rfl
 have HN:Hid (OwnRows cw 5 (w.alloc (.cells #[.int .i64 a,.int .i64 b,.int .i64 c] 42)) (w.heap.size+1) (.slice none 0 0) []):=Lib.hid (OwnRows.nil _ _ _ _ (by simp));have HRA:Hid (RowsAt cw (w.alloc (.cells #[.int .i64 a,.int .i64 b,.int .i64 c] 42)) (ym (w.alloc (.cells #[.int .i64 a,.int .i64 b,.int .i64 c] 42)) (.slice none 0 0)) A l):=Lib.hid (HR.out.same (fun b hb=>Below.heap_alloc w _ b hb) fun b hb=>⟨Nat.lt_of_lt_of_le hb (by simp),fun e=>by cases e⟩)
 go_enter func138,ntmps138
 go_wp2_with (at_builtin;refine lJ jf rfl (.const (.slice none 0 0)) (.tmp 8) rfl _ (w.heap.size+1) _ [] l l.length rfl A cap rfl HN.out rfl HRA.out (by simp [maxLen];omega) (by simp;omega) ?_;intro v3 w3 hown3 hb3 hsp3;rw [List.nil_append] at hown3;have HOWN3:=Lib.hid hown3;have hb4:Below (w.alloc (.cells #[.int .i64 a,.int .i64 b,.int .i64 c] 42)).heap.size (w.alloc (.cells #[.int .i64 a,.int .i64 b,.int .i64 c] 42)) w3:=(by simpa using hb3);obtain ⟨hc3,hf3⟩:=lN hb4;have hz3:w.heap.size<w3.heap.size:=(by have:=hb4.size;simp at this;omega);have HB3:=Lib.hid (Below.tr (Below.al (Below.refl _ w) _) hb4);clear hown3 hb3 hb4 hsp3)
 refine (HV.out _).mono ?_;rintro e w4 ⟨rfl,hb4⟩;have HOWN4:=Lib.hid (HOWN3.out.below (B:=w3.heap.size) hb4 (Nat.le_refl _));obtain ⟨hc4,hf4⟩:=lN hb4;have hz4:w.heap.size<w4.heap.size:=by have:=hb4.size;omega
 have HB4:Hid (Below w.heap.size w w4):=Lib.hid (Below.tr HB3.out hb4);clear hb4;cases bv with
 | false =>
  have HL0:Hid (L=l):=Lib.hid (by
   rw [<-HL.out];unfold wK;rw [if_neg (by rw [HBV.out];simp),List.append_nil])
  go_wp2_with fail
  go_ret
  exact ⟨_,rfl,by rw [HL0.out];exact HOWN4.out.older (by omega),HB4.out⟩
 | true =>
  obtain ⟨a0,a1,b0,b1,c0,c1⟩:=mE.1 HBV.out;dsimp only at a0 a1 b0 b1 c0 c1;have HL0:Hid (L=l++bp a.toNat++bp b.toNat++bp c.toNat):=Lib.hid (by
   rw [<-HL.out];unfold wK oN;rw [if_pos HBV.out];simp)
  have wa:IntKind.u64.wrap a=a:=IntWalk.u64_in _ (by omega);have wb:IntKind.u64.wrap b=b:=IntWalk.u64_in _ (by omega);have wc:IntKind.u64.wrap c=c:=IntWalk.u64_in _ (by omega);have HLa:Hid ((bp a.toNat).length<=10/\(bp b.toNat).length<=10):=Lib.hid ⟨jr 9 _ (by
   have e70:(2:Nat) ^ (7*(9+1))=1180591620717411303424:=by decide
   omega),jr 9 _ (by
   have e70:(2:Nat) ^ (7*(9+1))=1180591620717411303424:=by decide
   omega)⟩
  have HRG:=Lib.hid (And.intro (And.intro a0 a1) (And.intro (And.intro b0 b1) (And.intro c0 c1)));clear a0 a1 b0 b1 c0 c1;go_wp2_with fail
  clear hc3 hf3 hc4 hf4;refine wp_loop_rounds 4 ?_;rw [rounds_succ];go_wp2_with fail
  refine (mA a _ HOWN4.out (Below.refl _ _) HRG.out.1.1 (by have:=HRG.out.1.2;omega) (by omega)).mono ?_;rintro e w5 ⟨v5,rfl,hown5,hb5⟩;have HOWN5:=Lib.hid hown5;have HB5:Hid (Below w.heap.size w w5):=Lib.hid (HB4.out.trans (hb5.mono (by omega)));clear hown5 hb5;go_wp2_with fail
  rw [rounds_succ];go_wp2_with fail
  refine (mA b _ HOWN5.out (Below.refl _ _) (by have:=HRG.out.2.1.1;omega) (by have:=HRG.out.2.1.2;omega) (by have:=HLa.out.1;rw [List.length_append];omega)).mono ?_;rintro e w6 ⟨v6,rfl,hown6,hb6⟩;have HOWN6:=Lib.hid hown6;have HB6:Hid (Below w.heap.size w w6):=Lib.hid (HB5.out.trans (hb6.mono (by omega)));clear hown6 hb6;go_wp2_with fail
  rw [rounds_succ];go_wp2_with fail
  refine (mA c _ HOWN6.out (Below.refl _ _) (by have:=HRG.out.2.2.1;omega) HRG.out.2.2.2 (by have:=HLa.out;rw [List.length_append,List.length_append];omega)).mono ?_;rintro e w7 ⟨v7,rfl,hown7,hb7⟩;have HOWN7:=Lib.hid hown7;have HB7:Hid (Below w.heap.size w w7):=Lib.hid (HB6.out.trans (hb7.mono (by omega)));clear hown7 hb7;go_wp2_with fail
  rw [rounds_succ];go_wp2_with fail
  go_ret
  exact ⟨_,rfl,by rw [HL0.out];exact HOWN7.out.older (by omega),HB7.out⟩
theorem cJ {fn:Func} {p u u2:Tmp} {ty:TypeId} (h:fn.results = #[.cell p ty,.tmp u,.tmp u2]) (tmps:Array Value) (P:Program) (w:World) :
  (results fn tmps).run P w =
   ((asAddr (tmps.getD p undef)).run P w).andThen fun a w₁=>((loadVar ty a).run P w₁).andThen fun v w₂=>.ok (.tuple #[v,tmps.getD u undef,tmps.getD u2 undef]) w₂:=by
 simp only [results,h];simp [Sem.run_bind,Result.andThen]
def tg (x:Pr×Nat×Int):Value:=.tuple #[x.1.val,.int .i64 (x.2.1:Int),.int .i64 x.2.2]
theorem Bz {l:List UInt8} {v n:Nat} {e:Int} (h:aQ l=(v,n,e)) (he:e≠0):dV l=(ll,0,e):=by
 unfold dV;simp [h,he]
theorem BA {l:List UInt8} {v n v' n':Nat} {e':Int} (h:aQ l=(v,n,0)) (h':aQ (l.drop n)=(v',n',e')) (he:e'≠0):dV l=(ll,0,e'):=by
 unfold dV;simp [h,h',he]
theorem BB {l:List UInt8} {v n v' n' v'' n'':Nat} {e'':Int} (h:aQ l=(v,n,0)) (h':aQ (l.drop n)=(v',n',0)) (h'':aQ (l.drop (n+n'))=(v'',n'',e'')) (he:e''≠0):dV l=(ll,0,e''):=by
 unfold dV;simp [h,h',h'',he]
theorem BC {l:List UInt8} {v n v' n' v'' n'':Nat} (h:aQ l=(v,n,0)) (h':aQ (l.drop n)=(v',n',0)) (h'':aQ (l.drop (n+n'))=(v'',n'',0)):dV l=Cd v v' v'' (n+n'+n''):=by
 unfold dV;simp [h,h',h'']
def jT (v:Nat):Nat:=min v 1073741824
theorem EO (a b c:Nat):gm ⟨(jT a:Int),(jT b:Int),(jT c:Int)⟩=gm ⟨(a:Int),(b:Int),(c:Int)⟩:=by
 rw [Bool.eq_iff_iff,mE,mE];simp only [jT];omega
theorem Dk {a b c:Nat} (h:gm ⟨(a:Int),(b:Int),(c:Int)⟩=true):jT a=a/\jT b=b/\jT c=c:=by
 have:=mE.1 h;simp only [jT] at *
 omega
theorem zv (v:Nat):(if (1073741824:Int)<(v:Int) then 1073741824 else (v:Int))=(jT v:Int)/\min (v:Int) 1073741824=(jT v:Int):=by unfold jT;exact ⟨by split <;> omega,by omega⟩
theorem wu (v:Nat):IntKind.i64.wrap (jT v:Int)=(jT v:Int):=IntWalk.i64_in _ (by unfold jT;omega)
theorem BD (A:Option Addr) (B cap k:Nat) (l:List UInt8) (w:World) (hk:k<=l.length) (hc:l.length<=cap) (hm:l.length<=281474976710656) (hr:RowsAt cw w (Lo B) A l) :
  Calls prog 227 #[.slice (qE A cap k 1) (l.length-k) (cap-k)] w (qA w (xn (l.drop k))):=by
 have:=ul (qE A cap k 1) B (cap-k) (l.drop k) w (by rw [List.length_drop];omega) (hr.cut hk hc)
 rwa [List.length_drop] at this
theorem Jy (A:Option Addr) (cap:Nat) (l:List UInt8) (w:World) (hc:l.length<=cap) (hcm:cap<=maxLen) (hm:l.length<=281474976710656) (hr:RowsAt cw w (Lo w.heap.size) A l) :
  Calls prog 226 #[.slice A l.length cap] w (xc w (tg (dV l))):=by
 have HR:=Lib.hid hr;have HC:=Lib.hid hc;have HM:=Lib.hid hm;obtain ⟨u0,n0,e0,hu0⟩:∃a b c,aQ l=(a,b,c):=⟨_,_,_,rfl⟩;have b0:=cU l;rw [hu0] at b0;dsimp only at b0;have HU0:=Lib.hid hu0;have HB0:=Lib.hid b0;have HE0:=Lib.hid (fun he=>Bz hu0 he);have HX0:Hid (∀W,Below w.heap.size w W->Calls prog 227 #[.slice A l.length cap] W (qA W (.tuple #[.int .u64 (u0:Int),.int .i64 (n0:Int),.int .i64 e0]))):=Lib.hid (fun W hb=>by
  have:=ul A w.heap.size cap l W hm (hr.below hb (Nat.le_refl _) (Nat.le_refl _));rw [oR hu0] at this;exact this)
 obtain ⟨res,hres⟩:=qGe (tg (dV l));rw [hres];have HRES:=Lib.hid hres;clear hr hc hm hu0 b0 hres;unfold maxLen at hcm
 go_enter func226,ntmps226
 go_wp2_with fail
 refine wp_loop_rounds 4 ?_;rw [rounds_succ];go_wp2_with fail
 refine (HX0.out _ (by (exact i7))).mono ?_;rintro e w1 ⟨rfl,hw⟩;rw [hw];clear hw;have hE0:=HB0.out.2.2;by_cases he0:e0=0
 ·obtain rfl:=he0.symm;obtain ⟨hp0,hl0,ht0⟩:=HB0.out.2.1 rfl;have c0:=zv u0;have d0:=wu u0;obtain ⟨m0,hm0⟩:∃m,jT u0=m:=⟨_,rfl⟩;rw [hm0] at c0 d0;obtain ⟨u1,n1,e1,hu1⟩:∃a b c,aQ (l.drop n0)=(a,b,c):=⟨_,_,_,rfl⟩;have b1:=cU (l.drop n0);rw [hu1,List.length_drop] at b1;dsimp only at b1;have HU1:=Lib.hid hu1;have HB1:=Lib.hid b1;have HE1:=Lib.hid (fun he=>BA HU0.out hu1 he);have HM0:=Lib.hid hm0;have HX1:Hid (∀W,Below w.heap.size w W->Calls prog 227 #[.slice (qE A cap n0 1) (l.length-n0) (cap-n0)] W (qA W (.tuple #[.int .u64 (u1:Int),.int .i64 (n1:Int),.int .i64 e1]))):=Lib.hid (fun W hb=>by
   have:=BD A w.heap.size cap n0 l W hl0 HC.out HM.out (HR.out.below hb (Nat.le_refl _) (Nat.le_refl _));rw [oR hu1] at this;exact this)
  have hcut1:=(Ki underlying123 (z:=.int .u8 0) (sz:=1) (by_:=1) (by kernel_rfl) A l.length cap n0 hl0 HC.out).2;clear hu1 b1 hm0 hE0 HX0;go_wp2_with fail
  rw [rounds_succ];go_wp2_with fail
  refine (HX1.out _ (by (exact i7))).mono ?_;rintro e w1 ⟨rfl,hw⟩;rw [hw];clear hw hcut1 c0 d0;have hE1:=HB1.out.2.2;by_cases he1:e1=0
  ·obtain rfl:=he1.symm;obtain ⟨hp1,hl1,ht1⟩:=HB1.out.2.1 rfl;have c1:=zv u1;have d1:=wu u1;obtain ⟨m1,hm1⟩:∃m,jT u1=m:=⟨_,rfl⟩;rw [hm1] at c1 d1;have hl01:n0+n1<=l.length:=by omega
   obtain ⟨u2,n2,e2,hu2⟩:∃a b c,aQ (l.drop (n0+n1))=(a,b,c):=⟨_,_,_,rfl⟩;have b2:=cU (l.drop (n0+n1));rw [hu2,List.length_drop] at b2;dsimp only at b2;have HU2:=Lib.hid hu2;have HB2:=Lib.hid b2;have HE2:=Lib.hid (fun he=>BB HU0.out HU1.out hu2 he);have HM1:=Lib.hid hm1;have HX2:Hid (∀W,Below w.heap.size w W->Calls prog 227 #[.slice (qE A cap (n0+n1) 1) (l.length-(n0+n1)) (cap-(n0+n1))] W (qA W (.tuple #[.int .u64 (u2:Int),.int .i64 (n2:Int),.int .i64 e2]))):=Lib.hid (fun W hb=>by
    have:=BD A w.heap.size cap (n0+n1) l W hl01 HC.out HM.out (HR.out.below hb (Nat.le_refl _) (Nat.le_refl _));rw [oR hu2] at this;exact this)
   have hcut2:=(Ki underlying123 (z:=.int .u8 0) (sz:=1) (by_:=1) (by kernel_rfl) A l.length cap (n0+n1) hl01 HC.out).2;rw [Int.natCast_add] at hcut2;clear hu2 b2 hm1 hE1 HX1;go_wp2_with fail
   rw [rounds_succ];go_wp2_with fail
   refine (HX2.out _ (by (exact i7))).mono ?_;rintro e w1 ⟨rfl,hw⟩;rw [hw];clear hw hcut2 c1 d1;have hE2:=HB2.out.2.2;by_cases he2:e2=0
   ·obtain rfl:=he2.symm;obtain ⟨hp2,hl2,ht2⟩:=HB2.out.2.1 rfl;have c2:=zv u2;have d2:=wu u2;obtain ⟨m2,hm2⟩:∃m,jT u2=m:=⟨_,rfl⟩;rw [hm2] at c2 d2;have HM2:=Lib.hid hm2;clear hm2 hE2 HX2;go_wp2_with fail
    rw [rounds_succ];go_wp2_with fail
    refine (qC ⟨m0,m1,m2⟩ _).mono ?_;rintro e w4 ⟨rfl,hb4⟩;obtain ⟨hc_w4,hf_w4⟩:=lN hb4;have hs_w4:=hb4.size
    (try simp at hs_w4)
    have hz_w4_0:w.heap.size<w4.heap.size:=(by omega);have hz_w4_1:w.heap.size+1<w4.heap.size:=(by omega);have hz_w4_2:w.heap.size+1+1<w4.heap.size:=(by omega);clear hs_w4;have hr0:=BC HU0.out HU1.out HU2.out;unfold Cd at hr0;rw [<-EO,HM0.out,HM1.out,HM2.out] at hr0;have HB4:Hid (Below w.heap.size w w4):=Lib.hid (Below.tr (Below.al (Below.al (Below.al (Below.refl _ _) _) _) _) hb4);have PB0:Blk w4 w.heap.size 42 #[.int .i64 0,.int .i64 0,.int .i64 0]:=(((Blk.new w 42 _).alloc _).alloc _).below hb4 (by simp;omega);have z0:=PB0.cellx 0 (v:=.int .i64 0) rfl;have z1:=PB0.cellx 1 (v:=.int .i64 0) rfl;have z2:=PB0.cellx 2 (v:=.int .i64 0) rfl;have fz0:=PB0.frozen 0;have fz1:=PB0.frozen 1;have fz2:=PB0.frozen 2;clear hb4 PB0;cases hvp:gm ⟨(m0:Int),(m1:Int),(m2:Int)⟩ with
    | false =>
     rw [hvp,if_neg (by simp)] at hr0;rw [hr0] at HRES;clear hvp hr0;go_wp2_with fail
     (try simp only [Exit.inBlock,Exit.then])
     have hv:=HRES.out;have HB:=HB4.out;exact Re
    | true =>
     rw [hvp,if_pos rfl] at hr0;have hid:jT u0=u0/\jT u1=u1/\jT u2=u2:=Dk (by rw [<-EO,HM0.out,HM1.out,HM2.out];exact hvp);rw [HM0.out,HM1.out,HM2.out] at hid;rw [<-hid.1,<-hid.2.1,<-hid.2.2] at hr0;rw [hr0] at HRES;have HN:Hid (((n0+n1+n2:Nat):Int)=(n0:Int)+(n1:Int)+(n2:Int)):=Lib.hid (by omega);clear hvp hr0 hid;go_wp2_with fail
     (try simp only [Exit.inBlock,Exit.then])
     have hv:=HRES.out;have HB:=HB4.out;refine bodyPost_ret_by (v:=res) ?_ rfl ⟨rfl,by (exact i7)⟩;rw [cJ rfl,<-hv];unfold tg Pr.val;rw [HN.out];go_simp
   ·have hb2:((e2:Int) == 0)=false:=beq_eq_false_iff_ne.2 he2;clear hE2;have hr0:=HE2.out he2;rw [hr0] at HRES;go_wp2_with fail
    (try simp only [Exit.inBlock,Exit.then])
    have hv:=HRES.out;exact Re
  ·have hb1:((e1:Int) == 0)=false:=beq_eq_false_iff_ne.2 he1;clear hE1;have hr0:=HE1.out he1;rw [hr0] at HRES;go_wp2_with fail
   (try simp only [Exit.inBlock,Exit.then])
   have hv:=HRES.out;exact Re
 ·have hb0:((e0:Int) == 0)=false:=beq_eq_false_iff_ne.2 he0;clear hE0;have hr0:=HE0.out he0;rw [hr0] at HRES;go_wp2_with fail
  (try simp only [Exit.inBlock,Exit.then])
  have hv:=HRES.out;exact Re
end Go.Proofs.YtkkbopkbjacfmaaGreatDoor
