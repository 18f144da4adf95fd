/- Part 3 of 56 of the proof of both_hold (no condition). -/
import Derived.Test.YtcgpepnbohejfaaGreatDoorK01
import Derived.Lib.AtoiAll
import Derived.Lib.ItoaNum
import Derived.Lib.Split
import Derived.Laws.StructEq
import Derived.Handy
import Derived.Lib.SlicesCompact
import Derived.Sort.LotA
import Derived.Shelf.SlSortCmp.NoneTotal
import Derived.Ground.SlsfProg
import Derived.Shelf.SlGeneric
import Derived.Shelf.SlLaysF0
import Derived.Shelf.RegionOpenPlain
import Derived.Lib.SliceRun
set_option linter.unusedVariables false
set_option linter.unusedSimpArgs false
set_option maxRecDepth 100000
set_option maxHeartbeats 64000000
namespace Go.Proofs.YtcgpepnbohejfaaGreatDoor
open Go.RowKit Go.Proofs.Tryz
structure Pr where
 site:Int
 inc:Int
 num:Int
 deriving DecidableEq
def j8 (p:Pr):Bool:=decide (0≤p.site) && decide (p.site≤3) && (decide (1≤p.inc) && decide (p.inc≤99)) && (decide (1≤p.num) && decide (p.num≤999))
def tI (a b:Int):Int:=if a<b then -1 else if b<a then 1 else 0
def bC (p q:Pr):Int:=if tI p.site q.site≠0 then tI p.site q.site else if tI p.inc q.inc≠0 then tI p.inc q.inc else tI p.num q.num
def Hg:Pr:=⟨0,0,0⟩
def aJ (n:Int):Int:=if n<0∨1073741824≤n then 1 else n+1
theorem j9 (a b:Int):(a<b∧tI a b = -1)∨(a=b∧tI a b=0)∨(b<a∧tI a b=1):=by
 unfold tI;split
 ·exact Or.inl ⟨by assumption,rfl⟩
 ·split
  ·exact Or.inr (Or.inr ⟨by assumption,rfl⟩)
  ·exact Or.inr (Or.inl ⟨by omega,rfl⟩)
def fC (p q:Pr):Prop:=p.site<q.site∨p.site=q.site∧(p.inc<q.inc∨p.inc=q.inc∧p.num<q.num)
theorem dd (p q:Pr):(fC p q∧bC p q = -1)∨(p=q∧bC p q=0)∨(fC q p∧bC p q=1):=by
 unfold bC fC;rcases j9 p.site q.site with ⟨h,e⟩|⟨h,e⟩|⟨h,e⟩ <;> rw [e]
 ·exact Or.inl ⟨Or.inl h,rfl⟩
 ·rw [if_neg (by decide)];rcases j9 p.inc q.inc with ⟨h2,e⟩|⟨h2,e⟩|⟨h2,e⟩ <;> rw [e]
  ·exact Or.inl ⟨Or.inr ⟨h,Or.inl h2⟩,rfl⟩
  ·rw [if_neg (by decide)];rcases j9 p.num q.num with ⟨h3,e⟩|⟨h3,e⟩|⟨h3,e⟩ <;> rw [e]
   ·exact Or.inl ⟨Or.inr ⟨h,Or.inr ⟨h2,h3⟩⟩,rfl⟩
   ·refine Or.inr (Or.inl ⟨?_,rfl⟩);cases p;cases q
    simp_all
   ·exact Or.inr (Or.inr ⟨Or.inr ⟨h.symm,Or.inr ⟨h2.symm,h3⟩⟩,rfl⟩)
  ·exact Or.inr (Or.inr ⟨Or.inr ⟨h.symm,Or.inl h2⟩,rfl⟩)
 ·exact Or.inr (Or.inr ⟨Or.inl h,rfl⟩)
theorem bI (p:Pr):¬fC p p:=by
 unfold fC;omega
theorem cX {p q r:Pr} (h1:fC p q) (h2:fC q r):fC p r:=by
 unfold fC at *
 omega
theorem jv {p q:Pr} (h1:fC p q):¬fC q p:=fun h2=>bI p (cX h1 h2)
theorem jw (p q:Pr):bC p q=0↔p=q:=by
 rcases dd p q with ⟨h,e⟩|⟨h,e⟩|⟨h,e⟩ <;> rw [e]
 ·exact ⟨fun c=>absurd c (by decide),fun c=>absurd h (by rw [c];exact bI _)⟩
 ·exact ⟨fun _=>h,fun _=>rfl⟩
 ·exact ⟨fun c=>absurd c (by decide),fun c=>absurd h (by rw [c];exact bI _)⟩
def Pr.val (p:Pr):Value:=.agg #[.int .i64 p.site,.int .i64 p.inc,.int .i64 p.num]
theorem uU (n a b:Int) (w:World):Calls prog 102 #[.int .i64 n,.int .i64 a,.int .i64 b] w (DF w (.bool (decide (a≤n) && decide (n≤b)))):=by
 go_enter func102,ntmps102
 go_wp2
 all_goals go_ret
 all_goals refine ⟨aO ?_,rfl⟩
 all_goals (first|rfl|(simp_all;done)|(simp_all;omega)|(rw [Bool.eq_iff_iff];simp_all;done)|(rw [Bool.eq_iff_iff];simp_all;omega))
theorem zD (p:Pr) (w:World):Calls prog 64 #[p.val] w (rf w (.bool (j8 p))):=by
 have H1:=Lib.hid (fun n a b w=>uU n a b w);obtain ⟨a,b,c⟩:=p;unfold j8 Pr.val
 go_enter func64,ntmps64
 go_wp2_with (first|(refine (H1.out _ _ _ _).mono ?_;rintro e w' ⟨rfl,rfl⟩)|fail)
 all_goals go_ret
 all_goals refine ⟨aO ?_,(Below.refl _ _).alloc (Nat.le_refl _) _⟩
 all_goals (first|rfl|(simp_all;done)|(simp_all;omega)|(rw [Bool.eq_iff_iff];simp_all;done)|(rw [Bool.eq_iff_iff];simp_all;omega))
section
variable {α:Type} {E:El α} {w w':World} {l:List α} {v:Value} {base:Nat} {e:TypeId}
theorem OwnRows.addr (h:OwnRows E e w base v l) (h0:0<l.length) :
  ∃g cap,v = .slice (some ⟨g,0,none⟩) l.length cap∧base≤g∧g<w.heap.size∧l.length≤cap∧cap≤maxLen∧(∀j,w.frozen? ⟨g,j,none⟩=false)∧RowsAt E w (Lo w.heap.size) (some ⟨g,0,none⟩) l:=by
 obtain ⟨A,cap,hA,hr,hc,hm⟩:=h.form;have h2:=h;obtain ⟨_,xs,h1,_⟩:=h2;rcases h1.2 with ⟨hv,hn⟩|⟨g,cap',cur,hv,hg,hh,hnc,hcm,hcs,ht⟩
 ·omega
 ·rw [hv] at hA;injection hA with e1 e2 e3;subst e1;subst e3;exact ⟨g,cap',hv,hg,(Array.getElem?_eq_some_iff.1 hh).1,hc,hm,fun j=>frozen_of_row w g j cur e hh,hr⟩
theorem OwnRows.form2 (h:OwnRows E e w base v l) :
  ∃A cap,v = .slice A l.length cap∧(A=none→l.length=0∧cap=0)∧RowsAt E w (Lo w.heap.size) A l∧l.length≤cap∧cap≤maxLen:=by
 obtain ⟨A,cap,hA,hr,hc,hm⟩:=h.form;refine ⟨A,cap,hA,fun hn=>?_,hr,hc,hm⟩;subst hn;obtain ⟨_,xs,h1,_⟩:=h;rcases h1.2 with ⟨hv,hn⟩|⟨g,cap',cur,hv,_⟩
 ·rw [hv] at hA;injection hA with _ e2 e3;exact ⟨e2.symm,e3.symm⟩
 ·rw [hv] at hA;injection hA with e1;cases e1
end
theorem Below.al {a w:World} (h:Below a.heap.size a w) (o:Obj):Below a.heap.size a (w.alloc o):=h.alloc h.size o
theorem Below.tr {a b c:World} (h:Below a.heap.size a b) (k:Below b.heap.size b c):Below a.heap.size a c:=h.trans (k.mono h.size)
theorem Below.st {a w:World} {p:Addr} {u:Value} (h:Below a.heap.size a w) (hp:a.heap.size≤p.block):Below a.heap.size a (w.setCell p u):=h.setCell hp u
theorem m4 {W w1:World} (hb:Below W.heap.size W w1):(∀b o,b<W.heap.size→w1.cell? ⟨b,o,none⟩=W.cell? ⟨b,o,none⟩)∧(∀b o,b<W.heap.size→w1.frozen? ⟨b,o,none⟩=W.frozen? ⟨b,o,none⟩) :=
 ⟨fun b o h=>hb.cell (p:=⟨b,o,none⟩) h,fun b o h=>hb.frozen (p:=⟨b,o,none⟩) h⟩
def Pr.cells (p:Pr):List Value:=[.int .i64 p.site,.int .i64 p.inc,.int .i64 p.num]
def jx:El Pr:=El.plain 3 (by decide) Pr.cells (fun _=>rfl) (by intro x u hu;simp [Pr.cells] at hu;rcases hu with rfl|rfl|rfl <;> rfl)
theorem iW {w:World} {S:Nat→Prop} {A:Option Addr} {l:List Pr} {i:Nat} {a b c:Int} (h:RowsAt jx w S A l) (hi:i<l.length) (hx:l[i]=⟨a,b,c⟩) :
  ∃k off,A=some ⟨k,off,none⟩∧S k∧w.cell? ⟨k,off+i*3,none⟩=some (.int .i64 a)∧w.cell? ⟨k,off+i*3+1,none⟩=some (.int .i64 b)∧w.cell? ⟨k,off+i*3+2,none⟩=some (.int .i64 c):=by
 obtain ⟨k,off,cs,hA,hS,hc,hd⟩:=h.getx hi hx;have hc':cs=[.int .i64 a,.int .i64 b,.int .i64 c]:=hc;subst hc';exact ⟨k,off,hA,hS,hd 0 (show 0<3 by decide),hd 1 (show 1<3 by decide),hd 2 (show 2<3 by decide)⟩
theorem IL:ElTB prog jx 108 40 24:=ElTB.mk' underlying108 (.agg #[.int .i64 0,.int .i64 0,.int .i64 0]) 3 24 (by kernel_rfl) rfl rfl
theorem DG (a b:Pr) (w:World):(Op.equalIn 10000 40 a.val b.val).run prog w = .ok (decide (a=b)) w:=by
 have hS:prog.underlying 40=some (.struct (prog.fieldsOf 40)):=by kernel_rfl
 have hp:prog.stoodInHeld 40=false:=by kernel_rfl
 unfold Pr.val;rw [show (10000:Nat)=9999+1 from rfl,run_equalIn_agg w 9999 40 _ _ hS hp];have u3:=underlying3;simp only [Program.fieldsOf,underlying40];go_simp
 obtain ⟨a1,a2,a3⟩:=a;obtain ⟨b1,b2,b3⟩:=b;by_cases h1:a1=b1 <;> by_cases h2:a2=b2 <;> by_cases h3:a3=b3 <;> simp [h1,h2,h3]
structure Cmps (t:TypeId) (x y:Array Value) (r:Bool):Prop where
 neq:∀w,(binOp .neq t (.agg x) (.agg y)).run prog w = .ok (.bool (!r)) w
 eql:∀w,(binOp .eql t (.agg x) (.agg y)).run prog w = .ok (.bool r) w
 guard:∀(op:BinOp) (a b:Operand) (xs ys:Array Value) w,(eqGuard op t a b (.agg xs) (.agg ys)).run prog w = .ok () w
theorem Cmps.mk' {t:TypeId} {x y:Array Value} {r:Bool} (h:∀w,(Op.equalIn 10000 t (.agg x) (.agg y)).run prog w = .ok r w) (hg:∀(op:BinOp) (a b:Operand) (xs ys:Array Value) w,(eqGuard op t a b (.agg xs) (.agg ys)).run prog w = .ok () w):Cmps t x y r where
 neq:=fun w=>(run_neq_struct (P:=prog) w t x y).trans (by rw [h w];rfl)
 eql:=fun w=>(run_eql_struct (P:=prog) w t x y).trans (by rw [h w];rfl)
 guard:=hg
theorem Fh (a b c x y z:Int):Cmps 40 #[.int .i64 a,.int .i64 b,.int .i64 c] #[.int .i64 x,.int .i64 y,.int .i64 z] (decide ((⟨a,b,c⟩:Pr)=⟨x,y,z⟩)):=Cmps.mk' (DG ⟨a,b,c⟩ ⟨x,y,z⟩) (fun op a b xs ys w=>run_eqGuard_agg w op 40 a b xs ys (by kernel_rfl))
theorem uW (a b c x y z:Int) (w:World):Calls prog 63 #[.agg #[.int .i64 a,.int .i64 b,.int .i64 c],.agg #[.int .i64 x,.int .i64 y,.int .i64 z]] w (rf w (.int .i64 (bC ⟨a,b,c⟩ ⟨x,y,z⟩))):=by
 have i0:∀w:World,(Instr.index 135 (.agg #[.int .i64 a,.int .i64 b,.int .i64 c]) (.int .i64 0)).run prog w = .ok (.int .i64 a) w:=fun _=>by kernel_rfl
 have i1:∀w:World,(Instr.index 135 (.agg #[.int .i64 a,.int .i64 b,.int .i64 c]) (.int .i64 1)).run prog w = .ok (.int .i64 b) w:=fun _=>by kernel_rfl
 have i2:∀w:World,(Instr.index 135 (.agg #[.int .i64 a,.int .i64 b,.int .i64 c]) (.int .i64 2)).run prog w = .ok (.int .i64 c) w:=fun _=>by kernel_rfl
 obtain ⟨r,hr⟩:∃r,bC ⟨a,b,c⟩ ⟨x,y,z⟩=r:=⟨_,rfl⟩;rw [hr];have HR:=Lib.hid hr;clear hr
 go_enter func63,ntmps63
 go_wp2
 go_rounds 4
 all_goals go_ret
 all_goals refine ⟨n7 ?_,((Below.refl _ _).alloc (Nat.le_refl _) _).alloc (by simp) _⟩
 all_goals rw [←HR.out]
 all_goals rcases dd ⟨a,b,c⟩ ⟨x,y,z⟩ with ⟨h,e⟩|⟨h,e⟩|⟨h,e⟩ <;> rw [e] <;> first|rfl|(exfalso;unfold fC at h;simp only at h;omega)|(exfalso;simp only [Pr.mk.injEq] at h;omega)
theorem zH (p q:Pr) (w:World):Calls prog 36 #[p.val,q.val] w (rf w (.int .i64 (bC p q))):=by
 obtain ⟨a,b,c⟩:=p;obtain ⟨x,y,z⟩:=q;have HC:=Lib.hid (fun w=>uW a b c x y z w);obtain ⟨r,hr⟩:∃r,bC ⟨a,b,c⟩ ⟨x,y,z⟩=r:=⟨_,rfl⟩;rw [hr] at HC ⊢;clear hr;unfold Pr.val
 go_enter func36,ntmps36
 go_wp2_with fail
 refine (HC.out _).mono ?_;rintro e w1 ⟨rfl,hb⟩;have HB:=Lib.hid (((Below.refl w.heap.size w).alloc (Nat.le_refl _) _).alloc (by simp) _ |>.trans (hb.mono (by simp;omega)));go_wp2
 go_ret
 exact ⟨rfl,HB.out⟩
section
variable {α:Type} {E:El α} {w w':World} {l:List α} {base:Nat} {e:TypeId} {size:Nat} {xs:List Value} {g n cap:Nat}
theorem FN {xs:List Value} {j:Nat} {v:Value} (r:List Value) (h:j+1+r.length≤xs.length):(xs.set j v).take (j+1)++r++(xs.set j v).drop (j+1+r.length)=xs.take j++v :: r++xs.drop (j+(v :: r).length):=by
 have h1:(xs.set j v).take (j+1)=xs.take j++[v]:=by
  rw [List.set_eq_take_append_cons_drop,if_pos (by omega),List.take_append,List.length_take,Nat.min_eq_left (by omega),List.take_of_length_le (by rw [List.length_take];omega),show j+1-j=1 by omega];rfl
 have h2:(xs.set j v).drop (j+1+r.length)=xs.drop (j+(v :: r).length):=by
  rw [List.drop_set_of_lt (by omega),List.length_cons];congr 1
  omega
 rw [h1,h2];simp
theorem ed:∀(vs:List Value) (j:Nat) (w:World) (xs:List Value),w.ownsRow base e size (.slice (some ⟨g,0,none⟩) n cap) n xs→j+vs.length≤xs.length→
  (w.setCells g j vs).ownsRow base e size (.slice (some ⟨g,0,none⟩) n cap) n (xs.take j++vs++xs.drop (j+vs.length))
 | [],j,w,xs,h,_=>by simpa [World.setCells] using h
 | v :: r,j,w,xs,h,hl=>by
  have hl':j+1+r.length≤xs.length:=by simp at hl;omega
  rw [World.setCells,←FN r hl'];exact ed r (j+1) _ _ (h.stored j v).1 (by simpa using hl')
theorem i4:∀(vs:List Value) (j:Nat) (w:World) (xs:List Value),w.ownsRow base e size (.slice (some ⟨g,0,none⟩) n cap) n xs→xs.length≤j→
  (w.setCells g j vs).ownsRow base e size (.slice (some ⟨g,0,none⟩) n cap) n xs
 | [],j,w,xs,h,_=>by simpa [World.setCells] using h
 | v :: r,j,w,xs,h,hl=>by
  rw [World.setCells];have:=(h.stored j v).1;rw [List.set_eq_of_length_le hl] at this;exact i4 r (j+1) _ _ this (by omega)
theorem bj:∀(vs:List Value) (j:Nat) (w:World) (b:Nat),b≠g→(w.setCells g j vs).heap[b]? = w.heap[b]?
 | [],_,_,_,_=>rfl
 | v :: r,j,w,b,h=>by
  rw [World.setCells,bj r (j+1) _ b h];exact heap_setCell_other w ⟨g,j,none⟩ b v h
theorem bp:∀(vs:List Value) (j:Nat) (w:World),(w.setCells g j vs).heap.size=w.heap.size
 | [],_,_=>rfl
 | v :: r,j,w=>by
  rw [World.setCells,bp r (j+1)];simp [World.setCell]
theorem cz {B:Nat} (hg:B≤g):∀(vs:List Value) (j:Nat) (w':World),Below B w w'→Below B w (w'.setCells g j vs)
 | [],_,_,h=>h
 | v :: r,j,w',h=>by
  rw [World.setCells];exact cz hg r (j+1) _ (h.setCell hg v)
theorem OwnRows.cut (h:OwnRows E e w base (.slice (some ⟨g,0,none⟩) l.length cap) l) {k:Nat} (hk:k≤l.length):OwnRows E e w base (.slice (some ⟨g,0,none⟩) k cap) (l.take k):=by
 obtain ⟨h0,xs,⟨h1,h2⟩,h3⟩:=h;refine ⟨h0,xs.take (k*E.n),?_,h3.take k⟩;rw [List.length_take,Nat.min_eq_left hk];have hle:k*E.n≤l.length*E.n:=Nat.mul_le_mul_right _ hk;refine ⟨by rw [List.length_take,h1,Nat.min_eq_left hle],?_⟩;rcases h2 with ⟨hv,_⟩|⟨g',cap',cur,hv,hg,hh,hnc,hcm,hcs,ht⟩
 ·cases hv
 ·injection hv with e1 _ e3;injection e1 with e1;injection e1 with e1;subst e1;subst e3;refine .inr ⟨_,_,cur,rfl,hg,hh,by omega,hcm,hcs,?_⟩;rw [←ht,List.take_take,Nat.min_eq_left hle]
theorem OwnRows.setRow (h:OwnRows E e w base (.slice (some ⟨g,0,none⟩) l.length cap) l) {i:Nat} (hi:i<l.length) {y:α} {cs:List Value}
  (hy:E.rep (w.setCells g (i*E.n) cs) (Ba (w.setCells g (i*E.n) cs) (.slice (some ⟨g,0,none⟩) l.length cap)) y cs) :
  OwnRows E e (w.setCells g (i*E.n) cs) base (.slice (some ⟨g,0,none⟩) l.length cap) (l.set i y):=by
 have hl:=E.len hy;refine h.setAll hi hy (bp _ _ _) (fun b hb=>bj _ _ _ _ fun e=>hb.2 (by rw [e];rfl)) fun xs hx=>?_;have:=ed cs (i*E.n) w xs hx (by
  rw [hl,hx.1];have:=Nat.mul_le_mul_right E.n (show i+1≤l.length from hi);rw [Nat.add_mul,Nat.one_mul] at this;exact this)
 rwa [hl] at this
theorem OwnRows.off (h:OwnRows E e w base (.slice (some ⟨g,0,none⟩) l.length cap) l) (vs:List Value) {j:Nat} (hj:l.length*E.n≤j):OwnRows E e (w.setCells g j vs) base (.slice (some ⟨g,0,none⟩) l.length cap) l:=by
 obtain ⟨h0,xs,h1,h3⟩:=h;refine ⟨by rw [bp];exact h0,xs,i4 vs j w xs h1 (by rw [h1.1];exact hj),h3.same (fun b hb=>bj _ _ _ _ fun e=>hb.2 (by rw [e];rfl)) fun b hb=>⟨by rw [bp];exact hb.1,hb.2⟩⟩
theorem OwnRows.cellAt (h:OwnRows E e w base (.slice (some ⟨g,0,none⟩) l.length cap) l) {j:Nat} (hj:j<cap*E.n):(w.cell? ⟨g,j,none⟩).isSome=true∧w.frozen? ⟨g,j,none⟩=false:=by
 obtain ⟨h0,xs,⟨h1,h2⟩,h3⟩:=h;rcases h2 with ⟨hv,_⟩|⟨g',cap',cur,hv,hg,hh,hnc,hcm,hcs,ht⟩
 ·cases hv
 ·injection hv with e1 _ e3;injection e1 with e1;injection e1 with e1;subst e1;subst e3;refine ⟨?_,frozen_of_row w _ j cur e hh⟩;have:w.cell? ⟨g,j,none⟩=cur[j]?:=by simp [World.cell?,hh]
  rw [this,Array.getElem?_eq_getElem (by rw [hcs];exact hj)];rfl
end
def oC (A:Option Addr) (cap k size:Nat):Option Addr:=if cap=k then A else A.map (·.add (k*size))
theorem uZ {P:Program} {t e:TypeId} {i:TypeInfo} (ht:P.underlying t=some (.slice e)) (hi:P.info? e=some i) (A:Option Addr) (n cap k:Nat) (hk:k≤cap) (w:World) :
  (Instr.slice t (.slice A n cap) none (some (.int .i64 (k:Int))) none).run P w = .ok (.slice A k cap) w:=by
 have he:P.elem t=e:=by simp [Program.elem,ht]
 have hh:((k:Int)).toNat=k:=by omega
 rw [run_slice_h w t A n cap (by rw [he];exact ht) .i64 k (by omega) (by omega),he,hh];have h0:∀a:Addr,a.add 0=a:=fun a=>by unfold Addr.add;simp
 cases A <;> simp [sizeOf,typeInfo,hi,sliced,Result.andThen,h0]
theorem Bj {P:Program} {t e:TypeId} {i:TypeInfo} (ht:P.underlying t=some (.slice e)) (hi:P.info? e=some i) (A:Option Addr) (n cap k:Nat) (hk:k≤n) (w:World) :
  (Instr.slice t (.slice A n cap) (some (.int .i64 (k:Int))) none none).run P w = .ok (.slice (oC A cap k i.size) (n-k) (cap-k)) w:=by
 have he:P.elem t=e:=by simp [Program.elem,ht]
 have hh:((k:Int)).toNat=k:=by omega
 rw [run_slice_l w t A n cap (by rw [he];exact ht) .i64 k (by omega) (by omega),he,hh];simp [sizeOf,typeInfo,hi,sliced,Result.andThen,oC]
theorem va {t e:TypeId} {z:Value} {sz by_:Nat} (ht:prog.underlying t=some (.slice e)) (hi:(prog.info? e).map (fun i=>(i.zero,i.size,i.bytes))=some (some z,sz,by_)) (A:Option Addr) (n cap k:Nat) (hk:k≤n) (hc:n≤cap) :
  (∀w,(Instr.sliceAt t (.slice A n cap) none (some (.int .i64 (k:Int))) none).run prog w = .ok (.slice A k cap) w)∧
  ∀w,(Instr.sliceAt t (.slice A n cap) (some (.int .i64 (k:Int))) none none).run prog w = .ok (.slice (oC A cap k sz) (n-k) (cap-k)) w:=by
 obtain ⟨i0,hi0,hz0,hz1,hz2⟩:=info_parts hi;have he:prog.elem t=e:=by simp [Program.elem,ht]
 constructor
 ·intro w;rw [run_sliceAt_slice w t _ _ _ _ (by rw [he];exact ht)];exact uZ ht hi0 A n cap k (by omega) w
 ·intro w;rw [run_sliceAt_slice w t _ _ _ _ (by rw [he];exact ht),Bj ht hi0 A n cap k hk w,hz1]
instance:Inhabited Pr:=⟨Hg⟩
theorem fK (p q:Pr):fC p q∨p=q∨fC q p:=by
 rcases dd p q with ⟨h,_⟩|⟨h,_⟩|⟨h,_⟩
 ·exact Or.inl h
 ·exact Or.inr (Or.inl h)
 ·exact Or.inr (Or.inr h)
theorem fL (p q:Pr):bC p q<0↔fC p q:=by
 rcases dd p q with ⟨h,e⟩|⟨h,e⟩|⟨h,e⟩ <;> rw [e]
 ·exact ⟨fun _=>h,fun _=>by decide⟩
 ·subst h;exact ⟨fun c=>absurd c (by decide),fun c=>absurd c (bI _)⟩
 ·exact ⟨fun c=>absurd c (by decide),fun c=>absurd h (jv c)⟩
def IB (l:List Pr):Prop:=l.Pairwise fC
theorem i6 (d:Array Pr):∀m x,x∈Go.Lib.compactUpTo d m↔∃j,j<m∧d[j]! = x
 | 0,x=>by simp [Go.Lib.compactUpTo]
 | m+1,x=>by
  rw [Go.Lib.compactUpTo_succ,List.mem_append,i6 d m x];by_cases h:Go.Lib.keeps d m=true
  ·rw [if_pos h,List.mem_singleton];constructor
   ·rintro (⟨j,hj,e⟩|e)
    ·exact ⟨j,by omega,e⟩
    ·exact ⟨m,by omega,e.symm⟩
   ·rintro ⟨j,hj,e⟩;rcases Nat.lt_or_ge j m with h1|h1
    ·exact Or.inl ⟨j,h1,e⟩
    ·have:j=m:=by omega
     subst this;exact Or.inr e.symm
  ·rw [if_neg h];have hk:¬(m=0∨d[m]!≠d[m-1]!):=by simpa [Go.Lib.keeps] using h
   have h0:m≠0:=fun e=>hk (Or.inl e);have he:d[m]! = d[m-1]!:=Classical.byContradiction fun e=>hk (Or.inr e);constructor
   ·rintro (⟨j,hj,e⟩|e)
    ·exact ⟨j,by omega,e⟩
    ·cases e
   ·rintro ⟨j,hj,e⟩;rcases Nat.lt_or_ge j m with h1|h1
    ·exact Or.inl ⟨j,h1,e⟩
    ·have:j=m:=by omega
     subst this;exact Or.inl ⟨j-1,by omega,he.symm.trans e⟩
theorem m6 (d:Array Pr) (hs:∀i j,i<j→j<d.size→¬fC d[j]! d[i]!):∀m,m≤d.size→IB (Go.Lib.compactUpTo d m)
 | 0,_=>by simp [Go.Lib.compactUpTo,IB]
 | m+1,hm=>by
  have ih:=m6 d hs m (by omega);rw [Go.Lib.compactUpTo_succ];by_cases h:Go.Lib.keeps d m=true
  ·rw [if_pos h];unfold IB at *
   rw [List.pairwise_append];refine ⟨ih,by simp,fun x hx y hy=>?_⟩;rw [List.mem_singleton.1 hy];obtain ⟨j,hj,rfl⟩:=(i6 d m x).1 hx;have hk:m=0∨d[m]!≠d[m-1]!:=by simpa [Go.Lib.keeps] using h
   have hne:d[m]!≠d[m-1]!:=hk.resolve_left (by omega);rcases fK d[j]! d[m]! with h1|h1|h1
   ·exact h1
   ·exfalso;have a1:¬fC d[m]! d[m-1]!:=hs (m-1) m (by omega) (by omega);rcases Nat.lt_or_ge j (m-1) with h2|h2
    ·have a2:=hs j (m-1) h2 (by omega);rw [h1] at a2;rcases fK d[m]! d[m-1]! with h3|h3|h3
     ·exact a1 h3
     ·exact hne h3
     ·exact a2 h3
    ·have:j=m-1:=by omega
     subst this;exact hne h1.symm
   ·exact absurd h1 (hs j m hj (by omega))
  ·rw [if_neg h,List.append_nil];exact ih
def gL (l:List Pr):List Pr:=Go.Lib.compact (l.mergeSort fun x y=>!decide (bC y x<0))
theorem cI (l:List Pr) (x:Pr):x∈gL l↔x∈l:=by
 unfold gL Go.Lib.compact;rw [i6];have hp:=List.mergeSort_perm l fun x y=>!decide (bC y x<0);rw [←hp.mem_iff];constructor
 ·rintro ⟨j,hj,rfl⟩;rw [getElem!_pos _ j (by simpa using hj)];simp
 ·intro h;obtain ⟨j,hj,rfl⟩:=List.getElem_of_mem h;exact ⟨j,hj,by rw [getElem!_pos _ j (by simpa using hj)];simp⟩
theorem zM (l:List Pr):IB (gL l):=by
 unfold gL Go.Lib.compact;have hp:(l.mergeSort fun x y=>!decide (bC y x<0)).Pairwise fun x y=>(!decide (bC y x<0))=true:=by
  apply List.pairwise_mergeSort
  ·intro a b c h1 h2;simp only [Bool.not_eq_true',decide_eq_false_iff_not,fL] at *
   intro h3;rcases fK b c with h|h|h
   ·exact h1 (cX h h3)
   ·subst h;exact h1 h3
   ·exact h2 h
  ·intro a b;simp only [Bool.or_eq_true,Bool.not_eq_true',decide_eq_false_iff_not,fL];rcases fK a b with h|h|h
   ·exact Or.inl (jv h)
   ·subst h;exact Or.inl (bI _)
   ·exact Or.inr (jv h)
 generalize (l.mergeSort fun x y=>!decide (bC y x<0))=M at *
 refine m6 _ ?_ _ (by simp);intro i j hij hj;have hj':j<M.length:=by simpa using hj
 rw [getElem!_pos _ j hj,getElem!_pos _ i (by omega)];have:=List.pairwise_iff_getElem.1 hp i j (by omega) hj' hij;simp only [Bool.not_eq_true',decide_eq_false_iff_not,fL] at this;simpa using this
theorem zN (l:List Pr):(gL l).length≤l.length:=by
 unfold gL Go.Lib.compact Go.Lib.compactUpTo;rw [List.length_map];refine Nat.le_trans (List.length_filter_le _ _) ?_;simp
section
open Go.Sort Go.Lib
section
variable {α:Type}
theorem vc (f:α→List Value) (k:Nat) (hk:∀x,(f x).length=k) (h0:0<k):∀(l:List α) (t:Nat),((l.map f).flatten)[t]? = (l[t / k]?).bind fun x=>(f x)[t % k]?
 | [],t=>by simp
 | x :: l,t=>by
  rw [List.map_cons,List.flatten_cons];rcases Nat.lt_or_ge t k with h|h
  ·rw [List.getElem?_append_left (by rw [hk];exact h),Nat.div_eq_of_lt h,Nat.mod_eq_of_lt h];rfl
  ·rw [List.getElem?_append_right (by rw [hk];exact h),hk,vc f k hk h0 l (t-k)];obtain ⟨u,rfl⟩:∃u,t=u+k:=⟨t-k,by omega⟩;rw [Nat.add_sub_cancel,Nat.add_div_right _ h0,Nat.add_mod_right];rfl
theorem ii [Inhabited α] (f:α→List Value) (k:Nat) (hk:∀x,(f x).length=k) (h0:0<k) (l:List α):(flatK f k l.toArray).toList=(l.map f).flatten:=by
 apply List.ext_getElem?
 intro t;rw [vc f k hk h0];rcases Nat.lt_or_ge t (l.length*k) with h|h
 ·have hd:t / k<l.length:=(Nat.div_lt_iff_lt_mul h0).2 h;have hm:t % k<k:=Nat.mod_lt _ h0;rw [Array.getElem?_toList,Array.getElem?_eq_getElem (by simpa using h),←getElem!_pos _ t (by simpa using h),get_flatK _ _ _ _ (by simpa using h),getElem!_pos _ (t / k) (by simpa using hd),List.getElem?_eq_getElem hd,Option.bind_some,getElem!_pos _ (t % k) (by rw [hk];exact hm),List.getElem?_eq_getElem (by rw [hk];exact hm)];rfl
 ·have hd:l.length≤t / k:=by
   rw [Nat.le_div_iff_mul_le h0];exact h
  rw [List.getElem?_eq_none hd,Array.getElem?_toList,Array.getElem?_eq_none (by simpa using h)];rfl
variable {n:Nat} {pos:0<n} {f:α→List Value} {len:∀x,(f x).length=n} {one:∀x,∀u∈f x,u.oneCell'=true} {w:World} {S:Nat→Prop} {base:Nat} {e:TypeId} {g cap:Nat} {l:List α}
theorem Reps.plain:∀{l:List α} {xs:List Value},Reps (El.plain n pos f len one) w S l xs→xs=(l.map f).flatten
 | [],xs,h=>h
 | x :: l,xs,h=>by
  obtain ⟨cs,rest,rfl,h1,h2⟩:=h;rw [Reps.plain h2,show cs=f x from h1];rfl
theorem Reps.plain_mk:∀(l:List α),Reps (El.plain n pos f len one) w S l (l.map f).flatten
 | []=>rfl
 | x :: l=>⟨f x,(l.map f).flatten,rfl,rfl,Reps.plain_mk l⟩
theorem OwnRows.holdsK [Inhabited α] (h:OwnRows (El.plain n pos f len one) e w base (.slice (some ⟨g,0,none⟩) l.length cap) l):HoldsK f n w g 0 l.toArray:=by
 intro t ht;rw [size_flatK] at ht;have ht':t<l.length*n:=ht;have hcapn:l.length≤cap:=by
  obtain ⟨A,cap',hA,_,hc,_⟩:=h.form;injection hA with _ _ e3;omega
 have hcell:=h.cellAt (j:=t) (Nat.lt_of_lt_of_le ht' (Nat.mul_le_mul_right _ hcapn));rw [Nat.zero_add];refine ⟨?_,hcell.2⟩;obtain ⟨h0,xs,⟨h1,h2⟩,h3⟩:=h;rcases h2 with ⟨hv,_⟩|⟨g',cap',cur,hv,hg,hh,hnc,hcm,hcs,htk⟩
 ·cases hv
 ·injection hv with e1 _ e3;injection e1 with e1;injection e1 with e1;subst e1;subst e3;have hx:=Reps.plain h3;have hlt:t<cur.size:=by rw [hcs];exact Nat.lt_of_lt_of_le ht' (Nat.mul_le_mul_right _ hcapn)
  have hc:w.cell? ⟨g,t,none⟩=cur[t]?:=by simp [World.cell?,hh]
  have hxt:cur[t]? = xs[t]?:=by
   rw [←htk,List.getElem?_take,if_pos (show t<l.length*(El.plain n pos f len one).n from ht'),Array.getElem?_toList]
  rw [hc,hxt,hx,←ii f n len pos l,Array.getElem?_toList,Array.getElem?_eq_getElem (by simpa using ht'),←getElem!_pos _ t (by simpa using ht')];rfl
theorem OwnRows.sorted [Inhabited α] (h:OwnRows (El.plain n pos f len one) e w base (.slice (some ⟨g,0,none⟩) l.length cap) l) (hg:g<w.heap.size) {l':List α} (hl:l'.length=l.length) (m:Nat) (os:Array Obj) :
  OwnRows (El.plain n pos f len one) e (sortWorldK f n w g 0 m l'.toArray os) base (.slice (some ⟨g,0,none⟩) l.length cap) l':=by
 obtain ⟨h0,xs,⟨h1,h2⟩,h3⟩:=h;have hsz:w.heap.size≤(sortWorldK f n w g 0 m l'.toArray os).heap.size:=by
  simp [sortWorldK,grow,putRowK,putRow,mapBlock]
 refine ⟨Nat.le_trans h0 hsz,(l'.map f).flatten,?_,Reps.plain_mk l'⟩;rw [hl];have hfl:((l'.map f).flatten).length=l.length*n:=by
  rw [←ii f n len pos l',Array.length_toList,size_flatK];simp [hl]
 refine ⟨hfl,?_⟩;rcases h2 with ⟨hv,_⟩|⟨g',cap',cur,hv,hgb,hh,hnc,hcm,hcs,htk⟩
 ·cases hv
 ·injection hv with e1 _ e3;injection e1 with e1;injection e1 with e1;subst e1;subst e3;have hF:(flatK f n l'.toArray).size=l.length*n:=by simp [hl]
  have hle:l.length*n≤cap*n:=Nat.mul_le_mul_right _ hnc;refine .inr ⟨g,cap,putCells id 0 (flatK f n l'.toArray) cur,rfl,hgb,?_,hnc,hcm,by simp [putCells,hcs],?_⟩
  ·show (w.heap.modify g (onCells (putCells id 0 (flatK f n l'.toArray)))++os)[g]? = _;rw [Array.getElem?_append_left (by simpa using hg),Array.getElem?_modify,if_pos rfl,hh];rfl
  ·rw [←ii f n len pos l'];apply List.ext_getElem?
   intro t;rw [List.getElem?_take];show (if t<l.length*n then _ else _)=_;split
   ·next ht =>
    rw [Array.getElem?_toList,Array.getElem?_toList];unfold putCells;rw [Array.getElem?_mapIdx,Array.getElem?_eq_getElem (by rw [hcs];exact Nat.lt_of_lt_of_le ht hle),Option.map_some,if_pos ⟨Nat.zero_le _,by rw [hF];omega⟩,Array.getElem?_eq_getElem (by rw [hF];exact ht),Nat.sub_zero,←getElem!_pos _ t (by rw [hF];exact ht)];rfl
   ·next ht =>
    rw [Array.getElem?_toList,Array.getElem?_eq_none (by rw [hF];omega)]
theorem tK [Inhabited α] {w0:World} {B:Nat} (hb:Go.RowKit.Below B w0 w) (hg:B≤g) (hg2:g<w.heap.size) (m:Nat) (d:Array α) (os:Array Obj):Go.RowKit.Below B w0 (sortWorldK f n w g 0 m d os):=by
 refine hb.trans ⟨rfl,rfl,rfl,by simp [sortWorldK,grow,putRowK,putRow,mapBlock],fun k hk=>?_⟩;show (w.heap.modify g (onCells (putCells id 0 (flatK f n d)))++os)[k]? = _;rw [Array.getElem?_append_left (by simp;omega),Array.getElem?_modify,if_neg (by omega)]
end
end
end Go.Proofs.YtcgpepnbohejfaaGreatDoor
namespace Go.Proofs
open Go.Shelf
def Tryz.sortProcs_ren:Go.Shelf.Ren:=⟨fun|6=>119|15=>153|14=>162|28=>197|29=>198|20=>204|21=>205|22=>206|23=>207|24=>208|25=>209|26=>210|27=>211|46=>232|47=>226|48=>227|49=>233|50=>234|57=>239|n=>n,fun|22=>108|24=>40|25=>106|3=>3|39=>184|0=>0|53=>251|55=>253|4=>4|46=>245|45=>244|50=>228|5=>5|9=>9|66=>274|70=>239|76=>283|77=>163|n=>n,fun|n=>n⟩
theorem Tryz.sortProcs:Go.Proofs.SlLaysF0.n6 Tryz.prog Tryz.sortProcs_ren:={
 mixed:=by kernel_rfl
 f6:=⟨Tryz.f119.name,by decide,Tryz.func119.trans (congrArg some (by kernel_rfl))⟩
 f14:=⟨Tryz.f162.name,by decide,Tryz.func162.trans (congrArg some (by kernel_rfl))⟩
 f15:=Tryz.func153.trans (congrArg some (by kernel_rfl))
 f20:=⟨Tryz.f204.name,by decide,Tryz.func204.trans (congrArg some (by kernel_rfl))⟩
 f21:=⟨Tryz.f205.name,by decide,Tryz.func205.trans (congrArg some (by kernel_rfl))⟩
 f22:=⟨Tryz.f206.name,by decide,Tryz.func206.trans (congrArg some (by kernel_rfl))⟩
 f23:=⟨Tryz.f207.name,by decide,Tryz.func207.trans (congrArg some (by kernel_rfl))⟩
 f24:=⟨Tryz.f208.name,by decide,Tryz.func208.trans (congrArg some (by kernel_rfl))⟩
 f25:=⟨Tryz.f209.name,by decide,Tryz.func209.trans (congrArg some (by kernel_rfl))⟩
 f26:=⟨Tryz.f210.name,by decide,Tryz.func210.trans (congrArg some (by kernel_rfl))⟩
 f27:=⟨Tryz.f211.name,by decide,Tryz.func211.trans (congrArg some (by kernel_rfl))⟩
 f28:=Tryz.func197.trans (congrArg some (by kernel_rfl))
 f29:=Tryz.func198.trans (congrArg some (by kernel_rfl))
 f46:=⟨Tryz.f232.name,by decide,Tryz.func232.trans (congrArg some (by kernel_rfl))⟩
 f47:=Tryz.func226.trans (congrArg some (by kernel_rfl))
 f48:=Tryz.func227.trans (congrArg some (by kernel_rfl))
 f49:=⟨Tryz.f233.name,by decide,Tryz.func233.trans (congrArg some (by kernel_rfl))⟩
 f50:=⟨Tryz.f234.name,by decide,Tryz.func234.trans (congrArg some (by kernel_rfl))⟩
 f57:=⟨Tryz.f239.name,by decide,Tryz.func239.trans (congrArg some (by kernel_rfl))⟩
 t0:=Tryz.underlying0
 a0:=Tryz.isAgg0
 z0:=Tryz.sizeOf0
 v0:=Tryz.zeroValue0
 t3:=Tryz.underlying3
 a3:=Tryz.isAgg3
 z3:=Tryz.sizeOf3
 v3:=Tryz.zeroValue3
 t4:=Tryz.underlying4
 a4:=Tryz.isAgg4
 z4:=Tryz.sizeOf4
 v4:=Tryz.zeroValue4
 t5:=Tryz.underlying5
 a5:=Tryz.isAgg5
 z5:=Tryz.sizeOf5
 v5:=Tryz.zeroValue5
 t9:=Tryz.underlying9
 a9:=Tryz.isAgg9
 z9:=Tryz.sizeOf9
 v9:=Tryz.zeroValue9
 t22:=Tryz.underlying108
 a22:=Tryz.isAgg108
 z22:=Tryz.sizeOf108
 v22:=Tryz.zeroValue108
 t25:=Tryz.underlying106
 a25:=Tryz.isAgg106
 z25:=Tryz.sizeOf106
 v25:=Tryz.zeroValue106
 t39:=Tryz.underlying184
 a39:=Tryz.isAgg184
 z39:=Tryz.sizeOf184
 v39:=Tryz.zeroValue184
 t45:=Tryz.underlying244
 a45:=Tryz.isAgg244
 z45:=Tryz.sizeOf244
 v45:=Tryz.zeroValue244
 t46:=Tryz.underlying245
 a46:=Tryz.isAgg245
 z46:=Tryz.sizeOf245
 v46:=Tryz.zeroValue245
 t50:=Tryz.underlying228
 a50:=Tryz.isAgg228
 z50:=Tryz.sizeOf228
 v50:=Tryz.zeroValue228
 t53:=Tryz.underlying251
 a53:=Tryz.isAgg251
 z53:=Tryz.sizeOf251
 v53:=Tryz.zeroValue251
 t55:=Tryz.underlying253
 a55:=Tryz.isAgg253
 z55:=Tryz.sizeOf253
 v55:=Tryz.zeroValue253
 t66:=Tryz.underlying274
 a66:=Tryz.isAgg274
 z66:=Tryz.sizeOf274
 v66:=Tryz.zeroValue274
 t70:=Tryz.underlying239
 a70:=Tryz.isAgg239
 z70:=Tryz.sizeOf239
 v70:=Tryz.zeroValue239
 t76:=Tryz.underlying283
 a76:=Tryz.isAgg283
 z76:=Tryz.sizeOf283
 v76:=Tryz.zeroValue283
 t77:=Tryz.underlying163
 a77:=Tryz.isAgg163
 z77:=Tryz.sizeOf163
 v77:=Tryz.zeroValue163 }
end Go.Proofs
namespace Go.Proofs.YtcgpepnbohejfaaGreatDoor
open Go.RowKit Go.Proofs.Tryz
section
open Go.Shelf
theorem xf (a b c x y z:Int) (w:World):Calls prog 63 #[.agg #[.int .i64 a,.int .i64 b,.int .i64 c],.agg #[.int .i64 x,.int .i64 y,.int .i64 z]] w fun e w'=>e = .returned (.int .i64 (bC ⟨a,b,c⟩ ⟨x,y,z⟩))∧∃os,w'=Go.Sort.grow w os:=by
 have i0:∀w:World,(Instr.index 135 (.agg #[.int .i64 a,.int .i64 b,.int .i64 c]) (.int .i64 0)).run prog w = .ok (.int .i64 a) w:=fun _=>by kernel_rfl
 have i1:∀w:World,(Instr.index 135 (.agg #[.int .i64 a,.int .i64 b,.int .i64 c]) (.int .i64 1)).run prog w = .ok (.int .i64 b) w:=fun _=>by kernel_rfl
 have i2:∀w:World,(Instr.index 135 (.agg #[.int .i64 a,.int .i64 b,.int .i64 c]) (.int .i64 2)).run prog w = .ok (.int .i64 c) w:=fun _=>by kernel_rfl
 obtain ⟨r,hr⟩:∃r,bC ⟨a,b,c⟩ ⟨x,y,z⟩=r:=⟨_,rfl⟩;rw [hr];have HR:=Lib.hid hr;clear hr
 go_enter func63,ntmps63
 go_wp2
 go_rounds 4
 all_goals go_ret
 all_goals refine ⟨n7 ?_,_,by rw [Go.Sort.alloc_eq_grow,Go.Sort.alloc_eq_grow,Go.Sort.grow_grow]⟩
 all_goals rw [←HR.out]
 all_goals rcases dd ⟨a,b,c⟩ ⟨x,y,z⟩ with ⟨h,e⟩|⟨h,e⟩|⟨h,e⟩ <;> rw [e] <;> first|rfl|(exfalso;unfold fC at h;simp only at h;omega)|(exfalso;simp only [Pr.mk.injEq] at h;omega)
theorem Bo (p q:Pr) (w:World):Calls prog 36 #[p.val,q.val] w fun e w'=>e = .returned (.int .i64 (bC p q))∧∃os,w'=Go.Sort.grow w os:=by
 obtain ⟨a,b,c⟩:=p;obtain ⟨x,y,z⟩:=q;have HC:=Lib.hid (fun w=>xf a b c x y z w);obtain ⟨r,hr⟩:∃r,bC ⟨a,b,c⟩ ⟨x,y,z⟩=r:=⟨_,rfl⟩;rw [hr] at HC ⊢;clear hr;unfold Pr.val
 go_enter func36,ntmps36
 go_wp2_with fail
 refine (HC.out _).mono ?_;rintro e w1 ⟨rfl,os,rfl⟩;go_wp2
 go_ret
 exact ⟨rfl,_,by rw [Go.Sort.alloc_eq_grow,Go.Sort.alloc_eq_grow,Go.Sort.grow_grow,Go.Sort.grow_grow]⟩
theorem oD {x y:Pr}:ltOf bC x y=true↔fC x y:=by
 unfold ltOf;rw [decide_eq_true_iff,fL]
theorem sm {x y:Pr}:ltOf bC x y=false↔¬fC x y:=by
 unfold ltOf;rw [decide_eq_false_iff_not,fL]
theorem Bp:Go.Sort.SWO (ltOf bC) where
 irrefl x:=sm.2 (bI x)
 trans x y z h1 h2:=oD.2 (cX (oD.1 h1) (oD.1 h2))
 ntrans x y z h1 h2:=by
  rw [sm] at *
  intro h3;rcases fK x y with h|h|h
  ·exact h1 h
  ·subst h;exact h2 h3
  ·exact h2 (cX h h3)
theorem xg (x y:Pr) (h1:ltOf bC x y=false) (h2:ltOf bC y x=false):x=y:=by
 unfold ltOf at h1 h2;rw [decide_eq_false_iff_not,fL] at h1 h2;rcases fK x y with h|h|h
 ·exact absurd h h1
 ·exact h
 ·exact absurd h h2
theorem tL {w0:World} {base:Nat} {v:Value} {l:List Pr} (w:World) (hown:OwnRows jx 40 w base v l) (hb:Below base w0 w) (hsz:l.length<4611686018427387904) :
  Calls prog 119 #[v,.func (.func 36) #[] #[]] w fun e w'=>e = .returned (.tuple #[])∧OwnRows jx 40 w' base v (l.mergeSort fun x y=>!decide (bC y x<0))∧Below base w0 w':=by
 rcases Nat.eq_zero_or_pos l.length with h0|h0
 ·obtain ⟨A,cap,rfl,_,_,_,_⟩:=hown.form2;obtain rfl:=List.eq_nil_of_length_eq_zero h0;refine (AnyF.slices_SortFunc_none { sortProcs with } A cap _ w).mono ?_;rintro e w' ⟨rfl,rfl⟩;exact ⟨rfl,by simpa using hown,hb⟩
 ·obtain ⟨g,cap,rfl,hg,hg2,_,_,_,_⟩:=hown.addr h0;have eg:∀args w,(callFunc 36 args).run prog w = .ok (.enter 36 args) w:=enters_of func36 (by kernel_rfl) rfl;have hcmp:CmpLays prog 36 #[] Pr.cells 3 bC g 0 l.toArray.size w:=fun _ _ _ _ x y=>(Bo x y _).mono fun e w' ⟨he,os,hw⟩=>⟨he,0,os,hw⟩;have:=AnyQ.slices_SortFunc_total sortProcs 3 isAgg40 sizeOf40 Pr.cells (fun _=>rfl) (by intro x u hu;simp [Pr.cells] at hu;rcases hu with rfl|rfl|rfl <;> rfl) bC Bp 36 #[] g 0 cap l.toArray w eg hcmp hown.holdsK hg2 hsz xg;refine Calls.mono this ?_;rintro e w' ⟨rfl,n,os,rfl⟩;exact ⟨rfl,hown.sorted hg2 (by simp) n os,tK hb hg hg2 n _ os⟩
end
section
open Go.Lib
theorem iG {P:Program} (w:World) (t e:TypeId) (z:Value) (ht:P.underlying t=some (.slice e)) (hv:∀w,(zeroValue e).run P w = .ok z w) (h1:∀u∈z.cells.toList,u.oneCell'=true) (h0:0<z.cells.size) (b o n c:Nat) (hn:0<n)
  (hc:∀j,j<n*z.cells.size→(w.cell? ⟨b,o+j,none⟩).isSome=true∧w.frozen? ⟨b,o+j,none⟩=false) :
  ∃vs,∀ty,(Builtin.clear_ #[t] ty #[.slice (some ⟨b,o,none⟩) n c]).run P w = .ok (.tuple #[]) (w.setCells b o vs):=by
 have hl:(Builtin.zeroCells z.cells n).toList.length=n*z.cells.size:=by simp [Builtin.zeroCells]
 have hm:∀v∈(Builtin.zeroCells z.cells n).toList,v.oneCell'=true:=by
  intro v hv;simp only [Builtin.zeroCells,Array.toList_map,List.mem_map] at hv;obtain ⟨i,_,rfl⟩:=hv;have hi:i % z.cells.size<z.cells.size:=Nat.mod_lt _ h0;rw [getElem!_pos z.cells _ hi];exact h1 _ (by simp)
 have hst:=run_storeCells_cells (P:=P) b o (Builtin.zeroCells z.cells n).toList 0 w (fun j hj=>(hc j (by rw [←hl];exact hj)).1) (fun j hj=>(hc j (by rw [←hl];exact hj)).2) hm;simp only [Nat.add_zero] at hst;obtain ⟨m,rfl⟩:∃m,n=m+1:=⟨n-1,by omega⟩;exact ⟨_,fun ty=>by simp [Builtin.clear_,run_underlying ht,hv,hst];rfl⟩
theorem vd {d dk:List Pr} {k:Nat} (h:CompInv d.toArray d.length k dk.toArray):dk.take k=compact d:=by
 have hs:dk.length=d.length:=by simpa using h.size
 apply List.ext_getElem?
 intro j;unfold compact;have hk:=h.lt;rcases Nat.lt_or_ge j k with hj|hj
 ·rw [h.low j hj,List.getElem?_take,if_pos hj,List.getElem?_eq_getElem (by omega),getElem!_pos _ j (by simp;omega)];simp
 ·rw [List.getElem?_eq_none (by rw [List.length_take];omega),List.getElem?_eq_none (by rw [h.len];exact hj)]
theorem ve {d:List Pr} {j:Nat} (hj:j<d.length) (h0:0<j) {x y:Pr} (hx:d[j]=x) (hy:d[j-1]=y):keeps d.toArray j=decide (x≠y):=by
 unfold keeps;rw [getElem!_pos _ j (by simpa using hj),getElem!_pos _ (j-1) (by simp;omega)];have:j≠0:=by omega
 simp [this,hx,hy]
theorem so {d dk:List Pr} {m k:Nat} (h:CompInv d.toArray m k dk.toArray) (hm:m<dk.length) {x y:Pr} (hx:dk[m]=x) (hy:dk[m-1]'(by omega)=y):keeps d.toArray m=decide (x≠y):=by
 have hs:dk.length=d.length:=by simpa using h.size
 have hk:=h.lt;have e1:=h.high m (by omega);have e2:=h.high (m-1) (by omega);rw [getElem!_pos _ m (by simpa using hm),getElem!_pos _ m (by simp;omega)] at e1;rw [getElem!_pos _ (m-1) (by simp;omega),getElem!_pos _ (m-1) (by simp;omega)] at e2;simp only [List.getElem_toArray] at e1 e2;exact ve (by omega) (by omega) (e1.symm.trans hx) (e2.symm.trans hy)
theorem vf {w0:World} {base:Nat} {v:Value} {l:List Pr} (w:World) (hown:OwnRows jx 40 w base v l) (hb:Below base w0 w) (hsz:l.length≤281474976710656) :
  Calls prog 120 #[v] w fun e w'=>∃v',e = .returned v'∧OwnRows jx 40 w' base v' (compact l)∧Below base w0 w':=by
 rcases Nat.lt_or_ge l.length 2 with h2|h2
 ·have hc:compact l=l:=compact_all l fun j hj=>keeps_lt_one _ j (by omega);obtain ⟨A,cap,rfl,_,_,_,_⟩:=hown.form2;rw [hc];have HOWN:=Lib.hid hown;have h2i:(l.length:Int)<2:=by omega
  have HB:=Lib.hid hb;clear hown hc hb
  go_enter func120,ntmps120
  go_wp2_with fail
  go_ret
  exact ⟨_,rfl,HOWN.out,HB.out⟩
 ·obtain ⟨g,cap,rfl,hg,hg2,hncap,hcm,hfz,hr⟩:=hown.addr (by omega);have HR:=Lib.hid hr;have HOWN:=Lib.hid hown;have HB:=Lib.hid hb;have HG:=Lib.hid hg;have h2i:¬(l.length:Int)<2:=by omega
  clear hr hown hb hfz hg
  go_enter func120,ntmps120
  go_wp2_with fail
  go_loopg [3] l.length (fun m v wq=>∃k q:Nat,1≤k∧k≤l.length∧l.length-k≤m∧v = .int .i64 (k:Int)∧wq=w.drewN q∧Hid (∀j,j<k→keeps l.toArray j=true))
  case atStart=>exact ⟨1,0,Nat.le_refl _,by omega,by omega,rfl,rfl,Lib.hid (keeps_lt_one _)⟩
  case round =>
   obtain ⟨k,q,hk1,hk,hm,rfl,rfl,hall⟩:=hrel;by_cases hlt:k<l.length
   ·obtain ⟨⟨a,b,c⟩,hx⟩:∃x,l[k]=x:=⟨_,rfl⟩;obtain ⟨⟨x,y,z⟩,hy⟩:∃x,l[k-1]=x:=⟨_,rfl⟩;obtain ⟨g',off,hA,_,hc0,hc1,hc2⟩:=iW HR.out hlt hx;injection hA with hA;injection hA with e1 e2;subst e1;subst e2;obtain ⟨g',off,hA,_,hd0,hd1,hd2⟩:=iW HR.out (by omega) hy;injection hA with hA;injection hA with e1 e2;subst e1;subst e2;simp only [Nat.zero_add] at hc0 hc1 hc2 hd0 hd1 hd2;have HK:=Lib.hid (ve hlt (by omega) hx hy);clear hx hy;have hlti:(k:Int)<(l.length:Int):=by omega
    have hw1:IntKind.i64.wrap ((k:Int)-1)=((k-1:Nat):Int):=by rw [IntWalk.i64_in _ (by omega)];omega
    obtain ⟨_,k2,k3⟩:=Fh a b c x y z;obtain ⟨qq,hq⟩:∃q,decide ((⟨a,b,c⟩:Pr)=⟨x,y,z⟩)=q:=⟨_,rfl⟩;rw [hq] at k2;have HQ:=Lib.hid hq;clear hq;cases qq with
    | false =>
     go_wp2_with fail
     go_quiet (fail)
     go_wp2_with fail
     go_roundg (l.length-(k+1))
     case measure=>omega
     case rel=>exact ⟨k+1,_,by omega,by omega,Nat.le_refl _,by go_num,rfl,Lib.hid (fun j hj=>by
      rcases Nat.lt_or_ge j k with h|h
      ·exact hall.out j h
      ·obtain rfl:j=k:=by omega
       rw [HK.out];exact decide_eq_true (of_decide_eq_false HQ.out))⟩
    | true =>
     have HEQ:(⟨a,b,c⟩:Pr)=⟨x,y,z⟩:=of_decide_eq_true HQ.out;have HKF:Hid (keeps l.toArray k=false):=Lib.hid (by rw [HK.out];exact decide_eq_false fun h=>h HEQ);have hct:=(va underlying108 (e:=40) (z:=.agg #[.int .i64 0,.int .i64 0,.int .i64 0]) (sz:=3) (by_:=24) (by kernel_rfl) (some ⟨g,0,none⟩) l.length cap k hk hncap).2;rw [show oC (some ⟨g,0,none⟩) cap k 3=some ⟨g,k*3,none⟩ by unfold oC;rw [if_neg (by omega),Option.map_some,eC,Nat.zero_add]] at hct;go_wp2_with fail
     go_quiet (fail)
     go_wp2_with fail
     clear hc0 hc1 hc2 hd0 hd1 hd2 k2 k3 HEQ hw1;go_loopg [3,5] l.length (fun m v5 v6 wq=>∃(kk k2:Nat) (dk:List Pr),v5 = .int .i64 (kk:Int)∧v6 = .int .i64 (k2:Int)∧1≤k2∧k+k2≤l.length∧l.length-(k+k2)≤m∧g<wq.heap.size∧dk.length=l.length∧Hid (OwnRows jx 40 wq base (.slice (some ⟨g,0,none⟩) l.length cap) dk)∧Hid (Below base w0 wq)∧Hid (CompInv l.toArray (k+k2) kk dk.toArray))
     case atStart=>exact ⟨k,1,l,rfl,rfl,Nat.le_refl _,by omega,by omega,hg2,rfl,Lib.hid (HOWN.out.below (B:=w.heap.size) (bL (Below.refl _ _) _) (Nat.le_refl _)),Lib.hid (bL HB.out _),Lib.hid (CompInv.start hall.out HKF.out)⟩
     case round =>
      obtain ⟨kk,k2,dk,rfl,rfl,h1,hle,hm2,hgw,hdk,HO,HBW,HI⟩:=hrel;have hkk:=HI.out.lt;have HO':OwnRows jx 40 wr base (.slice (some ⟨g,0,none⟩) dk.length cap) dk:=by rw [hdk];exact HO.out
      obtain ⟨g',cap',hv,_,_,_,_,hfz,hr⟩:=HO'.addr (by omega);injection hv with hv _ hv3;injection hv with hv;injection hv with hv;subst hv;subst hv3;by_cases hlt2:k+k2<l.length
      ·obtain ⟨⟨a',b',c'⟩,hx⟩:∃x,dk[k+k2]=x:=⟨_,rfl⟩;obtain ⟨⟨x',y',z'⟩,hy⟩:∃x,dk[k+k2-1]=x:=⟨_,rfl⟩;obtain ⟨⟨s',t',u'⟩,hz⟩:∃x,dk[kk]=x:=⟨_,rfl⟩;obtain ⟨_,_,hA,_,hc0,hc1,hc2⟩:=iW hr (by omega) hx;injection hA with hA;injection hA with e1 e2;subst e1;subst e2;obtain ⟨_,_,hA,_,hd0,hd1,hd2⟩:=iW hr (by omega) hy;injection hA with hA;injection hA with e1 e2;subst e1;subst e2;obtain ⟨_,_,hA,_,he0,he1,he2⟩:=iW hr (by omega) hz;injection hA with hA;injection hA with e1 e2;subst e1;subst e2;rw [show 0+(k+k2)*3=k*3+k2*3 by omega] at hc0 hc1 hc2;rw [show 0+(k+k2-1)*3=k*3+(k2-1)*3 by omega] at hd0 hd1 hd2;simp only [Nat.zero_add] at he0 he1 he2;have hfz0:=hfz (kk*3);have hfz1:=hfz (kk*3+1);have hfz2:=hfz (kk*3+2);have HX:=Lib.hid (And.intro hx hy);clear hr hx hy hz hfz HO';have hlti2:(k2:Int)<((l.length-k:Nat):Int):=by omega
       have hw1:IntKind.i64.wrap ((k2:Int)-1)=((k2-1:Nat):Int):=by rw [IntWalk.i64_in _ (by omega)];omega
       obtain ⟨k1,_,k3⟩:=Fh a' b' c' x' y' z';obtain ⟨qq,hq⟩:∃q,decide ((⟨a',b',c'⟩:Pr)=⟨x',y',z'⟩)=q:=⟨_,rfl⟩;rw [hq] at k1;have HQ2:=Lib.hid hq;clear hq;cases qq with
       | true =>
        simp only [Bool.not_true] at k1;go_wp2_with fail
        go_quiet (fail)
        go_wp2_with fail
        go_roundg (l.length-(k+(k2+1)))
        case measure=>omega
        case rel =>
         have HKF2:Hid (keeps l.toArray (k+k2)=false):=Lib.hid (by
          rw [so HI.out (by omega) HX.out.1 HX.out.2];exact decide_eq_false fun h=>h (of_decide_eq_true HQ2.out))
         exact ⟨kk,k2+1,dk,rfl,by go_num,by omega,by omega,Nat.le_refl _,by simpa using hgw,hdk,Lib.hid (HO.out.below (B:=wr.heap.size) (bL (Below.refl _ _) _) (Nat.le_refl _)),Lib.hid (bL HBW.out _),Lib.hid (HI.out.skip HKF2.out)⟩
       | false =>
        simp only [Bool.not_false] at k1;go_wp2_with fail
        go_quiet (fail)
        go_wp2_with fail
        go_roundg (l.length-(k+(k2+1)))
        case measure=>omega
        case rel =>
         have HKT:Hid (keeps l.toArray (k+k2)=true):=Lib.hid (by
          rw [so HI.out (by omega) HX.out.1 HX.out.2];exact decide_eq_true (of_decide_eq_false HQ2.out))
         have HO2:Hid (OwnRows jx 40 ((wr.drewN nq).setCells g (kk*3) [.int .i64 a',.int .i64 b',.int .i64 c']) base (.slice (some ⟨g,0,none⟩) l.length cap) (dk.set kk ⟨a',b',c'⟩)):=Lib.hid (by
          have h1:OwnRows jx 40 (wr.drewN nq) base (.slice (some ⟨g,0,none⟩) dk.length cap) dk:=by
           rw [hdk];exact HO.out.below (B:=wr.heap.size) (bL (Below.refl _ _) _) (Nat.le_refl _)
          rw [←hdk];exact h1.setRow (by omega) rfl)
         have HB2:Hid (Below base w0 ((wr.drewN nq).setCells g (kk*3) [.int .i64 a',.int .i64 b',.int .i64 c'])):=Lib.hid (cz HG.out _ _ _ (bL HBW.out _));have HI2:Hid (CompInv l.toArray (k+(k2+1)) (kk+1) (dk.set kk ⟨a',b',c'⟩).toArray):=Lib.hid (by
          have:=HI.out.keep (by simp;omega) HKT.out;rw [←HI.out.high (k+k2) (by omega),getElem!_pos _ (k+k2) (by simp;omega),List.getElem_toArray,HX.out.1,List.setIfInBounds_toArray] at this;exact this)
         exact ⟨kk+1,k2+1,_,by go_num,by go_num,by omega,by omega,Nat.le_refl _,by simpa using hgw,by rw [List.length_set];exact hdk,HO2,HB2,HI2⟩
      ·have hend:k+k2=l.length:=by omega
       have hlti2:¬(k2:Int)<((l.length-k:Nat):Int):=by omega
       obtain ⟨vs,hcl⟩:=iG (P:=prog) wr 108 40 (.agg #[.int .i64 0,.int .i64 0,.int .i64 0]) underlying108 (fun w=>by kernel_rfl) (by intro u hu;simp [Value.cells] at hu;rcases hu with rfl|rfl|rfl <;> rfl) (by decide) g (kk*3) (l.length-kk) (cap-kk) (by omega) (fun j hj=>by
        have hj':j<(l.length-kk)*3:=hj;exact HO'.cellAt (by show kk*3+j<cap*3;omega))
       have hct1:=(va underlying108 (e:=40) (z:=.agg #[.int .i64 0,.int .i64 0,.int .i64 0]) (sz:=3) (by_:=24) (by kernel_rfl) (some ⟨g,0,none⟩) l.length cap kk (by omega) hncap);obtain ⟨hct1,hct2⟩:=hct1;rw [show oC (some ⟨g,0,none⟩) cap kk 3=some ⟨g,kk*3,none⟩ by unfold oC;rw [if_neg (by omega),Option.map_some,eC,Nat.zero_add]] at hct2;have HEND:Hid (OwnRows jx 40 (wr.setCells g (kk*3) vs) base (.slice (some ⟨g,0,none⟩) kk cap) (compact l)):=Lib.hid (by
        have h1:=HO'.cut (k:=kk) (by omega);have h2:(dk.take kk).length=kk:=by rw [List.length_take];omega
        have h3:=OwnRows.off (g:=g) (cap:=cap) (l:=dk.take kk) (by rw [h2];exact h1) vs (j:=kk*3) (by rw [h2];exact Nat.le_refl _);rw [h2] at h3;rw [←vd (by rw [←hend];exact HI.out)];exact h3)
       have HBE:Hid (Below base w0 (wr.setCells g (kk*3) vs)):=Lib.hid (cz HG.out _ _ _ HBW.out);clear hfz hr HO';go_wp2_with fail
       go_ret
       exact ⟨_,rfl,HEND.out,HBE.out⟩
   ·have hkl:k=l.length:=by omega
    have HC:Hid (compact l=l):=Lib.hid (compact_all l fun j hj=>hall.out j (by omega));have hlti:¬(k:Int)<(l.length:Int):=by omega
    have HOQ:=Lib.hid (HOWN.out.below (B:=w.heap.size) (bL (Below.refl _ _) q) (Nat.le_refl _));have HBQ:=Lib.hid (bL HB.out q);go_wp2_with fail
    go_ret
    exact ⟨_,rfl,by rw [HC.out];exact HOQ.out,HBQ.out⟩
end
end Go.Proofs.YtcgpepnbohejfaaGreatDoor
