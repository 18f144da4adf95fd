/- Part K03 of a proof of statements of chapter 15 (no condition). -/
import Derived.Test.YthpgjkjgkhjjlaaGreatDoorK01
import Derived.Lib.AtoiAll
import Derived.Lib.ItoaNum
import Derived.Lib.Split
import Derived.Laws.StructEq
import Derived.Sort.Walk0
import Derived.Laws.ResultCell
import Derived.Laws.NewBlocks
import Derived.Handy
import Derived.Lib.SlicesCompact
import Derived.Sort.LotA
set_option linter.unusedVariables false
set_option linter.unusedSimpArgs false
set_option maxRecDepth 100000
set_option maxHeartbeats 64000000
namespace Go.Proofs.YthpgjkjgkhjjlaaGreatDoor
open Go.RowKit Go.Proofs.Tryz
structure Ext (w0:World) where
 w:World
 below:Below w0.heap.size w0 w
instance (w0:World):Nonempty (Ext w0):=⟨⟨w0,Below.refl _ _⟩⟩
theorem Th {P:Prop} (h:P:=by (repeat (first|(with_reducible exact Below.refl _ _)|(with_reducible assumption)|(with_reducible refine cU ?_ _)|(with_reducible refine Below.drew ?_)|(with_reducible refine Below.al ?_ _)|(with_reducible refine Below.st ?_ (by simp;try omega))|(with_reducible refine Below.tr ?_ (by assumption))))):P:=h
theorem cV {P:Prop} (h:P:=by (repeat (first|(with_reducible exact Below.refl _ _)|(with_reducible assumption)|(with_reducible refine cU ?_ _)|(with_reducible refine Below.drew ?_)|(with_reducible refine Below.al ?_ _)|(with_reducible refine Below.st ?_ (by simp;try omega))|(with_reducible refine Below.tr ?_ (Hid.out (by assumption)))|(with_reducible exact Hid.out (by assumption))))):P:=h
theorem cU {B:Nat} {a w:World} (h:Below B a w) (n:Nat):Below B a (w.drewN n):=⟨h.os,h.tape,h.output,h.size,h.block⟩
theorem kn (w:World) (cs:Array Value) (e:TypeId) (j:Nat):(w.alloc (.cells cs e)).cell? ⟨w.heap.size,j,none⟩=cs[j]?:=cell_of_row _ _ _ _ _ _ (heap_alloc_new w (.cells cs e))
def Blk (w:World) (g:Nat) (t:TypeId) (cs:Array Value):Prop:=w.heap[g]? = some (.cells cs t (0,0))
section
variable {w w':World} {g:Nat} {t:TypeId} {cs:Array Value}
theorem Blk.lt (h:Blk w g t cs):g<w.heap.size:=(Array.getElem?_eq_some_iff.1 h).1
theorem Blk.cell (h:Blk w g t cs) (i:Nat):w.cell? ⟨g,i,none⟩=cs[i]?:=cell_of_row w g i cs t (0,0) h
theorem Blk.cellx (h:Blk w g t cs) (i:Nat) {v:Value} (hv:cs[i]? = some v):w.cell? ⟨g,i,none⟩=some v:=(h.cell i).trans hv
theorem Blk.frozen (h:Blk w g t cs) (i:Nat):w.frozen? ⟨g,i,none⟩=false:=by
 unfold Blk at h;simp [World.frozen?,h]
theorem Blk.new (w:World) (t:TypeId) (cs:Array Value):Blk (w.alloc (.cells cs t)) w.heap.size t cs:=heap_alloc_new w _
theorem Blk.alloc (h:Blk w g t cs) (o:Obj):Blk (w.alloc o) g t cs:=(Below.heap_alloc w o g h.lt).trans h
theorem Blk.set_ (h:Blk w g t cs) (i:Nat) (u:Value):Blk (w.setCell ⟨g,i,none⟩ u) g t (cs.setIfInBounds i u):=by
 unfold Blk at h ⊢;simp [World.setCell,Array.getElem?_modify,h]
theorem Blk.far (h:Blk w g t cs) {p:Addr} (hp:g≠p.block) (u:Value):Blk (w.setCell p u) g t cs:=(Below.heap_setCell w p u g hp).trans h
theorem Blk.below {B:Nat} (h:Blk w g t cs) (hb:Below B w w') (hg:g<B):Blk w' g t cs:=(hb.block g hg).trans h
end
structure Just (w0:World) where
 w:World
 eq:w=w0
instance (w0:World):Nonempty (Just w0):=⟨⟨w0,rfl⟩⟩
structure Pr where
 site:Int
 inc:Int
 num:Int
 deriving DecidableEq
def jW (p:Pr):Bool:=decide (0<=p.site) && decide (p.site<=3) && (decide (1<=p.inc) && decide (p.inc<=99)) && (decide (1<=p.num) && decide (p.num<=999))
def px (a b:Int):Int:=if a<b then -1 else if b<a then 1 else 0
def cl (p q:Pr):Int:=if px p.site q.site≠0 then px p.site q.site else if px p.inc q.inc≠0 then px p.inc q.inc else px p.num q.num
def RR:Pr:=⟨0,0,0⟩
def bc (n:Int):Int:=if n<0\/1073741824<=n then 1 else n+1
theorem oF (a b:Int):(a<b/\px a b = -1)\/(a=b/\px a b=0)\/(b<a/\px a b=1):=by
 unfold px;split
 ·exact Or.inl ⟨by assumption,rfl⟩
 ·split
  ·exact Or.inr (Or.inr ⟨by assumption,rfl⟩)
  ·exact Or.inr (Or.inl ⟨by omega,rfl⟩)
def g7 (p q:Pr):Prop:=p.site<q.site\/p.site=q.site/\(p.inc<q.inc\/p.inc=q.inc/\p.num<q.num)
theorem dV (p q:Pr):(g7 p q/\cl p q = -1)\/(p=q/\cl p q=0)\/(g7 q p/\cl p q=1):=by
 unfold cl g7;rcases oF p.site q.site with ⟨h,e⟩|⟨h,e⟩|⟨h,e⟩ <;> rw [e]
 ·exact Or.inl ⟨Or.inl h,rfl⟩
 ·rw [if_neg (by decide)];rcases oF p.inc q.inc with ⟨h2,e⟩|⟨h2,e⟩|⟨h2,e⟩ <;> rw [e]
  ·exact Or.inl ⟨Or.inr ⟨h,Or.inl h2⟩,rfl⟩
  ·rw [if_neg (by decide)];rcases oF p.num q.num with ⟨h3,e⟩|⟨h3,e⟩|⟨h3,e⟩ <;> rw [e]
   ·exact Or.inl ⟨Or.inr ⟨h,Or.inr ⟨h2,h3⟩⟩,rfl⟩
   ·refine Or.inr (Or.inl ⟨?_,rfl⟩);cases p;cases q
    simp_all
   ·exact Or.inr (Or.inr ⟨Or.inr ⟨h.symm,Or.inr ⟨h2.symm,h3⟩⟩,rfl⟩)
  ·exact Or.inr (Or.inr ⟨Or.inr ⟨h.symm,Or.inl h2⟩,rfl⟩)
 ·exact Or.inr (Or.inr ⟨Or.inl h,rfl⟩)
theorem co (p:Pr):¬g7 p p:=by
 unfold g7;omega
theorem dt {p q r:Pr} (h1:g7 p q) (h2:g7 q r):g7 p r:=by
 unfold g7 at *
 omega
theorem nO {p q:Pr} (h1:g7 p q):¬g7 q p:=fun h2=>co p (dt h1 h2)
theorem nR (p q:Pr):cl p q=0↔p=q:=by
 rcases dV p q with ⟨h,e⟩|⟨h,e⟩|⟨h,e⟩ <;> rw [e]
 ·exact ⟨fun c=>absurd c (by decide),fun c=>absurd h (by rw [c];exact co _)⟩
 ·exact ⟨fun _=>h,fun _=>rfl⟩
 ·exact ⟨fun c=>absurd c (by decide),fun c=>absurd h (by rw [c];exact co _)⟩
def Pr.val (p:Pr):Value:=.agg #[.int .i64 p.site,.int .i64 p.inc,.int .i64 p.num]
theorem Df (n a b:Int) (w:World):Calls prog 184 #[.int .i64 n,.int .i64 a,.int .i64 b] w (Db w (.bool (decide (a<=n) && decide (n<=b)))):=by
 go_enter func184,ntmps184
 go_wp2
 all_goals go_ret
 all_goals refine ⟨bp ?_,rfl⟩
 all_goals (first|rfl|(simp_all;done)|(simp_all;omega)|(rw [Bool.eq_iff_iff];simp_all;done)|(rw [Bool.eq_iff_iff];simp_all;omega))
theorem rV (a b:Int) (w:World):Calls prog 105 #[.int .i64 a,.int .i64 b] w (Db w (.int .i64 (px a b))):=by
 unfold px
 go_enter func105,ntmps105
 go_wp2
 all_goals go_ret
 all_goals refine ⟨nN ?_,rfl⟩
 all_goals first|(simp_all;done)|(repeat (first|rw [if_pos (by omega)]|rw [if_neg (by omega)]))
theorem FN (p:Pr) (w:World):Calls prog 150 #[p.val] w (uL w (.bool (jW p))):=by
 obtain ⟨a,b,c⟩:=p;unfold jW Pr.val
 go_enter func150,ntmps150
 go_wp2
 all_goals go_ret
 all_goals refine ⟨bp ?_,(Below.refl _ _).alloc (Nat.le_refl _) _⟩
 all_goals (first|rfl|(simp_all;done)|(simp_all;omega)|(rw [Bool.eq_iff_iff];simp_all;done)|(rw [Bool.eq_iff_iff];simp_all;omega))
theorem I8 (p:Pr) (w:World):Calls prog 120 #[p.val] w (uL w (.bool (jW p))):=by
 have H1:=Lib.hid (fun n a b w=>Df n a b w);obtain ⟨a,b,c⟩:=p;unfold jW Pr.val
 go_enter func120,ntmps120
 go_wp2_with (first|(refine (H1.out _ _ _ _).mono ?_;rintro e w' ⟨rfl,rfl⟩)|fail)
 all_goals go_ret
 all_goals refine ⟨bp ?_,(Below.refl _ _).alloc (Nat.le_refl _) _⟩
 all_goals (first|rfl|(simp_all;done)|(simp_all;omega)|(rw [Bool.eq_iff_iff];simp_all;done)|(rw [Bool.eq_iff_iff];simp_all;omega))
section
variable {α:Type} {E:El α} {w w':World} {l:List α} {v:Value} {base:Nat} {e:TypeId}
theorem OwnRows.addr (h:OwnRows E e w base v l) (h0:0<l.length) :
  ∃g cap,v = .slice (some ⟨g,0,none⟩) l.length cap/\base<=g/\g<w.heap.size/\l.length<=cap/\cap<=maxLen/\(∀j,w.frozen? ⟨g,j,none⟩=false)/\RowsAt E w (Lo w.heap.size) (some ⟨g,0,none⟩) l:=by
 obtain ⟨A,cap,hA,hr,hc,hm⟩:=h.form;have h2:=h;obtain ⟨_,xs,h1,_⟩:=h2;rcases h1.2 with ⟨hv,hn⟩|⟨g,cap',cur,hv,hg,hh,hnc,hcm,hcs,ht⟩
 ·omega
 ·rw [hv] at hA;injection hA with e1 e2 e3;subst e1;subst e3;exact ⟨g,cap',hv,hg,(Array.getElem?_eq_some_iff.1 hh).1,hc,hm,fun j=>frozen_of_row w g j cur e hh,hr⟩
theorem OwnRows.form2 (h:OwnRows E e w base v l) :
  ∃A cap,v = .slice A l.length cap/\(A=none->l.length=0/\cap=0)/\RowsAt E w (Lo w.heap.size) A l/\l.length<=cap/\cap<=maxLen:=by
 obtain ⟨A,cap,hA,hr,hc,hm⟩:=h.form;refine ⟨A,cap,hA,fun hn=>?_,hr,hc,hm⟩;subst hn;obtain ⟨_,xs,h1,_⟩:=h;rcases h1.2 with ⟨hv,hn⟩|⟨g,cap',cur,hv,_⟩
 ·rw [hv] at hA;injection hA with _ e2 e3;exact ⟨e2.symm,e3.symm⟩
 ·rw [hv] at hA;injection hA with e1;cases e1
end
theorem Below.al {a w:World} (h:Below a.heap.size a w) (o:Obj):Below a.heap.size a (w.alloc o):=h.alloc h.size o
theorem Below.tr {a b c:World} (h:Below a.heap.size a b) (k:Below b.heap.size b c):Below a.heap.size a c:=h.trans (k.mono h.size)
theorem Below.st {a w:World} {p:Addr} {u:Value} (h:Below a.heap.size a w) (hp:a.heap.size<=p.block):Below a.heap.size a (w.setCell p u):=h.setCell hp u
theorem uN {W w1:World} (hb:Below W.heap.size W w1):(∀b o,b<W.heap.size->w1.cell? ⟨b,o,none⟩=W.cell? ⟨b,o,none⟩)/\(∀b o,b<W.heap.size->w1.frozen? ⟨b,o,none⟩=W.frozen? ⟨b,o,none⟩) :=
 ⟨fun b o h=>hb.cell (p:=⟨b,o,none⟩) h,fun b o h=>hb.frozen (p:=⟨b,o,none⟩) h⟩
def Pr.cells (p:Pr):List Value:=[.int .i64 p.site,.int .i64 p.inc,.int .i64 p.num]
def gK:El Pr:=El.plain 3 (by decide) Pr.cells (fun _=>rfl) (by intro x u hu;simp [Pr.cells] at hu;rcases hu with rfl|rfl|rfl <;> rfl)
theorem mF {w:World} {S:Nat->Prop} {A:Option Addr} {l:List Pr} {i:Nat} {a b c:Int} (h:RowsAt gK w S A l) (hi:i<l.length) (hx:l[i]=⟨a,b,c⟩) :
  ∃k off,A=some ⟨k,off,none⟩/\S k/\w.cell? ⟨k,off+i*3,none⟩=some (.int .i64 a)/\w.cell? ⟨k,off+i*3+1,none⟩=some (.int .i64 b)/\w.cell? ⟨k,off+i*3+2,none⟩=some (.int .i64 c):=by
 obtain ⟨k,off,cs,hA,hS,hc,hd⟩:=h.getx hi hx;have hc':cs=[.int .i64 a,.int .i64 b,.int .i64 c]:=hc;subst hc';exact ⟨k,off,hA,hS,hd 0 (show 0<3 by decide),hd 1 (show 1<3 by decide),hd 2 (show 2<3 by decide)⟩
theorem Tq:ElTB prog gK 139 40 24:=ElTB.mk' underlying139 (.agg #[.int .i64 0,.int .i64 0,.int .i64 0]) 3 24 (by kernel_rfl) rfl rfl
theorem NA (a b:Pr) (w:World):(Op.equalIn 10000 40 a.val b.val).run prog w = .ok (decide (a=b)) w:=by
 have hS:prog.underlying 40=some (.struct (prog.fieldsOf 40)):=by kernel_rfl
 have hp:prog.stoodInHeld 40=false:=by kernel_rfl
 unfold Pr.val;rw [show (10000:Nat)=9999+1 from rfl,run_equalIn_agg w 9999 40 _ _ hS hp];have u3:=underlying3;simp only [Program.fieldsOf,underlying40];go_simp
 obtain ⟨a1,a2,a3⟩:=a;obtain ⟨b1,b2,b3⟩:=b;by_cases h1:a1=b1 <;> by_cases h2:a2=b2 <;> by_cases h3:a3=b3 <;> simp [h1,h2,h3]
structure Cmps (t:TypeId) (x y:Array Value) (r:Bool):Prop where
 neq:∀w,(binOp .neq t (.agg x) (.agg y)).run prog w = .ok (.bool (!r)) w
 eql:∀w,(binOp .eql t (.agg x) (.agg y)).run prog w = .ok (.bool r) w
 guard:∀(op:BinOp) (a b:Operand) (xs ys:Array Value) w,(eqGuard op t a b (.agg xs) (.agg ys)).run prog w = .ok () w
theorem Cmps.mk' {t:TypeId} {x y:Array Value} {r:Bool} (h:∀w,(Op.equalIn 10000 t (.agg x) (.agg y)).run prog w = .ok r w) (hg:∀(op:BinOp) (a b:Operand) (xs ys:Array Value) w,(eqGuard op t a b (.agg xs) (.agg ys)).run prog w = .ok () w):Cmps t x y r where
 neq:=fun w=>(run_neq_struct (P:=prog) w t x y).trans (by rw [h w];rfl)
 eql:=fun w=>(run_eql_struct (P:=prog) w t x y).trans (by rw [h w];rfl)
 guard:=hg
theorem Pz (a b c x y z:Int):Cmps 40 #[.int .i64 a,.int .i64 b,.int .i64 c] #[.int .i64 x,.int .i64 y,.int .i64 z] (decide ((⟨a,b,c⟩:Pr)=⟨x,y,z⟩)):=Cmps.mk' (NA ⟨a,b,c⟩ ⟨x,y,z⟩) (fun op a b xs ys w=>run_eqGuard_agg w op 40 a b xs ys (by kernel_rfl))
structure Am where
 mode:Int
 units:Int
deriving DecidableEq
def Am.cells (a:Am):List Value:=[.int .i64 a.mode,.int .i64 a.units]
def Am.val (a:Am):Value:=.agg #[.int .i64 a.mode,.int .i64 a.units]
def Am.zero:Am:=⟨0,0⟩
structure Tm where
 name:ByteArray
 am:Am
deriving DecidableEq
def Tm.cells (a:Tm):List Value:=[.string a.name,.int .i64 a.am.mode,.int .i64 a.am.units]
def Tm.val (a:Tm):Value:=.agg #[.string a.name,.int .i64 a.am.mode,.int .i64 a.am.units]
structure Ho where
 proc:Pr
 am:Am
deriving DecidableEq
def Ho.cells (a:Ho):List Value:=[.int .i64 a.proc.site,.int .i64 a.proc.inc,.int .i64 a.proc.num,.int .i64 a.am.mode,.int .i64 a.am.units]
structure Wt where
 proc:Pr
 am:Am
 prio:Int
 passed:Int
deriving DecidableEq
def Wt.cells (a:Wt):List Value:=[.int .i64 a.proc.site,.int .i64 a.proc.inc,.int .i64 a.proc.num,.int .i64 a.am.mode,.int .i64 a.am.units,.int .i64 a.prio,.int .i64 a.passed]
def I9:El Am:=El.plain 2 (by decide) Am.cells (fun _=>rfl) (by intro x u hu;simp [Am.cells] at hu;rcases hu with rfl|rfl <;> rfl)
def c6:El Tm:=El.plain 3 (by decide) Tm.cells (fun _=>rfl) (by intro x u hu;simp [Tm.cells] at hu;rcases hu with rfl|rfl|rfl <;> rfl)
def gM:El Ho:=El.plain 5 (by decide) Ho.cells (fun _=>rfl) (by intro x u hu;simp [Ho.cells] at hu;rcases hu with rfl|rfl|rfl|rfl|rfl <;> rfl)
def fK:El Wt:=El.plain 7 (by decide) Wt.cells (fun _=>rfl) (by intro x u hu;simp [Wt.cells] at hu;rcases hu with rfl|rfl|rfl|rfl|rfl|rfl|rfl <;> rfl)
section
variable {w:World} {S:Nat->Prop} {A:Option Addr} {i:Nat}
theorem KI {l:List Am} {m u:Int} (h:RowsAt I9 w S A l) (hi:i<l.length) (hx:l[i]=⟨m,u⟩) :
  ∃k off,A=some ⟨k,off,none⟩/\S k/\w.cell? ⟨k,off+i*2,none⟩=some (.int .i64 m)/\w.cell? ⟨k,off+i*2+1,none⟩=some (.int .i64 u):=by
 obtain ⟨k,off,cs,hA,hS,hc,hd⟩:=h.getx hi hx;obtain rfl:cs=[.int .i64 m,.int .i64 u]:=hc;exact ⟨k,off,hA,hS,hd 0 (show 0<2 by decide),hd 1 (show 1<2 by decide)⟩
theorem KJ {l:List Tm} {n:ByteArray} {m u:Int} (h:RowsAt c6 w S A l) (hi:i<l.length) (hx:l[i]=⟨n,⟨m,u⟩⟩) :
  ∃k off,A=some ⟨k,off,none⟩/\S k/\w.cell? ⟨k,off+i*3,none⟩=some (.string n)/\w.cell? ⟨k,off+i*3+1,none⟩=some (.int .i64 m)/\w.cell? ⟨k,off+i*3+2,none⟩=some (.int .i64 u):=by
 obtain ⟨k,off,cs,hA,hS,hc,hd⟩:=h.getx hi hx;obtain rfl:cs=[.string n,.int .i64 m,.int .i64 u]:=hc;exact ⟨k,off,hA,hS,hd 0 (show 0<3 by decide),hd 1 (show 1<3 by decide),hd 2 (show 2<3 by decide)⟩
end
theorem Tr:ElTB prog c6 88 44 32:=ElTB.mk' underlying88 (.agg #[.string { data:=#[] },.int .i64 0,.int .i64 0]) 3 32 (by kernel_rfl) rfl rfl
theorem Ts:ElTB prog gM 61 121 40:=ElTB.mk' underlying61 (.agg #[.int .i64 0,.int .i64 0,.int .i64 0,.int .i64 0,.int .i64 0]) 5 40 (by kernel_rfl) rfl rfl
theorem Qb:ElTB prog fK 64 173 56:=ElTB.mk' underlying64 (.agg #[.int .i64 0,.int .i64 0,.int .i64 0,.int .i64 0,.int .i64 0,.int .i64 0,.int .i64 0]) 7 56 (by kernel_rfl) rfl rfl
theorem NB (a b:Am) (w:World):(Op.equalIn 10000 42 a.val b.val).run prog w = .ok (decide (a=b)) w:=by
 have hS:prog.underlying 42=some (.struct (prog.fieldsOf 42)):=by kernel_rfl
 have hp:prog.stoodInHeld 42=false:=by kernel_rfl
 unfold Am.val;rw [show (10000:Nat)=9999+1 from rfl,run_equalIn_agg w 9999 42 _ _ hS hp];have u3:=underlying3;simp only [Program.fieldsOf,underlying42];go_simp
 obtain ⟨a1,a2⟩:=a;obtain ⟨b1,b2⟩:=b;by_cases h1:a1=b1 <;> by_cases h2:a2=b2 <;> simp [h1,h2]
theorem RS (a b x y:Int):Cmps 42 #[.int .i64 a,.int .i64 b] #[.int .i64 x,.int .i64 y] (decide ((⟨a,b⟩:Am)=⟨x,y⟩)):=Cmps.mk' (NB ⟨a,b⟩ ⟨x,y⟩) (fun op a b xs ys w=>run_eqGuard_agg w op 42 a b xs ys (by kernel_rfl))
def cL (m:Int):Bool:=decide (1<=m) && decide (m<=5)
def es (a b:Int):Bool:=cL a && cL b && (decide (a=b) || decide (a=5) || decide (b=1) || decide (a=4) && !decide (b=5))
def mG (a b:Int):Bool:=cL a && cL b && !decide (a=5) && !decide (b=5) && (decide (a=1) || decide (b=1) || decide (a=b) && !decide (a=4))
theorem dR {a:Int} (h:cL a=true):a=1\/a=2\/a=3\/a=4\/a=5:=by
 unfold cL at h;simp at h;omega
theorem fY (m:Int) (w:World):Calls prog 192 #[.int .i64 m] w (Db w (.bool (cL m))):=by
 go_enter func192,ntmps192
 go_wp2
 all_goals go_ret
 all_goals refine ⟨bp ?_,rfl⟩
 all_goals unfold cL
 all_goals (first|rfl|(simp_all;done)|(simp_all;omega)|(rw [Bool.eq_iff_iff];simp_all;done)|(rw [Bool.eq_iff_iff];simp_all;omega))
theorem BL {fn:Func} {p:Tmp} {ty:TypeId} (h:fn.results = #[.cell p ty]) (tmps:Array Value) (P:Program) (w:World):(results fn tmps).run P w=((asAddr (tmps.getD p undef)).run P w).andThen fun a w₁=>(loadVar ty a).run P w₁:=by
 simp only [results,h];simp [Sem.run_bind,Result.andThen]
def Qc (m:Int):Value:=.agg #[.bool false,.bool (cL m),.bool (decide (m=5) || decide (m=4) || decide (m=2)),.bool (decide (m=5) || decide (m=4) || decide (m=3)),.bool (decide (m=5) || decide (m=4)),.bool (decide (m=5))]
theorem Dg (m:Int) (hm:cL m=true) (w:World):Calls prog 241 #[.int .i64 m] w (uL w (Qc m)):=by
 rcases dR hm with rfl|rfl|rfl|rfl|rfl;all_goals
  clear hm
  go_enter func241,ntmps241
  go_wp2
  (try simp only [Exit.inBlock,Exit.then])
  refine bodyPost_ret_by (v:=_) ?_ rfl ⟨rfl,by exact cV⟩;rw [BL rfl];go_simp
  rfl
theorem Ja {a b:Int} (ha:cL a=true) (hb:cL b=true) (w:World):(Instr.index 247 (Qc a) (.int .i64 b)).run prog w = .ok (.bool (es a b)) w:=by
 rcases dR ha with rfl|rfl|rfl|rfl|rfl <;> rcases dR hb with rfl|rfl|rfl|rfl|rfl <;> kernel_rfl
theorem xG (a b:Int) (w:World):Calls prog 181 #[.int .i64 a,.int .i64 b] w (uL w (.bool (es a b))):=by
 have H:=Lib.hid (fun m W=>fY m W);have HI:=Lib.hid (fun ha hb W=>Ja (a:=a) (b:=b) ha hb W);have HU:Hid ((cL a && cL b)=false->es a b=false):=Lib.hid (fun h=>by unfold es;rw [h];rfl);generalize es a b=q at *
 go_enter func181,ntmps181
 go_wp2_with fail
 repeat' (first|(go_at_call 192;refine (H.out _ _).mono ?_;rintro e wa1 ⟨rfl,hwa1⟩;obtain rfl:=hwa1.symm;clear hwa1;go_wp2_with fail)|(go_at_call 241;refine (Dg a (by assumption) _).mono ?_;rintro e w2 ⟨rfl,hb2⟩;have k:=HI.out (by assumption) (by assumption);generalize Qc a=v at *;have HB2:=Lib.hid hb2;clear hb2;go_wp2_with fail)|(go_ret;refine ⟨bp ?_,by exact cV⟩;first|rfl|(rw [HU.out (by simp_all)])))
structure Tog (w:World):Prop where
 at_:∀i j:Nat,i<5->j<5->w.cell? ⟨1,i*5+j,none⟩=some (.bool (mG (i+1:Nat) (j+1:Nat)))
theorem Tog.below {w w':World} (h:Tog w) (hb:Below w.heap.size w w'):Tog w' where
 at_:=fun i j hi hj=>(hb.cell (p:=⟨1,i*5+j,none⟩) (World.block_lt_of_cell? w _ (h.at_ i j hi hj))).trans (h.at_ i j hi hj)
theorem oG (a b:Int) (w:World) (hT:Tog w):Calls prog 348 #[.int .i64 a,.int .i64 b] w (Db w (.bool (mG a b))):=by
 have H:=Lib.hid (fun m W=>fY m W);by_cases hab:cL a=true/\cL b=true
 ·obtain ⟨ha,hb⟩:=hab;obtain ⟨i,hi,ei⟩:∃i:Nat,i<5/\a=((i+1:Nat):Int):=⟨(a-1).toNat,by have:=dR ha;omega,by have:=dR ha;omega⟩;obtain ⟨j,hj,ej⟩:∃i:Nat,i<5/\b=((i+1:Nat):Int):=⟨(b-1).toNat,by have:=dR hb;omega,by have:=dR hb;omega⟩;have hc:=hT.at_ i j hi hj;rw [<-ei,<-ej] at hc;have w1:IntKind.i64.wrap (a-1)=(i:Int):=by rw [IntWalk.i64_in _ (by omega)];omega
  have w2:IntKind.i64.wrap (b-1)=(j:Int):=by rw [IntWalk.i64_in _ (by omega)];omega
  have H1:Hid (∀m W,m=a\/m=b->Calls prog 192 #[.int .i64 m] W (Db W (.bool true))):=Lib.hid (fun m W h=>by rcases h with rfl|rfl;exact ha▸fY _ W;exact hb▸fY _ W);generalize mG a b=q at *
  clear ha hb H hT ei ej
  go_enter func348,ntmps348
  go_wp2_with fail
  repeat' (first|(go_at_call 192;refine (H1.out _ _ (by simp)).mono ?_;rintro e wa1 ⟨rfl,hwa1⟩;obtain rfl:=hwa1.symm;clear hwa1;go_wp2_with fail)|(go_ret;exact ⟨bp rfl,rfl⟩))
 ·have HF:Hid (mG a b=false):=Lib.hid (by unfold mG;simp only [Bool.and_eq_false_imp];intros;simp_all);have HN:=Lib.hid hab;clear hab hT
  go_enter func348,ntmps348
  go_wp2_with fail
  repeat' (first|(go_at_call 192;refine (H.out _ _).mono ?_;rintro e wa1 ⟨rfl,hwa1⟩;obtain rfl:=hwa1.symm;clear hwa1;go_wp2_with fail)|(go_ret;first|exact ⟨bp HF.out.symm,rfl⟩|(exact absurd ⟨by assumption,by assumption⟩ HN.out))|(exact absurd ⟨by assumption,by assumption⟩ HN.out))
theorem nS {α:Type} {l:List α} {k:Nat} {x:α} (h:k<l.length) (hx:l[k]=x):l.drop k=x :: l.drop (k+1):=by rw [qDc h,hx]
theorem xH {α:Type} {l:List α} {k:Nat} (h:¬k<l.length):l.drop k=[]:=qDn (by omega)
def ah:List Ho->Pr->Am
 | [],_=>⟨0,0⟩
 | h :: l,p=>bif decide (h.proc=p) then h.am else ah l p
def js (l:List Ho):List Am:=l.map (·.am)
def dA (l:List Ho):List Pr:=l.map (·.proc)
theorem Dh (a b c x y z:Int) (w:World):Calls prog 119 #[.agg #[.int .i64 a,.int .i64 b,.int .i64 c],.agg #[.int .i64 x,.int .i64 y,.int .i64 z]] w (uL w (.int .i64 (cl ⟨a,b,c⟩ ⟨x,y,z⟩))):=by
 have i0:∀w:World,(Instr.index 176 (.agg #[.int .i64 a,.int .i64 b,.int .i64 c]) (.int .i64 0)).run prog w = .ok (.int .i64 a) w:=fun _=>by kernel_rfl
 have i1:∀w:World,(Instr.index 176 (.agg #[.int .i64 a,.int .i64 b,.int .i64 c]) (.int .i64 1)).run prog w = .ok (.int .i64 b) w:=fun _=>by kernel_rfl
 have i2:∀w:World,(Instr.index 176 (.agg #[.int .i64 a,.int .i64 b,.int .i64 c]) (.int .i64 2)).run prog w = .ok (.int .i64 c) w:=fun _=>by kernel_rfl
 obtain ⟨r,hr⟩:=qGe (cl ⟨a,b,c⟩ ⟨x,y,z⟩);rw [hr];have HR:=Lib.hid hr;clear hr
 go_enter func119,ntmps119
 go_wp2
 go_rounds 4
 all_goals go_ret
 all_goals refine ⟨nN ?_,((Below.refl _ _).alloc (Nat.le_refl _) _).alloc (by simp) _⟩
 all_goals rw [<-HR.out]
 all_goals rcases dV ⟨a,b,c⟩ ⟨x,y,z⟩ with ⟨h,e⟩|⟨h,e⟩|⟨h,e⟩ <;> rw [e] <;> first|rfl|(exfalso;unfold g7 at h;simp only at h;omega)|(exfalso;simp only [Pr.mk.injEq] at h;omega)
theorem Jc (p q:Pr) (w:World):Calls prog 71 #[p.val,q.val] w (uL w (.int .i64 (cl p q))):=by
 obtain ⟨a,b,c⟩:=p;obtain ⟨x,y,z⟩:=q;have HC:=Lib.hid (fun w=>Dh a b c x y z w);obtain ⟨r,hr⟩:=qGe (cl ⟨a,b,c⟩ ⟨x,y,z⟩);rw [hr] at HC ⊢;clear hr;unfold Pr.val
 go_enter func71,ntmps71
 go_wp2_with fail
 refine (HC.out _).mono ?_;rintro e w1 ⟨rfl,hb⟩;have HB:=Lib.hid (((Below.refl w.heap.size w).alloc (Nat.le_refl _) _).alloc (by simp) _ |>.trans (hb.mono (by simp;omega)));go_wp2
 go_ret
 exact ⟨rfl,HB.out⟩
theorem FQ (p q:Pr) (w:World):Calls prog 59 #[p.val,q.val] w (uL w (.int .i64 (cl p q))):=by
 obtain ⟨a,b,c⟩:=p;obtain ⟨x,y,z⟩:=q;unfold Pr.val cl;dsimp only;obtain ⟨r1,h1⟩:∃r,px a x=r:=⟨_,rfl⟩;obtain ⟨r2,h2⟩:∃r,px b y=r:=⟨_,rfl⟩;obtain ⟨r3,h3⟩:∃r,px c z=r:=⟨_,rfl⟩;rw [h1,h2,h3];obtain ⟨r,hr⟩:=qGe ((if r1≠0 then r1 else if r2≠0 then r2 else r3));rw [hr];have HR:=Lib.hid hr;have G1:Hid (∀W:World,Calls prog 105 #[.int .i64 a,.int .i64 x] W (Db W (.int .i64 r1))):=Lib.hid (fun W=>by have:=rV a x W;rw [h1] at this;exact this);have G2:Hid (∀W:World,Calls prog 105 #[.int .i64 b,.int .i64 y] W (Db W (.int .i64 r2))):=Lib.hid (fun W=>by have:=rV b y W;rw [h2] at this;exact this);have G3:Hid (∀W:World,Calls prog 105 #[.int .i64 c,.int .i64 z] W (Db W (.int .i64 r3))):=Lib.hid (fun W=>by have:=rV c z W;rw [h3] at this;exact this);clear hr h1 h2 h3
 go_enter func59,ntmps59
 go_wp2_with fail
 refine (G1.out _).mono ?_;rintro e w' ⟨rfl,rfl⟩;go_wp2_with fail
 rotate_left
 refine (G2.out _).mono ?_;rintro e w' ⟨rfl,rfl⟩;go_wp2_with fail
 rotate_left
 refine (G3.out _).mono ?_;rintro e w' ⟨rfl,rfl⟩;go_wp2_with fail
 all_goals go_ret
 all_goals refine ⟨nN ?_,((Below.refl _ _).alloc (Nat.le_refl _) _).alloc (by simp) _⟩
 all_goals rw [<-HR.out]
 all_goals (clear HR G1 G2 G3;simp_all)
instance:Inhabited Pr:=⟨RR⟩
theorem i7 (p q:Pr):g7 p q\/p=q\/g7 q p:=by
 rcases dV p q with ⟨h,_⟩|⟨h,_⟩|⟨h,_⟩
 ·exact Or.inl h
 ·exact Or.inr (Or.inl h)
 ·exact Or.inr (Or.inr h)
theorem i8 (p q:Pr):cl p q<0↔g7 p q:=by
 rcases dV p q with ⟨h,e⟩|⟨h,e⟩|⟨h,e⟩ <;> rw [e]
 ·exact ⟨fun _=>h,fun _=>by decide⟩
 ·subst h;exact ⟨fun c=>absurd c (by decide),fun c=>absurd c (co _)⟩
 ·exact ⟨fun c=>absurd c (by decide),fun c=>absurd h (nO c)⟩
def Nt (l:List Pr):Prop:=l.Pairwise g7
theorem mM (d:Array Pr):∀m x,x∈Go.Lib.compactUpTo d m↔∃j,j<m/\d[j]! = x
 | 0,x=>by simp [Go.Lib.compactUpTo]
 | m+1,x=>by
  rw [Go.Lib.compactUpTo_succ,List.mem_append,mM d m x];by_cases h:Go.Lib.keeps d m=true
  ·rw [if_pos h,List.mem_singleton];constructor
   ·rintro (⟨j,hj,e⟩|e)
    ·exact ⟨j,by omega,e⟩
    ·exact ⟨m,by omega,e.symm⟩
   ·rintro ⟨j,hj,e⟩;rcases Nat.lt_or_ge j m with h1|h1
    ·exact Or.inl ⟨j,h1,e⟩
    ·have:j=m:=by omega
     subst this;exact Or.inr e.symm
  ·rw [if_neg h];have hk:¬(m=0\/d[m]!≠d[m-1]!):=by simpa [Go.Lib.keeps] using h
   have h0:m≠0:=fun e=>hk (Or.inl e);have he:d[m]! = d[m-1]!:=Classical.byContradiction fun e=>hk (Or.inr e);constructor
   ·rintro (⟨j,hj,e⟩|e)
    ·exact ⟨j,by omega,e⟩
    ·cases e
   ·rintro ⟨j,hj,e⟩;rcases Nat.lt_or_ge j m with h1|h1
    ·exact Or.inl ⟨j,h1,e⟩
    ·have:j=m:=by omega
     subst this;exact Or.inl ⟨j-1,by omega,he.symm.trans e⟩
theorem uQ (d:Array Pr) (hs:∀i j,i<j->j<d.size->¬g7 d[j]! d[i]!):∀m,m<=d.size->Nt (Go.Lib.compactUpTo d m)
 | 0,_=>by simp [Go.Lib.compactUpTo,Nt]
 | m+1,hm=>by
  have ih:=uQ d hs m (by omega);rw [Go.Lib.compactUpTo_succ];by_cases h:Go.Lib.keeps d m=true
  ·rw [if_pos h];unfold Nt at *
   rw [List.pairwise_append];refine ⟨ih,by simp,fun x hx y hy=>?_⟩;rw [List.mem_singleton.1 hy];obtain ⟨j,hj,rfl⟩:=(mM d m x).1 hx;have hk:m=0\/d[m]!≠d[m-1]!:=by simpa [Go.Lib.keeps] using h
   have hne:d[m]!≠d[m-1]!:=hk.resolve_left (by omega);rcases i7 d[j]! d[m]! with h1|h1|h1
   ·exact h1
   ·exfalso;have a1:¬g7 d[m]! d[m-1]!:=hs (m-1) m (by omega) (by omega);rcases Nat.lt_or_ge j (m-1) with h2|h2
    ·have a2:=hs j (m-1) h2 (by omega);rw [h1] at a2;rcases i7 d[m]! d[m-1]! with h3|h3|h3
     ·exact a1 h3
     ·exact hne h3
     ·exact a2 h3
    ·have:j=m-1:=by omega
     subst this;exact hne h1.symm
   ·exact absurd h1 (hs j m hj (by omega))
  ·rw [if_neg h,List.append_nil];exact ih
def eu (l:List Pr):List Pr:=Go.Lib.compact (l.mergeSort fun x y=>!decide (cl y x<0))
theorem dd (l:List Pr) (x:Pr):x∈eu l↔x∈l:=by
 unfold eu Go.Lib.compact;rw [mM];have hp:=List.mergeSort_perm l fun x y=>!decide (cl y x<0);rw [<-hp.mem_iff];constructor
 ·rintro ⟨j,hj,rfl⟩;rw [getElem!_pos _ j (by simpa using hj)];simp
 ·intro h;obtain ⟨j,hj,rfl⟩:=List.getElem_of_mem h;exact ⟨j,hj,by rw [getElem!_pos _ j (by simpa using hj)];simp⟩
theorem kt (l:List Pr):Nt (eu l):=by
 unfold eu Go.Lib.compact;have hp:(l.mergeSort fun x y=>!decide (cl y x<0)).Pairwise fun x y=>(!decide (cl y x<0))=true:=by
  apply List.pairwise_mergeSort
  ·intro a b c h1 h2;simp only [Bool.not_eq_true',decide_eq_false_iff_not,i8] at *
   intro h3;rcases i7 b c with h|h|h
   ·exact h1 (dt h h3)
   ·subst h;exact h1 h3
   ·exact h2 h
  ·intro a b;simp only [Bool.or_eq_true,Bool.not_eq_true',decide_eq_false_iff_not,i8];rcases i7 a b with h|h|h
   ·exact Or.inl (nO h)
   ·subst h;exact Or.inl (co _)
   ·exact Or.inr (nO h)
 generalize (l.mergeSort fun x y=>!decide (cl y x<0))=M at *
 refine uQ _ ?_ _ (by simp);intro i j hij hj;have hj':j<M.length:=by simpa using hj
 rw [getElem!_pos _ j hj,getElem!_pos _ i (by omega)];have:=List.pairwise_iff_getElem.1 hp i j (by omega) hj' hij;simp only [Bool.not_eq_true',decide_eq_false_iff_not,i8] at this;simpa using this
theorem rY (l:List Pr):(eu l).length<=l.length:=by
 unfold eu Go.Lib.compact Go.Lib.compactUpTo;rw [List.length_map];refine Nat.le_trans (List.length_filter_le _ _) ?_;simp
theorem BO:∀{l l':List Pr},Nt l->Nt l'->(∀x,x∈l↔x∈l')->l=l'
 | [],[],_,_,_=>rfl
 | [],y :: l',_,_,h=>absurd ((h y).2 (by simp)) (by simp)
 | x :: l,[],_,_,h=>absurd ((h x).1 (by simp)) (by simp)
 | x :: l,y :: l',ha,hb,h=>by
  unfold Nt at ha hb;rw [List.pairwise_cons] at ha hb;have hxy:x=y:=by
   rcases List.mem_cons.1 ((h x).1 (by simp)) with e|e
   ·exact e
   ·rcases List.mem_cons.1 ((h y).2 (by simp)) with e'|e'
    ·exact e'.symm
    ·exact absurd (dt (hb.1 x e) (ha.1 y e')) (co _)
  subst hxy;rw [BO (l:=l) (l':=l') ha.2 hb.2 fun z=>⟨fun hz=>?_,fun hz=>?_⟩]
  ·rcases List.mem_cons.1 ((h z).1 (List.mem_cons_of_mem _ hz)) with e|e
   ·subst e;exact absurd (ha.1 z hz) (co _)
   ·exact e
  ·rcases List.mem_cons.1 ((h z).2 (List.mem_cons_of_mem _ hz)) with e|e
   ·subst e;exact absurd (hb.1 z hz) (co _)
   ·exact e
def jG (x:Pr) (L:List Pr) (k:Nat):List Pr:=L.take k++x :: L.drop k
theorem xN (x:Pr) (L:List Pr) (k:Nat):(jG x L k).length=L.length+1:=by
 unfold jG;rw [List.length_append,List.length_cons,List.length_take,List.length_drop];omega
theorem KV (x:Pr) (L:List Pr) (k:Nat) (y:Pr):y∈jG x L k↔y=x\/y∈L:=by
 unfold jG;rw [List.mem_append,List.mem_cons];have:y∈L↔y∈L.take k\/y∈L.drop k:=by rw [<-List.mem_append,List.take_append_drop]
 rw [this];constructor
 ·rintro (h|h|h)
  ·exact Or.inr (Or.inl h)
  ·exact Or.inl h
  ·exact Or.inr (Or.inr h)
 ·rintro (h|h|h)
  ·exact Or.inr (Or.inl h)
  ·exact Or.inl h
  ·exact Or.inr (Or.inr h)
theorem KX {x:Pr} {L:List Pr} {k:Nat} (ha:Nt L) (hk:k<=L.length) (hd:∀y∈L.drop k,g7 x y) (ht:k=0\/∃h:k-1<L.length,g7 L[k-1] x):Nt (jG x L k):=by
 unfold jG Nt at *
 rw [List.pairwise_append];refine ⟨ha.sublist (List.take_sublist _ _),List.pairwise_cons.2 ⟨hd,ha.sublist (List.drop_sublist _ _)⟩,fun a h1 b h2=>?_⟩;have hax:g7 a x:=by
  obtain ⟨i,hi,rfl⟩:=List.getElem_of_mem h1;rw [List.length_take] at hi;rcases ht with rfl|⟨h,hlt⟩
  ·omega
  ·rw [List.getElem_take];rcases Nat.lt_or_ge i (k-1) with h3|h3
   ·exact dt (List.pairwise_iff_getElem.1 ha i (k-1) (by omega) (by omega) h3) hlt
   ·have:i=k-1:=by omega
    subst this;exact hlt
 rcases List.mem_cons.1 h2 with rfl|h2
 ·exact hax
 ·exact dt hax (hd b h2)
theorem Jg {l:List Pr} {x:Pr} {k j:Nat} (hk:k<l.length) (hx:l[k]=x) (hj:j<=(eu (l.take k)).length) (hd:∀y∈(eu (l.take k)).drop j,g7 x y) (ht:j=0\/∃h:j-1<(eu (l.take k)).length,g7 (eu (l.take k))[j-1] x) :
  jG x (eu (l.take k)) j=eu (l.take (k+1)):=by
 refine BO (KX (kt _) hj hd ht) (kt _) fun y=>?_;rw [KV,dd,dd,List.take_add_one,qGg hk,hx];simp [or_comm]
theorem Jh {l:List Pr} {x:Pr} {k:Nat} (hk:k<l.length) (hx:l[k]=x) (hm:x∈eu (l.take k)):eu (l.take k)=eu (l.take (k+1)):=by
 refine BO (kt _) (kt _) fun y=>?_;rw [dd] at hm;rw [dd,dd,List.take_add_one,qGg hk,hx];simp only [Option.toList_some,List.mem_append,List.mem_singleton];constructor
 ·exact Or.inl
 ·rintro (h|rfl)
  ·exact h
  ·exact hm
theorem Ji {x:Pr} {L:List Pr} {j:Nat} (h0:0<j) (hj:j<=L.length):((jG x L j).set (j-1) x).set j (L[j-1]'(by omega))=jG x L (j-1):=by
 obtain ⟨i,rfl⟩:∃i,j=i+1:=⟨j-1,by omega⟩;simp only [Nat.add_sub_cancel];unfold jG;have hl:(L.take i).length=i:=by rw [List.length_take];omega
 rw [List.take_add_one,qGg (show i<L.length by omega),qDc (show i<L.length by omega)];simp only [Option.toList_some,List.append_assoc,List.singleton_append];rw [List.set_append_right _ _ (by omega),hl,Nat.sub_self,List.set_cons_zero,List.set_append_right _ _ (by omega),hl];simp
theorem ND {x:Pr} {L:List Pr} {j:Nat} (hj:j<=L.length):(jG x L j)[j]'(by rw [xN];omega)=x:=by
 unfold jG;rw [List.getElem_append_right (by rw [List.length_take];omega)];simp [List.length_take,Nat.min_eq_left hj]
theorem Dm {x:Pr} {L:List Pr} {j:Nat} (h0:0<j) (hj:j<=L.length):(jG x L j)[j-1]'(by rw [xN];omega)=L[j-1]'(by omega):=by
 unfold jG;rw [List.getElem_append_left (by rw [List.length_take];omega),List.getElem_take]
end Go.Proofs.YthpgjkjgkhjjlaaGreatDoor
