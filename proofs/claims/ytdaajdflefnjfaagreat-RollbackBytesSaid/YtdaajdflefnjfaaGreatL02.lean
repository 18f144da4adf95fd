/- Part 2 of 24 of the proof of rollbackBytes_holds (no condition). -/
import Derived.Test.YtdaajdflefnjfaaGreatL01
import Derived.Sort.Walk0
import Derived.Laws.StructEq
import Derived.Laws.ResultCell
import Derived.Laws.NewBlocks
import Derived.Handy
import Derived.Scope
import Derived.Laws.IdiomCopy
import Derived.Deep.RegionHeld3
import Derived.Lib.AppendZerosOnto
import Derived.Lib.SlicesCompact
import Derived.Sort.LotA
import Derived.Deep.RegionLaw
import Derived.Deep.MidRow
import Derived.Laws.CopyRow
set_option linter.unusedVariables false
set_option linter.unusedSimpArgs false
set_option maxRecDepth 100000
set_option maxHeartbeats 64000000
namespace Go.Proofs.YtdaajdflefnjfaaGreat
open Go.RowKit Go.Proofs.Tryz
structure Rs where
 name:ByteArray
 kind:Int
 units:Int
 home:Int
deriving Inhabited
abbrev Ct:=List Rs
def Rs.key (r:Rs):Bs:=r.name.toList
def Rs.cells (r:Rs):List Value:=[.string r.name,.int .i64 r.kind,.int .i64 r.units,.int .i64 r.home]
def Rs.val (r:Rs):Value:=.agg #[.string r.name,.int .i64 r.kind,.int .i64 r.units,.int .i64 r.home]
def fJ:El Rs:=El.plain 4 (by decide) Rs.cells (fun _=>rfl) (by intro x u hu;simp [Rs.cells] at hu;rcases hu with rfl|rfl|rfl|rfl <;> rfl)
def Rs.Fit (r:Rs):Prop:=r.name.size≤maxLen∧F8 r.kind∧F8 r.units∧F8 r.home
theorem toList_inj {a b:ByteArray} (h:a.toList=b.toList):a=b:=by
 rw [ByteArray.toList_eq,ByteArray.toList_eq] at h
 have h2:a.data=b.data:=Array.toList_inj.1 h
 cases a
 cases b
 simpa using h2
def bb (r:Rs):Bool:=(decide (r.kind=1) && decide (r.units=1)) || (decide (r.kind=2) && decide (1≤r.units) && decide (r.units≤8))
def mm (r:Rs):Bool:=bJ r.key && bb r && decide (0≤r.home) && decide (r.home<4)
def Sorted (l:Ct):Prop:=∀i (h:i+1<l.length),l[i].key<l[i+1].key
def VCat (l:Ct):Prop:=l.length≤8∧(∀i (h:i<l.length),mm l[i]=true)∧Sorted l
theorem VCat.nil:VCat []:=⟨by simp,fun i h=>absurd h (by simp),fun i h=>absurd h (by simp)⟩
theorem Sorted.lt {l:Ct} (h:Sorted l):∀j i (hj:j<l.length) (hi:i<j),l[i].key<l[j].key:=by
 intro j
 induction j with
 | zero=>intro i _ hi;omega
 | succ j ih =>
  intro i hj hi
  have h1:=h j hj
  by_cases e:i=j
  ·subst e;exact h1
  ·exact List.lt_trans (ih i (by omega) (by omega)) h1
theorem Sorted.inj {l:Ct} (h:Sorted l) {i j:Nat} (hi:i<l.length) (hj:j<l.length) (e:l[i].key=l[j].key):i=j:=by
 rcases Nat.lt_trichotomy i j with hlt|he|hgt
 ·exact absurd (h.lt j i hj hlt) (by rw [e];exact List.lt_irrefl _)
 ·exact he
 ·exact absurd (h.lt i j hi hgt) (by rw [e];exact List.lt_irrefl _)
theorem wN (r:Rs) (w:World):Calls prog 182 #[r.val] w (BB w (.bool (bb r))):=by
 obtain ⟨nm,k,u,h⟩:=r
 unfold Rs.val bb
 go_enter func182,ntmps182
 go_wp2
 all_goals go_ret
 all_goals refine ⟨bD ?_,(Below.refl _ _).alloc (Nat.le_refl _) _⟩
 all_goals (first|rfl|(simp_all;done)|(simp_all;omega)|(rw [Bool.eq_iff_iff];simp_all;done)|(rw [Bool.eq_iff_iff];simp_all;omega))
theorem yY (r:Rs) (w:World):Calls prog 233 #[r.val] w (BB w (.bool (bb r))):=by
 obtain ⟨nm,k,u,h⟩:=r
 unfold Rs.val bb
 go_enter func233,ntmps233
 go_wp2
 all_goals go_ret
 all_goals refine ⟨bD ?_,(Below.refl _ _).alloc (Nat.le_refl _) _⟩
 all_goals (first|rfl|(simp_all;done)|(simp_all;omega)|(rw [Bool.eq_iff_iff];simp_all;done)|(rw [Bool.eq_iff_iff];simp_all;omega))
theorem tq (r:Rs) (w:World):Calls prog 126 #[r.val] w (BB w (.bool (mm r))):=by
 have HS:=Lib.hid (fun w=>wN r w)
 have HN:=Lib.hid (fun w=>j6 r.name w)
 unfold mm Rs.key
 obtain ⟨b1,hb1⟩:∃b,bJ r.name.toList=b:=⟨_,rfl⟩
 obtain ⟨b2,hb2⟩:∃b,bb r=b:=⟨_,rfl⟩
 rw [hb1] at HN ⊢
 rw [hb2] at HS ⊢
 clear hb1 hb2
 obtain ⟨nm,k,u,h⟩:=r
 unfold Rs.val at HS ⊢
 go_enter func126,ntmps126
 go_wp2_with fail
 refine (HN.out _).mono ?_
 rintro e w' ⟨rfl,hw'⟩
 obtain rfl:=hw'.symm
 cases b1 with
 | false =>
  go_wp2
  go_ret
  exact ⟨bD (by simp),(Below.refl _ _).alloc (Nat.le_refl _) _⟩
 | true =>
  go_wp2_with fail
  refine (HS.out _).mono ?_
  rintro e w' ⟨rfl,hb⟩
  have hbb:=((Below.refl w.heap.size w).alloc (Nat.le_refl _) _).trans (hb.mono (by simp))
  obtain ⟨hc,hz⟩:(∀b o,b<w.heap.size+1→w'.cell? ⟨b,o,none⟩=(w.alloc (.cells #[.string nm,.int .i64 k,.int .i64 u,.int .i64 h] 159)).cell? ⟨b,o,none⟩)∧w.heap.size+1≤w'.heap.size :=
   ⟨fun b o hlt=>hb.cell (p:=⟨b,o,none⟩) (by simpa using hlt),by simpa using hb.size⟩
  clear hb
  go_wp2
  all_goals go_ret
  all_goals refine ⟨bD ?_,hbb⟩
  all_goals (clear hbb hc hz HS HN)
  all_goals (first|rfl|(simp_all;done)|(simp_all;omega)|(rw [Bool.eq_iff_iff];simp_all;done)|(rw [Bool.eq_iff_iff];simp_all;omega))
structure Cmps (t:TypeId) (x y:Array Value) (r:Bool):Prop where
 neq:∀w,(binOp .neq t (.agg x) (.agg y)).run prog w = .ok (.bool (!r)) w
 eql:∀w,(binOp .eql t (.agg x) (.agg y)).run prog w = .ok (.bool r) w
 guard:∀(op:BinOp) (a b:Operand) (xs ys:Array Value) w,(eqGuard op t a b (.agg xs) (.agg ys)).run prog w = .ok () w
theorem Cmps.mk' {t:TypeId} {x y:Array Value} {r:Bool} (h:∀w,(Op.equalIn 10000 t (.agg x) (.agg y)).run prog w = .ok r w) (hg:∀(op:BinOp) (a b:Operand) (xs ys:Array Value) w,(eqGuard op t a b (.agg xs) (.agg ys)).run prog w = .ok () w):Cmps t x y r where
 neq:=fun w=>(run_neq_struct (P:=prog) w t x y).trans (by rw [h w];rfl)
 eql:=fun w=>(run_eql_struct (P:=prog) w t x y).trans (by rw [h w];rfl)
 guard:=hg
structure Am where
 mode:Int
 units:Int
deriving DecidableEq
def Am.cells (a:Am):List Value:=[.int .i64 a.mode,.int .i64 a.units]
def Am.val (a:Am):Value:=.agg #[.int .i64 a.mode,.int .i64 a.units]
def Am.zero:Am:=⟨0,0⟩
structure Tm where
 name:ByteArray
 am:Am
deriving DecidableEq
def Tm.cells (a:Tm):List Value:=[.string a.name,.int .i64 a.am.mode,.int .i64 a.am.units]
def Tm.val (a:Tm):Value:=.agg #[.string a.name,.int .i64 a.am.mode,.int .i64 a.am.units]
structure Ho where
 proc:Pr
 am:Am
deriving DecidableEq
def Ho.cells (a:Ho):List Value:=[.int .i64 a.proc.site,.int .i64 a.proc.inc,.int .i64 a.proc.num,.int .i64 a.am.mode,.int .i64 a.am.units]
def Ho.val (a:Ho):Value:=.agg #[.int .i64 a.proc.site,.int .i64 a.proc.inc,.int .i64 a.proc.num,.int .i64 a.am.mode,.int .i64 a.am.units]
structure Wt where
 proc:Pr
 am:Am
 prio:Int
 passed:Int
deriving DecidableEq
def Wt.cells (a:Wt):List Value:=[.int .i64 a.proc.site,.int .i64 a.proc.inc,.int .i64 a.proc.num,.int .i64 a.am.mode,.int .i64 a.am.units,.int .i64 a.prio,.int .i64 a.passed]
def Wt.val (a:Wt):Value:=.agg #[.int .i64 a.proc.site,.int .i64 a.proc.inc,.int .i64 a.proc.num,.int .i64 a.am.mode,.int .i64 a.am.units,.int .i64 a.prio,.int .i64 a.passed]
def Ge:El Am:=El.plain 2 (by decide) Am.cells (fun _=>rfl) (by intro x u hu;simp [Am.cells] at hu;rcases hu with rfl|rfl <;> rfl)
def cr:El Tm:=El.plain 3 (by decide) Tm.cells (fun _=>rfl) (by intro x u hu;simp [Tm.cells] at hu;rcases hu with rfl|rfl|rfl <;> rfl)
def oS:El Ho:=El.plain 5 (by decide) Ho.cells (fun _=>rfl) (by intro x u hu;simp [Ho.cells] at hu;rcases hu with rfl|rfl|rfl|rfl|rfl <;> rfl)
def oV:El Wt:=El.plain 7 (by decide) Wt.cells (fun _=>rfl) (by intro x u hu;simp [Wt.cells] at hu;rcases hu with rfl|rfl|rfl|rfl|rfl|rfl|rfl <;> rfl)
section
variable {w:World} {S:Nat→Prop} {A:Option Addr} {i:Nat}
end
theorem LI:ElTB prog cr 39 31 32:=ElTB.mk' underlying39 (.agg #[.string { data:=#[] },.int .i64 0,.int .i64 0]) 3 32 (by kernel_rfl) rfl rfl
theorem LJ:ElTB prog oS 162 287 40:=ElTB.mk' underlying162 (.agg #[.int .i64 0,.int .i64 0,.int .i64 0,.int .i64 0,.int .i64 0]) 5 40 (by kernel_rfl) rfl rfl
theorem LK:ElTB prog oV 163 284 56:=ElTB.mk' underlying163 (.agg #[.int .i64 0,.int .i64 0,.int .i64 0,.int .i64 0,.int .i64 0,.int .i64 0,.int .i64 0]) 7 56 (by kernel_rfl) rfl rfl
def cl (m:Int):Bool:=decide (1≤m) && decide (m≤5)
def dy (a b:Int):Bool:=cl a && cl b && (decide (a=b) || decide (a=5) || decide (b=1) || decide (a=4) && !decide (b=5))
def vd (a b:Int):Bool:=cl a && cl b && !decide (a=5) && !decide (b=5) && (decide (a=1) || decide (b=1) || decide (a=b) && !decide (a=4))
theorem oW {a:Int} (h:cl a=true):a=1∨a=2∨a=3∨a=4∨a=5:=by
 unfold cl at h
 simp at h
 omega
theorem iK (m:Int) (w:World):Calls prog 80 #[.int .i64 m] w (mj w (.bool (cl m))):=by
 go_enter func80,ntmps80
 go_wp2
 all_goals go_ret
 all_goals refine ⟨bD ?_,rfl⟩
 all_goals unfold cl
 all_goals (first|rfl|(simp_all;done)|(simp_all;omega)|(rw [Bool.eq_iff_iff];simp_all;done)|(rw [Bool.eq_iff_iff];simp_all;omega))
theorem ve {fn:Func} {p:Tmp} {ty:TypeId} (h:fn.results = #[.cell p ty]) (tmps:Array Value) (P:Program) (w:World):(results fn tmps).run P w=((asAddr (tmps.getD p undef)).run P w).andThen fun a w₁=>(loadVar ty a).run P w₁:=by
 simp only [results,h]
 simp [Sem.run_bind,Result.andThen]
def IM (m:Int):Value:=.agg #[.bool false,.bool (cl m),.bool (decide (m=5) || decide (m=4) || decide (m=2)),.bool (decide (m=5) || decide (m=4) || decide (m=3)),.bool (decide (m=5) || decide (m=4)),.bool (decide (m=5))]
theorem wO (m:Int) (hm:cl m=true) (w:World):Calls prog 137 #[.int .i64 m] w (BB w (IM m)):=by
 rcases oW hm with rfl|rfl|rfl|rfl|rfl
 all_goals
  clear hm
  go_enter func137,ntmps137
  go_wp2
  (try simp only [Exit.inBlock,Exit.then])
  refine bodyPost_ret_by (v:=_) ?_ rfl ⟨rfl,by exact yV⟩
  rw [ve rfl]
  go_simp
  rfl
theorem BD {a b:Int} (ha:cl a=true) (hb:cl b=true) (w:World):(Instr.index 205 (IM a) (.int .i64 b)).run prog w = .ok (.bool (dy a b)) w:=by
 rcases oW ha with rfl|rfl|rfl|rfl|rfl <;> rcases oW hb with rfl|rfl|rfl|rfl|rfl <;> kernel_rfl
theorem rc (a b:Int) (w:World):Calls prog 101 #[.int .i64 a,.int .i64 b] w (BB w (.bool (dy a b))):=by
 have H:=Lib.hid (fun m W=>iK m W)
 have HI:=Lib.hid (fun ha hb W=>BD (a:=a) (b:=b) ha hb W)
 have HU:Hid ((cl a && cl b)=false→dy a b=false):=Lib.hid (fun h=>by unfold dy;rw [h];rfl)
 generalize dy a b=q at *
 go_enter func101,ntmps101
 go_wp2_with fail
 repeat' (first
  | (go_at_call 80;refine (H.out _ _).mono ?_;rintro e wa1 ⟨rfl,hwa1⟩;obtain rfl:=hwa1.symm;clear hwa1;go_wp2_with fail)
  | (go_at_call 137;refine (wO a (by assumption) _).mono ?_;rintro e w2 ⟨rfl,hb2⟩;have k:=HI.out (by assumption) (by assumption);generalize IM a=v at *;have HB2:=Lib.hid hb2;clear hb2;go_wp2_with fail)
  | (go_ret;refine ⟨bD ?_,by exact yV⟩;first|rfl|(rw [HU.out (by simp_all)])))
def aO (a:Am):Bool:=decide (a=⟨0,0⟩)
def aH (r:Rs) (a:Am):Bool:=bb r && (if r.kind=1 then cl a.mode && decide (a.units=0) else decide (a.mode=0) && decide (1≤a.units) && decide (a.units≤r.units))
def cQ (r:Rs) (a:Am):Bool:=bb r && (aO a || aH r a)
def bq (r:Rs) (a b:Am):Bool:=cQ r a && cQ r b && (aO b || !aO a && (if r.kind=1 then dy a.mode b.mode else decide (b.units≤a.units)))
theorem Df (r:Rs) (m n:Int) (w:World):Calls prog 196 #[r.val,.agg #[.int .i64 m,.int .i64 n]] w (BB w (.bool (aH r ⟨m,n⟩))):=by
 obtain ⟨nm,kd,u,h⟩:=r
 have HS:=Lib.hid (fun W=>yY ⟨nm,kd,u,h⟩ W)
 have HM:=Lib.hid (fun W=>iK m W)
 unfold Rs.val
 go_enter func196,ntmps196
 go_wp2_with fail
 repeat' (first
  | (go_at_call 233;refine (HS.out _).mono ?_;rintro e wa1 ⟨rfl,hb_wa1⟩;obtain ⟨hc_wa1,hf_wa1⟩:=wK hb_wa1;have hs_wa1:=hb_wa1.size;(try simp at hs_wa1);have hz_wa1_w_0:w.heap.size<wa1.heap.size:=(by omega);have hz_wa1_w_1:w.heap.size+1<wa1.heap.size:=(by omega);clear hs_wa1;have HB_wa1:=Lib.hid hb_wa1;clear hb_wa1;go_wp2_with fail)
  | (go_at_call 80;refine (HM.out _).mono ?_;rintro e wa2 ⟨rfl,hwa2⟩;obtain rfl:=hwa2.symm;clear hwa2;go_wp2_with fail)
  | (go_ret;refine ⟨bD ?_,by exact yV⟩;(first|(simp_all [aH];done)|(simp_all [aH];omega)|(rw [Bool.eq_iff_iff];simp_all [aH];done)|(rw [Bool.eq_iff_iff];simp_all [aH];omega))))
def aq:List Ho→Pr→Am
 | [],_=>⟨0,0⟩
 | h :: l,p=>bif decide (h.proc=p) then h.am else aq l p
def no (l:List Ho):List Am:=l.map (·.am)
def du (l:List Ho):List Pr:=l.map (·.proc)
def aZ (a:Am):Bool:=cl a.mode && decide (a.units=0) || decide (a.mode=0) && decide (1≤a.units) && decide (a.units≤8)
def tt (x:Wt):Bool:=fI x.proc && aZ x.am && decide (0≤x.prio) && decide (x.prio≤7) && decide (0≤x.passed) && decide (x.passed≤3)
def gW (p:Pr):Nat→List Wt→Int
 | _,[]=>-1
 | k,x :: l=>bif decide (x.proc=p) then (k:Int) else gW p (k+1) l
def eH (l:List Wt) (p:Pr):Int:=gW p 0 l
def wP (all:List Wt):Nat→List Wt→Bool
 | _,[]=>true
 | k,x :: l=>tt x && decide (eH all x.proc=(k:Int)) && wP all (k+1) l
def gX (l:List Wt):Bool:=decide (l.length≤8) && wP l 0 l
theorem oX (all:List Wt) (k:Nat) (x:Wt) (l:List Wt):wP all k (x :: l)=(tt x && decide (eH all x.proc=(k:Int)) && wP all (k+1) l):=rfl
theorem fc (p:Pr) (k:Nat) (x:Wt) (l:List Wt):gW p k (x :: l)=bif decide (x.proc=p) then (k:Int) else gW p (k+1) l:=rfl
theorem wQ (m u:Int):aZ ⟨m,u⟩=(aH ⟨⟨#[]⟩,1,1,0⟩ ⟨m,u⟩ || aH ⟨⟨#[]⟩,2,8,0⟩ ⟨m,u⟩):=by
 unfold aZ aH bb
 simp
def pS (a:Am) (l:List Am):Bool:=l.any fun b=>!aO a && !aO b && !vd a.mode b.mode
def iL (r:Rs):Int→List Am→List Am→Bool
 | _,_,[]=>true
 | s,pre,a :: l=>cQ r a && (if r.kind=2 then decide (s+a.units≤r.units) && iL r (s+a.units) (pre++[a]) l else !pS a pre && iL r s (pre++[a]) l)
theorem pT (r:Rs) (s:Int) (pre:List Am) (a:Am) (l:List Am):iL r s pre (a :: l)=(cQ r a && (if r.kind=2 then decide (s+a.units≤r.units) && iL r (s+a.units) (pre++[a]) l else !pS a pre && iL r s (pre++[a]) l)):=rfl
def np (r:Rs) (l:List Am):Bool:=bb r && iL r 0 [] l
theorem da {r:Rs} (h:bb r=true):r.kind=1∧r.units=1∨r.kind=2∧1≤r.units∧r.units≤8:=by
 unfold bb at h
 simp at h
 omega
theorem wR {r:Rs} {a:Am} (hp:cQ r a=true) (hk:r.kind≠1):a.mode=0∧0≤a.units∧a.units≤8:=by
 have hs:bb r=true:=by unfold cQ at hp;simp at hp;exact hp.1
 have:=da hs
 unfold cQ aO aH at hp
 simp only [hk,if_false,Bool.and_eq_true,Bool.or_eq_true,decide_eq_true_eq] at hp
 rcases hp.2 with h|h
 ·rw [h];simp
 ·omega
theorem oY (a b:Int):vd a b=vd b a:=by
 unfold vd
 rw [Bool.eq_iff_iff]
 simp only [Bool.and_eq_true,Bool.or_eq_true,Bool.not_eq_true',decide_eq_true_eq,decide_eq_false_iff_not]
 constructor <;> (rintro ⟨⟨⟨⟨h1,h2⟩,h3⟩,h4⟩,h5⟩;refine ⟨⟨⟨⟨h2,h1⟩,h4⟩,h3⟩,?_⟩;omega)
def tS (pre:List Am) (m:Int):Bool:=decide (m≠0) && pre.any fun b=>decide (b.mode=m)
def sv (pre:List Am):Array Value:=#[.bool (tS pre 0),.bool (tS pre 1),.bool (tS pre 2),.bool (tS pre 3),.bool (tS pre 4),.bool (tS pre 5)]
def tu (r:Rs):Option Pr→List Ho→Bool
 | _,[]=>true
 | p,x :: l=>fI x.proc && aH r x.am && (match p with|none=>true|some p=>decide (cU p x.proc<0)) && tu r (some x.proc) l
def tT (r:Rs) (l:List Ho):Bool:=bb r && decide (l.length≤8) && tu r none l && np r (no l)
theorem BF (r:Rs) (p:Option Pr) (x:Ho) (l:List Ho):tu r p (x :: l)=(fI x.proc && aH r x.am && (match p with|none=>true|some p=>decide (cU p x.proc<0)) && tu r (some x.proc) l):=rfl
def tU (l:List Ho) (k:Nat):Option Pr:=if k=0 then none else (l[k-1]?).map (·.proc)
theorem yZ (l:List Ho):tU l 0=none:=rfl
theorem rd {l:List Ho} {k:Nat} {x:Ho} (h:k<l.length) (hx:l[k]=x):tU l (k+1)=some x.proc:=by
 unfold tU
 rw [if_neg (by omega),Nat.add_sub_cancel,List.getElem?_eq_getElem h,hx]
 rfl
theorem BG {l:List Ho} {k:Nat} {x:Ho} (h0:0<k) (h:k-1<l.length) (hx:l[k-1]=x):tU l k=some x.proc:=by
 unfold tU
 rw [if_neg (by omega),List.getElem?_eq_getElem h,hx]
 rfl
theorem y4 (p q:Pr) (w:World):Calls prog 115 #[p.val,q.val] w (BB w (.int .i64 (cU p q))):=by
 obtain ⟨a,b,c⟩:=p
 obtain ⟨x,y,z⟩:=q
 unfold Pr.val cU
 dsimp only
 obtain ⟨r1,h1⟩:∃r,nh a x=r:=⟨_,rfl⟩
 obtain ⟨r2,h2⟩:∃r,nh b y=r:=⟨_,rfl⟩
 obtain ⟨r3,h3⟩:∃r,nh c z=r:=⟨_,rfl⟩
 rw [h1,h2,h3]
 obtain ⟨r,hr⟩:∃r,(if r1≠0 then r1 else if r2≠0 then r2 else r3)=r:=⟨_,rfl⟩
 rw [hr]
 have HR:=Lib.hid hr
 have G1:Hid (∀W:World,Calls prog 158 #[.int .i64 a,.int .i64 x] W (mj W (.int .i64 r1))):=Lib.hid (fun W=>by have:=oT a x W;rw [h1] at this;exact this)
 have G2:Hid (∀W:World,Calls prog 158 #[.int .i64 b,.int .i64 y] W (mj W (.int .i64 r2))):=Lib.hid (fun W=>by have:=oT b y W;rw [h2] at this;exact this)
 have G3:Hid (∀W:World,Calls prog 158 #[.int .i64 c,.int .i64 z] W (mj W (.int .i64 r3))):=Lib.hid (fun W=>by have:=oT c z W;rw [h3] at this;exact this)
 clear hr h1 h2 h3
 go_enter func115,ntmps115
 go_wp2_with fail
 refine (G1.out _).mono ?_
 rintro e w' ⟨rfl,rfl⟩
 go_wp2_with fail
 rotate_left
 refine (G2.out _).mono ?_
 rintro e w' ⟨rfl,rfl⟩
 go_wp2_with fail
 rotate_left
 refine (G3.out _).mono ?_
 rintro e w' ⟨rfl,rfl⟩
 go_wp2_with fail
 all_goals go_ret
 all_goals refine ⟨Ap ?_,((Below.refl _ _).alloc (Nat.le_refl _) _).alloc (by simp) _⟩
 all_goals rw [←HR.out]
 all_goals (clear HR G1 G2 G3;simp_all)
def eT (l:List Ho) (p:Pr):List Ho:=l.filter fun h=>!decide (h.proc=p)
def nq (x:Ho):List Ho→List Ho
 | []=>[x]
 | h :: l=>bif decide (0<cU h.proc x.proc) then x :: h :: l else h :: nq x l
def cV (l:List Ho) (p:Pr) (a:Am):List Ho:=bif aO a then eT l p else nq ⟨p,a⟩ (eT l p)
theorem oZ (h:Ho) (l:List Ho) (p:Pr):eT (h :: l) p=bif decide (h.proc=p) then eT l p else h :: eT l p:=by
 unfold eT
 rw [List.filter_cons]
 cases decide (h.proc=p) <;> rfl
theorem iU (x h:Ho) (l:List Ho):nq x (h :: l)=bif decide (0<cU h.proc x.proc) then x :: h :: l else h :: nq x l:=rfl
section
variable {α:Type} {E:El α} {w w':World} {l:List α} {base:Nat} {e:TypeId} {size:Nat} {xs:List Value} {g n cap:Nat}
theorem IN {xs:List Value} {j:Nat} {v:Value} (r:List Value) (h:j+1+r.length≤xs.length):(xs.set j v).take (j+1)++r++(xs.set j v).drop (j+1+r.length)=xs.take j++v :: r++xs.drop (j+(v :: r).length):=by
 have h1:(xs.set j v).take (j+1)=xs.take j++[v]:=by
  rw [List.set_eq_take_append_cons_drop,if_pos (by omega),List.take_append,List.length_take,Nat.min_eq_left (by omega),List.take_of_length_le (by rw [List.length_take];omega),show j+1-j=1 by omega]
  rfl
 have h2:(xs.set j v).drop (j+1+r.length)=xs.drop (j+(v :: r).length):=by
  rw [List.drop_set_of_lt (by omega),List.length_cons]
  congr 1
  omega
 rw [h1,h2]
 simp
theorem jl:∀(vs:List Value) (j:Nat) (w:World) (xs:List Value),w.ownsRow base e size (.slice (some ⟨g,0,none⟩) n cap) n xs→j+vs.length≤xs.length→
  (w.setCells g j vs).ownsRow base e size (.slice (some ⟨g,0,none⟩) n cap) n (xs.take j++vs++xs.drop (j+vs.length))
 | [],j,w,xs,h,_=>by simpa [World.setCells] using h
 | v :: r,j,w,xs,h,hl=>by
  have hl':j+1+r.length≤xs.length:=by simp at hl;omega
  rw [World.setCells,←IN r hl']
  exact jl r (j+1) _ _ (h.stored j v).1 (by simpa using hl')
theorem pU:∀(vs:List Value) (j:Nat) (w:World) (xs:List Value),w.ownsRow base e size (.slice (some ⟨g,0,none⟩) n cap) n xs→xs.length≤j→
  (w.setCells g j vs).ownsRow base e size (.slice (some ⟨g,0,none⟩) n cap) n xs
 | [],j,w,xs,h,_=>by simpa [World.setCells] using h
 | v :: r,j,w,xs,h,hl=>by
  rw [World.setCells]
  have:=(h.stored j v).1
  rw [List.set_eq_of_length_le hl] at this
  exact pU r (j+1) _ _ this (by omega)
theorem dW:∀(vs:List Value) (j:Nat) (w:World) (b:Nat),b≠g→(w.setCells g j vs).heap[b]? = w.heap[b]?
 | [],_,_,_,_=>rfl
 | v :: r,j,w,b,h=>by
  rw [World.setCells,dW r (j+1) _ b h]
  exact heap_setCell_other w ⟨g,j,none⟩ b v h
theorem dM:∀(vs:List Value) (j:Nat) (w:World),(w.setCells g j vs).heap.size=w.heap.size
 | [],_,_=>rfl
 | v :: r,j,w=>by
  rw [World.setCells,dM r (j+1)]
  simp [World.setCell]
theorem gY {B:Nat} (hg:B≤g):∀(vs:List Value) (j:Nat) (w':World),Below B w w'→Below B w (w'.setCells g j vs)
 | [],_,_,h=>h
 | v :: r,j,w',h=>by
  rw [World.setCells]
  exact gY hg r (j+1) _ (h.setCell hg v)
theorem OwnRows.cut (h:OwnRows E e w base (.slice (some ⟨g,0,none⟩) l.length cap) l) {k:Nat} (hk:k≤l.length):OwnRows E e w base (.slice (some ⟨g,0,none⟩) k cap) (l.take k):=by
 obtain ⟨h0,xs,⟨h1,h2⟩,h3⟩:=h
 refine ⟨h0,xs.take (k*E.n),?_,h3.take k⟩
 rw [List.length_take,Nat.min_eq_left hk]
 have hle:k*E.n≤l.length*E.n:=Nat.mul_le_mul_right _ hk
 refine ⟨by rw [List.length_take,h1,Nat.min_eq_left hle],?_⟩
 rcases h2 with ⟨hv,_⟩|⟨g',cap',cur,hv,hg,hh,hnc,hcm,hcs,ht⟩
 ·cases hv
 ·injection hv with e1 _ e3
  injection e1 with e1
  injection e1 with e1
  subst e1
  subst e3
  refine .inr ⟨_,_,cur,rfl,hg,hh,by omega,hcm,hcs,?_⟩
  rw [←ht,List.take_take,Nat.min_eq_left hle]
theorem OwnRows.setRow (h:OwnRows E e w base (.slice (some ⟨g,0,none⟩) l.length cap) l) {i:Nat} (hi:i<l.length) {y:α} {cs:List Value}
  (hy:E.rep (w.setCells g (i*E.n) cs) (qI (w.setCells g (i*E.n) cs) (.slice (some ⟨g,0,none⟩) l.length cap)) y cs) :
  OwnRows E e (w.setCells g (i*E.n) cs) base (.slice (some ⟨g,0,none⟩) l.length cap) (l.set i y):=by
 have hl:=E.len hy
 refine h.setAll hi hy (dM _ _ _) (fun b hb=>dW _ _ _ _ fun e=>hb.2 (by rw [e];rfl)) fun xs hx=>?_
 have:=jl cs (i*E.n) w xs hx (by
  rw [hl,hx.1]
  have:=Nat.mul_le_mul_right E.n (show i+1≤l.length from hi)
  rw [Nat.add_mul,Nat.one_mul] at this
  exact this)
 rwa [hl] at this
theorem OwnRows.off (h:OwnRows E e w base (.slice (some ⟨g,0,none⟩) l.length cap) l) (vs:List Value) {j:Nat} (hj:l.length*E.n≤j):OwnRows E e (w.setCells g j vs) base (.slice (some ⟨g,0,none⟩) l.length cap) l:=by
 obtain ⟨h0,xs,h1,h3⟩:=h
 refine ⟨by rw [dM];exact h0,xs,pU vs j w xs h1 (by rw [h1.1];exact hj),h3.same (fun b hb=>dW _ _ _ _ fun e=>hb.2 (by rw [e];rfl)) fun b hb=>⟨by rw [dM];exact hb.1,hb.2⟩⟩
theorem OwnRows.cellAt (h:OwnRows E e w base (.slice (some ⟨g,0,none⟩) l.length cap) l) {j:Nat} (hj:j<cap*E.n):(w.cell? ⟨g,j,none⟩).isSome=true∧w.frozen? ⟨g,j,none⟩=false:=by
 obtain ⟨h0,xs,⟨h1,h2⟩,h3⟩:=h
 rcases h2 with ⟨hv,_⟩|⟨g',cap',cur,hv,hg,hh,hnc,hcm,hcs,ht⟩
 ·cases hv
 ·injection hv with e1 _ e3
  injection e1 with e1
  injection e1 with e1
  subst e1
  subst e3
  refine ⟨?_,frozen_of_row w _ j cur e hh⟩
  have:w.cell? ⟨g,j,none⟩=cur[j]?:=by simp [World.cell?,hh]
  rw [this,Array.getElem?_eq_getElem (by rw [hcs];exact hj)]
  rfl
end
section
variable {α:Type} {E:El α} {w w':World} {l ys:List α} {base:Nat} {e:TypeId} {g cap:Nat}
theorem OwnRows.part (h:OwnRows E e w base (.slice (some ⟨g,0,none⟩) l.length cap) l) (k n:Nat):∃cs,Reps E w (qI w (.slice (some ⟨g,0,none⟩) l.length cap)) ((l.drop k).take n) cs∧∀i v,cs[i]? = some v→w.cell? ⟨g,k*E.n+i,none⟩=some v:=by
 obtain ⟨h0,xs,h1,h3⟩:=h
 refine ⟨_,(h3.drop k).take n,fun i v hv=>?_⟩
 rw [List.getElem?_take] at hv
 split at hv
 ·rw [List.getElem?_drop] at hv
  have:=h1.cells rfl _ _ hv
  rwa [dt,Nat.zero_add] at this
 ·cases hv
end
def o0 (A:Option Addr) (cap k size:Nat):Option Addr:=if cap=k then A else A.map (·.add (k*size))
theorem RowsAt.cut {α:Type} {E:El α} {w:World} {S:Nat→Prop} {A:Option Addr} {l:List α} {k cap:Nat} (h:RowsAt E w S A l) (hk:k≤l.length) (hc:l.length≤cap):RowsAt E w S (o0 A cap k E.n) (l.drop k):=by
 unfold o0
 rcases Nat.eq_or_lt_of_le hk with e|e
 ·rw [e,List.drop_length]
  exact RowsAt.nil _ _ _ _
 ·rw [if_neg (by omega)]
  obtain ⟨b,off,_,hA,_⟩:=h.get e
  subst hA
  simp only [Option.map_some,dt]
  exact h.drop k
theorem Dg {P:Program} {t e:TypeId} {i:TypeInfo} (ht:P.underlying t=some (.slice e)) (hi:P.info? e=some i) (A:Option Addr) (n cap k:Nat) (hk:k≤cap) (w:World) :
  (Instr.slice t (.slice A n cap) none (some (.int .i64 (k:Int))) none).run P w = .ok (.slice A k cap) w:=by
 have he:P.elem t=e:=by simp [Program.elem,ht]
 have hh:((k:Int)).toNat=k:=by omega
 rw [run_slice_h w t A n cap (by rw [he];exact ht) .i64 k (by omega) (by omega),he,hh]
 have h0:∀a:Addr,a.add 0=a:=fun a=>by unfold Addr.add;simp
 cases A <;> simp [sizeOf,typeInfo,hi,sliced,Result.andThen,h0]
theorem Dh {P:Program} {t e:TypeId} {i:TypeInfo} (ht:P.underlying t=some (.slice e)) (hi:P.info? e=some i) (A:Option Addr) (n cap k:Nat) (hk:k≤n) (w:World) :
  (Instr.slice t (.slice A n cap) (some (.int .i64 (k:Int))) none none).run P w = .ok (.slice (o0 A cap k i.size) (n-k) (cap-k)) w:=by
 have he:P.elem t=e:=by simp [Program.elem,ht]
 have hh:((k:Int)).toNat=k:=by omega
 rw [run_slice_l w t A n cap (by rw [he];exact ht) .i64 k (by omega) (by omega),he,hh]
 simp [sizeOf,typeInfo,hi,sliced,Result.andThen,o0]
theorem Gf {t e:TypeId} {z:Value} {sz by_:Nat} (ht:prog.underlying t=some (.slice e)) (hi:(prog.info? e).map (fun i=>(i.zero,i.size,i.bytes))=some (some z,sz,by_)) (A:Option Addr) (n cap k:Nat) (hk:k≤n) (hc:n≤cap) :
  (∀w,(Instr.sliceAt t (.slice A n cap) none (some (.int .i64 (k:Int))) none).run prog w = .ok (.slice A k cap) w)∧
  ∀w,(Instr.sliceAt t (.slice A n cap) (some (.int .i64 (k:Int))) none none).run prog w = .ok (.slice (o0 A cap k sz) (n-k) (cap-k)) w:=by
 obtain ⟨i0,hi0,hz0,hz1,hz2⟩:=info_parts hi
 have he:prog.elem t=e:=by simp [Program.elem,ht]
 constructor
 ·intro w
  rw [run_sliceAt_slice w t _ _ _ _ (by rw [he];exact ht)]
  exact Dg ht hi0 A n cap k (by omega) w
 ·intro w
  rw [run_sliceAt_slice w t _ _ _ _ (by rw [he];exact ht),Dh ht hi0 A n cap k hk w,hz1]
theorem nr (l:List Ho) (p:Pr):(eT l p).length≤l.length:=List.length_filter_le _ _
section
def Ih (r:Rs) (l:List Ho) (p:Pr) (a:Am):Bool:=tT r l && fI p && aH r a
def gZ (r:Rs) (l:List Ho) (p:Pr) (a:Am):Bool:=Ih r l p a && tT r (cV l p a)
theorem Gg {r:Rs} {l:List Ho} (h:tT r l=true):l.length≤8:=by
 unfold tT at h
 simp only [Bool.and_eq_true,decide_eq_true_eq] at h
 exact h.1.1.2
theorem nu (x:Ho):∀l:List Ho,(nq x l).length=l.length+1
 | []=>rfl
 | h :: l=>by
  rw [iU]
  cases decide (0<cU h.proc x.proc) <;> simp [nu x l]
theorem Di (l:List Ho) (p:Pr) (a:Am):(cV l p a).length≤l.length+1:=by
 have:=nr l p
 unfold cV
 cases aO a
 ·simp [nu];omega
 ·simp;omega
structure BoxR (w:World) (nm:ByteArray) (kd un h x y z m u:Int) (v:World):Prop where
 below:Below (((w.alloc (.cells #[.string nm,.int .i64 kd,.int .i64 un,.int .i64 h] 159)).alloc (.cells #[.int .i64 x,.int .i64 y,.int .i64 z] 23)).alloc (.cells #[.int .i64 m,.int .i64 u] 29)).heap.size (((w.alloc (.cells #[.string nm,.int .i64 kd,.int .i64 un,.int .i64 h] 159)).alloc (.cells #[.int .i64 x,.int .i64 y,.int .i64 z] 23)).alloc (.cells #[.int .i64 m,.int .i64 u] 29)) v
variable {w v v':World} {nm:ByteArray} {kd un h x y z m u:Int}
theorem BoxR.made:BoxR w nm kd un h x y z m u (((w.alloc (.cells #[.string nm,.int .i64 kd,.int .i64 un,.int .i64 h] 159)).alloc (.cells #[.int .i64 x,.int .i64 y,.int .i64 z] 23)).alloc (.cells #[.int .i64 m,.int .i64 u] 29)):=⟨Below.refl _ _⟩
theorem BoxR.next (b:BoxR w nm kd un h x y z m u v) (hb:Below v.heap.size v v'):BoxR w nm kd un h x y z m u v':=⟨Below.tr b.below hb⟩
theorem BoxR.lt (b:BoxR w nm kd un h x y z m u v):w.heap.size+1+1<v.heap.size:=by have:=b.below.size;simp at this;omega
theorem BoxR.res (b:BoxR w nm kd un h x y z m u v):Blk v w.heap.size 159 #[.string nm,.int .i64 kd,.int .i64 un,.int .i64 h]:=(((Blk.new w 159 #[.string nm,.int .i64 kd,.int .i64 un,.int .i64 h]).alloc _).alloc _).below b.below (by simp;omega)
end
structure Qu where
 res:Rs
 holds:List Ho
 convs:List Wt
 waits:List Wt
 gen:Int
def Qu.val (q:Qu) (A1 A2 A3:Option Addr) (c1 c2 c3:Nat):Value:=.agg #[.string q.res.name,.int .i64 q.res.kind,.int .i64 q.res.units,.int .i64 q.res.home,.slice A1 q.holds.length c1,.slice A2 q.convs.length c2,.slice A3 q.waits.length c3,.int .i64 q.gen]
structure QF (w:World) (B:Nat) (A1 A2 A3:Option Addr) (q:Qu):Prop where
 r1:RowsAt oS w (Lo B) A1 q.holds
 r2:RowsAt oV w (Lo B) A2 q.convs
 r3:RowsAt oV w (Lo B) A3 q.waits
 m1:q.holds.length≤maxLen
 m2:q.convs.length≤maxLen
 m3:q.waits.length≤maxLen
 hB:B≤w.heap.size
theorem QF.below {w w':World} {B:Nat} {A1 A2 A3:Option Addr} {q:Qu} (f:QF w B A1 A2 A3 q) (hb:Below w.heap.size w w'):QF w' B A1 A2 A3 q :=
 ⟨f.r1.below hb f.hB (Nat.le_refl _),f.r2.below hb f.hB (Nat.le_refl _),f.r3.below hb f.hB (Nat.le_refl _),f.m1,f.m2,f.m3,Nat.le_trans f.hB hb.size⟩
structure BoxQ (w:World) (nm:ByteArray) (kd un h:Int) (A1:Option Addr) (n1 c1:Nat) (A2:Option Addr) (n2 c2:Nat) (A3:Option Addr) (n3 c3:Nat) (gen:Int) (v:World):Prop where
 below:Below w.heap.size w v
 blk:Blk v w.heap.size 165 #[.string nm,.int .i64 kd,.int .i64 un,.int .i64 h,.slice A1 n1 c1,.slice A2 n2 c2,.slice A3 n3 c3,.int .i64 gen]
section
variable {w v v':World} {nm:ByteArray} {kd un h gen:Int} {A1 A2 A3:Option Addr} {n1 n2 n3 c1 c2 c3:Nat}
theorem BoxQ.made:BoxQ w nm kd un h A1 n1 c1 A2 n2 c2 A3 n3 c3 gen (w.alloc (.cells #[.string nm,.int .i64 kd,.int .i64 un,.int .i64 h,.slice A1 n1 c1,.slice A2 n2 c2,.slice A3 n3 c3,.int .i64 gen] 165)):=⟨Below.al (Below.refl _ _) _,Blk.new _ _ _⟩
theorem BoxQ.next (b:BoxQ w nm kd un h A1 n1 c1 A2 n2 c2 A3 n3 c3 gen v) (hb:Below v.heap.size v v'):BoxQ w nm kd un h A1 n1 c1 A2 n2 c2 A3 n3 c3 gen v':=⟨Below.tr b.below hb,b.blk.below hb b.blk.lt⟩
end
def dP (q:Qu):Option Wt:=match q.convs with|x :: _=>some x | []=>q.waits.head?
def Dj (q:Qu) (k:Nat) (x:Wt):Bool:=decide (eH q.convs x.proc=(k:Int)) && !aO (aq q.holds x.proc) && aH q.res x.am && bq q.res x.am (aq q.holds x.proc) && !decide (x.am=aq q.holds x.proc) && decide (x.prio=0) && decide (x.passed=0)
def tw (q:Qu):Nat→List Wt→Bool
 | _,[]=>true
 | k,x :: l=>Dj q k x && tw q (k+1) l
def F9 (q:Qu):Bool:=decide (q.convs.length≤8) && tw q 0 q.convs
def re (q:Qu):List Wt→Bool
 | []=>true
 | x :: l=>aH q.res x.am && aO (aq q.holds x.proc) && re q l
def Ga (q:Qu):Bool:=gX q.waits && decide (q.holds.length+q.waits.length≤8) && re q q.waits
def et (q:Qu):Bool:=mm q.res && tT q.res q.holds && F9 q && Ga q && decide (0≤q.gen) && decide (q.gen≤1073741824)
def ar (q:Qu):Bool:=et q && match dP q with
 | none=>true
 | some x=>!gZ q.res q.holds x.proc x.am
theorem ly (q:Qu) (k:Nat) (x:Wt) (l:List Wt):tw q k (x :: l)=(Dj q k x && tw q (k+1) l):=rfl
theorem lz (q:Qu) (x:Wt) (l:List Wt):re q (x :: l)=(aH q.res x.am && aO (aq q.holds x.proc) && re q l):=rfl
structure BoxS (w:World) (nm:ByteArray) (kd un h:Int) (A1:Option Addr) (n1 c1:Nat) (A2:Option Addr) (n2 c2:Nat) (A3:Option Addr) (n3 c3:Nat) (gen:Int) (v:World):Prop where
 q:BoxQ w nm kd un h A1 n1 c1 A2 n2 c2 A3 n3 c3 gen v
 r:Blk v (w.heap.size+1) 159 #[.string nm,.int .i64 kd,.int .i64 un,.int .i64 h]
theorem BoxS.next {w v v':World} {nm:ByteArray} {kd un h gen:Int} {A1 A2 A3:Option Addr} {n1 n2 n3 c1 c2 c3:Nat} (b:BoxS w nm kd un h A1 n1 c1 A2 n2 c2 A3 n3 c3 gen v) (hb:Below v.heap.size v v'):BoxS w nm kd un h A1 n1 c1 A2 n2 c2 A3 n3 c3 gen v':=⟨b.q.next hb,b.r.below hb b.r.lt⟩
theorem wS {q:Qu} (h:et q=true):q.holds.length≤8:=by
 unfold et at h
 simp only [Bool.and_eq_true] at h
 exact Gg h.1.1.1.1.2
def rf (q:Qu):List Pr:=(q.convs++q.waits).map (·.proc)
def bU (l:List Wt):List Pr:=l.map (·.proc)
def g4:List Wt→Pr→Option Am
 | [],_=>none
 | x :: l,p=>bif decide (x.proc=p) then some x.am else g4 l p
def ap (q:Qu) (p:Pr):Option Am:=g4 (q.convs++q.waits) p
theorem cA (x:Wt) (l:List Wt) (p:Pr):g4 (x :: l) p=bif decide (x.proc=p) then some x.am else g4 l p:=rfl
instance:Inhabited Pr:=⟨eF⟩
theorem jo (p q:Pr):fY p q∨p=q∨fY q p:=by
 rcases dU p q with ⟨h,_⟩|⟨h,_⟩|⟨h,_⟩
 ·exact Or.inl h
 ·exact Or.inr (Or.inl h)
 ·exact Or.inr (Or.inr h)
theorem gG (p q:Pr):cU p q<0↔fY p q:=by
 rcases dU p q with ⟨h,e⟩|⟨h,e⟩|⟨h,e⟩ <;> rw [e]
 ·exact ⟨fun _=>h,fun _=>by decide⟩
 ·subst h;exact ⟨fun c=>absurd c (by decide),fun c=>absurd c (bE _)⟩
 ·exact ⟨fun c=>absurd c (by decide),fun c=>absurd h (lx c)⟩
def Gb (l:List Pr):Prop:=l.Pairwise fY
theorem j8 (d:Array Pr):∀m x,x∈Go.Lib.compactUpTo d m↔∃j,j<m∧d[j]! = x
 | 0,x=>by simp [Go.Lib.compactUpTo]
 | m+1,x=>by
  rw [Go.Lib.compactUpTo_succ,List.mem_append,j8 d m x]
  by_cases h:Go.Lib.keeps d m=true
  ·rw [if_pos h,List.mem_singleton]
   constructor
   ·rintro (⟨j,hj,e⟩|e)
    ·exact ⟨j,by omega,e⟩
    ·exact ⟨m,by omega,e.symm⟩
   ·rintro ⟨j,hj,e⟩
    rcases Nat.lt_or_ge j m with h1|h1
    ·exact Or.inl ⟨j,h1,e⟩
    ·have:j=m:=by omega
     subst this
     exact Or.inr e.symm
  ·rw [if_neg h]
   have hk:¬(m=0∨d[m]!≠d[m-1]!):=by simpa [Go.Lib.keeps] using h
   have h0:m≠0:=fun e=>hk (Or.inl e)
   have he:d[m]! = d[m-1]!:=Classical.byContradiction fun e=>hk (Or.inr e)
   constructor
   ·rintro (⟨j,hj,e⟩|e)
    ·exact ⟨j,by omega,e⟩
    ·cases e
   ·rintro ⟨j,hj,e⟩
    rcases Nat.lt_or_ge j m with h1|h1
    ·exact Or.inl ⟨j,h1,e⟩
    ·have:j=m:=by omega
     subst this
     exact Or.inl ⟨j-1,by omega,he.symm.trans e⟩
theorem pV (d:Array Pr) (hs:∀i j,i<j→j<d.size→¬fY d[j]! d[i]!):∀m,m≤d.size→Gb (Go.Lib.compactUpTo d m)
 | 0,_=>by simp [Go.Lib.compactUpTo,Gb]
 | m+1,hm=>by
  have ih:=pV d hs m (by omega)
  rw [Go.Lib.compactUpTo_succ]
  by_cases h:Go.Lib.keeps d m=true
  ·rw [if_pos h]
   unfold Gb at *
   rw [List.pairwise_append]
   refine ⟨ih,by simp,fun x hx y hy=>?_⟩
   rw [List.mem_singleton.1 hy]
   obtain ⟨j,hj,rfl⟩:=(j8 d m x).1 hx
   have hk:m=0∨d[m]!≠d[m-1]!:=by simpa [Go.Lib.keeps] using h
   have hne:d[m]!≠d[m-1]!:=hk.resolve_left (by omega)
   rcases jo d[j]! d[m]! with h1|h1|h1
   ·exact h1
   ·exfalso
    have a1:¬fY d[m]! d[m-1]!:=hs (m-1) m (by omega) (by omega)
    rcases Nat.lt_or_ge j (m-1) with h2|h2
    ·have a2:=hs j (m-1) h2 (by omega)
     rw [h1] at a2
     rcases jo d[m]! d[m-1]! with h3|h3|h3
     ·exact a1 h3
     ·exact hne h3
     ·exact a2 h3
    ·have:j=m-1:=by omega
     subst this
     exact hne h1.symm
   ·exact absurd h1 (hs j m hj (by omega))
  ·rw [if_neg h,List.append_nil]
   exact ih
def dv (l:List Pr):List Pr:=Go.Lib.compact (l.mergeSort fun x y=>!decide (cU y x<0))
theorem bw (l:List Pr) (x:Pr):x∈dv l↔x∈l:=by
 unfold dv Go.Lib.compact
 rw [j8]
 have hp:=List.mergeSort_perm l fun x y=>!decide (cU y x<0)
 rw [←hp.mem_iff]
 constructor
 ·rintro ⟨j,hj,rfl⟩
  rw [getElem!_pos _ j (by simpa using hj)]
  simp
 ·intro h
  obtain ⟨j,hj,rfl⟩:=List.getElem_of_mem h
  exact ⟨j,hj,by rw [getElem!_pos _ j (by simpa using hj)];simp⟩
theorem gN (l:List Pr):Gb (dv l):=by
 unfold dv Go.Lib.compact
 have hp:(l.mergeSort fun x y=>!decide (cU y x<0)).Pairwise fun x y=>(!decide (cU y x<0))=true:=by
  apply List.pairwise_mergeSort
  ·intro a b c h1 h2
   simp only [Bool.not_eq_true',decide_eq_false_iff_not,gG] at *
   intro h3
   rcases jo b c with h|h|h
   ·exact h1 (cz h h3)
   ·subst h;exact h1 h3
   ·exact h2 h
  ·intro a b
   simp only [Bool.or_eq_true,Bool.not_eq_true',decide_eq_false_iff_not,gG]
   rcases jo a b with h|h|h
   ·exact Or.inl (lx h)
   ·subst h;exact Or.inl (bE _)
   ·exact Or.inr (lx h)
 generalize (l.mergeSort fun x y=>!decide (cU y x<0))=M at *
 refine pV _ ?_ _ (by simp)
 intro i j hij hj
 have hj':j<M.length:=by simpa using hj
 rw [getElem!_pos _ j hj,getElem!_pos _ i (by omega)]
 have:=List.pairwise_iff_getElem.1 hp i j (by omega) hj' hij
 simp only [Bool.not_eq_true',decide_eq_false_iff_not,gG] at this
 simpa using this
theorem lA (l:List Pr):(dv l).length≤l.length:=by
 unfold dv Go.Lib.compact Go.Lib.compactUpTo
 rw [List.length_map]
 refine Nat.le_trans (List.length_filter_le _ _) ?_
 simp
theorem vf:∀{l l':List Pr},Gb l→Gb l'→(∀x,x∈l↔x∈l')→l=l'
 | [],[],_,_,_=>rfl
 | [],y :: l',_,_,h=>absurd ((h y).2 (by simp)) (by simp)
 | x :: l,[],_,_,h=>absurd ((h x).1 (by simp)) (by simp)
 | x :: l,y :: l',ha,hb,h=>by
  unfold Gb at ha hb
  rw [List.pairwise_cons] at ha hb
  have hxy:x=y:=by
   rcases List.mem_cons.1 ((h x).1 (by simp)) with e|e
   ·exact e
   ·rcases List.mem_cons.1 ((h y).2 (by simp)) with e'|e'
    ·exact e'.symm
    ·exact absurd (cz (hb.1 x e) (ha.1 y e')) (bE _)
  subst hxy
  rw [vf (l:=l) (l':=l') ha.2 hb.2 fun z=>⟨fun hz=>?_,fun hz=>?_⟩]
  ·rcases List.mem_cons.1 ((h z).1 (List.mem_cons_of_mem _ hz)) with e|e
   ·subst e;exact absurd (ha.1 z hz) (bE _)
   ·exact e
  ·rcases List.mem_cons.1 ((h z).2 (List.mem_cons_of_mem _ hz)) with e|e
   ·subst e;exact absurd (hb.1 z hz) (bE _)
   ·exact e
def iu (x:Pr) (L:List Pr) (k:Nat):List Pr:=L.take k++x :: L.drop k
theorem rg (x:Pr) (L:List Pr) (k:Nat):(iu x L k).length=L.length+1:=by
 unfold iu
 rw [List.length_append,List.length_cons,List.length_take,List.length_drop]
 omega
theorem Dk (x:Pr) (L:List Pr) (k:Nat) (y:Pr):y∈iu x L k↔y=x∨y∈L:=by
 unfold iu
 rw [List.mem_append,List.mem_cons]
 have:y∈L↔y∈L.take k∨y∈L.drop k:=by rw [←List.mem_append,List.take_append_drop]
 rw [this]
 constructor
 ·rintro (h|h|h)
  ·exact Or.inr (Or.inl h)
  ·exact Or.inl h
  ·exact Or.inr (Or.inr h)
 ·rintro (h|h|h)
  ·exact Or.inr (Or.inl h)
  ·exact Or.inl h
  ·exact Or.inr (Or.inr h)
theorem Dl {x:Pr} {L:List Pr} {k:Nat} (ha:Gb L) (hk:k≤L.length) (hd:∀y∈L.drop k,fY x y) (ht:k=0∨∃h:k-1<L.length,fY L[k-1] x):Gb (iu x L k):=by
 unfold iu Gb at *
 rw [List.pairwise_append]
 refine ⟨ha.sublist (List.take_sublist _ _),List.pairwise_cons.2 ⟨hd,ha.sublist (List.drop_sublist _ _)⟩,fun a h1 b h2=>?_⟩
 have hax:fY a x:=by
  obtain ⟨i,hi,rfl⟩:=List.getElem_of_mem h1
  rw [List.length_take] at hi
  rcases ht with rfl|⟨h,hlt⟩
  ·omega
  ·rw [List.getElem_take]
   rcases Nat.lt_or_ge i (k-1) with h3|h3
   ·exact cz (List.pairwise_iff_getElem.1 ha i (k-1) (by omega) (by omega) h3) hlt
   ·have:i=k-1:=by omega
    subst this
    exact hlt
 rcases List.mem_cons.1 h2 with rfl|h2
 ·exact hax
 ·exact cz hax (hd b h2)
theorem BH {l:List Pr} {x:Pr} {k j:Nat} (hk:k<l.length) (hx:l[k]=x) (hj:j≤(dv (l.take k)).length) (hd:∀y∈(dv (l.take k)).drop j,fY x y) (ht:j=0∨∃h:j-1<(dv (l.take k)).length,fY (dv (l.take k))[j-1] x) :
  iu x (dv (l.take k)) j=dv (l.take (k+1)):=by
 refine vf (Dl (gN _) hj hd ht) (gN _) fun y=>?_
 rw [Dk,bw,bw,List.take_add_one,List.getElem?_eq_getElem hk,hx]
 simp [or_comm]
theorem BI {l:List Pr} {x:Pr} {k:Nat} (hk:k<l.length) (hx:l[k]=x) (hm:x∈dv (l.take k)):dv (l.take k)=dv (l.take (k+1)):=by
 refine vf (gN _) (gN _) fun y=>?_
 rw [bw] at hm
 rw [bw,bw,List.take_add_one,List.getElem?_eq_getElem hk,hx]
 simp only [Option.toList_some,List.mem_append,List.mem_singleton]
 constructor
 ·exact Or.inl
 ·rintro (h|rfl)
  ·exact h
  ·exact hm
theorem BJ {x:Pr} {L:List Pr} {j:Nat} (h0:0<j) (hj:j≤L.length):((iu x L j).set (j-1) x).set j (L[j-1]'(by omega))=iu x L (j-1):=by
 obtain ⟨i,rfl⟩:∃i,j=i+1:=⟨j-1,by omega⟩
 simp only [Nat.add_sub_cancel]
 unfold iu
 have hl:(L.take i).length=i:=by rw [List.length_take];omega
 rw [List.take_add_one,List.getElem?_eq_getElem (show i<L.length by omega),List.drop_eq_getElem_cons (show i<L.length by omega)]
 simp only [Option.toList_some,List.append_assoc,List.singleton_append]
 rw [List.set_append_right _ _ (by omega),hl,Nat.sub_self,List.set_cons_zero,List.set_append_right _ _ (by omega),hl]
 simp
theorem Gh {x:Pr} {L:List Pr} {j:Nat} (hj:j≤L.length):(iu x L j)[j]'(by rw [rg];omega)=x:=by
 unfold iu
 rw [List.getElem_append_right (by rw [List.length_take];omega)]
 simp [List.length_take,Nat.min_eq_left hj]
theorem wT {x:Pr} {L:List Pr} {j:Nat} (h0:0<j) (hj:j≤L.length):(iu x L j)[j-1]'(by rw [rg];omega)=L[j-1]'(by omega):=by
 unfold iu
 rw [List.getElem_append_left (by rw [List.length_take];omega),List.getElem_take]
def eu (q:Qu):List Pr:=dv (du q.holds++rf q)
def LM:El Qu where
 n:=8
 pos:=by decide
 rep:=fun w S q cs=>∃A1 A2 A3 c1 c2 c3,cs=[.string q.res.name,.int .i64 q.res.kind,.int .i64 q.res.units,.int .i64 q.res.home,.slice A1 q.holds.length c1,.slice A2 q.convs.length c2,.slice A3 q.waits.length c3,.int .i64 q.gen]∧
  q.holds.length≤maxLen∧q.convs.length≤maxLen∧q.waits.length≤maxLen∧RowsAt oS w S A1 q.holds∧RowsAt oV w S A2 q.convs∧RowsAt oV w S A3 q.waits
 len:=fun h=>by obtain ⟨A1,A2,A3,c1,c2,c3,rfl,_⟩:=h;rfl
 one:=fun h=>by obtain ⟨A1,A2,A3,c1,c2,c3,rfl,_⟩:=h;intro u hu;simp at hu;rcases hu with rfl|rfl|rfl|rfl|rfl|rfl|rfl|rfl <;> rfl
 same:=fun h hk hS=>by
  obtain ⟨A1,A2,A3,c1,c2,c3,e,h1,h2,h3,h4,h5,h6⟩:=h
  exact ⟨A1,A2,A3,c1,c2,c3,e,h1,h2,h3,h4.same hk hS,h5.same hk hS,h6.same hk hS⟩
def bK (n:ByteArray):Nat→List Qu→Int
 | _,[]=>-1
 | k,q :: l=>bif q.res.name.toList == n.toList then (k:Int) else bK n (k+1) l
theorem eU (n:ByteArray) (k:Nat) (q:Qu) (l:List Qu):bK n k (q :: l)=bif q.res.name.toList == n.toList then (k:Int) else bK n (k+1) l:=rfl
def iW:List Qu→List Pr
 | []=>[]
 | q :: l=>eu q++iW l
def fO (q:Qu):Prop:=q.holds.length≤8∧q.convs.length≤8∧q.waits.length≤8
theorem rh {q:Qu} (h:fO q):(eu q).length≤24:=by
 unfold eu
 have h1:=lA (du q.holds++rf q)
 have h2:(du q.holds++rf q).length=q.holds.length+(q.convs.length+q.waits.length):=by simp [du,rf,bU]
 have:=h.1
 have:=h.2.1
 have:=h.2.2
 omega
theorem ri:∀(l:List Qu),(∀q∈l,fO q)→(iW l).length≤l.length*24
 | [],_=>by simp [iW]
 | q :: l,h=>by
  have h1:=ri l fun x hx=>h x (by simp [hx])
  have h2:=rh (h q (by simp))
  simp only [iW,List.length_append,List.length_cons]
  omega
def az (l:List Qu):List Pr:=dv (iW l)
theorem tx {q:Qu} (h:ar q=true):fO q:=by
 have h1:et q=true:=by
  unfold ar at h
  simp only [Bool.and_eq_true] at h
  exact h.1
 have h2:=wS h1
 unfold et F9 Ga at h1
 simp only [Bool.and_eq_true,decide_eq_true_eq] at h1
 exact ⟨h2,h1.1.1.1.2.1,by have:=h1.1.1.2.1.2;omega⟩
def J5 (p:Option ByteArray) (n:ByteArray):Bool:=match p with|none=>true|some m=>Op.bytesLess m.toList n.toList
def nv:Option ByteArray→List Qu→Bool
 | _,[]=>true
 | p,q :: l=>ar q && J5 p q.res.name && nv (some q.res.name) l
theorem dw (p:Option ByteArray) (q:Qu) (l:List Qu):nv p (q :: l)=(ar q && J5 p q.res.name && nv (some q.res.name) l):=rfl
def dO (l:List Qu):Bool:=decide (l.length≤8) && nv none l
def tV (l:List Qu) (k:Nat):Option ByteArray:=if k=0 then none else (l[k-1]?).map (·.res.name)
theorem y5 (l:List Qu):tV l 0=none:=rfl
theorem rj {l:List Qu} {k:Nat} {x:Qu} (h:k<l.length) (hx:l[k]=x):tV l (k+1)=some x.res.name:=by
 unfold tV
 rw [if_neg (by omega),Nat.add_sub_cancel,List.getElem?_eq_getElem h,hx]
 rfl
theorem BK {l:List Qu} {k:Nat} {x:Qu} (h0:0<k) (h:k-1<l.length) (hx:l[k-1]=x):tV l k=some x.res.name:=by
 unfold tV
 rw [if_neg (by omega),List.getElem?_eq_getElem h,hx]
 rfl
theorem rk:∀(l:List Qu) (p:Option ByteArray),nv p l=true→∀q∈l,fO q
 | [],_,_,q,hq=>absurd hq (by simp)
 | x :: l,p,h,q,hq=>by
  rw [dw] at h
  simp only [Bool.and_eq_true] at h
  rcases List.mem_cons.1 hq with rfl|hq
  ·exact tx h.1.1
  ·exact rk l _ h.2 q hq
section
inductive Ex where
 | mk (k:Int) (atom:Tm) (kids:List Ex)
namespace Ex
def k:Ex→Int | .mk k _ _=>k
def atom:Ex→Tm | .mk _ a _=>a
def kids:Ex→List Ex | .mk _ _ l=>l
theorem ind {P:Ex→Prop} (h:∀k a l,(∀x∈l,P x)→P (.mk k a l)):∀x,P x:=by
 intro x
 refine Ex.rec (motive_1:=P) (motive_2:=fun l=>∀x∈l,P x) h (fun x hx=>absurd hx (by simp)) (fun x l h1 h2 y hy=>?_) x
 rcases List.mem_cons.1 hy with rfl|hy
 ·exact h1
 ·exact h2 _ hy
end Ex
def Ex.val (x:Ex) (A:Option Addr) (cap:Nat):Value:=.agg #[.int .i64 x.k,.string x.atom.name,.int .i64 x.atom.am.mode,.int .i64 x.atom.am.units,.slice A x.kids.length cap]
def Ex.zero:Ex:=.mk 0 ⟨⟨#[]⟩,Am.zero⟩ []
def qP:Nat→El Ex
 | 0=>{ n:=5,pos:=by decide,rep:=fun _ _ _ _=>False,len:=fun h=>h.elim,one:=fun h=>h.elim,same:=fun h _ _=>h.elim }
 | d+1=>{
  n:=5
  pos:=by decide
  rep:=fun w S x cs=>∃A cap,cs=[.int .i64 x.k,.string x.atom.name,.int .i64 x.atom.am.mode,.int .i64 x.atom.am.units,.slice A x.kids.length cap]∧x.kids.length≤cap∧cap≤maxLen∧RowsAt (qP d) w S A x.kids
  len:=fun h=>by obtain ⟨A,cap,rfl,_⟩:=h;rfl
  one:=fun h=>by obtain ⟨A,cap,rfl,_⟩:=h;intro u hu;simp at hu;rcases hu with rfl|rfl|rfl|rfl|rfl <;> rfl
  same:=fun h hk hS=>by
   obtain ⟨A,cap,e,h1,h2,h3⟩:=h
   exact ⟨A,cap,e,h1,h2,h3.same hk hS⟩ }
section
variable {w:World} {S:Nat→Prop} {A:Option Addr} {i d:Nat}
end
mutual
def Ex.cnt:Ex→Nat
 | .mk _ _ l=>1+jp l
def jp:List Ex→Nat
 | []=>0
 | x :: l=>x.cnt+jp l
end
mutual
def Ex.dep:Ex→Nat
 | .mk _ _ l=>1+mF l
def mF:List Ex→Nat
 | []=>0
 | x :: l=>max x.dep (mF l)
end
theorem Ex.dep_mk (k:Int) (a:Tm) (l:List Ex):(Ex.mk k a l).dep=1+mF l:=rfl
theorem Ex.cnt_mk (k:Int) (a:Tm) (l:List Ex):(Ex.mk k a l).cnt=1+jp l:=rfl
theorem tW (x:Ex) (l:List Ex):mF (x :: l)=max x.dep (mF l):=rfl
theorem gO (x:Ex) (l:List Ex):jp (x :: l)=x.cnt+jp l:=rfl
theorem Ex.dep_pos (x:Ex):0<x.dep:=by cases x;rw [Ex.dep_mk];omega
theorem Ex.cnt_pos (x:Ex):0<x.cnt:=by cases x;rw [Ex.cnt_mk];omega
theorem pW:∀l:List Ex,l.length≤jp l
 | []=>Nat.zero_le _
 | x :: l=>by have:=pW l;have:=x.cnt_pos;rw [gO,List.length_cons];omega
def Ar (x:Ex):Bool:=decide (x.dep≤4) && decide (x.cnt≤24)
mutual
def iX:Ex→Nat→Nat→Nat×Nat
 | .mk _ _ l,lev,n=>if 4<lev∨24<n+1 then (0,n+1) else mq l lev (n+1) 0
def mq:List Ex→Nat→Nat→Nat→Nat×Nat
 | [],_,n,d=>(d+1,n)
 | x :: l,lev,n,d=>if (iX x (lev+1) n).1=0 then (0,(iX x (lev+1) n).2) else mq l lev (iX x (lev+1) n).2 (max d (iX x (lev+1) n).1)
end
theorem As (k:Int) (a:Tm) (l:List Ex) (lev n:Nat):iX (.mk k a l) lev n=if 4<lev∨24<n+1 then (0,n+1) else mq l lev (n+1) 0:=rfl
theorem BL (lev n d:Nat):mq [] lev n d=(d+1,n):=rfl
theorem rl (x:Ex) (l:List Ex) (lev n d:Nat):mq (x :: l) lev n d=if (iX x (lev+1) n).1=0 then (0,(iX x (lev+1) n).2) else mq l lev (iX x (lev+1) n).2 (max d (iX x (lev+1) n).1):=rfl
theorem At:∀(x:Ex) (lev n:Nat),(x.dep+lev≤5∧n+x.cnt≤24∧iX x lev n=(x.dep,n+x.cnt))∨(¬(x.dep+lev≤5∧n+x.cnt≤24)∧(iX x lev n).1=0∧((iX x lev n).2≤25∨(iX x lev n).2≤n+1)):=by
 refine Ex.ind (fun k a l ih=>?_)
 have hl:∀(m:List Ex) (lev n d:Nat),(∀x∈m,x∈l)→lev≤4→n≤24→(mF m+lev≤4∧n+jp m≤24∧mq m lev n d=(max d (mF m)+1,n+jp m))∨(¬(mF m+lev≤4∧n+jp m≤24)∧(mq m lev n d).1=0∧(mq m lev n d).2≤25):=by
  intro m
  induction m with
  | nil=>intro lev n d _ h1 h2;exact .inl ⟨by simpa [mF] using h1,by simpa [jp] using h2,by rw [BL];simp [mF,jp]⟩
  | cons x m ihm =>
   intro lev n d hm h1 h2
   rw [rl,tW,gO]
   have hx0:=x.dep_pos
   rcases ih x (hm x (by simp)) (lev+1) n with ⟨a1,a2,a3⟩|⟨a1,a2,a3⟩
   ·rw [a3]
    rw [if_neg (by show ¬x.dep=0;omega)]
    rcases ihm lev (n+x.cnt) (max d x.dep) (fun y hy=>hm y (by simp [hy])) h1 a2 with ⟨b1,b2,b3⟩|⟨b1,b2,b3⟩
    ·exact .inl ⟨by omega,by omega,by rw [b3];congr 1 <;> omega⟩
    ·exact .inr ⟨by omega,b2,b3⟩
   ·rw [if_pos a2]
    exact .inr ⟨by omega,rfl,by show (iX x (lev+1) n).2≤25;omega⟩
 intro lev n
 rw [As,Ex.dep_mk,Ex.cnt_mk]
 by_cases hc:4<lev∨24<n+1
 ·rw [if_pos hc]
  exact .inr ⟨by omega,rfl,.inr (Nat.le_refl _)⟩
 ·rw [if_neg hc]
  rcases hl l lev (n+1) 0 (fun _ h=>h) (by omega) (by omega) with ⟨b1,b2,b3⟩|⟨b1,b2,b3⟩
  ·exact .inl ⟨by omega,by omega,by rw [b3];congr 1 <;> omega⟩
  ·exact .inr ⟨by omega,b2,.inl b3⟩
theorem Gi (x:Ex):(iX x 1 0).1=if Ar x then x.dep else 0:=by
 unfold Ar
 rcases At x 1 0 with ⟨a1,a2,a3⟩|⟨a1,a2,_⟩
 ·rw [a3];simp;omega
 ·rw [a2,if_neg];simp;omega
mutual
def gc:Ex→Nat→Nat×Nat
 | .mk _ _ l,dp=>if 4<dp∨24<l.length then (25,0) else jq l dp 1 0
def jq:List Ex→Nat→Nat→Nat→Nat×Nat
 | [],_,n,d=>(n,d+1)
 | x :: l,dp,n,d=>if 24<n+(gc x (dp+1)).1 then (25,0) else jq l dp (n+(gc x (dp+1)).1) (if d<(gc x (dp+1)).2 then (gc x (dp+1)).2 else d)
end
theorem wU (k:Int) (a:Tm) (l:List Ex) (dp:Nat):gc (.mk k a l) dp=if 4<dp∨24<l.length then (25,0) else jq l dp 1 0:=rfl
theorem y6 (dp n d:Nat):jq [] dp n d=(n,d+1):=rfl
theorem pX (x:Ex) (l:List Ex) (dp n d:Nat):jq (x :: l) dp n d=if 24<n+(gc x (dp+1)).1 then (25,0) else jq l dp (n+(gc x (dp+1)).1) (if d<(gc x (dp+1)).2 then (gc x (dp+1)).2 else d):=rfl
theorem rm:∀(x:Ex) (dp:Nat),(x.dep+dp≤5∧x.cnt≤24∧gc x dp=(x.cnt,x.dep))∨(¬(x.dep+dp≤5∧x.cnt≤24)∧gc x dp=(25,0)):=by
 refine Ex.ind (fun k a l ih=>?_)
 have hl:∀(m:List Ex) (dp n d:Nat),(∀x∈m,x∈l)→dp≤4→n≤24→(mF m+dp≤4∧n+jp m≤24∧jq m dp n d=(n+jp m,max d (mF m)+1))∨(¬(mF m+dp≤4∧n+jp m≤24)∧jq m dp n d=(25,0)):=by
  intro m
  induction m with
  | nil=>intro dp n d _ h1 h2;exact .inl ⟨by simpa [mF] using h1,by simpa [jp] using h2,by rw [y6];simp [mF,jp]⟩
  | cons x m ihm =>
   intro dp n d hm h1 h2
   rw [pX,tW,gO]
   have hx0:=x.dep_pos
   rcases ih x (hm x (by simp)) (dp+1) with ⟨a1,a2,a3⟩|⟨a1,a3⟩
   ·rw [a3]
    by_cases hn:24<n+x.cnt
    ·rw [if_pos hn]
     exact .inr ⟨by omega,rfl⟩
    ·rw [if_neg hn]
     rcases ihm dp (n+x.cnt) (if d<x.dep then x.dep else d) (fun y hy=>hm y (by simp [hy])) h1 (by omega) with ⟨b1,b2,b3⟩|⟨b1,b2⟩
     ·refine .inl ⟨by omega,by omega,?_⟩
      rw [b3]
      congr 1
      ·omega
      ·split <;> omega
     ·exact .inr ⟨by omega,b2⟩
   ·rw [a3,if_pos (by show 24<n+25;omega)]
    exact .inr ⟨by omega,rfl⟩
 intro dp
 rw [wU,Ex.dep_mk,Ex.cnt_mk]
 have hlen:=pW l
 by_cases hc:4<dp∨24<l.length
 ·rw [if_pos hc]
  exact .inr ⟨by omega,rfl⟩
 ·rw [if_neg hc]
  rcases hl l dp 1 0 (fun _ h=>h) (by omega) (by omega) with ⟨b1,b2,b3⟩|⟨b1,b3⟩
  ·exact .inl ⟨by omega,by omega,by rw [b3];congr 1;omega⟩
  ·exact .inr ⟨by omega,b3⟩
theorem Dm (x:Ex):(24<(gc x 1).1) = ¬Ar x=true:=by
 unfold Ar
 rcases rm x 1 with ⟨a1,a2,a3⟩|⟨a1,a3⟩ <;> rw [a3] <;> simp <;> omega
end
structure But (g:Nat) (w w':World):Prop where
 os:w'.os=w.os
 tape:w'.tape=w.tape
 output:w'.output=w.output
 size:w.heap.size≤w'.heap.size
 block:∀k,k<w.heap.size→k≠g→w'.heap[k]? = w.heap[k]?
section
variable {g:Nat} {a b c w w':World}
theorem But.refl (g:Nat) (w:World):But g w w:=⟨rfl,rfl,rfl,Nat.le_refl _,fun _ _ _=>rfl⟩
theorem But.trans (h:But g a b) (k:But g b c):But g a c :=
 ⟨k.os.trans h.os,k.tape.trans h.tape,k.output.trans h.output,Nat.le_trans h.size k.size,fun i hi hg=>(k.block i (Nat.lt_of_lt_of_le hi h.size) hg).trans (h.block i hi hg)⟩
theorem But.of (h:Below a.heap.size a b):But g a b:=⟨h.os,h.tape,h.output,h.size,fun i hi _=>h.block i hi⟩
theorem But.grow (h:But g a b) (k:Below b.heap.size b c):But g a c:=h.trans (But.of k)
theorem But.al (h:But g a w) (o:Obj):But g a (w.alloc o):=h.grow (Below.al (Below.refl _ _) o)
theorem But.drewN (h:But g a w) (n:Nat):But g a (w.drewN n):=⟨h.os,h.tape,h.output,h.size,h.block⟩
theorem But.drew (h:But g a w):But g a w.drew:=⟨h.os,h.tape,h.output,h.size,h.block⟩
theorem But.st {p:Addr} {u:Value} (h:But g a w) (hp:p.block=g∨a.heap.size≤p.block):But g a (w.setCell p u) :=
 ⟨h.os,h.tape,h.output,by simpa using h.size,fun i hi hg=>(Below.heap_setCell w p u i (by omega)).trans (h.block i hi hg)⟩
theorem But.below {B:Nat} (h:But g a b) (hB:B≤g) (hB2:B≤a.heap.size):Below B a b:=⟨h.os,h.tape,h.output,h.size,fun i hi=>h.block i (by omega) (by omega)⟩
theorem But.cell (h:But g a b) {k o:Nat} (hk:k<a.heap.size) (hg:k≠g):b.cell? ⟨k,o,none⟩=a.cell? ⟨k,o,none⟩:=World.cell?_of_block (a:=⟨k,o,none⟩) (h.block k hk hg)
theorem But.frozen (h:But g a b) {k o:Nat} (hk:k<a.heap.size) (hg:k≠g):b.frozen? ⟨k,o,none⟩=a.frozen? ⟨k,o,none⟩:=by
 unfold World.frozen?
 rw [show b.heap[k]? = a.heap[k]? from h.block k hk hg]
theorem But.cells (h:But g a b):(∀k o,k<a.heap.size→k≠g→b.cell? ⟨k,o,none⟩=a.cell? ⟨k,o,none⟩)∧(∀k o,k<a.heap.size→k≠g→b.frozen? ⟨k,o,none⟩=a.frozen? ⟨k,o,none⟩):=⟨fun _ _ hk hg=>h.cell hk hg,fun _ _ hk hg=>h.frozen hk hg⟩
theorem RowsAt.but {α:Type} {E:El α} {A:Option Addr} {l:List α} {B B':Nat} (h:RowsAt E w (Lo B) A l) (hb:But g w w') (hB:B≤w.heap.size) (hg:B≤g) (hB2:B≤B'):RowsAt E w' (Lo B') A l :=
 h.below (hb.below hg hB) (Nat.le_refl _) hB2
theorem OwnRows.but {α:Type} {E:El α} {e:TypeId} {v:Value} {l:List α} {base:Nat} (h:OwnRows E e w base v l) (hb:But g w w') (hg:v.ownBlock≠some g) (hr:∀xs,Reps E w (qI w v) l xs→Reps E w' (qI w' v) l xs):OwnRows E e w' base v l:=by
 obtain ⟨h0,xs,⟨h1,h2⟩,h3⟩:=h
 refine ⟨Nat.le_trans h0 hb.size,xs,⟨h1,?_⟩,hr xs h3⟩
 rcases h2 with hn|⟨b,cap,cur,hv,hb2,hh,rest⟩
 ·exact .inl hn
 ·refine .inr ⟨b,cap,cur,hv,hb2,?_,rest⟩
  rw [hb.block b (Array.getElem?_eq_some_iff.1 hh).1 (fun e=>hg (by rw [hv,←e];rfl))]
  exact hh
end
structure PS (X:Nat→Prop) (w w':World) (v v':Value):Prop where
 os:w'.os=w.os
 tape:w'.tape=w.tape
 output:w'.output=w.output
 size:w.heap.size≤w'.heap.size
 block:∀k,k<w.heap.size→¬X k→v.ownBlock≠some k→w'.heap[k]? = w.heap[k]?∧v'.ownBlock≠some k
section
variable {X:Nat→Prop} {a b c w w':World} {u v v':Value} {base:Nat}
theorem PS.refl (X:Nat→Prop) (w:World) (v:Value):PS X w w v v:=⟨rfl,rfl,rfl,Nat.le_refl _,fun _ _ _ h=>⟨rfl,h⟩⟩
theorem PS.trans (h:PS X a b u v) (k:PS X b c v v'):PS X a c u v' :=
 ⟨k.os.trans h.os,k.tape.trans h.tape,k.output.trans h.output,Nat.le_trans h.size k.size,fun i hi hx hu =>
  have h1:=h.block i hi hx hu
  have h2:=k.block i (Nat.lt_of_lt_of_le hi h.size) hx h1.2
  ⟨h2.1.trans h1.1,h2.2⟩⟩
theorem PS.of (v:Value) (h:Below w.heap.size w w'):PS X w w' v v:=⟨h.os,h.tape,h.output,h.size,fun i hi _ hu=>⟨h.block i hi,hu⟩⟩
theorem PS.grow (h:PS X a b u v) (k:Below b.heap.size b c):PS X a c u v:=h.trans (PS.of v k)
theorem PS.push (h:Below base w w') (hs:q8 w w' v v'):PS X w w' v v':=⟨h.os,h.tape,h.output,h.size,fun i hi _ hu=>hs i ⟨hi,hu⟩⟩
theorem PS.st {p:Addr} {z:Value} (h:PS X a b u v) (hp:X p.block):PS X a (b.setCell p z) u v :=
 ⟨h.os,h.tape,h.output,by simpa using h.size,fun i hi hx hu=>⟨(Below.heap_setCell b p z i (fun e=>hx (by rw [e];exact hp))).trans (h.block i hi hx hu).1,(h.block i hi hx hu).2⟩⟩
theorem PS.below {B:Nat} (h:PS X a b u v) (hu:∀k,u.ownBlock=some k→B≤k) (hX:∀k,X k→B≤k) (hB:B≤a.heap.size):Below B a b :=
 ⟨h.os,h.tape,h.output,h.size,fun k hk=>(h.block k (Nat.lt_of_lt_of_le hk hB) (fun hx=>Nat.not_le_of_lt hk (hX k hx)) (fun e=>Nat.not_le_of_lt hk (hu k e))).1⟩
theorem PS.none (h:PS X a b (.slice none 0 0) v) (hX:∀k,k<a.heap.size→¬X k):Below a.heap.size a b :=
 ⟨h.os,h.tape,h.output,h.size,fun k hk=>(h.block k hk (hX k hk) (fun e=>by cases e)).1⟩
theorem PS.mono {Y:Nat→Prop} (h:PS X a b u v) (hXY:∀k,X k→Y k):PS Y a b u v:=⟨h.os,h.tape,h.output,h.size,fun k hk hy hu=>h.block k hk (fun hx=>hy (hXY k hx)) hu⟩
end
theorem Gj (w:World) (a p:Addr) (v:Value):(w.setCell a v).frozen? p=w.frozen? p:=World.frozen?_setCell _ _ _ _
theorem Dn {w:World} {g o:Nat} {u v:Value} (h:w.cell? ⟨g,o,none⟩=some u):(w.setCell ⟨g,o,none⟩ v).cell? ⟨g,o,none⟩=some v:=by
 unfold World.cell? at h ⊢
 simp only [World.setCell,Array.getElem?_modify] at h ⊢
 cases hh:w.heap[g]? with
 | none=>rw [hh] at h;cases h
 | some ob =>
  rw [hh] at h
  cases ob with
  | cells cs t fr =>
   have ho:o<cs.size:=by
    simp at h
    exact (Array.getElem?_eq_some_iff.1 h).1
   simp [ho]
  | _=>simp at h
theorem OwnRows.far {α:Type} {E:El α} {e:TypeId} {w:World} {base p:Nat} {v u:Value} {l:List α} (h:OwnRows E e w base v l) (hp:v.ownBlock≠some p) (hr:∀xs,Reps E w (qI w v) l xs→Reps E (w.setCell ⟨p,0,none⟩ u) (qI w v) l xs):OwnRows E e (w.setCell ⟨p,0,none⟩ u) base v l:=by
 refine OwnRows.but (g:=p) h (But.st (But.refl _ _) (.inl rfl)) hp fun xs hx=>?_
 have:=hr xs hx
 exact this.same (fun _ _=>rfl) fun b hb=>⟨by simpa using hb.1,hb.2⟩
structure AtP {α:Type} (E:El α) (e:TypeId) (w:World) (p base:Nat) (v:Value) (l:List α):Prop where
 cell:w.cell? ⟨p,0,none⟩=some v
 froz:w.frozen? ⟨p,0,none⟩=false
 own:OwnRows E e w base v l
 ne:v.ownBlock≠some p
section
variable {α:Type} {e:TypeId} {n:Nat} {pos:0<n} {f:α→List Value} {len:∀x,(f x).length=n} {one:∀x,∀u∈f x,u.oneCell'=true}
theorem Au {w w':World} {S S':Nat→Prop}:∀{l:List α} {xs:List Value},Reps (El.plain n pos f len one) w S l xs→Reps (El.plain n pos f len one) w' S' l xs
 | [],_,h=>h
 | _ :: _,_,h=>by
  obtain ⟨cs,rest,rfl,h1,h2⟩:=h
  exact ⟨cs,rest,rfl,h1,Au h2⟩
theorem OwnRows.ps {X:Nat→Prop} {w w':World} {base:Nat} {v u u':Value} {l:List α} (h:OwnRows (El.plain n pos f len one) e w base v l) (hp:PS X w w' u u') (hv:∀k,v.ownBlock=some k→¬X k∧u.ownBlock≠some k):OwnRows (El.plain n pos f len one) e w' base v l:=by
 obtain ⟨h0,xs,⟨h1,h2⟩,h3⟩:=h
 refine ⟨Nat.le_trans h0 hp.size,xs,⟨h1,?_⟩,Au h3⟩
 rcases h2 with hn|⟨b,cap,cur,hv2,hb2,hh,rest⟩
 ·exact .inl hn
 ·refine .inr ⟨b,cap,cur,hv2,hb2,?_,rest⟩
  have hq:=hv b (by rw [hv2];rfl)
  rw [(hp.block b (Array.getElem?_eq_some_iff.1 hh).1 hq.1 hq.2).1]
  exact hh
theorem AtP.store {w:World} {p base:Nat} {v u:Value} {l:List α} (h:OwnRows (El.plain n pos f len one) e w base v l) (ne:v.ownBlock≠some p) (hc:w.cell? ⟨p,0,none⟩=some u) (hf:w.frozen? ⟨p,0,none⟩=false):AtP (El.plain n pos f len one) e (w.setCell ⟨p,0,none⟩ v) p base v l :=
 ⟨Dn hc,(Gj _ _ _ _).trans hf,h.far ne fun _ hx=>Au hx,ne⟩
theorem AtP.below {w w':World} {p base:Nat} {v:Value} {l:List α} (h:AtP (El.plain n pos f len one) e w p base v l) (hb:Below w.heap.size w w') (hp:p<w.heap.size):AtP (El.plain n pos f len one) e w' p base v l :=
 ⟨(hb.cell (p:=⟨p,0,none⟩) hp).trans h.cell,(hb.frozen (p:=⟨p,0,none⟩) hp).trans h.froz,h.own.below hb (Nat.le_refl _),h.ne⟩
end
structure ExF (w:World) (B d:Nat) (A:Option Addr) (x:Ex):Prop where
 hm:x.kids.length≤maxLen
 hB:B≤w.heap.size
 hr:RowsAt (qP d) w (Lo B) A x.kids
theorem ExF.below {w w':World} {B d:Nat} {A:Option Addr} {x:Ex} (h:ExF w B d A x) (hb:Below w.heap.size w w'):ExF w' B d A x:=⟨h.hm,Nat.le_trans h.hB hb.size,h.hr.below hb h.hB (Nat.le_refl _)⟩
theorem ExF.but {w w':World} {B d g:Nat} {A:Option Addr} {x:Ex} (h:ExF w B d A x) (hb:But g w w') (hg:B≤g):ExF w' B d A x:=⟨h.hm,Nat.le_trans h.hB hb.size,h.hr.but hb h.hB hg (Nat.le_refl _)⟩
end Go.Proofs.YtdaajdflefnjfaaGreat
