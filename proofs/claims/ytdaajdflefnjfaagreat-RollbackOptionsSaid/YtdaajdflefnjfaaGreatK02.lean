/- Part 2 of 24 of the proof of rollbackOptions_holds (no condition). -/
import Derived.Test.YtdaajdflefnjfaaGreatK01
import Derived.Sort.Walk0
import Derived.Laws.StructEq
import Derived.Laws.ResultCell
import Derived.Laws.NewBlocks
import Derived.Handy
import Derived.Scope
import Derived.Deep.RegionHeld3
set_option linter.unusedVariables false
set_option linter.unusedSimpArgs false
set_option maxRecDepth 100000
set_option maxHeartbeats 64000000
namespace Go.Proofs.YtdaajdflefnjfaaGreat
open Go.RowKit Go.Proofs.Tryz
structure Rs where
 name:ByteArray
 kind:Int
 units:Int
 home:Int
deriving Inhabited
abbrev Ct:=List Rs
def Rs.key (r:Rs):Bs:=r.name.toList
def Rs.cells (r:Rs):List Value:=[.string r.name,.int .i64 r.kind,.int .i64 r.units,.int .i64 r.home]
def Rs.val (r:Rs):Value:=.agg #[.string r.name,.int .i64 r.kind,.int .i64 r.units,.int .i64 r.home]
def fJ:El Rs:=El.plain 4 (by decide) Rs.cells (fun _=>rfl) (by intro x u hu;simp [Rs.cells] at hu;rcases hu with rfl|rfl|rfl|rfl <;> rfl)
def Rs.Fit (r:Rs):Prop:=r.name.size≤maxLen∧F4 r.kind∧F4 r.units∧F4 r.home
theorem toList_inj {a b:ByteArray} (h:a.toList=b.toList):a=b:=by
 rw [ByteArray.toList_eq,ByteArray.toList_eq] at h
 have h2:a.data=b.data:=Array.toList_inj.1 h
 cases a
 cases b
 simpa using h2
def be (r:Rs):Bool:=(decide (r.kind=1) && decide (r.units=1)) || (decide (r.kind=2) && decide (1≤r.units) && decide (r.units≤8))
def mI (r:Rs):Bool:=bE r.key && be r && decide (0≤r.home) && decide (r.home<4)
def Sorted (l:Ct):Prop:=∀i (h:i+1<l.length),l[i].key<l[i+1].key
def VCat (l:Ct):Prop:=l.length≤8∧(∀i (h:i<l.length),mI l[i]=true)∧Sorted l
theorem VCat.nil:VCat []:=⟨by simp,fun i h=>absurd h (by simp),fun i h=>absurd h (by simp)⟩
theorem Sorted.lt {l:Ct} (h:Sorted l):∀j i (hj:j<l.length) (hi:i<j),l[i].key<l[j].key:=by
 intro j
 induction j with
 | zero=>intro i _ hi;omega
 | succ j ih =>
  intro i hj hi
  have h1:=h j hj
  by_cases e:i=j
  ·subst e;exact h1
  ·exact List.lt_trans (ih i (by omega) (by omega)) h1
theorem Sorted.inj {l:Ct} (h:Sorted l) {i j:Nat} (hi:i<l.length) (hj:j<l.length) (e:l[i].key=l[j].key):i=j:=by
 rcases Nat.lt_trichotomy i j with hlt|he|hgt
 ·exact absurd (h.lt j i hj hlt) (by rw [e];exact List.lt_irrefl _)
 ·exact he
 ·exact absurd (h.lt i j hi hgt) (by rw [e];exact List.lt_irrefl _)
theorem gi (r:Rs) (w:World):Calls prog 182 #[r.val] w (gV w (.bool (be r))):=by
 obtain ⟨nm,k,u,h⟩:=r
 unfold Rs.val be
 go_enter func182,ntmps182
 go_wp2
 all_goals go_ret
 all_goals refine ⟨ax ?_,(Below.refl _ _).alloc (Nat.le_refl _) _⟩
 all_goals (first|rfl|(simp_all;done)|(simp_all;omega)|(rw [Bool.eq_iff_iff];simp_all;done)|(rw [Bool.eq_iff_iff];simp_all;omega))
theorem y9 (r:Rs) (w:World):Calls prog 233 #[r.val] w (gV w (.bool (be r))):=by
 obtain ⟨nm,k,u,h⟩:=r
 unfold Rs.val be
 go_enter func233,ntmps233
 go_wp2
 all_goals go_ret
 all_goals refine ⟨ax ?_,(Below.refl _ _).alloc (Nat.le_refl _) _⟩
 all_goals (first|rfl|(simp_all;done)|(simp_all;omega)|(rw [Bool.eq_iff_iff];simp_all;done)|(rw [Bool.eq_iff_iff];simp_all;omega))
theorem mv (r:Rs) (w:World):Calls prog 126 #[r.val] w (gV w (.bool (mI r))):=by
 have HS:=Lib.hid (fun w=>gi r w)
 have HN:=Lib.hid (fun w=>ku r.name w)
 unfold mI Rs.key
 obtain ⟨b1,hb1⟩:∃b,bE r.name.toList=b:=⟨_,rfl⟩
 obtain ⟨b2,hb2⟩:∃b,be r=b:=⟨_,rfl⟩
 rw [hb1] at HN ⊢
 rw [hb2] at HS ⊢
 clear hb1 hb2
 obtain ⟨nm,k,u,h⟩:=r
 unfold Rs.val at HS ⊢
 go_enter func126,ntmps126
 go_wp2_with fail
 refine (HN.out _).mono ?_
 rintro e w' ⟨rfl,hw'⟩
 obtain rfl:=hw'.symm
 cases b1 with
 | false =>
  go_wp2
  go_ret
  exact ⟨ax (by simp),(Below.refl _ _).alloc (Nat.le_refl _) _⟩
 | true =>
  go_wp2_with fail
  refine (HS.out _).mono ?_
  rintro e w' ⟨rfl,hb⟩
  have hbb:=((Below.refl w.heap.size w).alloc (Nat.le_refl _) _).trans (hb.mono (by simp))
  obtain ⟨hc,hz⟩:(∀b o,b<w.heap.size+1→w'.cell? ⟨b,o,none⟩=(w.alloc (.cells #[.string nm,.int .i64 k,.int .i64 u,.int .i64 h] 159)).cell? ⟨b,o,none⟩)∧w.heap.size+1≤w'.heap.size :=
   ⟨fun b o hlt=>hb.cell (p:=⟨b,o,none⟩) (by simpa using hlt),by simpa using hb.size⟩
  clear hb
  go_wp2
  all_goals go_ret
  all_goals refine ⟨ax ?_,hbb⟩
  all_goals (clear hbb hc hz HS HN)
  all_goals (first|rfl|(simp_all;done)|(simp_all;omega)|(rw [Bool.eq_iff_iff];simp_all;done)|(rw [Bool.eq_iff_iff];simp_all;omega))
theorem Ga (a b:Pr) (w:World):(Op.equalIn 10000 23 a.val b.val).run prog w = .ok (decide (a=b)) w:=by
 have hS:prog.underlying 23=some (.struct (prog.fieldsOf 23)):=by kernel_rfl
 have hp:prog.stoodInHeld 23=false:=by kernel_rfl
 unfold Pr.val
 rw [show (10000:Nat)=9999+1 from rfl,run_equalIn_agg w 9999 23 _ _ hS hp]
 have u3:=underlying3
 simp only [Program.fieldsOf,underlying23]
 go_simp
 obtain ⟨a1,a2,a3⟩:=a
 obtain ⟨b1,b2,b3⟩:=b
 by_cases h1:a1=b1 <;> by_cases h2:a2=b2 <;> by_cases h3:a3=b3 <;> simp [h1,h2,h3]
structure Cmps (t:TypeId) (x y:Array Value) (r:Bool):Prop where
 neq:∀w,(binOp .neq t (.agg x) (.agg y)).run prog w = .ok (.bool (!r)) w
 eql:∀w,(binOp .eql t (.agg x) (.agg y)).run prog w = .ok (.bool r) w
 guard:∀(op:BinOp) (a b:Operand) (xs ys:Array Value) w,(eqGuard op t a b (.agg xs) (.agg ys)).run prog w = .ok () w
theorem Cmps.mk' {t:TypeId} {x y:Array Value} {r:Bool} (h:∀w,(Op.equalIn 10000 t (.agg x) (.agg y)).run prog w = .ok r w) (hg:∀(op:BinOp) (a b:Operand) (xs ys:Array Value) w,(eqGuard op t a b (.agg xs) (.agg ys)).run prog w = .ok () w):Cmps t x y r where
 neq:=fun w=>(run_neq_struct (P:=prog) w t x y).trans (by rw [h w];rfl)
 eql:=fun w=>(run_eql_struct (P:=prog) w t x y).trans (by rw [h w];rfl)
 guard:=hg
theorem wH (a b c x y z:Int):Cmps 23 #[.int .i64 a,.int .i64 b,.int .i64 c] #[.int .i64 x,.int .i64 y,.int .i64 z] (decide ((⟨a,b,c⟩:Pr)=⟨x,y,z⟩)):=Cmps.mk' (Ga ⟨a,b,c⟩ ⟨x,y,z⟩) (fun op a b xs ys w=>run_eqGuard_agg w op 23 a b xs ys (by kernel_rfl))
structure Am where
 mode:Int
 units:Int
deriving DecidableEq
def Am.cells (a:Am):List Value:=[.int .i64 a.mode,.int .i64 a.units]
def Am.val (a:Am):Value:=.agg #[.int .i64 a.mode,.int .i64 a.units]
def Am.zero:Am:=⟨0,0⟩
structure Tm where
 name:ByteArray
 am:Am
deriving DecidableEq
def Tm.cells (a:Tm):List Value:=[.string a.name,.int .i64 a.am.mode,.int .i64 a.am.units]
def Tm.val (a:Tm):Value:=.agg #[.string a.name,.int .i64 a.am.mode,.int .i64 a.am.units]
structure Ho where
 proc:Pr
 am:Am
deriving DecidableEq
def Ho.cells (a:Ho):List Value:=[.int .i64 a.proc.site,.int .i64 a.proc.inc,.int .i64 a.proc.num,.int .i64 a.am.mode,.int .i64 a.am.units]
def Ho.val (a:Ho):Value:=.agg #[.int .i64 a.proc.site,.int .i64 a.proc.inc,.int .i64 a.proc.num,.int .i64 a.am.mode,.int .i64 a.am.units]
structure Wt where
 proc:Pr
 am:Am
 prio:Int
 passed:Int
deriving DecidableEq
def Wt.cells (a:Wt):List Value:=[.int .i64 a.proc.site,.int .i64 a.proc.inc,.int .i64 a.proc.num,.int .i64 a.am.mode,.int .i64 a.am.units,.int .i64 a.prio,.int .i64 a.passed]
def Wt.val (a:Wt):Value:=.agg #[.int .i64 a.proc.site,.int .i64 a.proc.inc,.int .i64 a.proc.num,.int .i64 a.am.mode,.int .i64 a.am.units,.int .i64 a.prio,.int .i64 a.passed]
def I8:El Am:=El.plain 2 (by decide) Am.cells (fun _=>rfl) (by intro x u hu;simp [Am.cells] at hu;rcases hu with rfl|rfl <;> rfl)
def cL:El Tm:=El.plain 3 (by decide) Tm.cells (fun _=>rfl) (by intro x u hu;simp [Tm.cells] at hu;rcases hu with rfl|rfl|rfl <;> rfl)
def oM:El Ho:=El.plain 5 (by decide) Ho.cells (fun _=>rfl) (by intro x u hu;simp [Ho.cells] at hu;rcases hu with rfl|rfl|rfl|rfl|rfl <;> rfl)
def nv:El Wt:=El.plain 7 (by decide) Wt.cells (fun _=>rfl) (by intro x u hu;simp [Wt.cells] at hu;rcases hu with rfl|rfl|rfl|rfl|rfl|rfl|rfl <;> rfl)
section
variable {w:World} {S:Nat→Prop} {A:Option Addr} {i:Nat}
theorem ny {l:List Am} {m u:Int} (h:RowsAt I8 w S A l) (hi:i<l.length) (hx:l[i]=⟨m,u⟩) :
  ∃k off,A=some ⟨k,off,none⟩∧S k∧w.cell? ⟨k,off+i*2,none⟩=some (.int .i64 m)∧w.cell? ⟨k,off+i*2+1,none⟩=some (.int .i64 u):=by
 obtain ⟨k,off,cs,hA,hS,hc,hd⟩:=h.getx hi hx
 obtain rfl:cs=[.int .i64 m,.int .i64 u]:=hc
 exact ⟨k,off,hA,hS,hd 0 (show 0<2 by decide),hd 1 (show 1<2 by decide)⟩
theorem fq {l:List Ho} {a b c m u:Int} (h:RowsAt oM w S A l) (hi:i<l.length) (hx:l[i]=⟨⟨a,b,c⟩,⟨m,u⟩⟩) :
  ∃k off,A=some ⟨k,off,none⟩∧S k∧w.cell? ⟨k,off+i*5,none⟩=some (.int .i64 a)∧w.cell? ⟨k,off+i*5+1,none⟩=some (.int .i64 b)∧w.cell? ⟨k,off+i*5+2,none⟩=some (.int .i64 c)∧w.cell? ⟨k,off+i*5+3,none⟩=some (.int .i64 m)∧w.cell? ⟨k,off+i*5+4,none⟩=some (.int .i64 u):=by
 obtain ⟨k,off,cs,hA,hS,hc,hd⟩:=h.getx hi hx
 obtain rfl:cs=[.int .i64 a,.int .i64 b,.int .i64 c,.int .i64 m,.int .i64 u]:=hc
 exact ⟨k,off,hA,hS,hd 0 (show 0<5 by decide),hd 1 (show 1<5 by decide),hd 2 (show 2<5 by decide),hd 3 (show 3<5 by decide),hd 4 (show 4<5 by decide)⟩
theorem dC {l:List Wt} {a b c m u p q:Int} (h:RowsAt nv w S A l) (hi:i<l.length) (hx:l[i]=⟨⟨a,b,c⟩,⟨m,u⟩,p,q⟩) :
  ∃k off,A=some ⟨k,off,none⟩∧S k∧w.cell? ⟨k,off+i*7,none⟩=some (.int .i64 a)∧w.cell? ⟨k,off+i*7+1,none⟩=some (.int .i64 b)∧w.cell? ⟨k,off+i*7+2,none⟩=some (.int .i64 c)∧w.cell? ⟨k,off+i*7+3,none⟩=some (.int .i64 m)∧w.cell? ⟨k,off+i*7+4,none⟩=some (.int .i64 u)∧w.cell? ⟨k,off+i*7+5,none⟩=some (.int .i64 p)∧w.cell? ⟨k,off+i*7+6,none⟩=some (.int .i64 q):=by
 obtain ⟨k,off,cs,hA,hS,hc,hd⟩:=h.getx hi hx
 obtain rfl:cs=[.int .i64 a,.int .i64 b,.int .i64 c,.int .i64 m,.int .i64 u,.int .i64 p,.int .i64 q]:=hc
 exact ⟨k,off,hA,hS,hd 0 (show 0<7 by decide),hd 1 (show 1<7 by decide),hd 2 (show 2<7 by decide),hd 3 (show 3<7 by decide),hd 4 (show 4<7 by decide),hd 5 (show 5<7 by decide),hd 6 (show 6<7 by decide)⟩
end
theorem L6:ElTB prog I8 317 29 16:=ElTB.mk' underlying317 (.agg #[.int .i64 0,.int .i64 0]) 2 16 (by kernel_rfl) rfl rfl
theorem L7:ElTB prog cL 39 31 32:=ElTB.mk' underlying39 (.agg #[.string { data:=#[] },.int .i64 0,.int .i64 0]) 3 32 (by kernel_rfl) rfl rfl
theorem za:ElTB prog oM 162 287 40:=ElTB.mk' underlying162 (.agg #[.int .i64 0,.int .i64 0,.int .i64 0,.int .i64 0,.int .i64 0]) 5 40 (by kernel_rfl) rfl rfl
theorem toZ:ElTB prog nv 163 284 56:=ElTB.mk' underlying163 (.agg #[.int .i64 0,.int .i64 0,.int .i64 0,.int .i64 0,.int .i64 0,.int .i64 0,.int .i64 0]) 7 56 (by kernel_rfl) rfl rfl
theorem Gb (a b:Am) (w:World):(Op.equalIn 10000 29 a.val b.val).run prog w = .ok (decide (a=b)) w:=by
 have hS:prog.underlying 29=some (.struct (prog.fieldsOf 29)):=by kernel_rfl
 have hp:prog.stoodInHeld 29=false:=by kernel_rfl
 unfold Am.val
 rw [show (10000:Nat)=9999+1 from rfl,run_equalIn_agg w 9999 29 _ _ hS hp]
 have u3:=underlying3
 simp only [Program.fieldsOf,underlying29]
 go_simp
 obtain ⟨a1,a2⟩:=a
 obtain ⟨b1,b2⟩:=b
 by_cases h1:a1=b1 <;> by_cases h2:a2=b2 <;> simp [h1,h2]
theorem Az (a b x y:Int):Cmps 29 #[.int .i64 a,.int .i64 b] #[.int .i64 x,.int .i64 y] (decide ((⟨a,b⟩:Am)=⟨x,y⟩)):=Cmps.mk' (Gb ⟨a,b⟩ ⟨x,y⟩) (fun op a b xs ys w=>run_eqGuard_agg w op 29 a b xs ys (by kernel_rfl))
def cn (m:Int):Bool:=decide (1≤m) && decide (m≤5)
def cu (a b:Int):Bool:=cn a && cn b && (decide (a=b) || decide (a=5) || decide (b=1) || decide (a=4) && !decide (b=5))
def mJ (a b:Int):Bool:=cn a && cn b && !decide (a=5) && !decide (b=5) && (decide (a=1) || decide (b=1) || decide (a=b) && !decide (a=4))
theorem oT {a:Int} (h:cn a=true):a=1∨a=2∨a=3∨a=4∨a=5:=by
 unfold cn at h
 simp at h
 omega
theorem iT (m:Int) (w:World):Calls prog 80 #[.int .i64 m] w (mq w (.bool (cn m))):=by
 go_enter func80,ntmps80
 go_wp2
 all_goals go_ret
 all_goals refine ⟨ax ?_,rfl⟩
 all_goals unfold cn
 all_goals (first|rfl|(simp_all;done)|(simp_all;omega)|(rw [Bool.eq_iff_iff];simp_all;done)|(rw [Bool.eq_iff_iff];simp_all;omega))
theorem fu (m:Int) (w:World):Calls prog 84 #[.int .i64 m] w (mq w (.bool (cn m))):=by
 go_enter func84,ntmps84
 go_wp2
 all_goals go_ret
 all_goals refine ⟨ax ?_,rfl⟩
 all_goals unfold cn
 all_goals (first|rfl|(simp_all;done)|(simp_all;omega)|(rw [Bool.eq_iff_iff];simp_all;done)|(rw [Bool.eq_iff_iff];simp_all;omega))
theorem gL (a b:Int) (w:World):Calls prog 112 #[.int .i64 a,.int .i64 b] w (mq w (.bool (cu a b))):=by
 have H:=Lib.hid (fun m W=>fu m W)
 go_enter func112,ntmps112
 go_wp2_with fail
 repeat' (first
  | (go_at_call 84;refine (H.out _ _).mono ?_;rintro e wa1 ⟨rfl,hwa1⟩;obtain rfl:=hwa1.symm;clear hwa1;go_wp2_with fail)
  | (go_ret;refine ⟨ax ?_,rfl⟩;(first|(simp_all [cu];done)|(simp_all [cu];omega)|(rw [Bool.eq_iff_iff];simp_all [cu];done)|(rw [Bool.eq_iff_iff];simp_all [cu];omega))))
theorem mr (a b:Int) (w:World):Calls prog 252 #[.int .i64 a,.int .i64 b] w (mq w (.bool (mJ a b))):=by
 have H:=Lib.hid (fun m W=>fu m W)
 go_enter func252,ntmps252
 go_wp2_with fail
 repeat' (first
  | (go_at_call 84;refine (H.out _ _).mono ?_;rintro e wa1 ⟨rfl,hwa1⟩;obtain rfl:=hwa1.symm;clear hwa1;go_wp2_with fail)
  | (go_ret;refine ⟨ax ?_,rfl⟩;(first|(simp_all [mJ];done)|(simp_all [mJ];omega)|(rw [Bool.eq_iff_iff];simp_all [mJ];done)|(rw [Bool.eq_iff_iff];simp_all [mJ];omega))))
theorem jr {fn:Func} {p:Tmp} {ty:TypeId} (h:fn.results = #[.cell p ty]) (tmps:Array Value) (P:Program) (w:World):(results fn tmps).run P w=((asAddr (tmps.getD p undef)).run P w).andThen fun a w₁=>(loadVar ty a).run P w₁:=by
 simp only [results,h]
 simp [Sem.run_bind,Result.andThen]
def I9 (m:Int):Value:=.agg #[.bool false,.bool (cn m),.bool (decide (m=5) || decide (m=4) || decide (m=2)),.bool (decide (m=5) || decide (m=4) || decide (m=3)),.bool (decide (m=5) || decide (m=4)),.bool (decide (m=5))]
theorem wI (m:Int) (hm:cn m=true) (w:World):Calls prog 137 #[.int .i64 m] w (gV w (I9 m)):=by
 rcases oT hm with rfl|rfl|rfl|rfl|rfl
 all_goals
  clear hm
  go_enter func137,ntmps137
  go_wp2
  (try simp only [Exit.inBlock,Exit.then])
  refine bodyPost_ret_by (v:=_) ?_ rfl ⟨rfl,by exact aw⟩
  rw [jr rfl]
  go_simp
  rfl
theorem BJ {a b:Int} (ha:cn a=true) (hb:cn b=true) (w:World):(Instr.index 205 (I9 a) (.int .i64 b)).run prog w = .ok (.bool (cu a b)) w:=by
 rcases oT ha with rfl|rfl|rfl|rfl|rfl <;> rcases oT hb with rfl|rfl|rfl|rfl|rfl <;> kernel_rfl
theorem rg (a b:Int) (w:World):Calls prog 101 #[.int .i64 a,.int .i64 b] w (gV w (.bool (cu a b))):=by
 have H:=Lib.hid (fun m W=>iT m W)
 have HI:=Lib.hid (fun ha hb W=>BJ (a:=a) (b:=b) ha hb W)
 have HU:Hid ((cn a && cn b)=false→cu a b=false):=Lib.hid (fun h=>by unfold cu;rw [h];rfl)
 generalize cu a b=q at *
 go_enter func101,ntmps101
 go_wp2_with fail
 repeat' (first
  | (go_at_call 80;refine (H.out _ _).mono ?_;rintro e wa1 ⟨rfl,hwa1⟩;obtain rfl:=hwa1.symm;clear hwa1;go_wp2_with fail)
  | (go_at_call 137;refine (wI a (by assumption) _).mono ?_;rintro e w2 ⟨rfl,hb2⟩;have k:=HI.out (by assumption) (by assumption);generalize I9 a=v at *;have HB2:=Lib.hid hb2;clear hb2;go_wp2_with fail)
  | (go_ret;refine ⟨ax ?_,by exact aw⟩;first|rfl|(rw [HU.out (by simp_all)])))
def aF (a:Am):Bool:=decide (a=⟨0,0⟩)
def aC (r:Rs) (a:Am):Bool:=be r && (if r.kind=1 then cn a.mode && decide (a.units=0) else decide (a.mode=0) && decide (1≤a.units) && decide (a.units≤r.units))
def bK (r:Rs) (a:Am):Bool:=be r && (aF a || aC r a)
def aY (r:Rs) (a b:Am):Bool:=bK r a && bK r b && (aF b || !aF a && (if r.kind=1 then cu a.mode b.mode else decide (b.units≤a.units)))
theorem gW (m u:Int) (w:World):Calls prog 37 #[.agg #[.int .i64 m,.int .i64 u]] w (gV w (.bool (aF ⟨m,u⟩))):=by
 obtain ⟨_,k1,k2⟩:=Az m u 0 0
 go_enter func37,ntmps37
 go_wp2_with fail
 repeat' (first
  | (go_ret;refine ⟨ax ?_,by exact aw⟩;simp [aF]))
theorem De (r:Rs) (m n:Int) (w:World):Calls prog 196 #[r.val,.agg #[.int .i64 m,.int .i64 n]] w (gV w (.bool (aC r ⟨m,n⟩))):=by
 obtain ⟨nm,kd,u,h⟩:=r
 have HS:=Lib.hid (fun W=>y9 ⟨nm,kd,u,h⟩ W)
 have HM:=Lib.hid (fun W=>iT m W)
 unfold Rs.val
 go_enter func196,ntmps196
 go_wp2_with fail
 repeat' (first
  | (go_at_call 233;refine (HS.out _).mono ?_;rintro e wa1 ⟨rfl,hb_wa1⟩;obtain ⟨hc_wa1,hf_wa1⟩:=bh hb_wa1;have hs_wa1:=hb_wa1.size;(try simp at hs_wa1);have hz_wa1_w_0:w.heap.size<wa1.heap.size:=(by omega);have hz_wa1_w_1:w.heap.size+1<wa1.heap.size:=(by omega);clear hs_wa1;have HB_wa1:=Lib.hid hb_wa1;clear hb_wa1;go_wp2_with fail)
  | (go_at_call 80;refine (HM.out _).mono ?_;rintro e wa2 ⟨rfl,hwa2⟩;obtain rfl:=hwa2.symm;clear hwa2;go_wp2_with fail)
  | (go_ret;refine ⟨ax ?_,by exact aw⟩;(first|(simp_all [aC];done)|(simp_all [aC];omega)|(rw [Bool.eq_iff_iff];simp_all [aC];done)|(rw [Bool.eq_iff_iff];simp_all [aC];omega))))
theorem i8 (r:Rs) (m n:Int) (w:World):Calls prog 172 #[r.val,.agg #[.int .i64 m,.int .i64 n]] w (gV w (.bool (aC r ⟨m,n⟩))):=by
 obtain ⟨nm,kd,u,h⟩:=r
 have HS:=Lib.hid (fun W=>gi ⟨nm,kd,u,h⟩ W)
 have HM:=Lib.hid (fun W=>fu m W)
 unfold Rs.val
 go_enter func172,ntmps172
 go_wp2_with fail
 repeat' (first
  | (go_at_call 182;refine (HS.out _).mono ?_;rintro e wa1 ⟨rfl,hb_wa1⟩;obtain ⟨hc_wa1,hf_wa1⟩:=bh hb_wa1;have hs_wa1:=hb_wa1.size;(try simp at hs_wa1);have hz_wa1_w_0:w.heap.size<wa1.heap.size:=(by omega);have hz_wa1_w_1:w.heap.size+1<wa1.heap.size:=(by omega);clear hs_wa1;have HB_wa1:=Lib.hid hb_wa1;clear hb_wa1;go_wp2_with fail)
  | (go_at_call 84;refine (HM.out _).mono ?_;rintro e wa2 ⟨rfl,hwa2⟩;obtain rfl:=hwa2.symm;clear hwa2;go_wp2_with fail)
  | (go_ret;refine ⟨ax ?_,by exact aw⟩;(first|(simp_all [aC];done)|(simp_all [aC];omega)|(rw [Bool.eq_iff_iff];simp_all [aC];done)|(rw [Bool.eq_iff_iff];simp_all [aC];omega))))
theorem fv (r:Rs) (m n:Int) (w:World):Calls prog 244 #[r.val,.agg #[.int .i64 m,.int .i64 n]] w (gV w (.bool (bK r ⟨m,n⟩))):=by
 obtain ⟨nm,kd,u,h⟩:=r
 have HS:=Lib.hid (fun W=>gi ⟨nm,kd,u,h⟩ W)
 have HZ:=Lib.hid (fun W=>gW m n W)
 have HM:=Lib.hid (fun W=>i8 ⟨nm,kd,u,h⟩ m n W)
 unfold Rs.val
 go_enter func244,ntmps244
 go_wp2_with fail
 repeat' (first
  | (go_at_call 182;refine (HS.out _).mono ?_;rintro e wa1 ⟨rfl,hb_wa1⟩;obtain ⟨hc_wa1,hf_wa1⟩:=bh hb_wa1;have hs_wa1:=hb_wa1.size;(try simp at hs_wa1);have hz_wa1_w_0:w.heap.size<wa1.heap.size:=(by omega);have hz_wa1_w_1:w.heap.size+1<wa1.heap.size:=(by omega);clear hs_wa1;have HB_wa1:=Lib.hid hb_wa1;clear hb_wa1;go_wp2_with fail)
  | (go_at_call 37;refine (HZ.out _).mono ?_;rintro e wa2 ⟨rfl,hb_wa2⟩;obtain ⟨hc_wa2,hf_wa2⟩:=bh hb_wa2;have hs_wa2:=hb_wa2.size;(try simp at hs_wa2);have hz_wa2_w_0:w.heap.size<wa2.heap.size:=(by omega);have hz_wa2_w_1:w.heap.size+1<wa2.heap.size:=(by omega);clear hs_wa2;have HB_wa2:=Lib.hid hb_wa2;clear hb_wa2;go_wp2_with fail)
  | (go_at_call 172;refine (HM.out _).mono ?_;rintro e wa3 ⟨rfl,hb_wa3⟩;obtain ⟨hc_wa3,hf_wa3⟩:=bh hb_wa3;have hs_wa3:=hb_wa3.size;(try simp at hs_wa3);have hz_wa3_w_0:w.heap.size<wa3.heap.size:=(by omega);have hz_wa3_w_1:w.heap.size+1<wa3.heap.size:=(by omega);clear hs_wa3;have HB_wa3:=Lib.hid hb_wa3;clear hb_wa3;go_wp2_with fail)
  | (go_ret;refine ⟨ax ?_,by exact aw⟩;(first|(simp_all [bK];done)|(simp_all [bK];omega)|(rw [Bool.eq_iff_iff];simp_all [bK];done)|(rw [Bool.eq_iff_iff];simp_all [bK];omega))))
theorem iL (r:Rs) (a b c d:Int) (w:World):Calls prog 225 #[r.val,.agg #[.int .i64 a,.int .i64 b],.agg #[.int .i64 c,.int .i64 d]] w (gV w (.bool (aY r ⟨a,b⟩ ⟨c,d⟩))):=by
 obtain ⟨nm,kd,u,h⟩:=r
 have HP:=Lib.hid (fun m n W=>fv ⟨nm,kd,u,h⟩ m n W)
 have HZ:=Lib.hid (fun m n W=>gW m n W)
 have HM:=Lib.hid (fun W=>gL a c W)
 unfold Rs.val
 go_enter func225,ntmps225
 go_wp2_with fail
 repeat' (first
  | (go_at_call 244;refine (HP.out _ _ _).mono ?_;rintro e wa1 ⟨rfl,hb_wa1⟩;obtain ⟨hc_wa1,hf_wa1⟩:=bh hb_wa1;have hs_wa1:=hb_wa1.size;(try simp at hs_wa1);have hz_wa1_w_0:w.heap.size<wa1.heap.size:=(by omega);have hz_wa1_w_1:w.heap.size+1<wa1.heap.size:=(by omega);have hz_wa1_w_2:w.heap.size+1+1<wa1.heap.size:=(by omega);clear hs_wa1;have HB_wa1:=Lib.hid hb_wa1;clear hb_wa1;go_wp2_with fail)
  | (go_at_call 37;refine (HZ.out _ _ _).mono ?_;rintro e wa2 ⟨rfl,hb_wa2⟩;obtain ⟨hc_wa2,hf_wa2⟩:=bh hb_wa2;have hs_wa2:=hb_wa2.size;(try simp at hs_wa2);have hz_wa2_w_0:w.heap.size<wa2.heap.size:=(by omega);have hz_wa2_w_1:w.heap.size+1<wa2.heap.size:=(by omega);have hz_wa2_w_2:w.heap.size+1+1<wa2.heap.size:=(by omega);clear hs_wa2;have HB_wa2:=Lib.hid hb_wa2;clear hb_wa2;go_wp2_with fail)
  | (go_at_call 112;refine (HM.out _).mono ?_;rintro e wa3 ⟨rfl,hwa3⟩;obtain rfl:=hwa3.symm;clear hwa3;go_wp2_with fail)
  | (go_ret;refine ⟨ax ?_,by exact aw⟩;(first|(simp_all [aY];done)|(simp_all [aY];omega)|(rw [Bool.eq_iff_iff];simp_all [aY];done)|(rw [Bool.eq_iff_iff];simp_all [aY];omega))))
theorem db {α:Type} {l:List α} {k:Nat} {x:α} (h:k<l.length) (hx:l[k]=x):l.drop k=x :: l.drop (k+1):=by rw [List.drop_eq_getElem_cons h,hx]
theorem dJ {α:Type} {l:List α} {k:Nat} (h:¬k<l.length):l.drop k=[]:=List.drop_eq_nil_of_le (by omega)
def aj:List Ho→Pr→Am
 | [],_=>⟨0,0⟩
 | h :: l,p=>bif decide (h.proc=p) then h.am else aj l p
theorem wJ (A:Option Addr) (B cap:Nat) (l:List Ho) (x y z:Int) (w:World) (hm:l.length≤maxLen) (hB:B≤w.heap.size) (hr:RowsAt oM w (Lo B) A l) :
  Calls prog 219 #[.slice A l.length cap,.agg #[.int .i64 x,.int .i64 y,.int .i64 z]] w (gV w (aj l ⟨x,y,z⟩).val):=by
 unfold maxLen at hm
 have HR:=Lib.hid hr
 clear hr
 obtain ⟨v,hv⟩:∃v,aj l ⟨x,y,z⟩=v:=⟨_,rfl⟩
 rw [hv]
 have HV:=Lib.hid hv
 clear hv
 go_enter func219,ntmps219
 go_wp2_with fail
 go_loopg [5] l.length (fun m v5 wq=>∃k:Nat,v5 = .int .i64 (k:Int)∧k≤l.length∧l.length≤k+m∧Hid (aj (l.drop k) ⟨x,y,z⟩=v)∧Hid (Below ((w.alloc (.cells #[.int .i64 x,.int .i64 y,.int .i64 z] 23)).alloc (.cells #[.int .i64 0,.int .i64 0] 29)).heap.size ((w.alloc (.cells #[.int .i64 x,.int .i64 y,.int .i64 z] 23)).alloc (.cells #[.int .i64 0,.int .i64 0] 29)) wq))
 case atStart=>exact ⟨0,rfl,Nat.zero_le _,by omega,HV,Lib.hid (Below.refl _ _)⟩
 case round =>
  obtain ⟨k,rfl,hk,hkm,HI,HB⟩:=hrel
  have hb:=HB.out
  have hbw:Below w.heap.size w wr:=by exact aw
  obtain ⟨hc_wr,hf_wr⟩:=bh hb
  have hs_wr:=hb.size
  (try simp at hs_wr)
  have hz_wr_0:w.heap.size<wr.heap.size:=(by omega)
  have hz_wr_1:w.heap.size+1<wr.heap.size:=(by omega)
  clear hs_wr
  clear hb
  by_cases hlt:k<l.length
  ·obtain ⟨⟨⟨a,b,c⟩,⟨m,u⟩⟩,hx⟩:∃x,l[k]=x:=⟨_,rfl⟩
   obtain ⟨g,off,rfl,hbl,c0,c1,c2,c3,c4⟩:=fq (HR.out.below (B'':=w.heap.size) hbw hB hB) hlt hx
   have hbl2:g<wr.heap.size:=Nat.lt_of_lt_of_le hbl hbw.size
   have hlti:(k:Int)<(l.length:Int):=by omega
   obtain ⟨_,k1,k2⟩:=wH a b c x y z
   obtain ⟨q,hq⟩:∃q,decide ((⟨a,b,c⟩:Pr)=⟨x,y,z⟩)=q:=⟨_,rfl⟩
   have HS:Hid ((bif q then ⟨m,u⟩ else aj (l.drop (k+1)) ⟨x,y,z⟩)=v):=Lib.hid (by have h:=HI.out;rw [db hlt hx] at h;rw [←hq];exact h)
   rw [hq] at k1
   clear hq hx hbl hbw
   cases q <;> (go_wp2_with fail;go_quiet (fail);go_wp2_with fail;first
    | (go_roundg (gk-1);(case measure=>omega);(case rel=>exact ⟨k+1,by go_num,by omega,by omega,HS,Lib.hid aw⟩))
    | (refine bodyPost_ret_by (v:=_) ?_ rfl ⟨rfl,by exact aw⟩;rw [jr rfl,←HS.out];go_simp;rfl))
  ·have HS:Hid (⟨0,0⟩=v):=Lib.hid (by have h:=HI.out;rw [dJ hlt] at h;exact h)
   clear hbw
   go_wp2_with fail
   refine bodyPost_ret_by (v:=_) ?_ rfl ⟨rfl,by exact aw⟩
   rw [jr rfl,←HS.out]
   go_simp
   rfl
def ie (l:List Ho):List Am:=l.map (·.am)
def dx (l:List Ho):List Pr:=l.map (·.proc)
theorem uP (A:Option Addr) (B cap:Nat) (l:List Ho) (w:World) (hm:l.length≤68719476736) (hB:B≤w.heap.size) (hr:RowsAt oM w (Lo B) A l) :
  Calls prog 250 #[.slice A l.length cap] w (fP I8 29 w (ie l)):=by
 have HR:=Lib.hid hr
 clear hr
 go_enter func250,ntmps250
 go_wp2_with fail
 go_loopg [3,4] l.length (fun m v3 v4 wq=>∃k:Nat,v4 = .int .i64 (k:Int)∧k≤l.length∧l.length≤k+m∧Hid (OwnRows I8 29 wq w.heap.size v3 (ie (l.take k)))∧Hid (Below w.heap.size w wq))
 case atStart=>exact ⟨0,rfl,Nat.zero_le _,by omega,Lib.hid (OwnRows.nil _ _ _ _ (Nat.le_refl _)),Lib.hid (Below.refl _ _)⟩
 case round =>
  obtain ⟨k,rfl,hk,hkm,HO,HB⟩:=hrel
  by_cases hlt:k<l.length
  ·obtain ⟨⟨⟨a,b,c⟩,⟨m,u⟩⟩,hx⟩:∃x,l[k]=x:=⟨_,rfl⟩
   obtain ⟨g,off,rfl,hbl,c0,c1,c2,c3,c4⟩:=fq (HR.out.below (B'':=w.heap.size) HB.out hB hB) hlt hx
   have hbl2:g<wr.heap.size:=Nat.lt_of_lt_of_le hbl HB.out.size
   have hlti:(k:Int)<(l.length:Int):=by omega
   have HE:Hid (ie (l.take k)++[⟨m,u⟩]=ie (l.take (k+1))):=Lib.hid (by unfold ie;rw [List.take_add_one,List.map_append,List.getElem?_eq_getElem hlt,hx];rfl)
   have HL:Hid ((ie (l.take k)).length=k):=Lib.hid (by simp [ie];omega)
   clear hx hbl
   go_wp2_with (at_builtin;refine dd L6 rfl (.tmp 11) (.tmp 17) rfl wr w.heap.size u3 _ ⟨m,u⟩ [.int .i64 m,.int .i64 u] _ rfl rfl HO.out wr.heap.size rfl rfl rfl (by rw [HL.out];unfold maxLen;omega) (by rw [HL.out];omega) ?_;intro v7 w7 hown7 hb7 hsp7;have HB7:Hid (Below w.heap.size w w7):=Lib.hid (HB.out.trans hb7);have HO7:=Lib.hid hown7;clear hown7 hb7 hsp7)
   rw [HE.out] at HO7
   go_roundg (gk-1)
   case measure=>omega
   case rel=>exact ⟨k+1,by go_num,by omega,by omega,HO7,HB7⟩
  ·have HE:Hid (ie (l.take k)=ie l):=Lib.hid (by rw [List.take_of_length_le (by omega)])
   rw [HE.out] at HO
   go_wp2_with fail
   go_ret
   exact ⟨_,rfl,HO.out,HB.out⟩
def aR (a:Am):Bool:=cn a.mode && decide (a.units=0) || decide (a.mode=0) && decide (1≤a.units) && decide (a.units≤8)
def qN (x:Wt):Bool:=fo x.proc && aR x.am && decide (0≤x.prio) && decide (x.prio≤7) && decide (0≤x.passed) && decide (x.passed≤3)
def fQ (p:Pr):Nat→List Wt→Int
 | _,[]=>-1
 | k,x :: l=>bif decide (x.proc=p) then (k:Int) else fQ p (k+1) l
def cq (l:List Wt) (p:Pr):Int:=fQ p 0 l
def uQ (all:List Wt):Nat→List Wt→Bool
 | _,[]=>true
 | k,x :: l=>qN x && decide (cq all x.proc=(k:Int)) && uQ all (k+1) l
def gj (l:List Wt):Bool:=decide (l.length≤8) && uQ l 0 l
theorem tK (all:List Wt) (k:Nat) (x:Wt) (l:List Wt):uQ all k (x :: l)=(qN x && decide (cq all x.proc=(k:Int)) && uQ all (k+1) l):=rfl
theorem fd (p:Pr) (k:Nat) (x:Wt) (l:List Wt):fQ p k (x :: l)=bif decide (x.proc=p) then (k:Int) else fQ p (k+1) l:=rfl
theorem js (m u:Int) (w:World):Calls prog 38 #[.agg #[.int .i64 m,.int .i64 u]] w (gV w (.bool (aR ⟨m,u⟩))):=by
 have HM:=Lib.hid (fun W=>fu m W)
 go_enter func38,ntmps38
 go_wp2_with fail
 repeat' (first
  | (go_at_call 84;refine (HM.out _).mono ?_;rintro e wa1 ⟨rfl,hwa1⟩;obtain rfl:=hwa1.symm;clear hwa1;go_wp2_with fail)
  | (go_ret;refine ⟨ax ?_,by exact aw⟩;(first|(simp_all [aR];done)|(simp_all [aR];omega)|(rw [Bool.eq_iff_iff];simp_all [aR];done)|(rw [Bool.eq_iff_iff];simp_all [aR];omega))))
theorem kx (a b c m u pr pa:Int) (w:World):Calls prog 251 #[.agg #[.int .i64 a,.int .i64 b,.int .i64 c,.int .i64 m,.int .i64 u,.int .i64 pr,.int .i64 pa]] w (gV w (.bool (qN ⟨⟨a,b,c⟩,⟨m,u⟩,pr,pa⟩))):=by
 have HV:=Lib.hid (fun W=>jp ⟨a,b,c⟩ W)
 have HU:=Lib.hid (fun W=>js m u W)
 go_enter func251,ntmps251
 go_wp2_with fail
 repeat' (first
  | (go_at_call 29;refine (HV.out _).mono ?_;rintro e wa1 ⟨rfl,hb_wa1⟩;obtain ⟨hc_wa1,hf_wa1⟩:=bh hb_wa1;have hs_wa1:=hb_wa1.size;(try simp at hs_wa1);have hz_wa1_w_0:w.heap.size<wa1.heap.size:=(by omega);clear hs_wa1;have HB_wa1:=Lib.hid hb_wa1;clear hb_wa1;go_wp2_with fail)
  | (go_at_call 38;refine (HU.out _).mono ?_;rintro e wa2 ⟨rfl,hb_wa2⟩;obtain ⟨hc_wa2,hf_wa2⟩:=bh hb_wa2;have hs_wa2:=hb_wa2.size;(try simp at hs_wa2);have hz_wa2_w_0:w.heap.size<wa2.heap.size:=(by omega);clear hs_wa2;have HB_wa2:=Lib.hid hb_wa2;clear hb_wa2;go_wp2_with fail)
  | (go_ret;refine ⟨ax ?_,by exact aw⟩;(first|(simp_all [qN];done)|(simp_all [qN];omega)|(rw [Bool.eq_iff_iff];simp_all [qN];done)|(rw [Bool.eq_iff_iff];simp_all [qN];omega))))
theorem wK (m u:Int):aR ⟨m,u⟩=(aC ⟨⟨#[]⟩,1,1,0⟩ ⟨m,u⟩ || aC ⟨⟨#[]⟩,2,8,0⟩ ⟨m,u⟩):=by
 unfold aR aC be
 simp
theorem ig (A:Option Addr) (B cap:Nat) (l:List Wt) (x y z:Int) (w:World) (hm:l.length≤maxLen) (hB:B≤w.heap.size) (hr:RowsAt nv w (Lo B) A l) :
  Calls prog 218 #[.slice A l.length cap,.agg #[.int .i64 x,.int .i64 y,.int .i64 z]] w (gV w (.int .i64 (cq l ⟨x,y,z⟩))):=by
 unfold maxLen at hm
 have HR:=Lib.hid hr
 clear hr
 obtain ⟨v,hv⟩:∃v,cq l ⟨x,y,z⟩=v:=⟨_,rfl⟩
 rw [hv]
 have HV:Hid (fQ ⟨x,y,z⟩ 0 (l.drop 0)=v):=Lib.hid hv
 clear hv
 go_enter func218,ntmps218
 go_wp2_with fail
 go_loopg [5] l.length (fun m0 v5 wq=>∃k:Nat,v5 = .int .i64 (k:Int)∧k≤l.length∧l.length≤k+m0∧Hid (fQ ⟨x,y,z⟩ k (l.drop k)=v)∧Hid (Below (w.alloc (.cells #[.int .i64 x,.int .i64 y,.int .i64 z] 23)).heap.size (w.alloc (.cells #[.int .i64 x,.int .i64 y,.int .i64 z] 23)) wq))
 case atStart=>exact ⟨0,rfl,Nat.zero_le _,by omega,HV,Lib.hid (Below.refl _ _)⟩
 case round =>
  obtain ⟨k,rfl,hk,hkm,HI,HB⟩:=hrel
  have hb:=HB.out
  have hbw:Below w.heap.size w wr:=by exact aw
  obtain ⟨hc_wr,hf_wr⟩:=bh hb
  have hs_wr:=hb.size
  (try simp at hs_wr)
  have hz_wr_0:w.heap.size<wr.heap.size:=(by omega)
  clear hs_wr
  clear hb
  by_cases hlt:k<l.length
  ·obtain ⟨⟨⟨a,b,c⟩,⟨m,u⟩,pr,pa⟩,hx⟩:∃x,l[k]=x:=⟨_,rfl⟩
   obtain ⟨g,off,rfl,hbl,c0,c1,c2,c3,c4,c5,c6⟩:=dC (HR.out.below (B'':=w.heap.size) hbw hB hB) hlt hx
   have hbl2:g<wr.heap.size:=Nat.lt_of_lt_of_le hbl hbw.size
   have hlti:(k:Int)<(l.length:Int):=by omega
   obtain ⟨_,k1,k2⟩:=wH a b c x y z
   obtain ⟨q,hq⟩:∃q,decide ((⟨a,b,c⟩:Pr)=⟨x,y,z⟩)=q:=⟨_,rfl⟩
   have HS:Hid ((bif q then (k:Int) else fQ ⟨x,y,z⟩ (k+1) (l.drop (k+1)))=v):=Lib.hid (by have h:=HI.out;rw [db hlt hx,fd] at h;rw [←hq];exact h)
   rw [hq] at k1
   clear hq hx hbl hbw
   cases q <;> (go_wp2_with fail;go_quiet (fail);go_wp2_with fail;first
    | (go_roundg (gk-1);(case measure=>omega);(case rel=>exact ⟨k+1,by go_num,by omega,by omega,Lib.hid HS.out,Lib.hid aw⟩))
    | (go_ret;exact ⟨fp (show (k:Int)=v from HS.out),by exact aw⟩))
  ·have HS:Hid (-1=v):=Lib.hid (by have h:=HI.out;rw [dJ hlt] at h;exact h)
   clear hbw
   go_wp2_with fail
   go_ret
   exact ⟨fp HS.out,by exact aw⟩
theorem pS (A:Option Addr) (B cap:Nat) (l:List Wt) (w:World) (hm:l.length≤maxLen) (hB:B≤w.heap.size) (hr:RowsAt nv w (Lo B) A l) :
  Calls prog 240 #[.slice A l.length cap] w (gV w (.bool (gj l))):=by
 have HF:=Lib.hid (fun x y z W (hb:Below w.heap.size w W)=>ig A B cap l x y z W hm (Nat.le_trans hB hb.size) (hr.below hb hB (Nat.le_refl _)))
 have HW:=Lib.hid (fun a b c m u pr pa W=>kx a b c m u pr pa W)
 unfold maxLen at hm
 have HR:=Lib.hid hr
 clear hr
 obtain ⟨q,hq⟩:∃q,gj l=q:=⟨_,rfl⟩
 rw [hq]
 by_cases h8:l.length≤8
 ·have h8i:¬(8:Int)<(l.length:Int):=by omega
  have HQ:Hid (uQ l 0 (l.drop 0)=q):=Lib.hid (by rw [←hq];unfold gj;rw [decide_eq_true h8];rfl)
  clear hq
  go_enter func240,ntmps240
  go_wp2_with fail
  go_loopg [3] l.length (fun m0 v3 wq=>∃k:Nat,v3 = .int .i64 (k:Int)∧k≤l.length∧l.length≤k+m0∧Hid (uQ l k (l.drop k)=q)∧Hid (Below w.heap.size w wq))
  case atStart=>exact ⟨0,rfl,Nat.zero_le _,by omega,HQ,Lib.hid (Below.refl _ _)⟩
  case round =>
   obtain ⟨k,rfl,hk,hkm,HI,HB⟩:=hrel
   by_cases hlt:k<l.length
   ·obtain ⟨⟨⟨a,b,c⟩,⟨m,u⟩,pr,pa⟩,hx⟩:∃x,l[k]=x:=⟨_,rfl⟩
    obtain ⟨g,off,rfl,hbl,c0,c1,c2,c3,c4,c5,c6⟩:=dC (HR.out.below (B'':=w.heap.size) HB.out hB hB) hlt hx
    have hbl2:g<wr.heap.size:=Nat.lt_of_lt_of_le hbl HB.out.size
    have hlti:(k:Int)<(l.length:Int):=by omega
    have HS:Hid ((qN ⟨⟨a,b,c⟩,⟨m,u⟩,pr,pa⟩ && decide (cq l ⟨a,b,c⟩=(k:Int)) && uQ l (k+1) (l.drop (k+1)))=q):=Lib.hid (by have h:=HI.out;rw [db hlt hx,tK] at h;exact h)
    have HW1:=Lib.hid (fun W=>HW.out a b c m u pr pa W)
    have HF1:=Lib.hid (fun W hb=>HF.out a b c W hb)
    obtain ⟨p1,hp1⟩:∃p,qN ⟨⟨a,b,c⟩,⟨m,u⟩,pr,pa⟩=p:=⟨_,rfl⟩
    obtain ⟨n,hn⟩:∃n,cq l ⟨a,b,c⟩=n:=⟨_,rfl⟩
    rw [hp1] at HW1 HS
    rw [hn] at HF1 HS
    clear hp1 hn hx hbl
    go_wp2_with fail
    repeat' (first
     | (go_at_call 251;refine (HW1.out _).mono ?_;rintro e wa1 ⟨rfl,hb_wa1⟩;obtain ⟨hc_wa1,hf_wa1⟩:=bh hb_wa1;have hs_wa1:=hb_wa1.size;(try simp at hs_wa1);clear hs_wa1;have HB_wa1:=Lib.hid hb_wa1;clear hb_wa1;go_wp2_with fail)
     | (go_at_call 218;refine (HF1.out _ aw).mono ?_;rintro e wa2 ⟨rfl,hb_wa2⟩;obtain ⟨hc_wa2,hf_wa2⟩:=bh hb_wa2;have hs_wa2:=hb_wa2.size;(try simp at hs_wa2);clear hs_wa2;have HB_wa2:=Lib.hid hb_wa2;clear hb_wa2;go_wp2_with fail)
     | (go_ret;exact ⟨ax (by rw [←HS.out];simp_all),by exact aw⟩)
     | (go_roundg (gk-1);(case measure=>omega);(case rel=>exact ⟨k+1,by go_num,by omega,by omega,Lib.hid (by have h1:=HS.out;simp_all),Lib.hid aw⟩)))
   ·have HS:Hid (true=q):=Lib.hid (by have h:=HI.out;rw [dJ hlt] at h;exact h)
    have hlti:¬(k:Int)<(l.length:Int):=by omega
    go_wp2_with fail
    go_ret
    exact ⟨ax HS.out,by exact aw⟩
 ·have h8i:(8:Int)<(l.length:Int):=by omega
  have HQ:Hid (false=q):=Lib.hid (by rw [←hq];unfold gj;rw [decide_eq_false h8];rfl)
  clear hq
  go_enter func240,ntmps240
  go_wp2_with fail
  go_ret
  exact ⟨ax HQ.out,by exact aw⟩
def mx (a:Am) (l:List Am):Bool:=l.any fun b=>!aF a && !aF b && !mJ a.mode b.mode
def dW (r:Rs):Int→List Am→List Am→Bool
 | _,_,[]=>true
 | s,pre,a :: l=>bK r a && (if r.kind=2 then decide (s+a.units≤r.units) && dW r (s+a.units) (pre++[a]) l else !mx a pre && dW r s (pre++[a]) l)
theorem pT (r:Rs) (s:Int) (pre:List Am) (a:Am) (l:List Am):dW r s pre (a :: l)=(bK r a && (if r.kind=2 then decide (s+a.units≤r.units) && dW r (s+a.units) (pre++[a]) l else !mx a pre && dW r s (pre++[a]) l)):=rfl
def ii (r:Rs) (l:List Am):Bool:=be r && dW r 0 [] l
theorem cw {r:Rs} (h:be r=true):r.kind=1∧r.units=1∨r.kind=2∧1≤r.units∧r.units≤8:=by
 unfold be at h
 simp at h
 omega
theorem Df {r:Rs} {a:Am} (hp:bK r a=true) (hk:r.kind=1):a.units=0∧(a.mode=0∨cn a.mode=true):=by
 unfold bK aF aC at hp
 simp only [hk,if_true,Bool.and_eq_true,Bool.or_eq_true,decide_eq_true_eq] at hp
 rcases hp.2 with h|h
 ·rw [h];exact ⟨rfl,Or.inl rfl⟩
 ·exact ⟨h.2.2,Or.inr h.2.1⟩
theorem wL {r:Rs} {a:Am} (hp:bK r a=true) (hk:r.kind≠1):a.mode=0∧0≤a.units∧a.units≤8:=by
 have hs:be r=true:=by unfold bK at hp;simp at hp;exact hp.1
 have:=cw hs
 unfold bK aF aC at hp
 simp only [hk,if_false,Bool.and_eq_true,Bool.or_eq_true,decide_eq_true_eq] at hp
 rcases hp.2 with h|h
 ·rw [h];simp
 ·omega
theorem oU (a b:Int):mJ a b=mJ b a:=by
 unfold mJ
 rw [Bool.eq_iff_iff]
 simp only [Bool.and_eq_true,Bool.or_eq_true,Bool.not_eq_true',decide_eq_true_eq,decide_eq_false_iff_not]
 constructor <;> (rintro ⟨⟨⟨⟨h1,h2⟩,h3⟩,h4⟩,h5⟩;refine ⟨⟨⟨⟨h2,h1⟩,h4⟩,h3⟩,?_⟩;omega)
def tL (pre:List Am) (m:Int):Bool:=decide (m≠0) && pre.any fun b=>decide (b.mode=m)
def sv (pre:List Am):Array Value:=#[.bool (tL pre 0),.bool (tL pre 1),.bool (tL pre 2),.bool (tL pre 3),.bool (tL pre 4),.bool (tL pre 5)]
def mK (r:Rs):Option Pr→List Ho→Bool
 | _,[]=>true
 | p,x :: l=>fo x.proc && aC r x.am && (match p with|none=>true|some p=>decide (dw p x.proc<0)) && mK r (some x.proc) l
def tf (r:Rs) (l:List Ho):Bool:=be r && decide (l.length≤8) && mK r none l && ii r (ie l)
theorem BK (r:Rs) (p:Option Pr) (x:Ho) (l:List Ho):mK r p (x :: l)=(fo x.proc && aC r x.am && (match p with|none=>true|some p=>decide (dw p x.proc<0)) && mK r (some x.proc) l):=rfl
def ky (l:List Ho) (k:Nat):Option Pr:=if k=0 then none else (l[k-1]?).map (·.proc)
theorem zb (l:List Ho):ky l 0=none:=rfl
theorem zc {l:List Ho} {k:Nat} {x:Ho} (h:k<l.length) (hx:l[k]=x):ky l (k+1)=some x.proc:=by
 unfold ky
 rw [if_neg (by omega),Nat.add_sub_cancel,List.getElem?_eq_getElem h,hx]
 rfl
theorem BL {l:List Ho} {k:Nat} {x:Ho} (h0:0<k) (h:k-1<l.length) (hx:l[k-1]=x):ky l k=some x.proc:=by
 unfold ky
 rw [if_neg (by omega),List.getElem?_eq_getElem h,hx]
 rfl
theorem qO (r:Rs) (A:Option Addr) (B cap:Nat) (l:List Am) (w:World) (hm:l.length≤maxLen) (hB:B≤w.heap.size) (hr:RowsAt I8 w (Lo B) A l) :
  Calls prog 249 #[r.val,.slice A l.length cap] w (gV w (.bool (ii r l))):=by
 unfold maxLen at hm
 have HR:=Lib.hid hr
 clear hr
 have HS:=Lib.hid (fun W=>gi r W)
 have HP:=Lib.hid (fun m u W=>fv r m u W)
 have HZ:=Lib.hid (fun m u W=>gW m u W)
 have HM:=Lib.hid (fun a b W=>mr a b W)
 obtain ⟨q,hq⟩:∃q,ii r l=q:=⟨_,rfl⟩
 rw [hq]
 have HQ0:=Lib.hid hq
 clear hq
 cases hs:be r with
 | false =>
  have HQ:Hid (q=false):=Lib.hid (by rw [←HQ0.out];unfold ii;rw [hs];rfl)
  rw [hs] at HS
  clear hs
  obtain ⟨nm,kd,un,h⟩:=r
  unfold Rs.val at *
  go_enter func249,ntmps249
  go_wp2_with fail
  repeat' (first
   | (go_at_call 182;refine (HS.out _).mono ?_;rintro e wa1 ⟨rfl,hb_wa1⟩;obtain ⟨hc_wa1,hf_wa1⟩:=bh hb_wa1;have hs_wa1:=hb_wa1.size;(try simp at hs_wa1);have hz_wa1_w_0:w.heap.size<wa1.heap.size:=(by omega);clear hs_wa1;have HB_wa1:=Lib.hid hb_wa1;clear hb_wa1;go_wp2_with fail)
   | (go_ret;exact ⟨ax HQ.out.symm,by exact aw⟩))
 | true =>
  have HQ:Hid (dW r 0 [] l=q):=Lib.hid (by have h:=HQ0.out;unfold ii at h;rw [hs] at h;exact h)
  rw [hs] at HS
  have HSH:=Lib.hid hs
  have hu:0≤r.units∧r.units≤8:=by have:=cw hs;omega
  have hkd:r.kind=1∨r.kind=2:=by have:=cw hs;omega
  clear hs HQ0
  obtain ⟨nm,kd,un,h⟩:=r
  unfold Rs.val at *
  dsimp only at hu hkd
  go_enter func249,ntmps249
  go_wp2_with fail
  refine (HS.out _).mono ?_
  rintro e w1 ⟨rfl,hb1⟩
  have HB1:=Lib.hid hb1
  have HK1:Hid (Blk w1 w.heap.size 159 #[.string nm,.int .i64 kd,.int .i64 un,.int .i64 h]):=Lib.hid ((Blk.new w 159 #[.string nm,.int .i64 kd,.int .i64 un,.int .i64 h]).below hb1 (by simp))
  clear hb1
  go_wp2_with fail
  go_loopg [5,6] l.length (fun m v5 v6 wq=>∃(k:Nat) (s:Int),v5 = .int .i64 s∧v6 = .int .i64 (k:Int)∧k≤l.length∧l.length≤k+m∧0≤s∧s≤un∧Hid (dW ⟨nm,kd,un,h⟩ s (l.take k) (l.drop k)=q)∧Hid (Below w.heap.size w wq)∧Hid (Blk wq w.heap.size 159 #[.string nm,.int .i64 kd,.int .i64 un,.int .i64 h]))
  case atStart=>exact ⟨0,0,rfl,rfl,Nat.zero_le _,by omega,by omega,by omega,HQ,Lib.hid aw,HK1⟩
  case round =>
   obtain ⟨k,s,rfl,rfl,hk,hkm,hs0,hsu,HI,HB,HK⟩:=hrel
   by_cases hlt:k<l.length
   ·obtain ⟨⟨m,u⟩,hx⟩:∃x,l[k]=x:=⟨_,rfl⟩
    obtain ⟨g,off,rfl,hbl,c0,c1⟩:=ny (HR.out.below (B'':=w.heap.size) HB.out hB hB) hlt hx
    have hgw:g<w.heap.size:=hbl
    have hbl2:g<wr.heap.size:=Nat.lt_of_lt_of_le hbl HB.out.size
    have hlti:(k:Int)<(l.length:Int):=by omega
    have HTK:Hid (l.take (k+1)=l.take k++[⟨m,u⟩]):=Lib.hid (by rw [List.take_add_one,List.getElem?_eq_getElem hlt,hx];rfl)
    have HST:Hid ((bK ⟨nm,kd,un,h⟩ ⟨m,u⟩ && (if kd=2 then decide (s+u≤un) && dW ⟨nm,kd,un,h⟩ (s+u) (l.take (k+1)) (l.drop (k+1)) else !mx ⟨m,u⟩ (l.take k) && dW ⟨nm,kd,un,h⟩ s (l.take (k+1)) (l.drop (k+1))))=q):=Lib.hid (by
     have h1:=HI.out
     rw [db hlt hx,pT] at h1
     rw [HTK.out]
     exact h1)
    have HX:=Lib.hid hx
    have z0:=HK.out.cellx 0 (v:=.string nm) rfl
    have z1:=HK.out.cellx 1 (v:=.int .i64 kd) rfl
    have z2:=HK.out.cellx 2 (v:=.int .i64 un) rfl
    have z3:=HK.out.cellx 3 (v:=.int .i64 h) rfl
    have g0:=Ext.cell c0
    have g1:=Ext.cell c1
    have g2:=Ext.cell z0
    have g3:=Ext.cell z1
    have g4:=Ext.cell z2
    have g5:=Ext.cell z3
    clear hx hbl c0 c1 z0 z1 z2 z3
    cases hp:bK ⟨nm,kd,un,h⟩ ⟨m,u⟩ with
    | false =>
     have HQF:Hid (q=false):=Lib.hid (by rw [←HST.out,hp];rfl)
     have HPF:Hid (∀W,Calls prog 244 #[.agg #[.string nm,.int .i64 kd,.int .i64 un,.int .i64 h],.agg #[.int .i64 m,.int .i64 u]] W (gV W (.bool false))):=Lib.hid (fun W=>hp▸HP.out m u W)
     clear hp
     go_wp2_with fail
     refine aM (by kernel_rfl) (by kernel_rfl) ?_;(repeat (go_big_quiet_step ((go_at_call 244;exact Ext.call _ (HPF.out _)))));refine wpQuiet_nil ?_;rintro w2 ⟨n2,rfl⟩;have hb2:=n2.below;generalize n2.w=w2 at hb2 ⊢;clear n2
     have HB2:=Lib.hid hb2
     clear hb2
     go_wp2_with fail
     go_ret
     exact ⟨ax HQF.out.symm,by exact aw⟩
    | true =>
     have HPT:Hid (∀W,Calls prog 244 #[.agg #[.string nm,.int .i64 kd,.int .i64 un,.int .i64 h],.agg #[.int .i64 m,.int .i64 u]] W (gV W (.bool true))):=Lib.hid (fun W=>hp▸HP.out m u W)
     have HP1:Hid (bK ⟨nm,kd,un,h⟩ ⟨m,u⟩=true):=Lib.hid hp
     have hub:0≤u∧u≤8:=by
      by_cases hk1:kd=1
      ·have:=(Df hp hk1).1;dsimp only at this;omega
      ·have:=wL hp hk1;dsimp only at this;omega
     have hwr:IntKind.i64.wrap (s+u)=s+u:=IntWalk.i64_in _ (by omega)
     clear hp
     go_wp2_with fail
     refine aM (by kernel_rfl) (by kernel_rfl) ?_;(repeat (go_big_quiet_step ((go_at_call 244;exact Ext.call _ (HPT.out _)))));refine wpQuiet_nil ?_;rintro w2 ⟨n2,rfl⟩;have hb2:=n2.below;generalize n2.w=w2 at hb2 ⊢;clear n2
     have HB2:Hid (Below w.heap.size w w2):=Lib.hid (HB.out.trans (hb2.mono HB.out.size))
     have HK2:Hid (Blk w2 w.heap.size 159 #[.string nm,.int .i64 kd,.int .i64 un,.int .i64 h]):=Lib.hid (HK.out.below hb2 HK.out.lt)
     have z1:=HK2.out.cellx 1 (v:=.int .i64 kd) rfl
     have z2:=HK2.out.cellx 2 (v:=.int .i64 un) rfl
     have hz:w.heap.size<w2.heap.size:=HK2.out.lt
     have hgw2:g<w2.heap.size:=Nat.lt_of_lt_of_le hgw HB2.out.size
     obtain ⟨_,_,hA,_,c0,c1⟩:=ny (HR.out.below (B'':=w.heap.size) HB2.out hB hB) hlt HX.out
     injection hA with hA
     injection hA with e1 e2
     subst e1
     subst e2
     clear hb2 g0 g1 g2 g3 g4 g5
     by_cases hk2:kd=2
     ·have hkb:(kd == 2)=true:=by simp [hk2]
      have HC:Hid ((decide (s+u≤un) && dW ⟨nm,kd,un,h⟩ (s+u) (l.take (k+1)) (l.drop (k+1)))=q):=Lib.hid (by have h1:=HST.out;rw [HP1.out,if_pos hk2] at h1;simpa using h1)
      clear hk2 hkd
      by_cases hfit:s+u≤un
      ·have hfi:¬(un<s+u):=by omega
       have HN:Hid (dW ⟨nm,kd,un,h⟩ (s+u) (l.take (k+1)) (l.drop (k+1))=q):=Lib.hid (by rw [←HC.out,decide_eq_true hfit];rfl)
       go_wp2_with fail
       go_roundg (gk-1)
       case measure=>omega
       case rel=>exact ⟨k+1,s+u,by go_num,by go_num,by omega,by omega,by omega,by omega,HN,HB2,HK2⟩
      ·have hfi:un<s+u:=by omega
       have HQF:Hid (q=false):=Lib.hid (by rw [←HC.out,decide_eq_false hfit];rfl)
       go_wp2_with fail
       go_ret
       exact ⟨ax HQF.out.symm,HB2.out⟩
     ·have hkb:(kd == 2)=false:=by simp [hk2]
      have HC:Hid ((!mx ⟨m,u⟩ (l.take k) && dW ⟨nm,kd,un,h⟩ s (l.take (k+1)) (l.drop (k+1)))=q):=Lib.hid (by have h1:=HST.out;rw [HP1.out,if_neg hk2] at h1;simpa using h1)
      clear hk2 hkd hwr
      obtain ⟨G,hG⟩:∃G,G=gk:=⟨_,rfl⟩
      subst hG
      obtain ⟨wo,hwo⟩:∃x,x=wr:=⟨_,rfl⟩
      subst hwo
      go_wp2_with fail
      go_loopg [7] k (fun m' v7 wq=>∃j:Nat,v7 = .int .i64 (j:Int)∧j≤k∧k≤j+m'∧Hid (Below w2.heap.size w2 wq)∧Hid (∀i (hi:i<l.length),i<j→(!aF ⟨m,u⟩ && !aF l[i] && !mJ m l[i].mode)=false))
      case atStart=>exact ⟨0,rfl,by omega,by omega,Lib.hid (Below.refl _ _),Lib.hid (fun _ _ h=>absurd h (by omega))⟩
      case round =>
       obtain ⟨j,rfl,hjk,hjm,HW,HJ⟩:=hrel
       have HBW:Hid (Below w.heap.size w wr):=Lib.hid aw
       by_cases hj:j<k
       ·obtain ⟨⟨m',u'⟩,hy⟩:∃x,l[j]'(by omega)=x:=⟨_,rfl⟩
        obtain ⟨_,_,hA,_,d0,d1⟩:=ny (HR.out.below (B'':=w.heap.size) HBW.out hB hB) hlt HX.out
        injection hA with hA
        injection hA with e1 e2
        subst e1
        subst e2
        obtain ⟨_,_,hA,_,d2,d3⟩:=ny (HR.out.below (B'':=w.heap.size) HBW.out hB hB) (show j<l.length by omega) hy
        injection hA with hA
        injection hA with e1 e2
        subst e1
        subst e2
        have hji:(j:Int)<(k:Int):=by omega
        have hjl:(j:Int)<(l.length:Int):=by omega
        have hgw3:g<wr.heap.size:=Nat.lt_of_lt_of_le hgw HBW.out.size
        have g0:=Ext.cell d0
        have g1:=Ext.cell d1
        have g2:=Ext.cell d2
        have g3:=Ext.cell d3
        obtain ⟨p1,hp1⟩:∃p,aF ⟨m,u⟩=p:=⟨_,rfl⟩
        obtain ⟨p2,hp2⟩:∃p,aF ⟨m',u'⟩=p:=⟨_,rfl⟩
        obtain ⟨p3,hp3⟩:∃p,mJ m m'=p:=⟨_,rfl⟩
        have H1:Hid (∀W,Calls prog 37 #[.agg #[.int .i64 m,.int .i64 u]] W (gV W (.bool p1))):=Lib.hid (fun W=>hp1▸HZ.out m u W)
        have H2:Hid (∀W,Calls prog 37 #[.agg #[.int .i64 m',.int .i64 u']] W (gV W (.bool p2))):=Lib.hid (fun W=>hp2▸HZ.out m' u' W)
        have H3:Hid (∀W,Calls prog 252 #[.int .i64 m,.int .i64 m'] W (mq W (.bool p3))):=Lib.hid (fun W=>hp3▸HM.out m m' W)
        have HY:Hid ((!aF ⟨m,u⟩ && !aF (l[j]'(by omega)) && !mJ m (l[j]'(by omega)).mode)=(!p1 && !p2 && !p3)):=Lib.hid (by rw [hy,hp1,hp2,hp3])
        have HCL:Hid ((!p1 && !p2 && !p3)=true→q=false):=Lib.hid (fun hc=>by
         have h1:mx ⟨m,u⟩ (l.take k)=true:=by
          unfold mx
          rw [List.any_eq_true]
          refine ⟨l[j]'(by omega),?_,by rw [HY.out];exact hc⟩
          rw [List.mem_take_iff_getElem]
          exact ⟨j,by omega,rfl⟩
         rw [←HC.out,h1];rfl)
        have HNX:Hid ((!p1 && !p2 && !p3)=false→∀i (hi:i<l.length),i<j+1→(!aF ⟨m,u⟩ && !aF l[i] && !mJ m l[i].mode)=false):=Lib.hid (fun hc i hi h2=>by
         rcases Nat.lt_or_ge i j with h1|h1
         ·exact HJ.out i hi h1
         ·obtain rfl:i=j:=by omega
          rw [HY.out];exact hc)
        clear hp1 hp2 hp3 hy d0 d1 d2 d3 c0 c1
        cases p1 <;> cases p2 <;> cases p3
        all_goals
         go_wp2_with fail
         refine aM (by kernel_rfl) (by kernel_rfl) ?_;(repeat (go_big_quiet_step ((first|(go_at_call 37;first|with_reducible exact Ext.call _ (H1.out _)|with_reducible exact Ext.call _ (H2.out _))|(go_at_call 252;exact Ext.call_same _ (H3.out _))))));refine wpQuiet_nil ?_;rintro w2 ⟨n2,rfl⟩;have hb2:=n2.below;generalize n2.w=w2 at hb2 ⊢;clear n2
         have HB3:=Lib.hid hb2
         clear hb2
         go_wp2_with fail
         first
          | (go_ret;exact ⟨ax (HCL.out rfl).symm,by exact aw⟩)
          | (go_roundg (gk-1);(case measure=>omega);(case rel=>exact ⟨j+1,by go_num,by omega,by omega,Lib.hid (Below.tr HW.out HB3.out),Lib.hid (HNX.out rfl)⟩))
       ·have hji:¬(j:Int)<(k:Int):=by omega
        have HN:Hid (dW ⟨nm,kd,un,h⟩ s (l.take (k+1)) (l.drop (k+1))=q):=Lib.hid (by
         have h1:mx ⟨m,u⟩ (l.take k)=false:=by
          unfold mx
          rw [List.any_eq_false]
          intro b hb
          rw [List.mem_take_iff_getElem] at hb
          obtain ⟨i,hi,rfl⟩:=hb
          rw [HJ.out i (by omega) (by omega)]
          simp
         rw [←HC.out,h1];rfl)
        go_wp2_with fail
        go_roundg (G-1)
        case measure=>omega
        case rel=>exact ⟨k+1,s,rfl,by go_num,by omega,by omega,by omega,by omega,HN,HBW,Lib.hid (HK2.out.below HW.out HK2.out.lt)⟩
   ·have HQT:Hid (q=true):=Lib.hid (by have h1:=HI.out;rw [dJ hlt] at h1;exact h1.symm)
    have hlti:¬(k:Int)<(l.length:Int):=by omega
    go_wp2_with fail
    go_ret
    exact ⟨ax HQT.out.symm,by exact aw⟩
theorem jt (p q:Pr) (w:World):Calls prog 115 #[p.val,q.val] w (gV w (.int .i64 (dw p q))):=by
 obtain ⟨a,b,c⟩:=p
 obtain ⟨x,y,z⟩:=q
 unfold Pr.val dw
 dsimp only
 obtain ⟨r1,h1⟩:∃r,nl a x=r:=⟨_,rfl⟩
 obtain ⟨r2,h2⟩:∃r,nl b y=r:=⟨_,rfl⟩
 obtain ⟨r3,h3⟩:∃r,nl c z=r:=⟨_,rfl⟩
 rw [h1,h2,h3]
 obtain ⟨r,hr⟩:∃r,(if r1≠0 then r1 else if r2≠0 then r2 else r3)=r:=⟨_,rfl⟩
 rw [hr]
 have HR:=Lib.hid hr
 have G1:Hid (∀W:World,Calls prog 158 #[.int .i64 a,.int .i64 x] W (mq W (.int .i64 r1))):=Lib.hid (fun W=>by have:=oR a x W;rw [h1] at this;exact this)
 have G2:Hid (∀W:World,Calls prog 158 #[.int .i64 b,.int .i64 y] W (mq W (.int .i64 r2))):=Lib.hid (fun W=>by have:=oR b y W;rw [h2] at this;exact this)
 have G3:Hid (∀W:World,Calls prog 158 #[.int .i64 c,.int .i64 z] W (mq W (.int .i64 r3))):=Lib.hid (fun W=>by have:=oR c z W;rw [h3] at this;exact this)
 clear hr h1 h2 h3
 go_enter func115,ntmps115
 go_wp2_with fail
 refine (G1.out _).mono ?_
 rintro e w' ⟨rfl,rfl⟩
 go_wp2_with fail
 rotate_left
 refine (G2.out _).mono ?_
 rintro e w' ⟨rfl,rfl⟩
 go_wp2_with fail
 rotate_left
 refine (G3.out _).mono ?_
 rintro e w' ⟨rfl,rfl⟩
 go_wp2_with fail
 all_goals go_ret
 all_goals refine ⟨fp ?_,((Below.refl _ _).alloc (Nat.le_refl _) _).alloc (by simp) _⟩
 all_goals rw [←HR.out]
 all_goals (clear HR G1 G2 G3;simp_all)
theorem kz (r:Rs) (A:Option Addr) (B cap:Nat) (l:List Ho) (w:World) (hm:l.length≤maxLen) (hB:B≤w.heap.size) (hr:RowsAt oM w (Lo B) A l) :
  Calls prog 239 #[r.val,.slice A l.length cap] w (gV w (.bool (tf r l))):=by
 unfold maxLen at hm
 have HR:=Lib.hid hr
 clear hr
 have HS:=Lib.hid (fun W=>gi r W)
 have HF:=Lib.hid (fun m u W=>i8 r m u W)
 have HV:=Lib.hid (fun p W=>jp p W)
 have HC:=Lib.hid (fun p q W=>jt p q W)
 have HAM:=Lib.hid (fun A B cap l W hm hB hr=>uP A B cap l W hm hB hr)
 have HCM:=Lib.hid (fun A B cap l W hm hB hr=>qO r A B cap l W hm hB hr)
 obtain ⟨q,hq⟩:∃q,tf r l=q:=⟨_,rfl⟩
 rw [hq]
 have HQ0:=Lib.hid hq
 clear hq
 by_cases hs:be r=true∧l.length≤8
 ·obtain ⟨hs,h8⟩:=hs
  have h8i:¬(8:Int)<(l.length:Int):=by omega
  have HQ:Hid ((mK r none l && ii r (ie l))=q):=Lib.hid (by have h:=HQ0.out;unfold tf at h;rw [hs,decide_eq_true h8] at h;exact h)
  rw [hs] at HS
  clear hs HQ0
  obtain ⟨nm,kd,un,h⟩:=r
  unfold Rs.val Pr.val at *
  go_enter func239,ntmps239
  go_wp2_with fail
  refine (HS.out _).mono ?_
  rintro e w1 ⟨rfl,hb1⟩
  have HB1:=Lib.hid hb1
  have HBW1:Hid (Below w.heap.size w w1):=Lib.hid aw
  have HK1:Hid (Blk w1 w.heap.size 159 #[.string nm,.int .i64 kd,.int .i64 un,.int .i64 h]):=Lib.hid ((Blk.new w 159 #[.string nm,.int .i64 kd,.int .i64 un,.int .i64 h]).below hb1 (by simp))
  clear hb1
  go_wp2_with fail
  go_loopg [5] l.length (fun m v5 wq=>∃k:Nat,v5 = .int .i64 (k:Int)∧k≤l.length∧l.length≤k+m∧Hid ((mK ⟨nm,kd,un,h⟩ (ky l k) (l.drop k) && ii ⟨nm,kd,un,h⟩ (ie l))=q)∧Hid (Below w1.heap.size w1 wq))
  case atStart=>exact ⟨0,rfl,Nat.zero_le _,by omega,HQ,Lib.hid (Below.refl _ _)⟩
  case round =>
   obtain ⟨k,rfl,hk,hkm,HI,HBL⟩:=hrel
   have HBW:Hid (Below w.heap.size w wr):=Lib.hid aw
   have HK:Hid (Blk wr w.heap.size 159 #[.string nm,.int .i64 kd,.int .i64 un,.int .i64 h]):=Lib.hid (HK1.out.below HBL.out HK1.out.lt)
   have g6:=Ext.cell (HK.out.cellx 0 (v:=.string nm) rfl)
   have g7:=Ext.cell (HK.out.cellx 1 (v:=.int .i64 kd) rfl)
   have g8:=Ext.cell (HK.out.cellx 2 (v:=.int .i64 un) rfl)
   have g9:=Ext.cell (HK.out.cellx 3 (v:=.int .i64 h) rfl)
   by_cases hlt:k<l.length
   ·obtain ⟨⟨⟨a,b,c⟩,⟨m,u⟩⟩,hx⟩:∃x,l[k]=x:=⟨_,rfl⟩
    obtain ⟨g,off,rfl,hbl,c0,c1,c2,c3,c4⟩:=fq (HR.out.below (B'':=w.heap.size) HBW.out hB hB) hlt hx
    have hbl2:g<wr.heap.size:=Nat.lt_of_lt_of_le hbl HBW.out.size
    have hlti:(k:Int)<(l.length:Int):=by omega
    have HST:Hid ((fo ⟨a,b,c⟩ && aC ⟨nm,kd,un,h⟩ ⟨m,u⟩ && (match ky l k with|none=>true|some p=>decide (dw p ⟨a,b,c⟩<0)) && mK ⟨nm,kd,un,h⟩ (ky l (k+1)) (l.drop (k+1)) && ii ⟨nm,kd,un,h⟩ (ie l))=q):=Lib.hid (by
     have h1:=HI.out
     rw [db hlt hx,BK] at h1
     rw [zc hlt hx]
     exact h1)
    have HX:=Lib.hid hx
    obtain ⟨p1,hp1⟩:∃p,fo ⟨a,b,c⟩=p:=⟨_,rfl⟩
    obtain ⟨p2,hp2⟩:∃p,aC ⟨nm,kd,un,h⟩ ⟨m,u⟩=p:=⟨_,rfl⟩
    have HV1:Hid (∀W,Calls prog 29 #[.agg #[.int .i64 a,.int .i64 b,.int .i64 c]] W (gV W (.bool p1))):=Lib.hid (fun W=>hp1▸HV.out ⟨a,b,c⟩ W)
    have HF1:Hid (∀W,Calls prog 172 #[.agg #[.string nm,.int .i64 kd,.int .i64 un,.int .i64 h],.agg #[.int .i64 m,.int .i64 u]] W (gV W (.bool p2))):=Lib.hid (fun W=>hp2▸HF.out m u W)
    rw [hp1,hp2] at HST
    have g0:=Ext.cell c0
    have g1:=Ext.cell c1
    have g2:=Ext.cell c2
    have g3:=Ext.cell c3
    have g4:=Ext.cell c4
    clear hp1 hp2 hx hbl c0 c1 c2 c3 c4
    rcases Nat.eq_zero_or_pos k with hk0|hk0
    ·have hd:decide ((0:Int)<(k:Int))=false:=decide_eq_false (by omega)
     have hd':decide (0<k)=false:=decide_eq_false (by omega)
     have HNX:Hid ((p1 && p2 && (mK ⟨nm,kd,un,h⟩ (ky l (k+1)) (l.drop (k+1)) && ii ⟨nm,kd,un,h⟩ (ie l)))=q):=Lib.hid (by have h1:=HST.out;rw [hk0,zb] at h1;rw [hk0];simpa [Bool.and_assoc] using h1)
     clear hk0
     cases p1 <;> cases p2
     all_goals
      go_wp2_with fail
      refine aM (by kernel_rfl) (by kernel_rfl) ?_;(repeat (go_big_quiet_step ((first|(go_at_call 29;exact Ext.call _ (HV1.out _))|(go_at_call 172;exact Ext.call _ (HF1.out _))))));refine wpQuiet_nil ?_;rintro w2 ⟨n2,rfl⟩;have hb2:=n2.below;generalize n2.w=w2 at hb2 ⊢;clear n2
      have HB3:=Lib.hid hb2
      clear hb2
      go_wp2_with fail
      first
       | (go_ret;exact ⟨ax (show false=q from HNX.out),by exact aw⟩)
       | (go_roundg (gk-1);(case measure=>omega);(case rel=>exact ⟨k+1,by go_num,by omega,by omega,Lib.hid HNX.out,Lib.hid (Below.tr HBL.out HB3.out)⟩))
    ·have hd:decide ((0:Int)<(k:Int))=true:=decide_eq_true (by omega)
     have hd':decide (0<k)=true:=decide_eq_true (by omega)
     have hki:IntKind.i64.wrap ((k:Int)-1)=((k-1:Nat):Int):=by rw [IntWalk.i64_in _ (by omega)];omega
     obtain ⟨⟨⟨a',b',c'⟩,⟨m',u'⟩⟩,hx'⟩:∃x,l[k-1]'(by omega)=x:=⟨_,rfl⟩
     obtain ⟨_,_,hA,_,d0,d1,d2,_,_⟩:=fq (HR.out.below (B'':=w.heap.size) HBW.out hB hB) (show k-1<l.length by omega) hx'
     injection hA with hA
     injection hA with e1 e2
     subst e1
     subst e2
     have g10:=Ext.cell d0
     have g11:=Ext.cell d1
     have g12:=Ext.cell d2
     have hkl:((k-1:Nat):Int)<(l.length:Int):=by omega
     obtain ⟨n,hn⟩:∃n,dw ⟨a',b',c'⟩ ⟨a,b,c⟩=n:=⟨_,rfl⟩
     have HC1:Hid (∀W,Calls prog 115 #[.agg #[.int .i64 a',.int .i64 b',.int .i64 c'],.agg #[.int .i64 a,.int .i64 b,.int .i64 c]] W (gV W (.int .i64 n))):=Lib.hid (fun W=>hn▸HC.out ⟨a',b',c'⟩ ⟨a,b,c⟩ W)
     have HN:Hid ((p1 && p2 && (decide (n<0) && (mK ⟨nm,kd,un,h⟩ (ky l (k+1)) (l.drop (k+1)) && ii ⟨nm,kd,un,h⟩ (ie l))))=q):=Lib.hid (by have h1:=HST.out;rw [BL hk0 (by omega) hx'] at h1;simp only [hn] at h1;simpa [Bool.and_assoc] using h1)
     clear hn hx' d0 d1 d2 HST
     by_cases hnn:n<0
     ·have hge:¬(0:Int)≤n:=by omega
      have hdd:decide ((0:Int)≤n)=false:=decide_eq_false (by omega)
      have HNX:Hid ((p1 && p2 && (mK ⟨nm,kd,un,h⟩ (ky l (k+1)) (l.drop (k+1)) && ii ⟨nm,kd,un,h⟩ (ie l)))=q):=Lib.hid (by have h1:=HN.out;rw [decide_eq_true hnn] at h1;exact h1)
      clear hnn HN
      cases p1 <;> cases p2
      all_goals
       go_wp2_with fail
       refine aM (by kernel_rfl) (by kernel_rfl) ?_;(repeat (go_big_quiet_step ((first|(go_at_call 29;exact Ext.call _ (HV1.out _))|(go_at_call 172;exact Ext.call _ (HF1.out _))|(go_at_call 115;exact Ext.call _ (HC1.out _))))));refine wpQuiet_nil ?_;rintro w2 ⟨n2,rfl⟩;have hb2:=n2.below;generalize n2.w=w2 at hb2 ⊢;clear n2
       have HB3:=Lib.hid hb2
       clear hb2
       go_wp2_with fail
       first
        | (go_ret;exact ⟨ax (show false=q from HNX.out),by exact aw⟩)
        | (go_roundg (gk-1);(case measure=>omega);(case rel=>exact ⟨k+1,by go_num,by omega,by omega,Lib.hid HNX.out,Lib.hid (Below.tr HBL.out HB3.out)⟩))
     ·have hge:(0:Int)≤n:=by omega
      have hdd:decide ((0:Int)≤n)=true:=decide_eq_true (by omega)
      have HQF:Hid (q=false):=Lib.hid (by have h1:=HN.out;rw [decide_eq_false hnn] at h1;rw [←h1];simp)
      clear hnn HN
      cases p1 <;> cases p2
      all_goals
       go_wp2_with fail
       refine aM (by kernel_rfl) (by kernel_rfl) ?_;(repeat (go_big_quiet_step ((first|(go_at_call 29;exact Ext.call _ (HV1.out _))|(go_at_call 172;exact Ext.call _ (HF1.out _))|(go_at_call 115;exact Ext.call _ (HC1.out _))))));refine wpQuiet_nil ?_;rintro w2 ⟨n2,rfl⟩;have hb2:=n2.below;generalize n2.w=w2 at hb2 ⊢;clear n2
       have HB3:=Lib.hid hb2
       clear hb2
       go_wp2_with fail
       go_ret
       exact ⟨ax HQF.out.symm,by exact aw⟩
   ·have HQT:Hid (ii ⟨nm,kd,un,h⟩ (ie l)=q):=Lib.hid (by have h1:=HI.out;rw [dJ hlt] at h1;exact h1)
    have HAL:Hid ((ie l).length≤maxLen):=Lib.hid (by simp [ie,maxLen];omega)
    rw [show Rs.mk nm kd un h=⟨nm,kd,un,h⟩ from rfl] at HQT
    have hlti:¬(k:Int)<(l.length:Int):=by omega
    clear g6 g7 g8 g9
    have HBD:Hid (Below w.heap.size w wr.drew):=Lib.hid HBW.out.drew
    have HRW:Hid (RowsAt oM wr.drew (Lo w.heap.size) A l):=Lib.hid (HR.out.below (B'':=w.heap.size) HBD.out hB hB)
    have HKD:Hid (Blk wr.drew w.heap.size 159 #[.string nm,.int .i64 kd,.int .i64 un,.int .i64 h]):=Lib.hid HK.out
    go_wp2_with fail
    go_region_held3 (fun w'=>w'.cell? ⟨w.heap.size,0,none⟩=some (.string nm)∧w'.cell? ⟨w.heap.size,1,none⟩=some (.int .i64 kd)∧w'.cell? ⟨w.heap.size,2,none⟩=some (.int .i64 un)∧w'.cell? ⟨w.heap.size,3,none⟩=some (.int .i64 h))
     (first
      | exact ⟨HKD.out.cellx 0 rfl,HKD.out.cellx 1 rfl,HKD.out.cellx 2 rfl,HKD.out.cellx 3 rfl⟩
      | exact hC3|exact hC2)
     ((first
      | (go_at_call 250;refine (HAM.out A w.heap.size cap l _ (by omega) HBD.out.size HRW.out).mono ?_;rintro e w2 ⟨v2,rfl,hown2,hb2⟩;obtain ⟨A2,c2,rfl,hr2,hl2,hl2'⟩:=hown2.form;have hK2:Blk w2 w.heap.size 159 #[.string nm,.int .i64 kd,.int .i64 un,.int .i64 h]:=HKD.out.below hb2 HKD.out.lt;have hB2:Below w.heap.size w w2:=Below.tr HBD.out hb2;have hC2:=And.intro (hK2.cellx 0 (v:=.string nm) rfl) (And.intro (hK2.cellx 1 (v:=.int .i64 kd) rfl) (And.intro (hK2.cellx 2 (v:=.int .i64 un) rfl) (hK2.cellx 3 (v:=.int .i64 h) rfl))))
      | (go_at_call 249;refine (HCM.out A2 w2.heap.size c2 (ie l) w2 HAL.out (Nat.le_refl _) hr2).mono ?_;rintro e w3 ⟨rfl,hb3⟩;have hB3:Below w.heap.size w w3:=Below.tr hB2 hb3;have hK3:=hK2.below hb3 hK2.lt;have hC3:=And.intro (hK3.cellx 0 (v:=.string nm) rfl) (And.intro (hK3.cellx 1 (v:=.int .i64 kd) rfl) (And.intro (hK3.cellx 2 (v:=.int .i64 un) rfl) (hK3.cellx 3 (v:=.int .i64 h) rfl))))))
    all_goals
     go_wp2
     go_ret
     exact ⟨ax HQT.out,hB3⟩
 ·have HQF:Hid (q=false):=Lib.hid (by
   rw [←HQ0.out]
   unfold tf
   cases hc:be r with
   | false=>rfl
   | true =>
    rw [decide_eq_false (fun h=>hs ⟨hc,h⟩)]
    rfl)
  have HNS:=Lib.hid hs
  clear hs HQ0
  by_cases h8:l.length≤8
  ·have hs:be r=false:=Bool.eq_false_iff.2 fun h=>HNS.out ⟨h,h8⟩
   rw [hs] at HS
   clear hs
   obtain ⟨nm,kd,un,h⟩:=r
   unfold Rs.val at *
   go_enter func239,ntmps239
   go_wp2_with fail
   repeat' (first
    | (go_at_call 182;refine (HS.out _).mono ?_;rintro e wa1 ⟨rfl,hb_wa1⟩;obtain ⟨hc_wa1,hf_wa1⟩:=bh hb_wa1;have hs_wa1:=hb_wa1.size;(try simp at hs_wa1);have hz_wa1_w_0:w.heap.size<wa1.heap.size:=(by omega);clear hs_wa1;have HB_wa1:=Lib.hid hb_wa1;clear hb_wa1;go_wp2_with fail)
    | (go_ret;exact ⟨ax HQF.out.symm,by exact aw⟩))
  ·have h8i:(8:Int)<(l.length:Int):=by omega
   obtain ⟨nm,kd,un,h⟩:=r
   unfold Rs.val at *
   go_enter func239,ntmps239
   go_wp2_with fail
   repeat' (first
    | (go_at_call 182;refine (HS.out _).mono ?_;rintro e wa1 ⟨rfl,hb_wa1⟩;obtain ⟨hc_wa1,hf_wa1⟩:=bh hb_wa1;have hs_wa1:=hb_wa1.size;(try simp at hs_wa1);have hz_wa1_w_0:w.heap.size<wa1.heap.size:=(by omega);clear hs_wa1;have HB_wa1:=Lib.hid hb_wa1;clear hb_wa1;go_wp2_with fail)
    | (go_ret;exact ⟨ax HQF.out.symm,by exact aw⟩))
end Go.Proofs.YtdaajdflefnjfaaGreat
