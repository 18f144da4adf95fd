/- Part 4 of 56 of the proof of both_hold (no condition). -/
import Derived.Test.YtcgpepnbohejfaaGreatDoorK02
import Derived.Test.YtcgpepnbohejfaaGreatDoorK03
import Derived.Sort.Walk0
import Derived.Laws.ResultCell
import Derived.Laws.NewBlocks
import Derived.Laws.IdiomCopy
import Derived.Laws.BitsAllLaws
import Derived.Deep.MidRow
import Derived.Laws.CopyRow
import Derived.Laws.MakeOwn
import Derived.Deep.RegionHeld3
set_option linter.unusedVariables false
set_option linter.unusedSimpArgs false
set_option maxRecDepth 100000
set_option maxHeartbeats 64000000
namespace Go.Proofs.YtcgpepnbohejfaaGreatDoor
open Go.RowKit Go.Proofs.Tryz
structure Rs where
 name:ByteArray
 kind:Int
 units:Int
 home:Int
deriving Inhabited
abbrev Ct:=List Rs
def Rs.key (r:Rs):Bs:=r.name.toList
def Rs.cells (r:Rs):List Value:=[.string r.name,.int .i64 r.kind,.int .i64 r.units,.int .i64 r.home]
def Rs.val (r:Rs):Value:=.agg #[.string r.name,.int .i64 r.kind,.int .i64 r.units,.int .i64 r.home]
def dS:El Rs:=El.plain 4 (by decide) Rs.cells (fun _=>rfl) (by intro x u hu;simp [Rs.cells] at hu;rcases hu with rfl|rfl|rfl|rfl <;> rfl)
theorem toList_inj {a b:ByteArray} (h:a.toList=b.toList):a=b:=by
 rw [ByteArray.toList_eq,ByteArray.toList_eq] at h;have h2:a.data=b.data:=Array.toList_inj.1 h;cases a
 cases b
 simpa using h2
def aU (r:Rs):Bool:=(decide (r.kind=1) && decide (r.units=1)) || (decide (r.kind=2) && decide (1≤r.units) && decide (r.units≤8))
def jQ (r:Rs):Bool:=cE r.key && aU r && decide (0≤r.home) && decide (r.home<4)
def Sorted (l:Ct):Prop:=∀i (h:i+1<l.length),l[i].key<l[i+1].key
theorem Sorted.lt {l:Ct} (h:Sorted l):∀j i (hj:j<l.length) (hi:i<j),l[i].key<l[j].key:=by
 intro j;induction j with
 | zero=>intro i _ hi;omega
 | succ j ih =>
  intro i hj hi;have h1:=h j hj;by_cases e:i=j
  ·subst e;exact h1
  ·exact List.lt_trans (ih i (by omega) (by omega)) h1
theorem ie (r:Rs) (w:World):Calls prog 109 #[r.val] w (rf w (.bool (aU r))):=by
 obtain ⟨nm,k,u,h⟩:=r;unfold Rs.val aU
 go_enter func109,ntmps109
 go_wp2
 all_goals go_ret
 all_goals refine ⟨aO ?_,(Below.refl _ _).alloc (Nat.le_refl _) _⟩
 all_goals (first|rfl|(simp_all;done)|(simp_all;omega)|(rw [Bool.eq_iff_iff];simp_all;done)|(rw [Bool.eq_iff_iff];simp_all;omega))
theorem tH (r:Rs) (w:World):Calls prog 74 #[r.val] w (rf w (.bool (jQ r))):=by
 have HS:=Lib.hid (fun w=>ie r w);have HN:=Lib.hid (fun w=>jX r.name w);unfold jQ Rs.key;obtain ⟨b1,hb1⟩:∃b,cE r.name.toList=b:=⟨_,rfl⟩;obtain ⟨b2,hb2⟩:∃b,aU r=b:=⟨_,rfl⟩;rw [hb1] at HN ⊢;rw [hb2] at HS ⊢;clear hb1 hb2;obtain ⟨nm,k,u,h⟩:=r;unfold Rs.val at HS ⊢
 go_enter func74,ntmps74
 go_wp2_with fail
 refine (HN.out _).mono ?_;rintro e w' ⟨rfl,hw'⟩;obtain rfl:=hw'.symm;cases b1 with
 | false =>
  go_wp2
  go_ret
  exact ⟨aO (by simp),(Below.refl _ _).alloc (Nat.le_refl _) _⟩
 | true =>
  go_wp2_with fail
  refine (HS.out _).mono ?_;rintro e w' ⟨rfl,hb⟩;have hbb:=((Below.refl w.heap.size w).alloc (Nat.le_refl _) _).trans (hb.mono (by simp));obtain ⟨hc,hz⟩:(∀b o,b<w.heap.size+1→w'.cell? ⟨b,o,none⟩=(w.alloc (.cells #[.string nm,.int .i64 k,.int .i64 u,.int .i64 h] 54)).cell? ⟨b,o,none⟩)∧w.heap.size+1≤w'.heap.size :=
   ⟨fun b o hlt=>hb.cell (p:=⟨b,o,none⟩) (by simpa using hlt),by simpa using hb.size⟩
  clear hb;go_wp2
  all_goals go_ret
  all_goals refine ⟨aO ?_,hbb⟩
  all_goals (clear hbb hc hz HS HN)
  all_goals (first|rfl|(simp_all;done)|(simp_all;omega)|(rw [Bool.eq_iff_iff];simp_all;done)|(rw [Bool.eq_iff_iff];simp_all;omega))
structure Am where
 mode:Int
 units:Int
deriving DecidableEq
def Am.cells (a:Am):List Value:=[.int .i64 a.mode,.int .i64 a.units]
def Am.val (a:Am):Value:=.agg #[.int .i64 a.mode,.int .i64 a.units]
def Am.zero:Am:=⟨0,0⟩
structure Tm where
 name:ByteArray
 am:Am
deriving DecidableEq
def Tm.cells (a:Tm):List Value:=[.string a.name,.int .i64 a.am.mode,.int .i64 a.am.units]
def Tm.val (a:Tm):Value:=.agg #[.string a.name,.int .i64 a.am.mode,.int .i64 a.am.units]
structure Ho where
 proc:Pr
 am:Am
deriving DecidableEq
def Ho.cells (a:Ho):List Value:=[.int .i64 a.proc.site,.int .i64 a.proc.inc,.int .i64 a.proc.num,.int .i64 a.am.mode,.int .i64 a.am.units]
structure Wt where
 proc:Pr
 am:Am
 prio:Int
 passed:Int
deriving DecidableEq
def Wt.cells (a:Wt):List Value:=[.int .i64 a.proc.site,.int .i64 a.proc.inc,.int .i64 a.proc.num,.int .i64 a.am.mode,.int .i64 a.am.units,.int .i64 a.prio,.int .i64 a.passed]
def zE:El Am:=El.plain 2 (by decide) Am.cells (fun _=>rfl) (by intro x u hu;simp [Am.cells] at hu;rcases hu with rfl|rfl <;> rfl)
def c7:El Tm:=El.plain 3 (by decide) Tm.cells (fun _=>rfl) (by intro x u hu;simp [Tm.cells] at hu;rcases hu with rfl|rfl|rfl <;> rfl)
def jR:El Ho:=El.plain 5 (by decide) Ho.cells (fun _=>rfl) (by intro x u hu;simp [Ho.cells] at hu;rcases hu with rfl|rfl|rfl|rfl|rfl <;> rfl)
def fJ:El Wt:=El.plain 7 (by decide) Wt.cells (fun _=>rfl) (by intro x u hu;simp [Wt.cells] at hu;rcases hu with rfl|rfl|rfl|rfl|rfl|rfl|rfl <;> rfl)
section
variable {w:World} {S:Nat→Prop} {A:Option Addr} {i:Nat}
theorem Bb {l:List Am} {m u:Int} (h:RowsAt zE w S A l) (hi:i<l.length) (hx:l[i]=⟨m,u⟩) :
  ∃k off,A=some ⟨k,off,none⟩∧S k∧w.cell? ⟨k,off+i*2,none⟩=some (.int .i64 m)∧w.cell? ⟨k,off+i*2+1,none⟩=some (.int .i64 u):=by
 obtain ⟨k,off,cs,hA,hS,hc,hd⟩:=h.getx hi hx;obtain rfl:cs=[.int .i64 m,.int .i64 u]:=hc;exact ⟨k,off,hA,hS,hd 0 (show 0<2 by decide),hd 1 (show 1<2 by decide)⟩
theorem Bc {l:List Tm} {n:ByteArray} {m u:Int} (h:RowsAt c7 w S A l) (hi:i<l.length) (hx:l[i]=⟨n,⟨m,u⟩⟩) :
  ∃k off,A=some ⟨k,off,none⟩∧S k∧w.cell? ⟨k,off+i*3,none⟩=some (.string n)∧w.cell? ⟨k,off+i*3+1,none⟩=some (.int .i64 m)∧w.cell? ⟨k,off+i*3+2,none⟩=some (.int .i64 u):=by
 obtain ⟨k,off,cs,hA,hS,hc,hd⟩:=h.getx hi hx;obtain rfl:cs=[.string n,.int .i64 m,.int .i64 u]:=hc;exact ⟨k,off,hA,hS,hd 0 (show 0<3 by decide),hd 1 (show 1<3 by decide),hd 2 (show 2<3 by decide)⟩
end
theorem IM:ElTB prog c7 99 44 32:=ElTB.mk' underlying99 (.agg #[.string { data:=#[] },.int .i64 0,.int .i64 0]) 3 32 (by kernel_rfl) rfl rfl
theorem IN:ElTB prog jR 55 98 40:=ElTB.mk' underlying55 (.agg #[.int .i64 0,.int .i64 0,.int .i64 0,.int .i64 0,.int .i64 0]) 5 40 (by kernel_rfl) rfl rfl
theorem FJ:ElTB prog fJ 56 211 56:=ElTB.mk' underlying56 (.agg #[.int .i64 0,.int .i64 0,.int .i64 0,.int .i64 0,.int .i64 0,.int .i64 0,.int .i64 0]) 7 56 (by kernel_rfl) rfl rfl
theorem DH (a b:Am) (w:World):(Op.equalIn 10000 42 a.val b.val).run prog w = .ok (decide (a=b)) w:=by
 have hS:prog.underlying 42=some (.struct (prog.fieldsOf 42)):=by kernel_rfl
 have hp:prog.stoodInHeld 42=false:=by kernel_rfl
 unfold Am.val;rw [show (10000:Nat)=9999+1 from rfl,run_equalIn_agg w 9999 42 _ _ hS hp];have u3:=underlying3;simp only [Program.fieldsOf,underlying42];go_simp
 obtain ⟨a1,a2⟩:=a;obtain ⟨b1,b2⟩:=b;by_cases h1:a1=b1 <;> by_cases h2:a2=b2 <;> simp [h1,h2]
theorem Hh (a b x y:Int):Cmps 42 #[.int .i64 a,.int .i64 b] #[.int .i64 x,.int .i64 y] (decide ((⟨a,b⟩:Am)=⟨x,y⟩)):=Cmps.mk' (DH ⟨a,b⟩ ⟨x,y⟩) (fun op a b xs ys w=>run_eqGuard_agg w op 42 a b xs ys (by kernel_rfl))
def bM (m:Int):Bool:=decide (1≤m) && decide (m≤5)
def cS (a b:Int):Bool:=bM a && bM b && (decide (a=b) || decide (a=5) || decide (b=1) || decide (a=4) && !decide (b=5))
def iX (a b:Int):Bool:=bM a && bM b && !decide (a=5) && !decide (b=5) && (decide (a=1) || decide (b=1) || decide (a=b) && !decide (a=4))
theorem cu {a:Int} (h:bM a=true):a=1∨a=2∨a=3∨a=4∨a=5:=by
 unfold bM at h;simp at h;omega
theorem dU (m:Int) (w:World):Calls prog 110 #[.int .i64 m] w (DF w (.bool (bM m))):=by
 go_enter func110,ntmps110
 go_wp2
 all_goals go_ret
 all_goals refine ⟨aO ?_,rfl⟩
 all_goals unfold bM
 all_goals (first|rfl|(simp_all;done)|(simp_all;omega)|(rw [Bool.eq_iff_iff];simp_all;done)|(rw [Bool.eq_iff_iff];simp_all;omega))
theorem tJ {fn:Func} {p:Tmp} {ty:TypeId} (h:fn.results = #[.cell p ty]) (tmps:Array Value) (P:Program) (w:World):(results fn tmps).run P w=((asAddr (tmps.getD p undef)).run P w).andThen fun a w₁=>(loadVar ty a).run P w₁:=by
 simp only [results,h];simp [Sem.run_bind,Result.andThen]
def FK (m:Int):Value:=.agg #[.bool false,.bool (bM m),.bool (decide (m=5) || decide (m=4) || decide (m=2)),.bool (decide (m=5) || decide (m=4) || decide (m=3)),.bool (decide (m=5) || decide (m=4)),.bool (decide (m=5))]
theorem uV (m:Int) (hm:bM m=true) (w:World):Calls prog 146 #[.int .i64 m] w (rf w (FK m)):=by
 rcases cu hm with rfl|rfl|rfl|rfl|rfl;all_goals
  clear hm
  go_enter func146,ntmps146
  go_wp2
  (try simp only [Exit.inBlock,Exit.then])
  refine bodyPost_ret_by (v:=_) ?_ rfl ⟨rfl,by exact bO⟩;rw [tJ rfl];go_simp
  rfl
theorem zF {a b:Int} (ha:bM a=true) (hb:bM b=true) (w:World):(Instr.index 208 (FK a) (.int .i64 b)).run prog w = .ok (.bool (cS a b)) w:=by
 rcases cu ha with rfl|rfl|rfl|rfl|rfl <;> rcases cu hb with rfl|rfl|rfl|rfl|rfl <;> kernel_rfl
theorem ox (a b:Int) (w:World):Calls prog 99 #[.int .i64 a,.int .i64 b] w (rf w (.bool (cS a b))):=by
 have H:=Lib.hid (fun m W=>dU m W);have HI:=Lib.hid (fun ha hb W=>zF (a:=a) (b:=b) ha hb W);have HU:Hid ((bM a && bM b)=false→cS a b=false):=Lib.hid (fun h=>by unfold cS;rw [h];rfl);generalize cS a b=q at *
 go_enter func99,ntmps99
 go_wp2_with fail
 repeat' (first|(go_at_call 110;refine (H.out _ _).mono ?_;rintro e wa1 ⟨rfl,hwa1⟩;obtain rfl:=hwa1.symm;clear hwa1;go_wp2_with fail)|(go_at_call 146;refine (uV a (by assumption) _).mono ?_;rintro e w2 ⟨rfl,hb2⟩;have k:=HI.out (by assumption) (by assumption);generalize FK a=v at *;have HB2:=Lib.hid hb2;clear hb2;go_wp2_with fail)|(go_ret;refine ⟨aO ?_,by exact bO⟩;first|rfl|(rw [HU.out (by simp_all)])))
structure Tog (w:World):Prop where
 at_:∀i j:Nat,i<5→j<5→w.cell? ⟨1,i*5+j,none⟩=some (.bool (iX (i+1:Nat) (j+1:Nat)))
theorem Tog.below {w w':World} (h:Tog w) (hb:Below w.heap.size w w'):Tog w' where
 at_:=fun i j hi hj=>(hb.cell (p:=⟨1,i*5+j,none⟩) (World.block_lt_of_cell? w _ (h.at_ i j hi hj))).trans (h.at_ i j hi hj)
theorem ka (a b:Int) (w:World) (hT:Tog w):Calls prog 237 #[.int .i64 a,.int .i64 b] w (DF w (.bool (iX a b))):=by
 have H:=Lib.hid (fun m W=>dU m W);by_cases hab:bM a=true∧bM b=true
 ·obtain ⟨ha,hb⟩:=hab;obtain ⟨i,hi,ei⟩:∃i:Nat,i<5∧a=((i+1:Nat):Int):=⟨(a-1).toNat,by have:=cu ha;omega,by have:=cu ha;omega⟩;obtain ⟨j,hj,ej⟩:∃i:Nat,i<5∧b=((i+1:Nat):Int):=⟨(b-1).toNat,by have:=cu hb;omega,by have:=cu hb;omega⟩;have hc:=hT.at_ i j hi hj;rw [←ei,←ej] at hc;have w1:IntKind.i64.wrap (a-1)=(i:Int):=by rw [IntWalk.i64_in _ (by omega)];omega
  have w2:IntKind.i64.wrap (b-1)=(j:Int):=by rw [IntWalk.i64_in _ (by omega)];omega
  have H1:Hid (∀m W,m=a∨m=b→Calls prog 110 #[.int .i64 m] W (DF W (.bool true))):=Lib.hid (fun m W h=>by rcases h with rfl|rfl;exact ha▸dU _ W;exact hb▸dU _ W);generalize iX a b=q at *
  clear ha hb H hT ei ej
  go_enter func237,ntmps237
  go_wp2_with fail
  repeat' (first|(go_at_call 110;refine (H1.out _ _ (by simp)).mono ?_;rintro e wa1 ⟨rfl,hwa1⟩;obtain rfl:=hwa1.symm;clear hwa1;go_wp2_with fail)|(go_ret;exact ⟨aO rfl,rfl⟩))
 ·have HF:Hid (iX a b=false):=Lib.hid (by unfold iX;simp only [Bool.and_eq_false_imp];intros;simp_all);have HN:=Lib.hid hab;clear hab hT
  go_enter func237,ntmps237
  go_wp2_with fail
  repeat' (first|(go_at_call 110;refine (H.out _ _).mono ?_;rintro e wa1 ⟨rfl,hwa1⟩;obtain rfl:=hwa1.symm;clear hwa1;go_wp2_with fail)|(go_ret;first|exact ⟨aO HF.out.symm,rfl⟩|(exact absurd ⟨by assumption,by assumption⟩ HN.out))|(exact absurd ⟨by assumption,by assumption⟩ HN.out))
def aG (a:Am):Bool:=decide (a=⟨0,0⟩)
def aC (r:Rs) (a:Am):Bool:=aU r && (if r.kind=1 then bM a.mode && decide (a.units=0) else decide (a.mode=0) && decide (1≤a.units) && decide (a.units≤r.units))
def aX (r:Rs) (a:Am):Bool:=aU r && (aG a || aC r a)
def a8 (r:Rs) (a b:Am):Bool:=aX r a && aX r b && (aG b || !aG a && (if r.kind=1 then cS a.mode b.mode else decide (b.units≤a.units)))
theorem Bf (m u:Int) (w:World):Calls prog 98 #[.agg #[.int .i64 m,.int .i64 u]] w (rf w (.bool (aG ⟨m,u⟩))):=by
 obtain ⟨_,k1,k2⟩:=Hh m u 0 0
 go_enter func98,ntmps98
 go_wp2_with fail
 repeat' (first|(go_ret;refine ⟨aO ?_,by exact bO⟩;simp [aG]))
theorem Bg (r:Rs) (m n:Int) (w:World):Calls prog 67 #[r.val,.agg #[.int .i64 m,.int .i64 n]] w (rf w (.bool (aC r ⟨m,n⟩))):=by
 obtain ⟨nm,kd,u,h⟩:=r;have HS:=Lib.hid (fun W=>ie ⟨nm,kd,u,h⟩ W);have HM:=Lib.hid (fun W=>dU m W);unfold Rs.val
 go_enter func67,ntmps67
 go_wp2_with fail
 repeat' (first|(go_at_call 109;refine (HS.out _).mono ?_;rintro e wa1 ⟨rfl,hb_wa1⟩;obtain ⟨hc_wa1,hf_wa1⟩:=m4 hb_wa1;have hs_wa1:=hb_wa1.size;(try simp at hs_wa1);have hz_wa1_w_0:w.heap.size<wa1.heap.size:=(by omega);have hz_wa1_w_1:w.heap.size+1<wa1.heap.size:=(by omega);clear hs_wa1;have HB_wa1:=Lib.hid hb_wa1;clear hb_wa1;go_wp2_with fail)|(go_at_call 110;refine (HM.out _).mono ?_;rintro e wa2 ⟨rfl,hwa2⟩;obtain rfl:=hwa2.symm;clear hwa2;go_wp2_with fail)|(go_ret;refine ⟨aO ?_,by exact bO⟩;(first|(simp_all [aC];done)|(simp_all [aC];omega)|(rw [Bool.eq_iff_iff];simp_all [aC];done)|(rw [Bool.eq_iff_iff];simp_all [aC];omega))))
theorem rj (r:Rs) (m n:Int) (w:World):Calls prog 97 #[r.val,.agg #[.int .i64 m,.int .i64 n]] w (rf w (.bool (aX r ⟨m,n⟩))):=by
 obtain ⟨nm,kd,u,h⟩:=r;have HS:=Lib.hid (fun W=>ie ⟨nm,kd,u,h⟩ W);have HZ:=Lib.hid (fun W=>Bf m n W);have HM:=Lib.hid (fun W=>Bg ⟨nm,kd,u,h⟩ m n W);unfold Rs.val
 go_enter func97,ntmps97
 go_wp2_with fail
 repeat' (first|(go_at_call 109;refine (HS.out _).mono ?_;rintro e wa1 ⟨rfl,hb_wa1⟩;obtain ⟨hc_wa1,hf_wa1⟩:=m4 hb_wa1;have hs_wa1:=hb_wa1.size;(try simp at hs_wa1);have hz_wa1_w_0:w.heap.size<wa1.heap.size:=(by omega);have hz_wa1_w_1:w.heap.size+1<wa1.heap.size:=(by omega);clear hs_wa1;have HB_wa1:=Lib.hid hb_wa1;clear hb_wa1;go_wp2_with fail)|(go_at_call 98;refine (HZ.out _).mono ?_;rintro e wa2 ⟨rfl,hb_wa2⟩;obtain ⟨hc_wa2,hf_wa2⟩:=m4 hb_wa2;have hs_wa2:=hb_wa2.size;(try simp at hs_wa2);have hz_wa2_w_0:w.heap.size<wa2.heap.size:=(by omega);have hz_wa2_w_1:w.heap.size+1<wa2.heap.size:=(by omega);clear hs_wa2;have HB_wa2:=Lib.hid hb_wa2;clear hb_wa2;go_wp2_with fail)|(go_at_call 67;refine (HM.out _).mono ?_;rintro e wa3 ⟨rfl,hb_wa3⟩;obtain ⟨hc_wa3,hf_wa3⟩:=m4 hb_wa3;have hs_wa3:=hb_wa3.size;(try simp at hs_wa3);have hz_wa3_w_0:w.heap.size<wa3.heap.size:=(by omega);have hz_wa3_w_1:w.heap.size+1<wa3.heap.size:=(by omega);clear hs_wa3;have HB_wa3:=Lib.hid hb_wa3;clear hb_wa3;go_wp2_with fail)|(go_ret;refine ⟨aO ?_,by exact bO⟩;(first|(simp_all [aX];done)|(simp_all [aX];omega)|(rw [Bool.eq_iff_iff];simp_all [aX];done)|(rw [Bool.eq_iff_iff];simp_all [aX];omega))))
theorem jy {α:Type} {l:List α} {k:Nat} {x:α} (h:k<l.length) (hx:l[k]=x):l.drop k=x :: l.drop (k+1):=by rw [List.drop_eq_getElem_cons h,hx]
theorem oz {α:Type} {l:List α} {k:Nat} (h:¬k<l.length):l.drop k=[]:=List.drop_eq_nil_of_le (by omega)
def ao:List Ho→Pr→Am
 | [],_=>⟨0,0⟩
 | h :: l,p=>bif decide (h.proc=p) then h.am else ao l p
def gp (l:List Ho):List Am:=l.map (·.am)
def c8 (l:List Ho):List Pr:=l.map (·.proc)
def iF (a:Am) (l:List Am):Bool:=l.any fun b=>!aG a && !aG b && !iX a.mode b.mode
def dw (r:Rs):Int→List Am→List Am→Bool
 | _,_,[]=>true
 | s,pre,a :: l=>aX r a && (if r.kind=2 then decide (s+a.units≤r.units) && dw r (s+a.units) (pre++[a]) l else !iF a pre && dw r s (pre++[a]) l)
theorem iZ (r:Rs) (s:Int) (pre:List Am) (a:Am) (l:List Am):dw r s pre (a :: l)=(aX r a && (if r.kind=2 then decide (s+a.units≤r.units) && dw r (s+a.units) (pre++[a]) l else !iF a pre && dw r s (pre++[a]) l)):=rfl
def f0 (r:Rs) (l:List Am):Bool:=aU r && dw r 0 [] l
theorem bQ {r:Rs} (h:aU r=true):r.kind=1∧r.units=1∨r.kind=2∧1≤r.units∧r.units≤8:=by
 unfold aU at h;simp at h;omega
theorem gI {r:Rs} {a:Am} (hp:aX r a=true) (hk:r.kind=1):a.units=0∧(a.mode=0∨bM a.mode=true):=by
 unfold aX aG aC at hp;simp only [hk,if_true,Bool.and_eq_true,Bool.or_eq_true,decide_eq_true_eq] at hp;rcases hp.2 with h|h
 ·rw [h];exact ⟨rfl,Or.inl rfl⟩
 ·exact ⟨h.2.2,Or.inr h.2.1⟩
theorem i3 {r:Rs} {a:Am} (hp:aX r a=true) (hk:r.kind≠1):a.mode=0∧0≤a.units∧a.units≤8:=by
 have hs:aU r=true:=by unfold aX at hp;simp at hp;exact hp.1
 have:=bQ hs;unfold aX aG aC at hp;simp only [hk,if_false,Bool.and_eq_true,Bool.or_eq_true,decide_eq_true_eq] at hp;rcases hp.2 with h|h
 ·rw [h];simp
 ·omega
theorem gJ (a b:Int):iX a b=iX b a:=by
 unfold iX;rw [Bool.eq_iff_iff];simp only [Bool.and_eq_true,Bool.or_eq_true,Bool.not_eq_true',decide_eq_true_eq,decide_eq_false_iff_not];constructor <;> (rintro ⟨⟨⟨⟨h1,h2⟩,h3⟩,h4⟩,h5⟩;refine ⟨⟨⟨⟨h2,h1⟩,h4⟩,h3⟩,?_⟩;omega)
def dV (pre:List Am) (m:Int):Bool:=decide (m≠0) && pre.any fun b=>decide (b.mode=m)
def ig (pre:List Am) (a:Int):Bool:=(List.range 6).any fun m=>dV pre m && !iX m a
theorem sg (pre:List Am) (a:Am) (m:Int):dV (pre++[a]) m=(dV pre m || decide (m≠0) && decide (a.mode=m)):=by
 unfold dV;rw [List.any_append];cases decide (m≠0) <;> simp
theorem Bh {r:Rs} {a:Am} {pre:List Am} (hk:r.kind=1) (ha:aX r a=true) (hm:a.mode≠0) (hp:∀b∈pre,aX r b=true):iF a pre=ig pre a.mode:=by
 have hz:aG a=false:=by unfold aG;exact decide_eq_false fun e=>hm (by rw [e])
 rw [Bool.eq_iff_iff];unfold iF ig;simp only [List.any_eq_true,hz,Bool.not_false,Bool.true_and,Bool.and_eq_true,Bool.not_eq_true',List.mem_range];constructor
 ·rintro ⟨b,hb,h1,h2⟩;obtain ⟨h3,h4⟩:=gI (hp b hb) hk;have h5:b.mode≠0:=fun e=>by
   obtain ⟨bm,bu⟩:=b;simp only at e h3;subst e;subst h3;simp [aG] at h1
  have h6:=cu (h4.resolve_left h5);refine ⟨b.mode.toNat,by omega,?_,?_⟩
  ·rw [show ((b.mode.toNat:Nat):Int)=b.mode by omega];unfold dV;simp only [Bool.and_eq_true,decide_eq_true_eq,List.any_eq_true];exact ⟨h5,b,hb,rfl⟩
  ·rw [show ((b.mode.toNat:Nat):Int)=b.mode by omega,gJ];exact h2
 ·rintro ⟨m,hm6,h1,h2⟩;unfold dV at h1;simp only [Bool.and_eq_true,decide_eq_true_eq,List.any_eq_true] at h1;obtain ⟨h3,b,hb,h4⟩:=h1;refine ⟨b,hb,?_,by rw [h4,gJ];exact h2⟩;unfold aG;exact decide_eq_false fun e=>h3 (by rw [←h4,e])
theorem xa {r:Rs} {a:Am} {pre:List Am} (hk:r.kind=1) (ha:aX r a=true) (hm:a.mode=0):iF a pre=false:=by
 have h:=(gI ha hk).1;have hz:aG a=true:=by
  obtain ⟨m,u⟩:=a;simp only at hm h;subst hm;subst h;rfl
 unfold iF;simp [hz]
theorem zI {r:Rs} {s:Int} {pre:List Am} {a:Am} {l:List Am} (hs:aU r=true) (hp:∀b∈pre,aX r b=true) (h0:0≤s∧s≤r.units) (h1:r.kind=1→s=0) :
  dw r s pre (a :: l)=(aX r a && decide (s+a.units≤r.units) && (decide (a.mode=0) || !ig pre a.mode) && dw r (s+a.units) (pre++[a]) l):=by
 have hk:=bQ hs;rw [iZ];cases ha:aX r a with
 | false=>rfl
 | true =>
  rcases hk with ⟨k1,k2⟩|⟨k1,k2,k3⟩
  ·have hu:=(gI ha k1).1;rw [hu,h1 k1,k2,if_neg (by omega)];by_cases hm:a.mode=0
   ·rw [xa k1 ha hm];simp [hm]
   ·rw [Bh k1 ha hm hp];simp [hm]
  ·have hm:=i3 ha (by omega);rw [if_pos k1];simp [hm.1]
def eB (l:List Ho) (p:Pr):List Ho:=l.filter fun h=>!decide (h.proc=p)
def lj (x:Ho):List Ho→List Ho
 | []=>[x]
 | h :: l=>bif decide (0<bC h.proc x.proc) then x :: h :: l else h :: lj x l
def cm (l:List Ho) (p:Pr) (a:Am):List Ho:=bif aG a then eB l p else lj ⟨p,a⟩ (eB l p)
theorem ml (h:Ho) (l:List Ho) (p:Pr):eB (h :: l) p=bif decide (h.proc=p) then eB l p else h :: eB l p:=by
 unfold eB;rw [List.filter_cons];cases decide (h.proc=p) <;> rfl
theorem gK (x h:Ho) (l:List Ho):lj x (h :: l)=bif decide (0<bC h.proc x.proc) then x :: h :: l else h :: lj x l:=rfl
section
variable {α:Type} {E:El α} {w w':World} {l ys:List α} {base:Nat} {e:TypeId} {g cap:Nat}
theorem fS {P:Program} (w:World) (t ty e:TypeId) (k:Nat) (b o dLen dCap:Nat) (a:Addr) (sLen sCap:Nat) (cs:List Value)
  (hu:P.underlying t=some (.slice e)) (hs:(P.info? e).map (·.size)=some k) (hn:cs.length=Nat.min sLen dLen*k)
  (hsrc:∀j v,cs[j]? = some v→w.cell? (a.add j)=some v) (hc:∀j,j<cs.length→(w.cell? ⟨b,o+j,none⟩).isSome=true) (hf:∀j,j<cs.length→w.frozen? ⟨b,o+j,none⟩=false) (h1:∀v∈cs,v.oneCell'=true) :
  (Builtin.copy_ #[t,t] ty #[.slice (some ⟨b,o,none⟩) dLen dCap,.slice (some a) sLen sCap]).run P w = .ok (goInt (Nat.min sLen dLen)) (w.setCells b o cs):=by
 have hl:=run_loadCells_list (P:=P) w a cs hsrc;have hst:=run_storeCells_cells (P:=P) b o cs 0 w (by simpa using hc) (by simpa using hf) h1;cases hq:P.info? e with
 | none=>simp [hq] at hs
 | some i =>
  have hi:i.size=k:=by simpa [hq] using hs
  simp [Builtin.copy_,run_underlying hu,Builtin.lenOf,Builtin.firstCells,sizeOf,typeInfo,hq,hi,←hn,hl,hst]
theorem i5 {P:Program} (w:World) (t ty e:TypeId) (k:Nat) (d a:Option Addr) (dLen dCap sLen sCap:Nat) (hu:P.underlying t=some (.slice e)) (hs:(P.info? e).map (·.size)=some k) (hn:Nat.min sLen dLen=0) :
  (Builtin.copy_ #[t,t] ty #[.slice d dLen dCap,.slice a sLen sCap]).run P w = .ok (goInt 0) w:=by
 cases hq:P.info? e with
 | none=>simp [hq] at hs
 | some i =>
  have hl:∀(x:Addr),(loadCells x 0).run P w = .ok #[] w:=fun x=>by simpa using run_loadCells_list (P:=P) w x [] (by simp)
  cases d <;> cases a <;> simp [Builtin.copy_,run_underlying hu,Builtin.lenOf,Builtin.firstCells,sizeOf,typeInfo,hq,hn,storeCells,hl]
end
theorem rn (A:Option Addr) (cap:Nat) (l:List Pr) (w:World) (hm:l.length≤68719476736) (hr:RowsAt jx w (Lo w.heap.size) A l) :
  Calls prog 71 #[.slice A l.length cap] w (tF jx 40 w (gL l)):=by
 have HR:Hid (RowsAt jx w (Ba w (.slice none 0 0)) A l):=Lib.hid (hr.same (fun b hb=>rfl) fun b hb=>⟨hb,fun e=>by cases e⟩);have HN:Hid (OwnRows jx 40 w w.heap.size (.slice none 0 0) []):=Lib.hid (OwnRows.nil _ _ _ _ (Nat.le_refl _));have HL:Hid (gL l=Lib.compact (l.mergeSort fun x y=>!decide (bC y x<0))):=Lib.hid rfl;rw [HL.out];have HM:=Lib.hid hm;clear hr hm HL
 go_enter func71,ntmps71
 go_wp2_with (at_builtin;refine wY IL rfl (.const (.slice none 0 0)) (.tmp 4) rfl _ w.heap.size _ [] l l.length rfl A cap rfl HN.out rfl HR.out (by have:=HM.out;simp [maxLen];omega) (by have:=HM.out;simp;omega) ?_;intro v1 w1 hown1 hb1 _;rw [List.nil_append] at hown1;have HOWN1:=Lib.hid hown1;have HB1:=Lib.hid hb1;clear hown1 hb1)
 refine (tL _ HOWN1.out HB1.out (by have:=HM.out;omega)).mono ?_;rintro e w2 ⟨rfl,hown2,hb2⟩;have HOWN2:=Lib.hid hown2;have HB2:=Lib.hid hb2;clear hown2 hb2;go_wp2_with fail
 refine (vf _ HOWN2.out HB2.out (by rw [List.length_mergeSort];have:=HM.out;omega)).mono ?_;rintro e w3 ⟨v3,rfl,hown3,hb3⟩;have HOWN3:=Lib.hid hown3;have HB3:=Lib.hid hb3;clear hown3 hb3;go_wp2_with fail
 go_ret
 exact ⟨_,rfl,HOWN3.out,HB3.out⟩
section
inductive Ex where
 | mk (k:Int) (atom:Tm) (kids:List Ex)
namespace Ex
def k:Ex→Int | .mk k _ _=>k
def atom:Ex→Tm | .mk _ a _=>a
def kids:Ex→List Ex | .mk _ _ l=>l
theorem ind {P:Ex→Prop} (h:∀k a l,(∀x∈l,P x)→P (.mk k a l)):∀x,P x:=by
 intro x;refine Ex.rec (motive_1:=P) (motive_2:=fun l=>∀x∈l,P x) h (fun x hx=>absurd hx (by simp)) (fun x l h1 h2 y hy=>?_) x;rcases List.mem_cons.1 hy with rfl|hy
 ·exact h1
 ·exact h2 _ hy
end Ex
def Ex.val (x:Ex) (A:Option Addr) (cap:Nat):Value:=.agg #[.int .i64 x.k,.string x.atom.name,.int .i64 x.atom.am.mode,.int .i64 x.atom.am.units,.slice A x.kids.length cap]
def Ex.zero:Ex:=.mk 0 ⟨⟨#[]⟩,Am.zero⟩ []
def mn:Nat→El Ex
 | 0=>{ n:=5,pos:=by decide,rep:=fun _ _ _ _=>False,len:=fun h=>h.elim,one:=fun h=>h.elim,same:=fun h _ _=>h.elim }
 | d+1=>{
  n:=5
  pos:=by decide
  rep:=fun w S x cs=>∃A cap,cs=[.int .i64 x.k,.string x.atom.name,.int .i64 x.atom.am.mode,.int .i64 x.atom.am.units,.slice A x.kids.length cap]∧x.kids.length≤cap∧cap≤maxLen∧RowsAt (mn d) w S A x.kids
  len:=fun h=>by obtain ⟨A,cap,rfl,_⟩:=h;rfl
  one:=fun h=>by obtain ⟨A,cap,rfl,_⟩:=h;intro u hu;simp at hu;rcases hu with rfl|rfl|rfl|rfl|rfl <;> rfl
  same:=fun h hk hS=>by
   obtain ⟨A,cap,e,h1,h2,h3⟩:=h;exact ⟨A,cap,e,h1,h2,h3.same hk hS⟩ }
section
variable {w:World} {S:Nat→Prop} {A:Option Addr} {i d:Nat}
theorem Br {l:List Ex} {k:Int} {n:ByteArray} {m u:Int} {ks:List Ex} (h:RowsAt (mn d) w S A l) (hi:i<l.length) (hx:l[i] = .mk k ⟨n,⟨m,u⟩⟩ ks) :
  ∃g off A' cap,A=some ⟨g,off,none⟩∧S g∧w.cell? ⟨g,off+i*5,none⟩=some (.int .i64 k)∧w.cell? ⟨g,off+i*5+1,none⟩=some (.string n)∧w.cell? ⟨g,off+i*5+2,none⟩=some (.int .i64 m)∧w.cell? ⟨g,off+i*5+3,none⟩=some (.int .i64 u)∧w.cell? ⟨g,off+i*5+4,none⟩=some (.slice A' ks.length cap)∧ks.length≤cap∧cap≤maxLen∧∃d',d=d'+1∧RowsAt (mn d') w S A' ks:=by
 cases d with
 | zero =>
  obtain ⟨g,off,cs,_,_,hc,_⟩:=h.getx hi hx;exact hc.elim
 | succ d' =>
  obtain ⟨g,off,cs,hA,hS,hc,hd⟩:=h.getx hi hx;obtain ⟨A',cap,rfl,h1,h2,h3⟩:=hc;exact ⟨g,off,A',cap,hA,hS,hd 0 (show 0<5 by decide),hd 1 (show 1<5 by decide),hd 2 (show 2<5 by decide),hd 3 (show 3<5 by decide),hd 4 (show 4<5 by decide),h1,h2,d',rfl,h3⟩
end
mutual
def Ex.cnt:Ex→Nat
 | .mk _ _ l=>1+gz l
def gz:List Ex→Nat
 | []=>0
 | x :: l=>x.cnt+gz l
end
mutual
def Ex.dep:Ex→Nat
 | .mk _ _ l=>1+ke l
def ke:List Ex→Nat
 | []=>0
 | x :: l=>max x.dep (ke l)
end
theorem Ex.dep_mk (k:Int) (a:Tm) (l:List Ex):(Ex.mk k a l).dep=1+ke l:=rfl
theorem Ex.cnt_mk (k:Int) (a:Tm) (l:List Ex):(Ex.mk k a l).cnt=1+gz l:=rfl
theorem sr (x:Ex) (l:List Ex):ke (x :: l)=max x.dep (ke l):=rfl
theorem eS (x:Ex) (l:List Ex):gz (x :: l)=x.cnt+gz l:=rfl
theorem Ex.dep_pos (x:Ex):0<x.dep:=by cases x;rw [Ex.dep_mk];omega
theorem Ex.cnt_pos (x:Ex):0<x.cnt:=by cases x;rw [Ex.cnt_mk];omega
theorem m7:∀l:List Ex,l.length≤gz l
 | []=>Nat.zero_le _
 | x :: l=>by have:=m7 l;have:=x.cnt_pos;rw [eS,List.length_cons];omega
def wW (x:Ex):Bool:=decide (x.dep≤4) && decide (x.cnt≤24)
mutual
def gM:Ex→Nat→Nat→Nat×Nat
 | .mk _ _ l,lev,n=>if 4<lev∨24<n+1 then (0,n+1) else jZ l lev (n+1) 0
def jZ:List Ex→Nat→Nat→Nat→Nat×Nat
 | [],_,n,d=>(d+1,n)
 | x :: l,lev,n,d=>if (gM x (lev+1) n).1=0 then (0,(gM x (lev+1) n).2) else jZ l lev (gM x (lev+1) n).2 (max d (gM x (lev+1) n).1)
end
theorem yr (k:Int) (a:Tm) (l:List Ex) (lev n:Nat):gM (.mk k a l) lev n=if 4<lev∨24<n+1 then (0,n+1) else jZ l lev (n+1) 0:=rfl
theorem zP (lev n d:Nat):jZ [] lev n d=(d+1,n):=rfl
theorem oG (x:Ex) (l:List Ex) (lev n d:Nat):jZ (x :: l) lev n d=if (gM x (lev+1) n).1=0 then (0,(gM x (lev+1) n).2) else jZ l lev (gM x (lev+1) n).2 (max d (gM x (lev+1) n).1):=rfl
theorem yt:∀(x:Ex) (lev n:Nat),(x.dep+lev≤5∧n+x.cnt≤24∧gM x lev n=(x.dep,n+x.cnt))∨(¬(x.dep+lev≤5∧n+x.cnt≤24)∧(gM x lev n).1=0∧((gM x lev n).2≤25∨(gM x lev n).2≤n+1)):=by
 refine Ex.ind (fun k a l ih=>?_);have hl:∀(m:List Ex) (lev n d:Nat),(∀x∈m,x∈l)→lev≤4→n≤24→(ke m+lev≤4∧n+gz m≤24∧jZ m lev n d=(max d (ke m)+1,n+gz m))∨(¬(ke m+lev≤4∧n+gz m≤24)∧(jZ m lev n d).1=0∧(jZ m lev n d).2≤25):=by
  intro m;induction m with
  | nil=>intro lev n d _ h1 h2;exact .inl ⟨by simpa [ke] using h1,by simpa [gz] using h2,by rw [zP];simp [ke,gz]⟩
  | cons x m ihm =>
   intro lev n d hm h1 h2;rw [oG,sr,eS];have hx0:=x.dep_pos;rcases ih x (hm x (by simp)) (lev+1) n with ⟨a1,a2,a3⟩|⟨a1,a2,a3⟩
   ·rw [a3];rw [if_neg (by show ¬x.dep=0;omega)];rcases ihm lev (n+x.cnt) (max d x.dep) (fun y hy=>hm y (by simp [hy])) h1 a2 with ⟨b1,b2,b3⟩|⟨b1,b2,b3⟩
    ·exact .inl ⟨by omega,by omega,by rw [b3];congr 1 <;> omega⟩
    ·exact .inr ⟨by omega,b2,b3⟩
   ·rw [if_pos a2];exact .inr ⟨by omega,rfl,by show (gM x (lev+1) n).2≤25;omega⟩
 intro lev n;rw [yr,Ex.dep_mk,Ex.cnt_mk];by_cases hc:4<lev∨24<n+1
 ·rw [if_pos hc];exact .inr ⟨by omega,rfl,.inr (Nat.le_refl _)⟩
 ·rw [if_neg hc];rcases hl l lev (n+1) 0 (fun _ h=>h) (by omega) (by omega) with ⟨b1,b2,b3⟩|⟨b1,b2,b3⟩
  ·exact .inl ⟨by omega,by omega,by rw [b3];congr 1 <;> omega⟩
  ·exact .inr ⟨by omega,b2,.inl b3⟩
theorem DJ (x:Ex):(gM x 1 0).1=if wW x then x.dep else 0:=by
 unfold wW;rcases yt x 1 0 with ⟨a1,a2,a3⟩|⟨a1,a2,_⟩
 ·rw [a3];simp;omega
 ·rw [a2,if_neg];simp;omega
mutual
def fd:Ex→Nat→Nat×Nat
 | .mk _ _ l,dp=>if 4<dp∨24<l.length then (25,0) else ij l dp 1 0
def ij:List Ex→Nat→Nat→Nat→Nat×Nat
 | [],_,n,d=>(n,d+1)
 | x :: l,dp,n,d=>if 24<n+(fd x (dp+1)).1 then (25,0) else ij l dp (n+(fd x (dp+1)).1) (if d<(fd x (dp+1)).2 then (fd x (dp+1)).2 else d)
end
theorem vh (k:Int) (a:Tm) (l:List Ex) (dp:Nat):fd (.mk k a l) dp=if 4<dp∨24<l.length then (25,0) else ij l dp 1 0:=rfl
theorem xi (dp n d:Nat):ij [] dp n d=(n,d+1):=rfl
theorem m8 (x:Ex) (l:List Ex) (dp n d:Nat):ij (x :: l) dp n d=if 24<n+(fd x (dp+1)).1 then (25,0) else ij l dp (n+(fd x (dp+1)).1) (if d<(fd x (dp+1)).2 then (fd x (dp+1)).2 else d):=rfl
theorem oH:∀(x:Ex) (dp:Nat),(x.dep+dp≤5∧x.cnt≤24∧fd x dp=(x.cnt,x.dep))∨(¬(x.dep+dp≤5∧x.cnt≤24)∧fd x dp=(25,0)):=by
 refine Ex.ind (fun k a l ih=>?_);have hl:∀(m:List Ex) (dp n d:Nat),(∀x∈m,x∈l)→dp≤4→n≤24→(ke m+dp≤4∧n+gz m≤24∧ij m dp n d=(n+gz m,max d (ke m)+1))∨(¬(ke m+dp≤4∧n+gz m≤24)∧ij m dp n d=(25,0)):=by
  intro m;induction m with
  | nil=>intro dp n d _ h1 h2;exact .inl ⟨by simpa [ke] using h1,by simpa [gz] using h2,by rw [xi];simp [ke,gz]⟩
  | cons x m ihm =>
   intro dp n d hm h1 h2;rw [m8,sr,eS];have hx0:=x.dep_pos;rcases ih x (hm x (by simp)) (dp+1) with ⟨a1,a2,a3⟩|⟨a1,a3⟩
   ·rw [a3];by_cases hn:24<n+x.cnt
    ·rw [if_pos hn];exact .inr ⟨by omega,rfl⟩
    ·rw [if_neg hn];rcases ihm dp (n+x.cnt) (if d<x.dep then x.dep else d) (fun y hy=>hm y (by simp [hy])) h1 (by omega) with ⟨b1,b2,b3⟩|⟨b1,b2⟩
     ·refine .inl ⟨by omega,by omega,?_⟩;rw [b3];congr 1
      ·omega
      ·split <;> omega
     ·exact .inr ⟨by omega,b2⟩
   ·rw [a3,if_pos (by show 24<n+25;omega)];exact .inr ⟨by omega,rfl⟩
 intro dp;rw [vh,Ex.dep_mk,Ex.cnt_mk];have hlen:=m7 l;by_cases hc:4<dp∨24<l.length
 ·rw [if_pos hc];exact .inr ⟨by omega,rfl⟩
 ·rw [if_neg hc];rcases hl l dp 1 0 (fun _ h=>h) (by omega) (by omega) with ⟨b1,b2,b3⟩|⟨b1,b3⟩
  ·exact .inl ⟨by omega,by omega,by rw [b3];congr 1;omega⟩
  ·exact .inr ⟨by omega,b3⟩
theorem Bt (x:Ex):(24<(fd x 1).1) = ¬wW x=true:=by
 unfold wW;rcases oH x 1 with ⟨a1,a2,a3⟩|⟨a1,a3⟩ <;> rw [a3] <;> simp <;> omega
end
structure But (g:Nat) (w w':World):Prop where
 os:w'.os=w.os
 tape:w'.tape=w.tape
 output:w'.output=w.output
 size:w.heap.size≤w'.heap.size
 block:∀k,k<w.heap.size→k≠g→w'.heap[k]? = w.heap[k]?
section
variable {g:Nat} {a b c w w':World}
end
section
variable {X:Nat→Prop} {a b c w w':World} {u v v':Value} {base:Nat}
end
section
variable {α:Type} {e:TypeId} {n:Nat} {pos:0<n} {f:α→List Value} {len:∀x,(f x).length=n} {one:∀x,∀u∈f x,u.oneCell'=true}
theorem Fi {w w':World} {S S':Nat→Prop}:∀{l:List α} {xs:List Value},Reps (El.plain n pos f len one) w S l xs→Reps (El.plain n pos f len one) w' S' l xs
 | [],_,h=>h
 | _ :: _,_,h=>by
  obtain ⟨cs,rest,rfl,h1,h2⟩:=h;exact ⟨cs,rest,rfl,h1,Fi h2⟩
end
def IP (base:Nat) (w:World) (b:Nat):Prop:=base≤b∧b<w.heap.size
section
variable {α:Type} {E:El α} {base:Nat} {w:World} {S:Nat→Prop} {e t:TypeId}
end
section
variable {α:Type} {e:TypeId} {n:Nat} {pos:0<n} {f:α→List Value} {len:∀x,(f x).length=n} {one:∀x,∀u∈f x,u.oneCell'=true}
theorem OwnRows.newP {w:World} {base:Nat} {v:Value} {l:List α} (h:OwnRows (El.plain n pos f len one) e w base v l):∃A cap,v = .slice A l.length cap∧RowsAt (El.plain n pos f len one) w (IP base w) A l∧l.length≤cap:=by
 rcases Nat.eq_zero_or_pos l.length with hl|hl
 ·obtain ⟨A,cap,hv,_,hc,_⟩:=h.form;obtain rfl:l=[]:=List.eq_nil_of_length_eq_zero hl;exact ⟨A,cap,hv,RowsAt.nil _ _ _ _,hc⟩
 ·obtain ⟨g,cap,hv,hg,hg2,hc,_,_,hr⟩:=h.addr hl;obtain ⟨xs,h1,h2⟩:=hr;refine ⟨_,cap,hv,⟨xs,Fi h1,fun hp=>?_⟩,hc⟩;obtain ⟨b,off,hA,_,hcells⟩:=h2 hp;injection hA with hA;injection hA with e1 e2;subst e1;subst e2;exact ⟨_,_,rfl,⟨hg,hg2⟩,hcells⟩
end
def All2 {α:Type _} {β:Type _} (R:α→β→Prop):List α→List β→Prop
 | [],[]=>True
 | a :: l,b :: m=>R a b∧All2 R l m
 | _,_=>False
section
variable {α:Type _} {β:Type _} {R R':α→β→Prop}
theorem All2.length:∀{l:List α} {m:List β},All2 R l m→l.length=m.length
 | [],[],_=>rfl
 | _ :: _,_ :: _,h=>by simp [All2.length h.2]
 | [],_ :: _,h=>h.elim
 | _ :: _,[],h=>h.elim
theorem All2.imp:∀{l:List α} {m:List β},All2 R l m→(∀a b,a∈l→R a b→R' a b)→All2 R' l m
 | [],[],_,_=>trivial
 | _ :: _,_ :: _,h,f=>⟨f _ _ (by simp) h.1,All2.imp h.2 fun a b ha=>f a b (by simp [ha])⟩
 | [],_ :: _,h,_=>h.elim
 | _ :: _,[],h,_=>h.elim
theorem All2.get:∀{l:List α} {m:List β},All2 R l m→∀{i:Nat} {a:α},l[i]? = some a→∃b,m[i]? = some b∧R a b
 | [],[],_,_,_,h=>by simp at h
 | _ :: _,_ :: _,h,0,_,e=>by simp at e;subst e;exact ⟨_,by simp,h.1⟩
 | _ :: _,_ :: _,h,i+1,_,e=>by simpa using All2.get h.2 (by simpa using e)
 | [],_ :: _,h,_,_,_=>h.elim
 | _ :: _,[],h,_,_,_=>h.elim
theorem All2.append:∀{l l':List α} {m m':List β},All2 R l m→All2 R l' m'→All2 R (l++l') (m++m')
 | [],_,[],_,_,k=>k
 | _ :: _,_,_ :: _,_,h,k=>⟨h.1,All2.append h.2 k⟩
 | [],_,_ :: _,_,h,_=>h.elim
 | _ :: _,_,[],_,h,_=>h.elim
theorem All2.drop:∀(k:Nat) {l:List α} {m:List β},All2 R l m→All2 R (l.drop k) (m.drop k)
 | 0,_,_,h=>by simpa using h
 | _+1,[],[],_=>trivial
 | k+1,_ :: _,_ :: _,h=>by simpa using All2.drop k h.2
 | _+1,[],_ :: _,h=>h.elim
 | _+1,_ :: _,[],h=>h.elim
theorem All2.take:∀(k:Nat) {l:List α} {m:List β},All2 R l m→All2 R (l.take k) (m.take k)
 | 0,_,_,h=>by simp [All2]
 | _+1,[],[],_=>trivial
 | k+1,_ :: _,_ :: _,h=>by simpa using ⟨h.1,All2.take k h.2⟩
 | _+1,[],_ :: _,h=>h.elim
 | _+1,_ :: _,[],h=>h.elim
theorem All2.mapL {γ:Type _} {f:γ→α}:∀{l:List γ} {m:List β},All2 R (l.map f) m↔All2 (fun c b=>R (f c) b) l m
 | [],[]=>Iff.rfl
 | _ :: _,_ :: _=>and_congr Iff.rfl All2.mapL
 | [],_ :: _=>Iff.rfl
 | _ :: _,[]=>Iff.rfl
end
inductive D:Type 1 where
 | any
 | sc (v:Value)
 | sl {α:Type} (E:El α) (l:List α)
 | full {α:Type} (E:El α) (l:List α)
 | own (k:Nat)
 | slb (k n:Nat)
 | ptr (k off:Nat)
 | eptr {α:Type} (E:El α) (l:List α) (i off:Nat)
 | optr (k m i off:Nat)
 | ocut (k:Nat)
 | osl (k m lo hi:Nat) (fl:Bool)
 | clo (f:FuncId) (ks:List Nat)
inductive V0:Type 1 where
 | one (d:D)
 | ag (l:List D)
inductive TV:Type 1 where
 | v (x:V0)
 | tup (l:List V0)
inductive Box:Type 1 where
 | box (t:TypeId) (cs:List D)
 | arr {α:Type} (e:TypeId) (E:El α) (l:List α)
 | mp (l:List (Value×Value))
 | it (k n:Nat) (seen:List Nat)
structure Mst:Type 1 where
 t:Nat→TV
 h:Nat→Option Box
 f:Nat→Bool
def kb:Value→Option Nat
 | .pointer (some a)=>some a.block
 | .slice (some a) _ _=>some a.block
 | .map (some b)=>some b
 | _=>none
def dO:Nat→List (Value×Value)→List MapEntry
 | _,[]=>[]
 | i,x :: l=>⟨x.1,x.2,i⟩ :: dO (i+1) l
def i7 (l:List (Value×Value)):Obj:=.map (dO 0 l).toArray l.length
def D.rep (w:World) (F:Nat→Prop) (ρ:Nat→Value):D→Value→Prop
 | .any,_=>True
 | .sc x,v=>v=x
 | .sl E l,v=>∃A cap,v = .slice A l.length cap∧(l.length≤cap∧cap≤maxLen)∧RowsAt E w F A l
 | .full E l,v=>∃A,v = .slice A l.length l.length∧l.length≤maxLen∧RowsAt E w F A l
 | .own k,v=>v=ρ k
 | .slb k n,v=>∃g,ρ k = .pointer (some ⟨g,0,none⟩)∧v = .slice (some ⟨g,0,none⟩) n n
 | .ptr k off,v=>∃g,ρ k = .pointer (some ⟨g,0,none⟩)∧v = .pointer (some ⟨g,off,none⟩)
 | .eptr E l i off,v=>∃b o,v = .pointer (some ⟨b,o+i*E.n+off,none⟩)∧RowsAt E w F (some ⟨b,o,none⟩) l∧i<l.length
 | .optr k m i off,v=>∃g n cap,ρ k = .slice (some ⟨g,0,none⟩) n cap∧v = .pointer (some ⟨g,i*m+off,none⟩)
 | .ocut k,v=>∃A n cap c,ρ k = .slice A n cap∧(n≤c∧c≤cap)∧v = .slice A n c
 | .osl k m lo hi fl,v=>∃g n cap c A,ρ k = .slice (some ⟨g,0,none⟩) n cap∧(lo≤hi∧hi≤n∧hi≤lo+c∧lo+c≤cap)∧(fl=true→lo+c=hi)∧v = .slice (some A) (hi-lo) c∧(lo=0∨0<c→A=⟨g,lo*m,none⟩)
 | .clo f ks,v=>∃vs:List Value,v = .func (.func f) #[] vs.toArray∧All2 (fun k u=>u=ρ k) ks vs
def V0.rep (w:World) (F:Nat→Prop) (ρ:Nat→Value):V0→Value→Prop
 | .one d,v=>d.rep w F ρ v
 | .ag l,v=>∃cs:List Value,v = .agg cs.toArray∧All2 (D.rep w F ρ) l cs
def TV.rep (w:World) (F:Nat→Prop) (ρ:Nat→Value):TV→Value→Prop
 | .v x,u=>x.rep w F ρ u
 | .tup l,u=>∃vs:List Value,u = .tuple vs.toArray∧All2 (V0.rep w F ρ) l vs
def Box.rep (w:World) (F:Nat→Prop) (ρ:Nat→Value):Box→Value→Prop
 | .box t cs,v=>∃(g:Nat) (vs:List Value),v = .pointer (some ⟨g,0,none⟩)∧Blk w g t vs.toArray∧All2 (D.rep w F ρ) cs vs∧∀u∈vs,u.oneCell'=true
 | .arr e E l,v=>∃xs,w.ownsRow 0 e E.n v l.length xs∧Reps E w F l xs
 | .mp l,v=>∃g,v = .map (some g)∧w.heap[g]? = some (i7 l)
 | .it k n seen,v=>∃g m,v = .pointer (some ⟨g,0,none⟩)∧ρ k = .map (some m)∧w.heap[g]? = some (.mapIter (some m) n seen.toArray n)
def D.has (k:Nat):D→Bool
 | .own j | .slb j _ | .ptr j _ | .optr j _ _ _ | .ocut j | .osl j _ _ _ _=>j.beq k
 | .clo _ ks=>ks.any fun j=>j.beq k
 | _=>false
def V0.has (k:Nat):V0→Bool
 | .one d=>d.has k
 | .ag l=>l.any (D.has k)
def TV.has (k:Nat):TV→Bool
 | .v x=>x.has k
 | .tup l=>l.any (V0.has k)
def Box.has (k:Nat):Box→Bool
 | .box _ cs=>cs.any (D.has k)
 | .arr ..=>false
 | .mp _=>false
 | .it j _ _=>j.beq k
section
variable {w w':World} {F F':Nat→Prop} {ρ ρ':Nat→Value}
theorem D.rep.mono {d:D} {v:Value} (h:d.rep w F ρ v) (hF:∀b,F b→F' b∧w'.heap[b]? = w.heap[b]?) (hρ:∀k,d.has k=true→ρ' k=ρ k):d.rep w' F' ρ' v:=by
 have h1:∀b,F b→w'.heap[b]? = w.heap[b]?:=fun b hb=>(hF b hb).2;have h2:∀b,F b→F' b:=fun b hb=>(hF b hb).1;cases d with
 | any=>trivial
 | sc x=>exact h
 | sl E l=>obtain ⟨A,cap,e,h3,h4⟩:=h;exact ⟨A,cap,e,h3,h4.same h1 h2⟩
 | full E l=>obtain ⟨A,e,h3,h4⟩:=h;exact ⟨A,e,h3,h4.same h1 h2⟩
 | own k=>exact h.trans (hρ k (by simp [D.has])).symm
 | slb k n=>obtain ⟨g,h3,h4⟩:=h;exact ⟨g,(hρ k (by simp [D.has])).trans h3,h4⟩
 | ptr k off=>obtain ⟨g,h3,h4⟩:=h;exact ⟨g,(hρ k (by simp [D.has])).trans h3,h4⟩
 | eptr E l i off=>obtain ⟨b,o,e,h3,h4⟩:=h;exact ⟨b,o,e,h3.same h1 h2,h4⟩
 | optr k m i off=>obtain ⟨g,n,cap,h3,h4⟩:=h;exact ⟨g,n,cap,(hρ k (by simp [D.has])).trans h3,h4⟩
 | ocut k=>obtain ⟨A,n,cap,c,h3,h4⟩:=h;exact ⟨A,n,cap,c,(hρ k (by simp [D.has])).trans h3,h4⟩
 | osl k m lo hi fl=>obtain ⟨g,n,cap,c,A,h3,h4⟩:=h;exact ⟨g,n,cap,c,A,(hρ k (by simp [D.has])).trans h3,h4⟩
 | clo f ks=>obtain ⟨vs,e,h3⟩:=h;exact ⟨vs,e,h3.imp fun j u hj (hu:u=ρ j)=>hu.trans (hρ j (by simp only [D.has];exact List.any_eq_true.2 ⟨j,hj,Nat.beq_refl j⟩)).symm⟩
theorem V0.rep.mono {d:V0} {v:Value} (h:d.rep w F ρ v) (hF:∀b,F b→F' b∧w'.heap[b]? = w.heap[b]?) (hρ:∀k,d.has k=true→ρ' k=ρ k):d.rep w' F' ρ' v:=by
 cases d with
 | one d=>exact D.rep.mono (d:=d) h hF hρ
 | ag l =>
  obtain ⟨cs,e,h1⟩:=h;exact ⟨cs,e,h1.imp fun a b ha (h2:D.rep w F ρ a b)=>D.rep.mono h2 hF fun k hk=>hρ k (by simp only [V0.has,List.any_eq_true];exact ⟨a,ha,hk⟩)⟩
theorem TV.rep.mono {d:TV} {v:Value} (h:d.rep w F ρ v) (hF:∀b,F b→F' b∧w'.heap[b]? = w.heap[b]?) (hρ:∀k,d.has k=true→ρ' k=ρ k):d.rep w' F' ρ' v:=by
 cases d with
 | v d=>exact V0.rep.mono (d:=d) h hF hρ
 | tup l =>
  obtain ⟨cs,e,h1⟩:=h;exact ⟨cs,e,h1.imp fun a b ha (h2:V0.rep w F ρ a b)=>V0.rep.mono h2 hF fun k hk=>hρ k (by simp only [TV.has,List.any_eq_true];exact ⟨a,ha,hk⟩)⟩
theorem tO {e:TypeId} {n m:Nat} {v:Value} {xs:List Value} (h:w.ownsRow 0 e n v m xs) (hb:∀g,kb v=some g→w'.heap[g]? = w.heap[g]?):w'.ownsRow 0 e n v m xs:=by
 refine ⟨h.1,?_⟩;rcases h.2 with hn|⟨g,cap,cur,hv,hg,hh,rest⟩
 ·exact .inl hn
 ·exact .inr ⟨g,cap,cur,hv,hg,by rw [hb g (by rw [hv];rfl)];exact hh,rest⟩
theorem Box.rep.mono {d:Box} {v:Value} (h:d.rep w F ρ v) (hb:∀g,kb v=some g→w'.heap[g]? = w.heap[g]?) (hF:∀b,F b→F' b∧w'.heap[b]? = w.heap[b]?) (hρ:∀k,d.has k=true→ρ' k=ρ k):d.rep w' F' ρ' v:=by
 cases d with
 | box t cs =>
  obtain ⟨g,vs,e,h1,h2,h3⟩:=h;exact ⟨g,vs,e,(hb g (by rw [e];rfl)).trans h1,h2.imp fun a b ha (h4:D.rep w F ρ a b)=>D.rep.mono h4 hF fun k hk=>hρ k (by simp only [Box.has,List.any_eq_true];exact ⟨a,ha,hk⟩),h3⟩
 | arr e E l =>
  obtain ⟨xs,h1,h2⟩:=h;exact ⟨xs,tO h1 hb,h2.same (fun b hb2=>(hF b hb2).2) fun b hb2=>(hF b hb2).1⟩
 | mp l =>
  obtain ⟨g,e,h1⟩:=h;exact ⟨g,e,(hb g (by rw [e];rfl)).trans h1⟩
 | it k n seen =>
  obtain ⟨g,m,e,h1,h2⟩:=h;exact ⟨g,m,e,(hρ k (by simp [Box.has])).trans h1,(hb g (by rw [e];rfl)).trans h2⟩
theorem Box.lt {d:Box} {v:Value} {g:Nat} (h:d.rep w F ρ v) (hg:kb v=some g):g<w.heap.size:=by
 cases d with
 | box t cs =>
  obtain ⟨g',vs,e,h1,_⟩:=h;subst e;injection hg with hg;subst hg;exact h1.lt
 | arr e E l =>
  obtain ⟨xs,h1,h2⟩:=h;rcases h1.2 with ⟨hv,hn⟩|⟨g',cap,cur,hv,_,hh,_⟩
  ·subst hv;cases hg
  ·subst hv;injection hg with hg;subst hg;exact (Array.getElem?_eq_some_iff.1 hh).1
 | mp l =>
  obtain ⟨g',e,h1⟩:=h;subst e;injection hg with hg;subst hg;exact (Array.getElem?_eq_some_iff.1 h1).1
 | it k n seen =>
  obtain ⟨g',m,e,_,h1⟩:=h;subst e;injection hg with hg;subst hg;exact (Array.getElem?_eq_some_iff.1 h1).1
end
def PinW (w:World) (X:Nat→Prop):Prop:=Tog w∧¬X 1
theorem PinW.sub {w w':World} {X X':Nat→Prop} (h:PinW w X) (hw:∀b,b<w.heap.size→¬X b→w'.heap[b]? = w.heap[b]?) (hX:∀b,b<w.heap.size→X' b→X b):PinW w' X':=by
 have hb:1<w.heap.size:=World.block_lt_of_cell? w _ (h.1.at_ 0 0 (by decide) (by decide));exact ⟨⟨fun i j hi hj=>(World.cell?_of_block (a:=⟨1,i*5+j,none⟩) (hw _ hb h.2)).trans (h.1.at_ i j hi hj)⟩,fun hx=>h.2 (hX _ hb hx)⟩
structure Ctx where
 w0:World
 S:Nat→Prop
 X:Nat→Prop
 nt:Nat
 K:List Nat
 ρ0:Nat→Value
 hS:∀b,S b→b<w0.heap.size
 hX:∀b,X b→S b
 hpin:PinW w0 X:=by exact trivial
 dfr:List Deferred:=[]
def Fz (c:Ctx) (h:Nat→Option Box) (ρ:Nat→Value) (w:World) (b:Nat):Prop :=
 (c.S b∨c.w0.heap.size≤b)∧b<w.heap.size∧∀k bx,h k=some bx→kb (ρ k)≠some b
structure Frx (w w':World) (M:Nat→Prop):Prop where
 os:w'.os=w.os
 tape:w'.tape=w.tape
 output:w'.output=w.output
 size:w.heap.size≤w'.heap.size
 keep:∀b,b<w.heap.size→¬M b→w'.heap[b]? = w.heap[b]?
theorem Frx.refl (w:World) (M:Nat→Prop):Frx w w M:=⟨rfl,rfl,rfl,Nat.le_refl _,fun _ _ _=>rfl⟩
theorem Frx.drew {w w':World} {M:Nat→Prop} (h:Frx w w' M):Frx w { w' with drawn:=w'.drawn+1 } M:=⟨h.os,h.tape,h.output,h.size,h.keep⟩
theorem Frx.alloc (w:World) (o:Obj) (M:Nat→Prop):Frx w (w.alloc o) M:=⟨rfl,rfl,rfl,by simp,fun b hb _=>Below.heap_alloc w o b hb⟩
theorem Frx.below {w w':World} {M:Nat→Prop} (h:Below w.heap.size w w'):Frx w w' M:=⟨h.os,h.tape,h.output,h.size,fun b hb _=>h.block b hb⟩
structure Mst.Wf (s:Mst):Prop where
 h:∀k,s.f k=true→s.h k=none
 t:∀k t,s.f k=true→(s.t t).has k=false
 b:∀k k' b,s.f k=true→s.h k'=some b→b.has k=false
structure Rp (c:Ctx) (s:Mst) (ρ:Nat→Value) (a:Act) (w:World):Prop where
 dfr:a.defers=c.dfr
 siz:a.tmps.size=c.nt
 frm:Frx c.w0 w c.X
 tmp:∀t,(s.t t).rep w (Fz c s.h ρ w) ρ (a.tmps.getD t undef)
 hp:∀k b,s.h k=some b→b.rep w (Fz c s.h ρ w) ρ (ρ k)
 inb:∀k b g,s.h k=some b→kb (ρ k)=some g→c.X g∨c.w0.heap.size≤g
 dis:∀k k' b b' g,s.h k=some b→s.h k'=some b'→kb (ρ k)=some g→kb (ρ k')=some g→k=k'
 ent:∀k,k∈c.K→ρ k=c.ρ0 k∧s.f k=false
 wf:s.Wf
section
variable {c:Ctx} {s s':Mst} {ρ ρ':Nat→Value} {a a':Act} {w w':World} {M:Nat→Prop}
theorem Rp.pin (h:Rp c s ρ a w):PinW w fun _=>False:=c.hpin.sub h.frm.keep fun _ _ h=>h.elim
theorem Rp.ltb (h:Rp c s ρ a w) {k:Nat} {b:Box} {g:Nat} (hk:s.h k=some b) (hg:kb (ρ k)=some g):g<w.heap.size:=Box.lt (h.hp k b hk) hg
structure Stp (c:Ctx) (s s':Mst) (ρ ρ':Nat→Value) (w w':World) (M:Nat→Prop):Prop where
 ch:∀k,¬M k→s'.h k=s.h k
 pl:∀k,s.f k=false→ρ' k=ρ k
 fr:∀k,s'.f k=true→s.f k=true
 fw:Frx w w' fun b=>∃k bx,M k∧s.h k=some bx∧kb (ρ k)=some b
 nb:∀k bx g,M k→s'.h k=some bx→kb (ρ' k)=some g→g<w'.heap.size∧(w.heap.size≤g∨∃k0 b0,M k0∧s.h k0=some b0∧kb (ρ k0)=some g)
 ds:∀k k' b b' g,M k→M k'→s'.h k=some b→s'.h k'=some b'→kb (ρ' k)=some g→kb (ρ' k')=some g→k=k'
theorem Rp.place (h:Rp c s ρ a w) (p:Stp c s s' ρ ρ' w w' M) {k:Nat} {b:Box} (hk:s.h k=some b):ρ' k=ρ k:=by
 refine p.pl k ?_;cases hf:s.f k with
 | false=>rfl
 | true=>rw [h.wf.h k hf] at hk;cases hk
theorem Rp.fz (h:Rp c s ρ a w) (p:Stp c s s' ρ ρ' w w' M):∀b,Fz c s.h ρ w b→Fz c s'.h ρ' w' b∧w'.heap[b]? = w.heap[b]?:=by
 intro b ⟨h1,h2,h3⟩;refine ⟨⟨h1,Nat.lt_of_lt_of_le h2 p.fw.size,fun k bx hk hg=>?_⟩,p.fw.keep b h2 fun ⟨k,bx,_,hk,hg⟩=>h3 k bx hk hg⟩;by_cases hm:M k
 ·rcases (p.nb k bx b hm hk hg).2 with h4|⟨k0,b0,_,hk0,hg0⟩
  ·omega
  ·exact h3 k0 b0 hk0 hg0
 ·rw [p.ch k hm] at hk;rw [h.place p hk] at hg;exact h3 k bx hk hg
theorem Rp.old (h:Rp c s ρ a w) (p:Stp c s s' ρ ρ' w w' M) {d:TV} {v:Value} (hd:d.rep w (Fz c s.h ρ w) ρ v) (hk:∀k,s.f k=true→d.has k=false):d.rep w' (Fz c s'.h ρ' w') ρ' v :=
 hd.mono (h.fz p) fun k hh=>p.pl k (by
  cases hf:s.f k with
  | false=>rfl
  | true=>rw [hk k hf] at hh;cases hh)
theorem Rp.step (h:Rp c s ρ a w) (p:Stp c s s' ρ ρ' w w' M) (hd:a'.defers=c.dfr) (hsz:a'.tmps.size=c.nt) (hwf:s'.Wf) (hfr:∀k,k∈c.K→s'.f k=false)
  (hnew:∀k bx,M k→s'.h k=some bx→bx.rep w' (Fz c s'.h ρ' w') ρ' (ρ' k))
  (htmp:∀t,(s'.t t).rep w' (Fz c s'.h ρ' w') ρ' (a'.tmps.getD t undef)):Rp c s' ρ' a' w' where
 dfr:=hd
 siz:=hsz
 frm:=⟨p.fw.os.trans h.frm.os,p.fw.tape.trans h.frm.tape,p.fw.output.trans h.frm.output,Nat.le_trans h.frm.size p.fw.size,fun b hb hx=>by
  rw [p.fw.keep b (Nat.lt_of_lt_of_le hb h.frm.size) fun ⟨k,bx,_,hk,hg⟩=>?_,h.frm.keep b hb hx];rcases h.inb k bx b hk hg with h1|h1
  ·exact hx h1
  ·omega⟩
 tmp:=htmp
 hp:=fun k b hk=>by
  by_cases hm:M k
  ·exact hnew k b hm hk
  ·rw [p.ch k hm] at hk;have hpl:=h.place p hk;rw [hpl];refine (h.hp k b hk).mono (fun g hg=>p.fw.keep g (h.ltb hk hg) fun ⟨k',b',hm',hk',hg'⟩=>hm (by rw [h.dis k k' b b' g hk hk' hg hg'];exact hm')) (h.fz p) fun k' hh=>p.pl k' ?_;cases hf:s.f k' with
   | false=>rfl
   | true=>rw [h.wf.b k' k b hf hk] at hh;cases hh
 inb:=fun k b g hk hg=>by
  by_cases hm:M k
  ·rcases (p.nb k b g hm hk hg).2 with h1|⟨k0,b0,_,hk0,hg0⟩
   ·exact .inr (Nat.le_trans h.frm.size h1)
   ·exact h.inb k0 b0 g hk0 hg0
  ·rw [p.ch k hm] at hk;rw [h.place p hk] at hg;exact h.inb k b g hk hg
 dis:=by
  have mix:∀k k' b b' g,M k→¬M k'→s'.h k=some b→s'.h k'=some b'→kb (ρ' k)=some g→kb (ρ' k')=some g→False:=fun k k' b b' g hm hm' hk hk' hg hg'=>by
   rw [p.ch k' hm'] at hk';rw [h.place p hk'] at hg';rcases (p.nb k b g hm hk hg).2 with h1|⟨k0,b0,hm0,hk0,hg0⟩
   ·have:=h.ltb hk' hg';omega
   ·exact hm' (by rw [←h.dis k0 k' b0 b' g hk0 hk' hg0 hg'];exact hm0)
  intro k k' b b' g hk hk' hg hg';by_cases hm:M k
  ·by_cases hm':M k'
   ·exact p.ds k k' b b' g hm hm' hk hk' hg hg'
   ·exact (mix k k' b b' g hm hm' hk hk' hg hg').elim
  ·by_cases hm':M k'
   ·exact (mix k' k b' b g hm' hm hk' hk hg' hg).elim
   ·rw [p.ch k hm] at hk;rw [p.ch k' hm'] at hk';rw [h.place p hk] at hg;rw [h.place p hk'] at hg';exact h.dis k k' b b' g hk hk' hg hg'
 ent:=fun k hk=>⟨(p.pl k (h.ent k hk).2).trans (h.ent k hk).1,hfr k hk⟩
 wf:=hwf
end
theorem gA {P:Program} (t e:TypeId) (i:TypeInfo) (z:Value) (ht:P.underlying t=some (.slice e)) (hi:P.info? e=some i) (hz:i.zero=some z)
  (kl kc:IntKind) (n c:Nat) (hnc:n≤c) (hbytes:i.bytes*c≤281474976710656) (h63:c≤9223372036854775807) (w:World) :
  (Instr.makeSlice t (.int kl (n:Int)) (.int kc (c:Int))).run P w = .ok (.slice (some ⟨w.heap.size,0,none⟩) n c) (w.alloc (.cells (madeCells z.cells (c*i.size)) e)):=by
 have hb:(i.bytes:Int)*(c:Int)≤281474976710656:=by
  have h:((i.bytes*c:Nat):Int)≤281474976710656:=by omega
  rwa [Int.natCast_mul] at h
 have hr:=run_make (P:=P) w t e i z ht hi hz kl kc n c (by omega) (by omega) hb (by omega);simp only [Int.toNat_natCast] at hr;exact hr
theorem F1 {P:Program} (t e:TypeId) (z:Value) (by_:Nat) (ht:P.underlying t=some (.slice e)) (hi:(P.info? e).map (fun i=>(i.zero,i.size,i.bytes))=some (some z,1,by_)) (hz:z.cells = #[z]) (hb:by_≤64) (n:Nat) (hn:n≤1000000) (w:World) :
  (Instr.makeSlice t (.int .i64 (n:Int)) (.int .i64 (n:Int))).run P w = .ok (.slice (some ⟨w.heap.size,0,none⟩) n n) (w.alloc (.cells (madeCells #[z] n) e)):=by
 obtain ⟨i0,hi,hz0,hz1,hz2⟩:=info_parts hi;have hle:i0.bytes*n≤64*1000000:=Nat.mul_le_mul (by omega) hn;rw [gA t e i0 z ht hi hz0 _ _ n n (Nat.le_refl _) (by omega) (by omega),hz1,Nat.mul_one,hz]
def Gr (S:Nat→Prop) (base:Nat) (w:World) (b:Nat):Prop:=b<w.heap.size∧(S b∨base≤b)
def In (w:World) (S:Nat→Prop):Prop:=∀b,S b→b<w.heap.size
section
variable {α:Type} {E:El α} {w w' w'':World} {S T:Nat→Prop} {A:Option Addr} {l:List α} {base base':Nat} {e:TypeId} {v:Value}
theorem RowsAt.lo (h:RowsAt E w S A l) (hS:In w S):RowsAt E w (Lo w.heap.size) A l:=h.mono hS
theorem RowsAt.grNew (h:RowsAt E w (IP base w) A l):RowsAt E w (Gr S base w) A l:=h.mono fun _ hs=>⟨hs.2,.inr hs.1⟩
def El.inn {α:Type} (E:El α) (T:Nat→Prop):El α where
 n:=E.n
 pos:=E.pos
 rep:=fun w S x cs=>E.rep w (fun b=>S b∧T b) x cs
 len:=fun h=>E.len h
 one:=fun h=>E.one h
 same:=fun h hk hS=>E.same h (fun b hb=>hk b hb.1) fun b hb=>⟨hS b hb.1,hb.2⟩
theorem Reps.inn:∀{l:List α} {xs:List Value},Reps (E.inn T) w S l xs→Reps E w (fun b=>S b∧T b) l xs
 | [],_,h=>h
 | _ :: _,_,h=>by
  obtain ⟨cs,rest,rfl,h1,h2⟩:=h;exact ⟨cs,rest,rfl,h1,Reps.inn h2⟩
theorem Reps.toInn:∀{l:List α} {xs:List Value},Reps E w (fun b=>S b∧T b) l xs→Reps (E.inn T) w S l xs
 | [],_,h=>h
 | _ :: _,_,h=>by
  obtain ⟨cs,rest,rfl,h1,h2⟩:=h;exact ⟨cs,rest,rfl,h1,Reps.toInn h2⟩
theorem ElTB.inn {P:Program} {t:TypeId} {by_:Nat} (Q:ElTB P E t e by_) (T:Nat→Prop):ElTB P (E.inn T) t e by_:=⟨Q.under,Q.info⟩
theorem oW {xs cs vs:List Value} {n k j:Nat} (hk:k+n≤xs.length) (hcs:cs=(xs.drop k).take n) (hj:j+vs.length≤n) :
  xs.take (k+j)++vs++xs.drop (k+j+vs.length)=xs.take k++(cs.take j++vs++cs.drop (j+vs.length))++xs.drop (k+n):=by
 subst hcs;have e1:xs.take (k+j)=xs.take k++((xs.drop k).take n).take j:=by
  rw [List.take_take,Nat.min_eq_left (by omega),List.take_add]
 have e2:xs.drop (k+j+vs.length)=((xs.drop k).take n).drop (j+vs.length)++xs.drop (k+n):=by
  have h:(xs.drop k).drop (j+vs.length)=((xs.drop k).take n).drop (j+vs.length)++(xs.drop k).drop n:=by
   have h0:(xs.drop k).drop (j+vs.length)=((xs.drop k).take n++(xs.drop k).drop n).drop (j+vs.length):=by rw [List.take_append_drop]
   rw [h0,List.drop_append,List.length_take,List.length_drop,Nat.min_eq_left (by omega),Nat.sub_eq_zero_of_le hj,List.drop_zero]
  rw [List.drop_drop,List.drop_drop] at h;rw [←h];congr 1
  omega
 rw [e1,e2];simp
end
section
variable {α:Type} {E:El α} {S:Nat→Prop} {l:List α} {e:TypeId}
end
section
variable {α:Type} {E:El α} {w:World} {S T:Nat→Prop} {l:List α} {e:TypeId} {v:Value} {base:Nat}
end
section
variable {α:Type} {E:El α} {e:TypeId} {S:Nat→Prop}
section
variable {n:Nat} {pos:0<n} {f:α→List Value} {len:∀x,(f x).length=n} {one:∀x,∀u∈f x,u.oneCell'=true}
theorem OwnRows.nw {w:World} {base:Nat} {v:Value} {l:List α} (h:OwnRows (El.plain n pos f len one) e w base v l):∃A cap,v = .slice A l.length cap∧RowsAt (El.plain n pos f len one) w (IP base w) A l∧l.length≤cap∧cap≤maxLen:=by
 obtain ⟨A,cap,rfl,h1,h2⟩:=h.newP;obtain ⟨_,_,e,_,_,h3⟩:=h.form;injection e with _ _ e;subst e;exact ⟨A,cap,rfl,h1,h2,h3⟩
end
end
end Go.Proofs.YtcgpepnbohejfaaGreatDoor
