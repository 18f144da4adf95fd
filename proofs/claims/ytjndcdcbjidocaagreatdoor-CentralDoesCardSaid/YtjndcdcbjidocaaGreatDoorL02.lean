/- Part 2 of 33 of the proof of centralDoes_holds (no condition). -/
import Derived.Test.YtjndcdcbjidocaaGreatDoorL01
import Derived.Handy
import Derived.Scope
import Derived.Laws.IdiomCopy
import Derived.Deep.RegionHeld3
import Derived.Lib.AppendZerosOnto
import Derived.Lib.SlicesCompact
import Derived.Sort.LotA
import Derived.Shelf.SlSortCmp.NoneTotal
import Derived.Ground.SlsfProg
import Derived.Shelf.SlGeneric
import Derived.Shelf.SlLaysF0
set_option linter.unusedVariables false
set_option linter.unusedSimpArgs false
set_option maxRecDepth 100000
set_option maxHeartbeats 64000000
namespace Go.Proofs.YtjndcdcbjidocaaGreatDoor
open Go.RowKit Go.Proofs.Tryz
def aH (a:Am):Bool:=decide (a=⟨0,0⟩)
def aF (r:Rs) (a:Am):Bool:=bc r && (if r.kind=1 then bY a.mode && decide (a.units=0) else decide (a.mode=0) && decide (1≤a.units) && decide (a.units≤r.units))
def bj (r:Rs) (a:Am):Bool:=bc r && (aH a || aF r a)
def bg (r:Rs) (a b:Am):Bool:=bj r a && bj r b && (aH b || !aH a && (if r.kind=1 then dw a.mode b.mode else decide (b.units≤a.units)))
theorem Cg (m u:Int) (w:World):Calls prog 180 #[.agg #[.int .i64 m,.int .i64 u]] w (o9 w (.bool (aH ⟨m,u⟩))):=by
 obtain ⟨_,k1,k2⟩:=Jv m u 0 0
 go_enter func180,ntmps180
 go_wp2_with fail
 repeat' (first|(go_ret;refine ⟨aY ?_,by exact ce⟩;simp [aH]))
theorem Ch (r:Rs) (m n:Int) (w:World):Calls prog 52 #[r.val,.agg #[.int .i64 m,.int .i64 n]] w (o9 w (.bool (aF r ⟨m,n⟩))):=by
 obtain ⟨nm,kd,u,h⟩:=r;have HS:=Lib.hid (fun W=>jp ⟨nm,kd,u,h⟩ W);have HM:=Lib.hid (fun W=>eV m W);unfold Rs.val
 go_enter func52,ntmps52
 go_wp2_with fail
 repeat' (first|(go_at_call 114;refine (HS.out _).mono ?_;rintro e wa1 ⟨rfl,hb_wa1⟩;obtain ⟨hc_wa1,hf_wa1⟩:=pe hb_wa1;have hs_wa1:=hb_wa1.size;(try simp at hs_wa1);have hz_wa1_w_0:w.heap.size<wa1.heap.size:=(by omega);have hz_wa1_w_1:w.heap.size+1<wa1.heap.size:=(by omega);clear hs_wa1;have HB_wa1:=Lib.hid hb_wa1;clear hb_wa1;go_wp2_with fail)|(go_at_call 115;refine (HM.out _).mono ?_;rintro e wa2 ⟨rfl,hwa2⟩;obtain rfl:=hwa2.symm;clear hwa2;go_wp2_with fail)|(go_ret;refine ⟨aY ?_,by exact ce⟩;(first|(simp_all [aF];done)|(simp_all [aF];omega)|(rw [Bool.eq_iff_iff];simp_all [aF];done)|(rw [Bool.eq_iff_iff];simp_all [aF];omega))))
theorem sE (r:Rs) (m n:Int) (w:World):Calls prog 179 #[r.val,.agg #[.int .i64 m,.int .i64 n]] w (o9 w (.bool (bj r ⟨m,n⟩))):=by
 obtain ⟨nm,kd,u,h⟩:=r;have HS:=Lib.hid (fun W=>jp ⟨nm,kd,u,h⟩ W);have HZ:=Lib.hid (fun W=>Cg m n W);have HM:=Lib.hid (fun W=>Ch ⟨nm,kd,u,h⟩ m n W);unfold Rs.val
 go_enter func179,ntmps179
 go_wp2_with fail
 repeat' (first|(go_at_call 114;refine (HS.out _).mono ?_;rintro e wa1 ⟨rfl,hb_wa1⟩;obtain ⟨hc_wa1,hf_wa1⟩:=pe hb_wa1;have hs_wa1:=hb_wa1.size;(try simp at hs_wa1);have hz_wa1_w_0:w.heap.size<wa1.heap.size:=(by omega);have hz_wa1_w_1:w.heap.size+1<wa1.heap.size:=(by omega);clear hs_wa1;have HB_wa1:=Lib.hid hb_wa1;clear hb_wa1;go_wp2_with fail)|(go_at_call 180;refine (HZ.out _).mono ?_;rintro e wa2 ⟨rfl,hb_wa2⟩;obtain ⟨hc_wa2,hf_wa2⟩:=pe hb_wa2;have hs_wa2:=hb_wa2.size;(try simp at hs_wa2);have hz_wa2_w_0:w.heap.size<wa2.heap.size:=(by omega);have hz_wa2_w_1:w.heap.size+1<wa2.heap.size:=(by omega);clear hs_wa2;have HB_wa2:=Lib.hid hb_wa2;clear hb_wa2;go_wp2_with fail)|(go_at_call 52;refine (HM.out _).mono ?_;rintro e wa3 ⟨rfl,hb_wa3⟩;obtain ⟨hc_wa3,hf_wa3⟩:=pe hb_wa3;have hs_wa3:=hb_wa3.size;(try simp at hs_wa3);have hz_wa3_w_0:w.heap.size<wa3.heap.size:=(by omega);have hz_wa3_w_1:w.heap.size+1<wa3.heap.size:=(by omega);clear hs_wa3;have HB_wa3:=Lib.hid hb_wa3;clear hb_wa3;go_wp2_with fail)|(go_ret;refine ⟨aY ?_,by exact ce⟩;(first|(simp_all [bj];done)|(simp_all [bj];omega)|(rw [Bool.eq_iff_iff];simp_all [bj];done)|(rw [Bool.eq_iff_iff];simp_all [bj];omega))))
theorem lL {α:Type} {l:List α} {k:Nat} {x:α} (h:k<l.length) (hx:l[k]=x):l.drop k=x :: l.drop (k+1):=by rw [List.drop_eq_getElem_cons h,hx]
theorem qj {α:Type} {l:List α} {k:Nat} (h:¬k<l.length):l.drop k=[]:=List.drop_eq_nil_of_le (by omega)
def ao:List Ho→Pr→Am
 | [],_=>⟨0,0⟩
 | h :: l,p=>bif decide (h.proc=p) then h.am else ao l p
def iv (l:List Ho):List Am:=l.map (·.am)
def cQ (l:List Ho):List Pr:=l.map (·.proc)
theorem vU (a b c x y z:Int) (w:World):Calls prog 47 #[.agg #[.int .i64 a,.int .i64 b,.int .i64 c],.agg #[.int .i64 x,.int .i64 y,.int .i64 z]] w (o9 w (.int .i64 (bE ⟨a,b,c⟩ ⟨x,y,z⟩))):=by
 have i0:∀w:World,(Instr.index 100 (.agg #[.int .i64 a,.int .i64 b,.int .i64 c]) (.int .i64 0)).run prog w = .ok (.int .i64 a) w:=fun _=>by kernel_rfl
 have i1:∀w:World,(Instr.index 100 (.agg #[.int .i64 a,.int .i64 b,.int .i64 c]) (.int .i64 1)).run prog w = .ok (.int .i64 b) w:=fun _=>by kernel_rfl
 have i2:∀w:World,(Instr.index 100 (.agg #[.int .i64 a,.int .i64 b,.int .i64 c]) (.int .i64 2)).run prog w = .ok (.int .i64 c) w:=fun _=>by kernel_rfl
 obtain ⟨r,hr⟩:∃r,bE ⟨a,b,c⟩ ⟨x,y,z⟩=r:=⟨_,rfl⟩;rw [hr];have HR:=Lib.hid hr;clear hr
 go_enter func47,ntmps47
 go_wp2
 go_rounds 4
 all_goals go_ret
 all_goals refine ⟨lI ?_,((Below.refl _ _).alloc (Nat.le_refl _) _).alloc (by simp) _⟩
 all_goals rw [←HR.out]
 all_goals rcases dd ⟨a,b,c⟩ ⟨x,y,z⟩ with ⟨h,e⟩|⟨h,e⟩|⟨h,e⟩ <;> rw [e] <;> first|rfl|(exfalso;unfold fT at h;simp only at h;omega)|(exfalso;simp only [Pr.mk.injEq] at h;omega)
theorem AM (p q:Pr) (w:World):Calls prog 24 #[p.val,q.val] w (o9 w (.int .i64 (bE p q))):=by
 obtain ⟨a,b,c⟩:=p;obtain ⟨x,y,z⟩:=q;have HC:=Lib.hid (fun w=>vU a b c x y z w);obtain ⟨r,hr⟩:∃r,bE ⟨a,b,c⟩ ⟨x,y,z⟩=r:=⟨_,rfl⟩;rw [hr] at HC ⊢;clear hr;unfold Pr.val
 go_enter func24,ntmps24
 go_wp2_with fail
 refine (HC.out _).mono ?_;rintro e w1 ⟨rfl,hb⟩;have HB:=Lib.hid (((Below.refl w.heap.size w).alloc (Nat.le_refl _) _).alloc (by simp) _ |>.trans (hb.mono (by simp;omega)));go_wp2
 go_ret
 exact ⟨rfl,HB.out⟩
def bQ (a:Am):Bool:=bY a.mode && decide (a.units=0) || decide (a.mode=0) && decide (1≤a.units) && decide (a.units≤8)
def pf (x:Wt):Bool:=jl x.proc && bQ x.am && decide (0≤x.prio) && decide (x.prio≤7) && decide (0≤x.passed) && decide (x.passed≤3)
def gE (p:Pr):Nat→List Wt→Int
 | _,[]=>-1
 | k,x :: l=>bif decide (x.proc=p) then (k:Int) else gE p (k+1) l
def dG (l:List Wt) (p:Pr):Int:=gE p 0 l
def uy (all:List Wt):Nat→List Wt→Bool
 | _,[]=>true
 | k,x :: l=>pf x && decide (dG all x.proc=(k:Int)) && uy all (k+1) l
def d9 (l:List Wt):Bool:=decide (l.length≤8) && uy l 0 l
theorem lM (all:List Wt) (k:Nat) (x:Wt) (l:List Wt):uy all k (x :: l)=(pf x && decide (dG all x.proc=(k:Int)) && uy all (k+1) l):=rfl
theorem ez (p:Pr) (k:Nat) (x:Wt) (l:List Wt):gE p k (x :: l)=bif decide (x.proc=p) then (k:Int) else gE p (k+1) l:=rfl
theorem vV (m u:Int):bQ ⟨m,u⟩=(aF ⟨⟨#[]⟩,1,1,0⟩ ⟨m,u⟩ || aF ⟨⟨#[]⟩,2,8,0⟩ ⟨m,u⟩):=by
 unfold bQ aF bc;simp
def jT (a:Am) (l:List Am):Bool:=l.any fun b=>!aH a && !aH b && !ke a.mode b.mode
def eB (r:Rs):Int→List Am→List Am→Bool
 | _,_,[]=>true
 | s,pre,a :: l=>bj r a && (if r.kind=2 then decide (s+a.units≤r.units) && eB r (s+a.units) (pre++[a]) l else !jT a pre && eB r s (pre++[a]) l)
theorem km (r:Rs) (s:Int) (pre:List Am) (a:Am) (l:List Am):eB r s pre (a :: l)=(bj r a && (if r.kind=2 then decide (s+a.units≤r.units) && eB r (s+a.units) (pre++[a]) l else !jT a pre && eB r s (pre++[a]) l)):=rfl
def ib (r:Rs) (l:List Am):Bool:=bc r && eB r 0 [] l
theorem cj {r:Rs} (h:bc r=true):r.kind=1∧r.units=1∨r.kind=2∧1≤r.units∧r.units≤8:=by
 unfold bc at h;simp at h;omega
theorem iT {r:Rs} {a:Am} (hp:bj r a=true) (hk:r.kind=1):a.units=0∧(a.mode=0∨bY a.mode=true):=by
 unfold bj aH aF at hp;simp only [hk,if_true,Bool.and_eq_true,Bool.or_eq_true,decide_eq_true_eq] at hp;rcases hp.2 with h|h
 ·rw [h];exact ⟨rfl,Or.inl rfl⟩
 ·exact ⟨h.2.2,Or.inr h.2.1⟩
theorem kn {r:Rs} {a:Am} (hp:bj r a=true) (hk:r.kind≠1):a.mode=0∧0≤a.units∧a.units≤8:=by
 have hs:bc r=true:=by unfold bj at hp;simp at hp;exact hp.1
 have:=cj hs;unfold bj aH aF at hp;simp only [hk,if_false,Bool.and_eq_true,Bool.or_eq_true,decide_eq_true_eq] at hp;rcases hp.2 with h|h
 ·rw [h];simp
 ·omega
theorem iU (a b:Int):ke a b=ke b a:=by
 unfold ke;rw [Bool.eq_iff_iff];simp only [Bool.and_eq_true,Bool.or_eq_true,Bool.not_eq_true',decide_eq_true_eq,decide_eq_false_iff_not];constructor <;> (rintro ⟨⟨⟨⟨h1,h2⟩,h3⟩,h4⟩,h5⟩;refine ⟨⟨⟨⟨h2,h1⟩,h4⟩,h3⟩,?_⟩;omega)
def eW (pre:List Am) (m:Int):Bool:=decide (m≠0) && pre.any fun b=>decide (b.mode=m)
def jq (pre:List Am) (a:Int):Bool:=(List.range 6).any fun m=>eW pre m && !ke m a
theorem td (pre:List Am) (a:Am) (m:Int):eW (pre++[a]) m=(eW pre m || decide (m≠0) && decide (a.mode=m)):=by
 unfold eW;rw [List.any_append];cases decide (m≠0) <;> simp
theorem Ci {r:Rs} {a:Am} {pre:List Am} (hk:r.kind=1) (ha:bj r a=true) (hm:a.mode≠0) (hp:∀b∈pre,bj r b=true):jT a pre=jq pre a.mode:=by
 have hz:aH a=false:=by unfold aH;exact decide_eq_false fun e=>hm (by rw [e])
 rw [Bool.eq_iff_iff];unfold jT jq;simp only [List.any_eq_true,hz,Bool.not_false,Bool.true_and,Bool.and_eq_true,Bool.not_eq_true',List.mem_range];constructor
 ·rintro ⟨b,hb,h1,h2⟩;obtain ⟨h3,h4⟩:=iT (hp b hb) hk;have h5:b.mode≠0:=fun e=>by
   obtain ⟨bm,bu⟩:=b;simp only at e h3;subst e;subst h3;simp [aH] at h1
  have h6:=cY (h4.resolve_left h5);refine ⟨b.mode.toNat,by omega,?_,?_⟩
  ·rw [show ((b.mode.toNat:Nat):Int)=b.mode by omega];unfold eW;simp only [Bool.and_eq_true,decide_eq_true_eq,List.any_eq_true];exact ⟨h5,b,hb,rfl⟩
  ·rw [show ((b.mode.toNat:Nat):Int)=b.mode by omega,iU];exact h2
 ·rintro ⟨m,hm6,h1,h2⟩;unfold eW at h1;simp only [Bool.and_eq_true,decide_eq_true_eq,List.any_eq_true] at h1;obtain ⟨h3,b,hb,h4⟩:=h1;refine ⟨b,hb,?_,by rw [h4,iU];exact h2⟩;unfold aH;exact decide_eq_false fun e=>h3 (by rw [←h4,e])
theorem yf {r:Rs} {a:Am} {pre:List Am} (hk:r.kind=1) (ha:bj r a=true) (hm:a.mode=0):jT a pre=false:=by
 have h:=(iT ha hk).1;have hz:aH a=true:=by
  obtain ⟨m,u⟩:=a;simp only at hm h;subst hm;subst h;rfl
 unfold jT;simp [hz]
theorem AN {r:Rs} {s:Int} {pre:List Am} {a:Am} {l:List Am} (hs:bc r=true) (hp:∀b∈pre,bj r b=true) (h0:0≤s∧s≤r.units) (h1:r.kind=1→s=0) :
  eB r s pre (a :: l)=(bj r a && decide (s+a.units≤r.units) && (decide (a.mode=0) || !jq pre a.mode) && eB r (s+a.units) (pre++[a]) l):=by
 have hk:=cj hs;rw [km];cases ha:bj r a with
 | false=>rfl
 | true =>
  rcases hk with ⟨k1,k2⟩|⟨k1,k2,k3⟩
  ·have hu:=(iT ha k1).1;rw [hu,h1 k1,k2,if_neg (by omega)];by_cases hm:a.mode=0
   ·rw [yf k1 ha hm];simp [hm]
   ·rw [Ci k1 ha hm hp];simp [hm]
  ·have hm:=kn ha (by omega);rw [if_pos k1];simp [hm.1]
def sv (pre:List Am):Array Value:=#[.bool (eW pre 0),.bool (eW pre 1),.bool (eW pre 2),.bool (eW pre 3),.bool (eW pre 4),.bool (eW pre 5)]
theorem Fb {pre:List Am} {a:Am} (h:a.mode=0):sv (pre++[a])=sv pre:=by
 unfold sv;simp [td,h]
theorem HW {pre:List Am} {a:Am} {m:Nat} (h:a.mode=(m:Int)) (h0:1≤m) (h5:m≤5):sv (pre++[a])=(sv pre).setIfInBounds m (.bool true):=by
 have:m=1∨m=2∨m=3∨m=4∨m=5:=by omega
 unfold sv;rcases this with rfl|rfl|rfl|rfl|rfl <;> simp [td,h]
theorem Cj (pre:List Am) {j:Nat} (hj:j<6) (w:World):(Instr.index 235 (.agg (sv pre)) (.int .i64 (j:Int))).run prog w = .ok (.bool (eW pre j)) w:=by
 have:j=0∨j=1∨j=2∨j=3∨j=4∨j=5:=by omega
 clear hj;rcases this with rfl|rfl|rfl|rfl|rfl|rfl <;> (show _=_) <;> kernel_rfl
theorem qk (r:Rs) (A:Option Addr) (B cap:Nat) (l:List Am) (w:World) (hT:Tog w) (hm:l.length≤maxLen) (hB:B≤w.heap.size) (hr:RowsAt zt w (Lo B) A l) :
  Calls prog 300 #[r.val,.slice A l.length cap] w (o9 w (.bool (ib r l))):=by
 unfold maxLen at hm;have HR:=Lib.hid hr;have HT:=Lib.hid hT;clear hr hT;have HS:=Lib.hid (fun W=>jp r W);have HP:=Lib.hid (fun m u W=>sE r m u W);obtain ⟨q,hq⟩:∃q,ib r l=q:=⟨_,rfl⟩;rw [hq];have HQ0:=Lib.hid hq;clear hq;cases hs:bc r with
 | false =>
  have HQ:Hid (q=false):=Lib.hid (by rw [←HQ0.out];unfold ib;rw [hs];rfl);rw [hs] at HS;clear hs;obtain ⟨nm,kd,un,h⟩:=r;unfold Rs.val at *
  go_enter func300,ntmps300
  go_wp2_with fail
  refine wp_scope_straight ?_;go_wp2_with fail
  repeat' (first|(go_at_call 114;refine (HS.out _).mono ?_;rintro e wa1 ⟨rfl,hb_wa1⟩;obtain ⟨hc_wa1,hf_wa1⟩:=pe hb_wa1;have hs_wa1:=hb_wa1.size;(try simp at hs_wa1);have hz_wa1_w_0:w.heap.size<wa1.heap.size:=(by omega);clear hs_wa1;have HB_wa1:=Lib.hid hb_wa1;clear hb_wa1;go_wp2_with fail)|((try rw [Exit.noGoto_ret]);go_ret;exact ⟨aY HQ.out.symm,by exact ce⟩))
 | true =>
  have HQ:Hid (eB r 0 [] l=q):=Lib.hid (by have h:=HQ0.out;unfold ib at h;rw [hs] at h;exact h);rw [hs] at HS;have HSH:=Lib.hid hs;have hu:0≤r.units:=by have:=cj hs;omega
  have hu8:r.units≤8:=by have:=cj hs;omega
  clear hs HQ0;obtain ⟨nm,kd,un,h⟩:=r;unfold Rs.val at *
  dsimp only at hu hu8
  go_enter func300,ntmps300
  go_wp2_with fail
  refine wp_scope_straight ?_;go_wp2_with fail
  refine (HS.out _).mono ?_;rintro e w1 ⟨rfl,hb1⟩;have HB1:=Lib.hid hb1;have HBW1:Hid (Below w.heap.size w w1):=Lib.hid ce;have HK1:Hid (Blk w1 w.heap.size 55 #[.string nm,.int .i64 kd,.int .i64 un,.int .i64 h]):=Lib.hid ((Blk.new w 55 #[.string nm,.int .i64 kd,.int .i64 un,.int .i64 h]).below hb1 (by simp));clear hb1;go_wp2_with fail
  refine wp_label ?_;go_wp2_with fail
  go_loopg [5,7,17] l.length (fun m v5 v7 v17 wq=>∃(k:Nat) (s:Int),v5 = .bool true∧v7 = .int .i64 s∧v17 = .int .i64 (k:Int)∧k≤l.length∧l.length≤k+m∧0≤s∧s≤un∧Hid (kd=1→s=0)∧Hid (eB ⟨nm,kd,un,h⟩ s (l.take k) (l.drop k)=q)∧Hid (∀b∈l.take k,bj ⟨nm,kd,un,h⟩ b=true)∧Hid (Below w.heap.size w wq)∧Hid (Blk wq w.heap.size 55 #[.string nm,.int .i64 kd,.int .i64 un,.int .i64 h])∧Hid (Blk wq w1.heap.size 235 (sv (l.take k))))
  case atStart=>exact ⟨0,0,rfl,rfl,rfl,Nat.zero_le _,by omega,by omega,hu,Lib.hid (fun _=>rfl),HQ,Lib.hid (by simp),Lib.hid ce,Lib.hid (HK1.out.alloc _),Lib.hid (Blk.new _ _ _)⟩
  case round =>
   obtain ⟨k,s,rfl,rfl,rfl,hk,hkm,hs0,hsu,HS0,HI,HPE,HB,HK,HV⟩:=hrel;have hsz:w.heap.size≤w1.heap.size:=HBW1.out.size;have hne:w.heap.size<w1.heap.size:=HK1.out.lt;by_cases hlt:k<l.length
   ·obtain ⟨⟨m,u⟩,hx⟩:∃x,l[k]=x:=⟨_,rfl⟩;obtain ⟨g,off,rfl,hbl,c0,c1⟩:=Cc (HR.out.below (B'':=w.heap.size) HB.out hB hB) hlt hx;have hbl2:g<wr.heap.size:=Nat.lt_of_lt_of_le hbl HB.out.size;have hlti:(k:Int)<(l.length:Int):=by omega
    have HTK:Hid (l.take (k+1)=l.take k++[⟨m,u⟩]):=Lib.hid (by rw [List.take_add_one,List.getElem?_eq_getElem hlt,hx];rfl);have HST:Hid ((bj ⟨nm,kd,un,h⟩ ⟨m,u⟩ && decide (s+u≤un) && (decide (m=0) || !jq (l.take k) m) && eB ⟨nm,kd,un,h⟩ (s+u) (l.take (k+1)) (l.drop (k+1)))=q):=Lib.hid (by
     have h1:=HI.out;rw [lL hlt hx,AN HSH.out HPE.out ⟨hs0,hsu⟩ HS0.out] at h1;rw [HTK.out];exact h1)
    have k0:=HK.out.cellx 2 (v:=.int .i64 un) rfl;have j0:=HK.out.cellx 0 (v:=.string nm) rfl;have j1:=HK.out.cellx 1 (v:=.int .i64 kd) rfl;have j3:=HK.out.cellx 3 (v:=.int .i64 h) rfl;have hlw:w.heap.size<wr.heap.size:=HK.out.lt;clear hx hbl;cases hp:bj ⟨nm,kd,un,h⟩ ⟨m,u⟩ with
    | false =>
     have HQF:Hid (q=false):=Lib.hid (by rw [←HST.out,hp];rfl);have HPF:Hid (∀W,Calls prog 179 #[.agg #[.string nm,.int .i64 kd,.int .i64 un,.int .i64 h],.agg #[.int .i64 m,.int .i64 u]] W (o9 W (.bool false))):=Lib.hid (fun W=>hp▸HP.out m u W);clear hp;go_wp2_with fail
     refine (HPF.out _).mono ?_;rintro e w2 ⟨rfl,hb2⟩;have HB2:=Lib.hid hb2;clear hb2;go_wp2_with fail
     (try rw [Exit.noGoto_ret])
     go_ret
     exact ⟨aY HQF.out.symm,by exact ce⟩
    | true =>
     have HPT:Hid (∀W,Calls prog 179 #[.agg #[.string nm,.int .i64 kd,.int .i64 un,.int .i64 h],.agg #[.int .i64 m,.int .i64 u]] W (o9 W (.bool true))):=Lib.hid (fun W=>hp▸HP.out m u W);have HP1:Hid (bj ⟨nm,kd,un,h⟩ ⟨m,u⟩=true):=Lib.hid hp;have hub:0≤u∧u≤8:=by
      by_cases hk1:kd=1
      ·have:=(iT hp hk1).1;dsimp only at this;omega
      ·have:=kn hp hk1;dsimp only at this;omega
     have hwr:IntKind.i64.wrap (s+u)=s+u:=IntWalk.i64_in _ (by omega);have HPE2:Hid (∀b∈l.take (k+1),bj ⟨nm,kd,un,h⟩ b=true):=Lib.hid (by
      rw [HTK.out];intro b hb;rcases List.mem_append.1 hb with hb|hb
      ·exact HPE.out b hb
      ·simp only [List.mem_singleton] at hb;subst hb;exact hp)
     have HS2:Hid (kd=1→s+u=0):=Lib.hid (fun hk1=>by have h1:=(iT hp hk1).1;have h2:=HS0.out hk1;dsimp only at h1;omega);clear hp;by_cases hfit:s+u≤un
     ·have hfi:¬(un<s+u):=by omega
      by_cases hm0:m=0
      ·subst hm0;have HN:Hid (eB ⟨nm,kd,un,h⟩ (s+u) (l.take (k+1)) (l.drop (k+1))=q):=Lib.hid (by have h1:=HST.out;rw [HP1.out,decide_eq_true hfit] at h1;simpa using h1);have HSV:Hid (sv (l.take (k+1))=sv (l.take k)):=Lib.hid (by rw [HTK.out];exact Fb rfl);go_wp2_with fail
       refine (HPT.out _).mono ?_;rintro e w2 ⟨rfl,hb2⟩;obtain ⟨hc_w2,hf_w2⟩:=pe hb2;have hs_w2:=hb2.size
       (try simp at hs_w2)
       have hz_w2_0:wr.heap.size<w2.heap.size:=(by omega);clear hs_w2;have hz:w.heap.size<w2.heap.size:=by omega
       have HB2:=Lib.hid hb2;have HK2:Hid (Blk w2 w.heap.size 55 #[.string nm,.int .i64 kd,.int .i64 un,.int .i64 h]):=Lib.hid ((HK.out.alloc _).below hb2 (by simp;omega));have HV2:Hid (Blk w2 w1.heap.size 235 (sv (l.take k))):=Lib.hid ((HV.out.alloc _).below hb2 (by have:=HV.out.lt;simp;omega));clear hb2;go_wp2_with fail
       go_roundg (gk-1)
       case measure=>omega
       case rel=>exact ⟨k+1,s+u,rfl,by go_num,by go_num,by omega,by omega,by omega,by omega,HS2,HN,HPE2,Lib.hid ce,HK2,Lib.hid (by rw [HSV.out];exact HV2.out)⟩
      ·have hk1:kd=1:=Classical.byContradiction fun hk1=>hm0 (kn HP1.out hk1).1;have hmb:bY m=true:=(iT HP1.out hk1).2.resolve_left hm0;obtain ⟨n,hn1,hn5,rfl⟩:∃n:Nat,1≤n∧n≤5∧m=(n:Int):=⟨m.toNat,by have:=cY hmb;omega,by have:=cY hmb;omega,by have:=cY hmb;omega⟩;have HC:Hid ((!jq (l.take k) n && eB ⟨nm,kd,un,h⟩ (s+u) (l.take (k+1)) (l.drop (k+1)))=q):=Lib.hid (by have h1:=HST.out;rw [HP1.out,decide_eq_true hfit,decide_eq_false hm0] at h1;simpa using h1);have hm0b:((n:Int) == 0)=false:=beq_eq_false_iff_ne.2 hm0;have HSV:Hid (sv (l.take (k+1))=(sv (l.take k)).setIfInBounds n (.bool true)):=Lib.hid (by rw [HTK.out];exact HW rfl hn1 hn5);clear hm0 hk1 hmb;go_wp2_with fail
       refine (HPT.out _).mono ?_;rintro e w2 ⟨rfl,hb2⟩;obtain ⟨hc_w2,hf_w2⟩:=pe hb2;have hs_w2:=hb2.size
       (try simp at hs_w2)
       have hz_w2_0:wr.heap.size<w2.heap.size:=(by omega);clear hs_w2;have hz:w.heap.size<w2.heap.size:=by omega
       have HB2:=Lib.hid hb2;have HK2:Hid (Blk w2 w.heap.size 55 #[.string nm,.int .i64 kd,.int .i64 un,.int .i64 h]):=Lib.hid ((HK.out.alloc _).below hb2 (by simp;omega));have HV2:Hid (Blk w2 w1.heap.size 235 (sv (l.take k))):=Lib.hid ((HV.out.alloc _).below hb2 (by have:=HV.out.lt;simp;omega));have HT2:=Lib.hid (HT.out.below (show Below w.heap.size w w2 by exact ce));have HBW2:Hid (Below w.heap.size w w2):=Lib.hid ce;have hv0:=HV2.out.cellx 0 (v:=.bool (eW (l.take k) 0)) rfl;have hv1:=HV2.out.cellx 1 (v:=.bool (eW (l.take k) 1)) rfl;have hv2:=HV2.out.cellx 2 (v:=.bool (eW (l.take k) 2)) rfl;have hv3:=HV2.out.cellx 3 (v:=.bool (eW (l.take k) 3)) rfl;have hv4:=HV2.out.cellx 4 (v:=.bool (eW (l.take k) 4)) rfl;have hv5:=HV2.out.cellx 5 (v:=.bool (eW (l.take k) 5)) rfl;have hlv:=HV2.out.lt;have hfz:=HV2.out.frozen n;obtain ⟨un',hcn⟩:∃u,w2.cell? ⟨w1.heap.size,n,none⟩=some u:=⟨_,(HV2.out.cell n).trans (Array.getElem?_eq_getElem (show n<(sv (l.take k)).size by simp [sv];omega))⟩;have HM:=Lib.hid (fun a=>mE a n w2 HT2.out);obtain ⟨G,hG⟩:∃G,G=gk:=⟨_,rfl⟩;subst hG;obtain ⟨wo,hwo⟩:∃x,x=wr:=⟨_,rfl⟩;subst hwo;clear hb2;go_wp2_with fail
       go_loopg [5,42] 6 (fun m v5 v42 wq=>∃j:Nat,v5 = .bool true∧v42 = .int .i64 (j:Int)∧j≤6∧6≤j+m∧wq=w2∧Hid (∀i:Nat,i<j→(eW (l.take k) i && !ke i n)=false))
       case atStart=>exact ⟨0,rfl,rfl,by omega,by omega,rfl,Lib.hid (fun _ h=>absurd h (by omega))⟩
       case round =>
        obtain ⟨j,rfl,rfl,hj6,hjm,rfl,HJ⟩:=hrel;by_cases hj:j<6
        ·have ki:=fun W=>Cj (l.take k) hj W;unfold sv at ki;have hji:(j:Int)<6:=by omega
         have HMJ:=Lib.hid (HM.out j);obtain ⟨p1,hp1⟩:∃p,eW (l.take k) j=p:=⟨_,rfl⟩;obtain ⟨p2,hp2⟩:∃p,ke j n=p:=⟨_,rfl⟩;rw [hp1] at ki;rw [hp2] at HMJ;have HP12:=Lib.hid (And.intro hp1 hp2);clear hp1 hp2 hv0 hv1 hv2 hv3 hv4 hv5 hcn;cases p1 with
         | false =>
          go_wp2_with fail
          go_roundg (gk-1)
          case measure=>omega
          case rel=>exact ⟨j+1,rfl,by go_num,by omega,by omega,rfl,Lib.hid (fun i hi=>by
           rcases Nat.lt_or_ge i j with h1|h1
           ·exact HJ.out i h1
           ·obtain rfl:i=j:=by omega
            rw [HP12.out.1];rfl)⟩
         | true =>
          cases p2 with
          | true =>
           go_wp2_with fail
           refine HMJ.out.mono ?_;rintro e w3 ⟨rfl,hw3⟩;obtain rfl:=hw3.symm;clear hw3;go_wp2_with fail
           go_roundg (gk-1)
           case measure=>omega
           case rel=>exact ⟨j+1,rfl,by go_num,by omega,by omega,rfl,Lib.hid (fun i hi=>by
            rcases Nat.lt_or_ge i j with h1|h1
            ·exact HJ.out i h1
            ·obtain rfl:i=j:=by omega
             rw [HP12.out.2];simp)⟩
          | false =>
           have HQF:Hid (q=false):=Lib.hid (by
            have h1:jq (l.take k) n=true:=by
             unfold jq;rw [List.any_eq_true];exact ⟨j,by simpa using hj,by rw [HP12.out.1,HP12.out.2];rfl⟩
            rw [←HC.out,h1];rfl)
           go_wp2_with fail
           refine HMJ.out.mono ?_;rintro e w3 ⟨rfl,hw3⟩;obtain rfl:=hw3.symm;clear hw3;go_wp2_with fail
           (try rw [Exit.noGoto_ret])
           go_ret
           exact ⟨aY HQF.out.symm,HBW2.out⟩
        ·have hji:¬(j:Int)<6:=by omega
         have HN:Hid (eB ⟨nm,kd,un,h⟩ (s+u) (l.take (k+1)) (l.drop (k+1))=q):=Lib.hid (by
          have h1:jq (l.take k) n=false:=by
           unfold jq;rw [List.any_eq_false];intro i hi;rw [HJ.out i (by have:=List.mem_range.1 hi;omega)];simp
          rw [←HC.out,h1];rfl)
         go_wp2_with fail
         go_roundg (G-1)
         case measure=>omega
         case rel=>exact ⟨k+1,s+u,rfl,by go_num,by go_num,by omega,by omega,by omega,by omega,HS2,HN,HPE2,Lib.hid (Below.st HBW2.out (by simp;omega)),Lib.hid (HK2.out.far (by simp;omega) _),Lib.hid (by rw [HSV.out];exact HV2.out.set_ n _)⟩
     ·have hfi:un<s+u:=by omega
      have HQF:Hid (q=false):=Lib.hid (by rw [←HST.out,HP1.out,decide_eq_false hfit];rfl);go_wp2_with fail
      refine (HPT.out _).mono ?_;rintro e w2 ⟨rfl,hb2⟩;obtain ⟨hc_w2,hf_w2⟩:=pe hb2;have hs_w2:=hb2.size
      (try simp at hs_w2)
      have hz_w2_0:wr.heap.size<w2.heap.size:=(by omega);clear hs_w2;have hz:w.heap.size<w2.heap.size:=by omega
      have HB2:=Lib.hid hb2;clear hb2;go_wp2_with fail
      (try rw [Exit.noGoto_ret])
      go_ret
      exact ⟨aY HQF.out.symm,by exact ce⟩
   ·have HQT:Hid (q=true):=Lib.hid (by have h1:=HI.out;rw [qj hlt] at h1;exact h1.symm);have hlti:¬(k:Int)<(l.length:Int):=by omega
    go_wp2_with fail
    (try rw [Exit.noGoto_ret])
    go_ret
    exact ⟨aY HQT.out.symm,by exact ce⟩
def sF (r:Rs):Option Pr→List Ho→Bool
 | _,[]=>true
 | p,x :: l=>jl x.proc && aF r x.am && (match p with|none=>true|some p=>decide (bE p x.proc<0)) && sF r (some x.proc) l
def te (r:Rs) (l:List Ho):Bool:=bc r && decide (l.length≤8) && sF r none l && ib r (iv l)
theorem tf (r:Rs) (p:Option Pr) (x:Ho) (l:List Ho):sF r p (x :: l)=(jl x.proc && aF r x.am && (match p with|none=>true|some p=>decide (bE p x.proc<0)) && sF r (some x.proc) l):=rfl
def ql (l:List Ho) (k:Nat):Option Pr:=if k=0 then none else (l[k-1]?).map (·.proc)
theorem qm (l:List Ho):ql l 0=none:=rfl
theorem jr {l:List Ho} {k:Nat} {x:Ho} (h:k<l.length) (hx:l[k]=x):ql l (k+1)=some x.proc:=by
 unfold ql;rw [if_neg (by omega),Nat.add_sub_cancel,List.getElem?_eq_getElem h,hx];rfl
theorem tg {l:List Ho} {k:Nat} {x:Ho} (h0:0<k) (h:k-1<l.length) (hx:l[k-1]=x):ql l k=some x.proc:=by
 unfold ql;rw [if_neg (by omega),List.getElem?_eq_getElem h,hx];rfl
theorem yg (p q:Pr) (w:World):Calls prog 32 #[p.val,q.val] w (o9 w (.int .i64 (bE p q))):=by
 obtain ⟨a,b,c⟩:=p;obtain ⟨x,y,z⟩:=q;unfold Pr.val bE;dsimp only;obtain ⟨r1,h1⟩:∃r,nh a x=r:=⟨_,rfl⟩;obtain ⟨r2,h2⟩:∃r,nh b y=r:=⟨_,rfl⟩;obtain ⟨r3,h3⟩:∃r,nh c z=r:=⟨_,rfl⟩;rw [h1,h2,h3];obtain ⟨r,hr⟩:∃r,(if r1≠0 then r1 else if r2≠0 then r2 else r3)=r:=⟨_,rfl⟩;rw [hr];have HR:=Lib.hid hr;have G1:Hid (∀W:World,Calls prog 77 #[.int .i64 a,.int .i64 x] W (vO W (.int .i64 r1))):=Lib.hid (fun W=>by have:=og a x W;rw [h1] at this;exact this);have G2:Hid (∀W:World,Calls prog 77 #[.int .i64 b,.int .i64 y] W (vO W (.int .i64 r2))):=Lib.hid (fun W=>by have:=og b y W;rw [h2] at this;exact this);have G3:Hid (∀W:World,Calls prog 77 #[.int .i64 c,.int .i64 z] W (vO W (.int .i64 r3))):=Lib.hid (fun W=>by have:=og c z W;rw [h3] at this;exact this);clear hr h1 h2 h3
 go_enter func32,ntmps32
 go_wp2_with fail
 refine (G1.out _).mono ?_;rintro e w' ⟨rfl,rfl⟩;go_wp2_with fail
 rotate_left
 refine (G2.out _).mono ?_;rintro e w' ⟨rfl,rfl⟩;go_wp2_with fail
 rotate_left
 refine (G3.out _).mono ?_;rintro e w' ⟨rfl,rfl⟩;go_wp2_with fail
 all_goals go_ret
 all_goals refine ⟨lI ?_,((Below.refl _ _).alloc (Nat.le_refl _) _).alloc (by simp) _⟩
 all_goals rw [←HR.out]
 all_goals (clear HR G1 G2 G3;simp_all)
def eN (l:List Ho) (p:Pr):List Ho:=l.filter fun h=>!decide (h.proc=p)
def mn (x:Ho):List Ho→List Ho
 | []=>[x]
 | h :: l=>bif decide (0<bE h.proc x.proc) then x :: h :: l else h :: mn x l
def cr (l:List Ho) (p:Pr) (a:Am):List Ho:=bif aH a then eN l p else mn ⟨p,a⟩ (eN l p)
theorem lN (h:Ho) (l:List Ho) (p:Pr):eN (h :: l) p=bif decide (h.proc=p) then eN l p else h :: eN l p:=by
 unfold eN;rw [List.filter_cons];cases decide (h.proc=p) <;> rfl
theorem gX (x h:Ho) (l:List Ho):mn x (h :: l)=bif decide (0<bE h.proc x.proc) then x :: h :: l else h :: mn x l:=rfl
section
variable {α:Type} {E:El α} {w w':World} {l:List α} {base:Nat} {e:TypeId} {size:Nat} {xs:List Value} {g n cap:Nat}
theorem HY {xs:List Value} {j:Nat} {v:Value} (r:List Value) (h:j+1+r.length≤xs.length):(xs.set j v).take (j+1)++r++(xs.set j v).drop (j+1+r.length)=xs.take j++v :: r++xs.drop (j+(v :: r).length):=by
 have h1:(xs.set j v).take (j+1)=xs.take j++[v]:=by
  rw [List.set_eq_take_append_cons_drop,if_pos (by omega),List.take_append,List.length_take,Nat.min_eq_left (by omega),List.take_of_length_le (by rw [List.length_take];omega),show j+1-j=1 by omega];rfl
 have h2:(xs.set j v).drop (j+1+r.length)=xs.drop (j+(v :: r).length):=by
  rw [List.drop_set_of_lt (by omega),List.length_cons];congr 1
  omega
 rw [h1,h2];simp
theorem fp:∀(vs:List Value) (j:Nat) (w:World) (xs:List Value),w.ownsRow base e size (.slice (some ⟨g,0,none⟩) n cap) n xs→j+vs.length≤xs.length→
  (w.setCells g j vs).ownsRow base e size (.slice (some ⟨g,0,none⟩) n cap) n (xs.take j++vs++xs.drop (j+vs.length))
 | [],j,w,xs,h,_=>by simpa [World.setCells] using h
 | v :: r,j,w,xs,h,hl=>by
  have hl':j+1+r.length≤xs.length:=by simp at hl;omega
  rw [World.setCells,←HY r hl'];exact fp r (j+1) _ _ (h.stored j v).1 (by simpa using hl')
theorem ko:∀(vs:List Value) (j:Nat) (w:World) (xs:List Value),w.ownsRow base e size (.slice (some ⟨g,0,none⟩) n cap) n xs→xs.length≤j→
  (w.setCells g j vs).ownsRow base e size (.slice (some ⟨g,0,none⟩) n cap) n xs
 | [],j,w,xs,h,_=>by simpa [World.setCells] using h
 | v :: r,j,w,xs,h,hl=>by
  rw [World.setCells];have:=(h.stored j v).1;rw [List.set_eq_of_length_le hl] at this;exact ko r (j+1) _ _ this (by omega)
theorem bM:∀(vs:List Value) (j:Nat) (w:World) (b:Nat),b≠g→(w.setCells g j vs).heap[b]? = w.heap[b]?
 | [],_,_,_,_=>rfl
 | v :: r,j,w,b,h=>by
  rw [World.setCells,bM r (j+1) _ b h];exact heap_setCell_other w ⟨g,j,none⟩ b v h
theorem bO:∀(vs:List Value) (j:Nat) (w:World),(w.setCells g j vs).heap.size=w.heap.size
 | [],_,_=>rfl
 | v :: r,j,w=>by
  rw [World.setCells,bO r (j+1)];simp [World.setCell]
theorem de {B:Nat} (hg:B≤g):∀(vs:List Value) (j:Nat) (w':World),Below B w w'→Below B w (w'.setCells g j vs)
 | [],_,_,h=>h
 | v :: r,j,w',h=>by
  rw [World.setCells];exact de hg r (j+1) _ (h.setCell hg v)
theorem OwnRows.cut (h:OwnRows E e w base (.slice (some ⟨g,0,none⟩) l.length cap) l) {k:Nat} (hk:k≤l.length):OwnRows E e w base (.slice (some ⟨g,0,none⟩) k cap) (l.take k):=by
 obtain ⟨h0,xs,⟨h1,h2⟩,h3⟩:=h;refine ⟨h0,xs.take (k*E.n),?_,h3.take k⟩;rw [List.length_take,Nat.min_eq_left hk];have hle:k*E.n≤l.length*E.n:=Nat.mul_le_mul_right _ hk;refine ⟨by rw [List.length_take,h1,Nat.min_eq_left hle],?_⟩;rcases h2 with ⟨hv,_⟩|⟨g',cap',cur,hv,hg,hh,hnc,hcm,hcs,ht⟩
 ·cases hv
 ·injection hv with e1 _ e3;injection e1 with e1;injection e1 with e1;subst e1;subst e3;refine .inr ⟨_,_,cur,rfl,hg,hh,by omega,hcm,hcs,?_⟩;rw [←ht,List.take_take,Nat.min_eq_left hle]
theorem OwnRows.setRow (h:OwnRows E e w base (.slice (some ⟨g,0,none⟩) l.length cap) l) {i:Nat} (hi:i<l.length) {y:α} {cs:List Value}
  (hy:E.rep (w.setCells g (i*E.n) cs) (ya (w.setCells g (i*E.n) cs) (.slice (some ⟨g,0,none⟩) l.length cap)) y cs) :
  OwnRows E e (w.setCells g (i*E.n) cs) base (.slice (some ⟨g,0,none⟩) l.length cap) (l.set i y):=by
 have hl:=E.len hy;refine h.setAll hi hy (bO _ _ _) (fun b hb=>bM _ _ _ _ fun e=>hb.2 (by rw [e];rfl)) fun xs hx=>?_;have:=fp cs (i*E.n) w xs hx (by
  rw [hl,hx.1];have:=Nat.mul_le_mul_right E.n (show i+1≤l.length from hi);rw [Nat.add_mul,Nat.one_mul] at this;exact this)
 rwa [hl] at this
theorem OwnRows.off (h:OwnRows E e w base (.slice (some ⟨g,0,none⟩) l.length cap) l) (vs:List Value) {j:Nat} (hj:l.length*E.n≤j):OwnRows E e (w.setCells g j vs) base (.slice (some ⟨g,0,none⟩) l.length cap) l:=by
 obtain ⟨h0,xs,h1,h3⟩:=h;refine ⟨by rw [bO];exact h0,xs,ko vs j w xs h1 (by rw [h1.1];exact hj),h3.same (fun b hb=>bM _ _ _ _ fun e=>hb.2 (by rw [e];rfl)) fun b hb=>⟨by rw [bO];exact hb.1,hb.2⟩⟩
theorem OwnRows.cellAt (h:OwnRows E e w base (.slice (some ⟨g,0,none⟩) l.length cap) l) {j:Nat} (hj:j<cap*E.n):(w.cell? ⟨g,j,none⟩).isSome=true∧w.frozen? ⟨g,j,none⟩=false:=by
 obtain ⟨h0,xs,⟨h1,h2⟩,h3⟩:=h;rcases h2 with ⟨hv,_⟩|⟨g',cap',cur,hv,hg,hh,hnc,hcm,hcs,ht⟩
 ·cases hv
 ·injection hv with e1 _ e3;injection e1 with e1;injection e1 with e1;subst e1;subst e3;refine ⟨?_,frozen_of_row w _ j cur e hh⟩;have:w.cell? ⟨g,j,none⟩=cur[j]?:=by simp [World.cell?,hh]
  rw [this,Array.getElem?_eq_getElem (by rw [hcs];exact hj)];rfl
end
section
variable {α:Type} {E:El α} {w w':World} {l ys:List α} {base:Nat} {e:TypeId} {g cap:Nat}
theorem gY {P:Program} (w:World) (t ty e:TypeId) (k:Nat) (b o dLen dCap:Nat) (a:Addr) (sLen sCap:Nat) (cs:List Value)
  (hu:P.underlying t=some (.slice e)) (hs:(P.info? e).map (·.size)=some k) (hn:cs.length=Nat.min sLen dLen*k)
  (hsrc:∀j v,cs[j]? = some v→w.cell? (a.add j)=some v) (hc:∀j,j<cs.length→(w.cell? ⟨b,o+j,none⟩).isSome=true) (hf:∀j,j<cs.length→w.frozen? ⟨b,o+j,none⟩=false) (h1:∀v∈cs,v.oneCell'=true) :
  (Builtin.copy_ #[t,t] ty #[.slice (some ⟨b,o,none⟩) dLen dCap,.slice (some a) sLen sCap]).run P w = .ok (goInt (Nat.min sLen dLen)) (w.setCells b o cs):=by
 have hl:=run_loadCells_list (P:=P) w a cs hsrc;have hst:=run_storeCells_cells (P:=P) b o cs 0 w (by simpa using hc) (by simpa using hf) h1;cases hq:P.info? e with
 | none=>simp [hq] at hs
 | some i =>
  have hi:i.size=k:=by simpa [hq] using hs
  simp [Builtin.copy_,run_underlying hu,Builtin.lenOf,Builtin.firstCells,sizeOf,typeInfo,hq,hi,←hn,hl,hst]
theorem kq {P:Program} (w:World) (t ty e:TypeId) (k:Nat) (d a:Option Addr) (dLen dCap sLen sCap:Nat) (hu:P.underlying t=some (.slice e)) (hs:(P.info? e).map (·.size)=some k) (hn:Nat.min sLen dLen=0) :
  (Builtin.copy_ #[t,t] ty #[.slice d dLen dCap,.slice a sLen sCap]).run P w = .ok (goInt 0) w:=by
 cases hq:P.info? e with
 | none=>simp [hq] at hs
 | some i =>
  have hl:∀(x:Addr),(loadCells x 0).run P w = .ok #[] w:=fun x=>by simpa using run_loadCells_list (P:=P) w x [] (by simp)
  cases d <;> cases a <;> simp [Builtin.copy_,run_underlying hu,Builtin.lenOf,Builtin.firstCells,sizeOf,typeInfo,hq,hn,storeCells,hl]
end
def qn (A:Option Addr) (cap k size:Nat):Option Addr:=if cap=k then A else A.map (·.add (k*size))
theorem vW {P:Program} {t e:TypeId} {i:TypeInfo} (ht:P.underlying t=some (.slice e)) (hi:P.info? e=some i) (A:Option Addr) (n cap k:Nat) (hk:k≤cap) (w:World) :
  (Instr.slice t (.slice A n cap) none (some (.int .i64 (k:Int))) none).run P w = .ok (.slice A k cap) w:=by
 have he:P.elem t=e:=by simp [Program.elem,ht]
 have hh:((k:Int)).toNat=k:=by omega
 rw [run_slice_h w t A n cap (by rw [he];exact ht) .i64 k (by omega) (by omega),he,hh];have h0:∀a:Addr,a.add 0=a:=fun a=>by unfold Addr.add;simp
 cases A <;> simp [sizeOf,typeInfo,hi,sliced,Result.andThen,h0]
theorem Ck {P:Program} {t e:TypeId} {i:TypeInfo} (ht:P.underlying t=some (.slice e)) (hi:P.info? e=some i) (A:Option Addr) (n cap k:Nat) (hk:k≤n) (w:World) :
  (Instr.slice t (.slice A n cap) (some (.int .i64 (k:Int))) none none).run P w = .ok (.slice (qn A cap k i.size) (n-k) (cap-k)) w:=by
 have he:P.elem t=e:=by simp [Program.elem,ht]
 have hh:((k:Int)).toNat=k:=by omega
 rw [run_slice_l w t A n cap (by rw [he];exact ht) .i64 k (by omega) (by omega),he,hh];simp [sizeOf,typeInfo,hi,sliced,Result.andThen,qn]
theorem vX {t e:TypeId} {z:Value} {sz by_:Nat} (ht:prog.underlying t=some (.slice e)) (hi:(prog.info? e).map (fun i=>(i.zero,i.size,i.bytes))=some (some z,sz,by_)) (A:Option Addr) (n cap k:Nat) (hk:k≤n) (hc:n≤cap) :
  (∀w,(Instr.sliceAt t (.slice A n cap) none (some (.int .i64 (k:Int))) none).run prog w = .ok (.slice A k cap) w)∧
  ∀w,(Instr.sliceAt t (.slice A n cap) (some (.int .i64 (k:Int))) none none).run prog w = .ok (.slice (qn A cap k sz) (n-k) (cap-k)) w:=by
 obtain ⟨i0,hi0,hz0,hz1,hz2⟩:=info_parts hi;have he:prog.elem t=e:=by simp [Program.elem,ht]
 constructor
 ·intro w;rw [run_sliceAt_slice w t _ _ _ _ (by rw [he];exact ht)];exact vW ht hi0 A n cap k (by omega) w
 ·intro w;rw [run_sliceAt_slice w t _ _ _ _ (by rw [he];exact ht),Ck ht hi0 A n cap k hk w,hz1]
theorem nk (l:List Ho) (p:Pr):(eN l p).length≤l.length:=List.length_filter_le _ _
section
def th (r:Rs) (l:List Ho) (p:Pr) (a:Am):Bool:=te r l && jl p && aF r a
def fW (r:Rs) (l:List Ho) (p:Pr) (a:Am):Bool:=th r l p a && te r (cr l p a)
theorem nl (x:Ho):∀l:List Ho,(mn x l).length=l.length+1
 | []=>rfl
 | h :: l=>by
  rw [gX];cases decide (0<bE h.proc x.proc) <;> simp [nl x l]
theorem Cl (l:List Ho) (p:Pr) (a:Am):(cr l p a).length≤l.length+1:=by
 have:=nk l p;unfold cr;cases aH a
 ·simp [nl];omega
 ·simp;omega
variable {w v v':World} {nm:ByteArray} {kd un h x y z m u:Int}
end
structure Qu where
 res:Rs
 holds:List Ho
 convs:List Wt
 waits:List Wt
 gen:Int
def Qu.val (q:Qu) (A1 A2 A3:Option Addr) (c1 c2 c3:Nat):Value:=.agg #[.string q.res.name,.int .i64 q.res.kind,.int .i64 q.res.units,.int .i64 q.res.home,.slice A1 q.holds.length c1,.slice A2 q.convs.length c2,.slice A3 q.waits.length c3,.int .i64 q.gen]
structure QF (w:World) (B:Nat) (A1 A2 A3:Option Addr) (q:Qu):Prop where
 r1:RowsAt fV w (Lo B) A1 q.holds
 r2:RowsAt eM w (Lo B) A2 q.convs
 r3:RowsAt eM w (Lo B) A3 q.waits
 m1:q.holds.length≤maxLen
 m2:q.convs.length≤maxLen
 m3:q.waits.length≤maxLen
 hB:B≤w.heap.size
section
variable {w v v':World} {nm:ByteArray} {kd un h gen:Int} {A1 A2 A3:Option Addr} {n1 n2 n3 c1 c2 c3:Nat}
end
def dm (q:Qu):Option Wt:=match q.convs with|x :: _=>some x | []=>q.waits.head?
def AO (q:Qu) (k:Nat) (x:Wt):Bool:=decide (dG q.convs x.proc=(k:Int)) && !aH (ao q.holds x.proc) && aF q.res x.am && bg q.res x.am (ao q.holds x.proc) && !decide (x.am=ao q.holds x.proc) && decide (x.prio=0) && decide (x.passed=0)
def uz (q:Qu):Nat→List Wt→Bool
 | _,[]=>true
 | k,x :: l=>AO q k x && uz q (k+1) l
def Jl (q:Qu):Bool:=decide (q.convs.length≤8) && uz q 0 q.convs
def sG (q:Qu):List Wt→Bool
 | []=>true
 | x :: l=>aF q.res x.am && aH (ao q.holds x.proc) && sG q l
def Jm (q:Qu):Bool:=d9 q.waits && decide (q.holds.length+q.waits.length≤8) && sG q q.waits
def iL (q:Qu):Bool:=mm q.res && te q.res q.holds && Jl q && Jm q && decide (0≤q.gen) && decide (q.gen≤1073741824)
def aw (q:Qu):Bool:=iL q && match dm q with
 | none=>true
 | some x=>!fW q.res q.holds x.proc x.am
theorem oh (q:Qu) (k:Nat) (x:Wt) (l:List Wt):uz q k (x :: l)=(AO q k x && uz q (k+1) l):=rfl
theorem ol (q:Qu) (x:Wt) (l:List Wt):sG q (x :: l)=(aF q.res x.am && aH (ao q.holds x.proc) && sG q l):=rfl
theorem H0:(prog.info? 171).map (fun i=>(i.zero,i.size,i.bytes))=some (some (.agg #[.int .i64 0,.int .i64 0,.int .i64 0,.int .i64 0,.int .i64 0,.int .i64 0,.int .i64 0]),7,56):=by kernel_rfl
theorem Cn (n:Nat) (h0:0<n) (hn:n≤1000000) (w:World):∃(G:Nat) (mc:Array Value),n≤G∧G≤maxLen∧mc.size=G*7∧
  ∀ty,(Builtin.append_ #[79,3] ty #[.slice none 0 0,.int .i64 (n:Int)]).run prog w = .ok (.slice (some ⟨w.heap.size,0,none⟩) n G) (w.drew.alloc (.cells mc 171)):=by
 obtain ⟨i0,hi,hz0,hz1,hz2⟩:=info_parts H0;have hold:(Builtin.firstCells i0.size 0 (.slice none 0 0)).run prog w.drew = .ok #[] w.drew:=rfl;have hbig:(0+n)*i0.bytes≤140737488355328:=by rw [hz2];omega
 have hG:=grownCap_ge w (0+n) 0 171;have hGm:=grownCap_le_maxLen w (0+n) 0 171 (by unfold maxLen;omega);have hr:=fun ty=>Lib.run_append_grow_zeros w 79 3 ty 171 i0 _ .i64 .i64 underlying79 underlying3 hi hz0 none 0 0 [] hold n (by omega) (by rw [hz1];decide) (by omega) (by omega)
   (by rw [hz2];omega) (growslice_fits (by omega) hbig)
 rw [Nat.zero_add] at hr hG hGm;refine ⟨grownCap w n 0 171,#[]++Builtin.zeroCells #[.int .i64 0,.int .i64 0,.int .i64 0,.int .i64 0,.int .i64 0,.int .i64 0,.int .i64 0] n++Builtin.zeroCells #[.int .i64 0,.int .i64 0,.int .i64 0,.int .i64 0,.int .i64 0,.int .i64 0,.int .i64 0] (grownCap w n 0 171-n),hG,hGm,?_,fun ty=>?_⟩
 ·simp [Builtin.zeroCells];omega
 ·have h:=hr ty;exact h
theorem wpList_append_run {P:Program} (w w':World) {ops:Array Oper} {rest:List Oper} {o:Oper} {a:Act} {Q:Exit→Act→World→Prop} (hgd:o.guard=none) (s x:Operand) (t t':TypeId)
  (ho:o.op = .call { callee:=.builtin .append,args:=#[s,x],argTypes:=#[t,t'] }) (v1 v2 r:Value) (hs:a.eval s=v1) (hx:a.eval x=v2) (hrun:(Builtin.append_ #[t,t'] o.type #[v1,v2]).run P w = .ok r w')
  (h:wpList P ops Q rest (a.put o.dst r) w'):wpList P ops Q (o :: rest) a w:=by
 refine wpList_plain hgd fun K hK=>?_;unfold Oper.wp;simp [execOp,ho,resolve,invoke,builtin,hs,hx,hrun,Result.andThen];exact hK _ _ h
theorem Co (n:Nat) (hn:n≤1000000) (w:World):Calls prog 311 #[.slice none 0 0,.int .i64 (n:Int)] w fun e w'=>∃A cap,e = .returned (.slice A 0 cap)∧OwnRows eM 171 w' w.heap.size (.slice A 0 cap) []∧Below w.heap.size w w':=by
 rcases Nat.eq_zero_or_pos n with rfl|h0
 ·go_enter func311,ntmps311
  go_wp2_with fail
  go_ret
  exact ⟨none,0,rfl,OwnRows.nil _ _ _ _ (Nat.le_refl _),Below.refl _ _⟩
 ·obtain ⟨G,mc,hG,hGm,hsz,hrun⟩:=Cn n h0 hn w;have HO:Hid (OwnRows eM 171 (w.drew.alloc (.cells mc 171)) w.heap.size (.slice (some ⟨w.heap.size,0,none⟩) 0 G) []):=Lib.hid (OwnRows.made eM 171 w.drew w.heap.size mc G (Nat.le_refl _) hGm hsz);have h0i:(0:Int)<(n:Int):=by omega
  have hw:IntKind.i64.wrap ((n:Int)-0)=(n:Int):=by rw [IntWalk.i64_in _ (by omega)];omega
  have hw0:IntKind.i64.wrap ((0:Int)-0)=0:=rfl;clear hsz
  go_enter func311,ntmps311
  go_wp2_with (at_builtin;refine wpList_append_run w (w.drew.alloc (.cells mc 171)) rfl (.tmp 20) (.tmp 21) 79 3 rfl _ _ _ rfl rfl (hrun _) ?_)
  go_ret
  exact ⟨_,G,rfl,HO.out,Below.al (Below.refl _ _).drew _⟩
def pg (cs ws:List Wt):Nat→List Wt
 | 0=>[]
 | 1=>cs
 | _=>cs++ws
theorem yh (g:Nat) (A2 A3:Option Addr) (c2 c3:Nat) (cs ws:List Wt) (w:World) (B:Nat) (hB:B≤w.heap.size) (h0:w.cell? ⟨g,0,none⟩=some (.slice A2 cs.length c2)) (h1:w.cell? ⟨g,1,none⟩=some (.slice A3 ws.length c3))
  (r2:RowsAt eM w (Lo B) A2 cs) (r3:RowsAt eM w (Lo B) A3 ws) (hl:cs.length+ws.length≤1000000) :
  Calls prog 261 #[.slice (some ⟨g,0,none⟩) 2 2] w (uu eM 171 w (cs++ws)):=by
 have HG:=Lib.hid (fun W=>Co (cs.length+ws.length) hl W);rw [show ((cs.length+ws.length:Nat):Int)=(cs.length:Int)+(ws.length:Int) by omega] at HG;have hgl:g<w.heap.size:=World.block_lt_of_cell? w _ h0;have HR2:=Lib.hid r2;have HR3:=Lib.hid r3;have HH0:=Lib.hid h0;have HH1:=Lib.hid h1;clear r2 r3
 go_enter func261,ntmps261
 go_wp2_with fail
 go_loopg [3,11] 2 (fun m0 v3 v11 wq=>∃j:Nat,v11 = .int .i64 (j:Int)∧j≤2∧2≤j+m0∧v3 = .int .i64 ((pg cs ws j).length:Int)∧wq=w)
 case atStart=>exact ⟨0,rfl,by omega,by omega,rfl,rfl⟩
 case round =>
  obtain ⟨j,rfl,hj,hjm,rfl,rfl⟩:=hrel;have hj3:j=0∨j=1∨j=2:=by omega
  have hw1:IntKind.i64.wrap ((0:Int)+(cs.length:Int))=(cs.length:Int):=by rw [IntWalk.i64_in _ (by omega)];omega
  have hw2:IntKind.i64.wrap ((cs.length:Int)+(ws.length:Int))=(cs.length:Int)+(ws.length:Int):=IntWalk.i64_in _ (by omega);have hn1:¬(cs.length:Int)<0:=by omega
  have hn2:¬(cs.length:Int)+(ws.length:Int)<0:=by omega
  rcases hj3 with rfl|rfl|rfl
  ·simp only [pg,List.length_nil];go_wp2_with fail
   go_roundg (gk-1)
   case measure=>omega
   case rel=>exact ⟨1,by go_num,by omega,by omega,by simp [pg],rfl⟩
  ·simp only [pg];go_wp2_with fail
   go_roundg (gk-1)
   case measure=>omega
   case rel=>exact ⟨2,by go_num,by omega,by omega,by simp [pg],rfl⟩
  ·simp only [pg,List.length_append];rw [show ((cs.length+ws.length:Nat):Int)=(cs.length:Int)+(ws.length:Int) by omega];go_wp2_with fail
   refine (HG.out _).mono ?_;rintro e w1 ⟨A1,cap1,rfl,hown1,hb1⟩;have HO1:=Lib.hid hown1;have HB1:=Lib.hid hb1;clear hown1 hb1 h0 h1;obtain ⟨wo,hwo⟩:∃x,x=wr:=⟨_,rfl⟩;subst hwo;go_wp2_with fail
   go_loopg [6,27] 2 (fun m0 v6 v27 wq=>∃j:Nat,v27 = .int .i64 (j:Int)∧j≤2∧2≤j+m0∧Hid (OwnRows eM 171 wq wo.heap.size v6 (pg cs ws j))∧Hid (Below wo.heap.size wo wq))
   case atStart=>exact ⟨0,rfl,by omega,by omega,HO1,HB1⟩
   case round =>
    obtain ⟨j,rfl,hj,hjm,HO,HB⟩:=hrel;have hj3:j=0∨j=1∨j=2:=by omega
    have h0:=(HB.out.cell (p:=⟨g,0,none⟩) hgl).trans HH0.out;have h1:=(HB.out.cell (p:=⟨g,1,none⟩) hgl).trans HH1.out;have hgl2:g<wr.heap.size:=Nat.lt_of_lt_of_le hgl HB.out.size;rcases hj3 with rfl|rfl|rfl
    ·replace HO:Hid (OwnRows eM 171 wr wo.heap.size u6 []):=Lib.hid HO.out
     go_wp2_with (at_builtin;refine yb Hz rfl (.tmp 31) (.tmp 32) rfl wr wo.heap.size u6 [] cs cs.length rfl A2 c2 rfl HO.out rfl (HR2.out.same (fun b hb=>HB.out.block b (Nat.lt_of_lt_of_le hb hB)) fun b hb=>HO.out.oth (Nat.lt_of_lt_of_le hb hB)) (by first|(unfold maxLen;simp;omega)|(unfold maxLen;omega)) (by first|omega|(simp;omega)) ?_;intro v7 w7 hown7 hb7 hsp7;have HB7:Hid (Below wo.heap.size wo w7):=Lib.hid (HB.out.trans hb7);have HO7:=Lib.hid hown7;clear hown7 hb7 hsp7)
     go_roundg (gk-1)
     case measure=>omega
     case rel=>exact ⟨1,by go_num,by omega,by omega,Lib.hid (by have:=HO7.out;simpa [pg] using this),HB7⟩
    ·replace HO:Hid (OwnRows eM 171 wr wo.heap.size u6 cs):=Lib.hid HO.out
     go_wp2_with (at_builtin;refine yb Hz rfl (.tmp 31) (.tmp 32) rfl wr wo.heap.size u6 cs ws ws.length rfl A3 c3 rfl HO.out rfl (HR3.out.same (fun b hb=>HB.out.block b (Nat.lt_of_lt_of_le hb hB)) fun b hb=>HO.out.oth (Nat.lt_of_lt_of_le hb hB)) (by first|(unfold maxLen;simp;omega)|(unfold maxLen;omega)) (by first|omega|(simp;omega)) ?_;intro v7 w7 hown7 hb7 hsp7;have HB7:Hid (Below wo.heap.size wo w7):=Lib.hid (HB.out.trans hb7);have HO7:=Lib.hid hown7;clear hown7 hb7 hsp7)
     go_roundg (gk-1)
     case measure=>omega
     case rel=>exact ⟨2,by go_num,by omega,by omega,HO7,HB7⟩
    ·go_wp2_with fail
     go_ret
     exact ⟨_,rfl,HO.out,HB.out⟩
def mF (q:Qu):List Pr:=(q.convs++q.waits).map (·.proc)
theorem AP (q:Qu) (A1 A2 A3:Option Addr) (c1 c2 c3:Nat) (w:World) (B:Nat) (hq:QF w B A1 A2 A3 q) (h8:q.convs.length≤8) (h8':q.waits.length≤8) :
  Calls prog 199 #[q.val A1 A2 A3 c1 c2 c3] w (uu eM 171 w (q.convs++q.waits)):=by
 have HC:=Lib.hid (fun g W (hb:Below w.heap.size w W) h0 h1=>yh g A2 A3 c2 c3 q.convs q.waits W B (Nat.le_trans hq.hB hb.size) h0 h1 (hq.r2.below hb hq.hB (Nat.le_refl _)) (hq.r3.below hb hq.hB (Nat.le_refl _)) (by omega));clear hq;obtain ⟨⟨nm,kd,un,h⟩,hs,cs,ws,gen⟩:=q;unfold Qu.val;dsimp only at HC h8 h8' ⊢
 go_enter func199,ntmps199
 go_wp2_with fail
 refine (HC.out (w.heap.size+1) _ ce (by go_simp) (by go_simp)).mono ?_;rintro e w1 ⟨v1,rfl,hown1,hb1⟩;have HO1:=Lib.hid hown1;have HB1:=Lib.hid hb1;clear hown1 hb1;go_wp2_with fail
 go_ret
 exact ⟨_,rfl,HO1.out.older (by simp;omega),by exact ce⟩
def bW (l:List Wt):List Pr:=l.map (·.proc)
def gF:List Wt→Pr→Option Am
 | [],_=>none
 | x :: l,p=>bif decide (x.proc=p) then some x.am else gF l p
def ap (q:Qu) (p:Pr):Option Am:=gF (q.convs++q.waits) p
theorem cM (x:Wt) (l:List Wt) (p:Pr):gF (x :: l) p=bif decide (x.proc=p) then some x.am else gF l p:=rfl
instance:Inhabited Pr:=⟨Ju⟩
theorem gN (p q:Pr):fT p q∨p=q∨fT q p:=by
 rcases dd p q with ⟨h,_⟩|⟨h,_⟩|⟨h,_⟩
 ·exact Or.inl h
 ·exact Or.inr (Or.inl h)
 ·exact Or.inr (Or.inr h)
theorem gO (p q:Pr):bE p q<0↔fT p q:=by
 rcases dd p q with ⟨h,e⟩|⟨h,e⟩|⟨h,e⟩ <;> rw [e]
 ·exact ⟨fun _=>h,fun _=>by decide⟩
 ·subst h;exact ⟨fun c=>absurd c (by decide),fun c=>absurd c (bH _)⟩
 ·exact ⟨fun c=>absurd c (by decide),fun c=>absurd h (lJ c)⟩
def EY (l:List Pr):Prop:=l.Pairwise fT
theorem kt (d:Array Pr):∀m x,x∈Go.Lib.compactUpTo d m↔∃j,j<m∧d[j]! = x
 | 0,x=>by simp [Go.Lib.compactUpTo]
 | m+1,x=>by
  rw [Go.Lib.compactUpTo_succ,List.mem_append,kt d m x];by_cases h:Go.Lib.keeps d m=true
  ·rw [if_pos h,List.mem_singleton];constructor
   ·rintro (⟨j,hj,e⟩|e)
    ·exact ⟨j,by omega,e⟩
    ·exact ⟨m,by omega,e.symm⟩
   ·rintro ⟨j,hj,e⟩;rcases Nat.lt_or_ge j m with h1|h1
    ·exact Or.inl ⟨j,h1,e⟩
    ·have:j=m:=by omega
     subst this;exact Or.inr e.symm
  ·rw [if_neg h];have hk:¬(m=0∨d[m]!≠d[m-1]!):=by simpa [Go.Lib.keeps] using h
   have h0:m≠0:=fun e=>hk (Or.inl e);have he:d[m]! = d[m-1]!:=Classical.byContradiction fun e=>hk (Or.inr e);constructor
   ·rintro (⟨j,hj,e⟩|e)
    ·exact ⟨j,by omega,e⟩
    ·cases e
   ·rintro ⟨j,hj,e⟩;rcases Nat.lt_or_ge j m with h1|h1
    ·exact Or.inl ⟨j,h1,e⟩
    ·have:j=m:=by omega
     subst this;exact Or.inl ⟨j-1,by omega,he.symm.trans e⟩
theorem ph (d:Array Pr) (hs:∀i j,i<j→j<d.size→¬fT d[j]! d[i]!):∀m,m≤d.size→EY (Go.Lib.compactUpTo d m)
 | 0,_=>by simp [Go.Lib.compactUpTo,EY]
 | m+1,hm=>by
  have ih:=ph d hs m (by omega);rw [Go.Lib.compactUpTo_succ];by_cases h:Go.Lib.keeps d m=true
  ·rw [if_pos h];unfold EY at *
   rw [List.pairwise_append];refine ⟨ih,by simp,fun x hx y hy=>?_⟩;rw [List.mem_singleton.1 hy];obtain ⟨j,hj,rfl⟩:=(kt d m x).1 hx;have hk:m=0∨d[m]!≠d[m-1]!:=by simpa [Go.Lib.keeps] using h
   have hne:d[m]!≠d[m-1]!:=hk.resolve_left (by omega);rcases gN d[j]! d[m]! with h1|h1|h1
   ·exact h1
   ·exfalso;have a1:¬fT d[m]! d[m-1]!:=hs (m-1) m (by omega) (by omega);rcases Nat.lt_or_ge j (m-1) with h2|h2
    ·have a2:=hs j (m-1) h2 (by omega);rw [h1] at a2;rcases gN d[m]! d[m-1]! with h3|h3|h3
     ·exact a1 h3
     ·exact hne h3
     ·exact a2 h3
    ·have:j=m-1:=by omega
     subst this;exact hne h1.symm
   ·exact absurd h1 (hs j m hj (by omega))
  ·rw [if_neg h,List.append_nil];exact ih
def dM (l:List Pr):List Pr:=Go.Lib.compact (l.mergeSort fun x y=>!decide (bE y x<0))
theorem cN (l:List Pr) (x:Pr):x∈dM l↔x∈l:=by
 unfold dM Go.Lib.compact;rw [kt];have hp:=List.mergeSort_perm l fun x y=>!decide (bE y x<0);rw [←hp.mem_iff];constructor
 ·rintro ⟨j,hj,rfl⟩;rw [getElem!_pos _ j (by simpa using hj)];simp
 ·intro h;obtain ⟨j,hj,rfl⟩:=List.getElem_of_mem h;exact ⟨j,hj,by rw [getElem!_pos _ j (by simpa using hj)];simp⟩
theorem iW (l:List Pr):EY (dM l):=by
 unfold dM Go.Lib.compact;have hp:(l.mergeSort fun x y=>!decide (bE y x<0)).Pairwise fun x y=>(!decide (bE y x<0))=true:=by
  apply List.pairwise_mergeSort
  ·intro a b c h1 h2;simp only [Bool.not_eq_true',decide_eq_false_iff_not,gO] at *
   intro h3;rcases gN b c with h|h|h
   ·exact h1 (cL h h3)
   ·subst h;exact h1 h3
   ·exact h2 h
  ·intro a b;simp only [Bool.or_eq_true,Bool.not_eq_true',decide_eq_false_iff_not,gO];rcases gN a b with h|h|h
   ·exact Or.inl (lJ h)
   ·subst h;exact Or.inl (bH _)
   ·exact Or.inr (lJ h)
 generalize (l.mergeSort fun x y=>!decide (bE y x<0))=M at *
 refine ph _ ?_ _ (by simp);intro i j hij hj;have hj':j<M.length:=by simpa using hj
 rw [getElem!_pos _ j hj,getElem!_pos _ i (by omega)];have:=List.pairwise_iff_getElem.1 hp i j (by omega) hj' hij;simp only [Bool.not_eq_true',decide_eq_false_iff_not,gO] at this;simpa using this
theorem om (l:List Pr):(dM l).length≤l.length:=by
 unfold dM Go.Lib.compact Go.Lib.compactUpTo;rw [List.length_map];refine Nat.le_trans (List.length_filter_le _ _) ?_;simp
theorem uA:∀{l l':List Pr},EY l→EY l'→(∀x,x∈l↔x∈l')→l=l'
 | [],[],_,_,_=>rfl
 | [],y :: l',_,_,h=>absurd ((h y).2 (by simp)) (by simp)
 | x :: l,[],_,_,h=>absurd ((h x).1 (by simp)) (by simp)
 | x :: l,y :: l',ha,hb,h=>by
  unfold EY at ha hb;rw [List.pairwise_cons] at ha hb;have hxy:x=y:=by
   rcases List.mem_cons.1 ((h x).1 (by simp)) with e|e
   ·exact e
   ·rcases List.mem_cons.1 ((h y).2 (by simp)) with e'|e'
    ·exact e'.symm
    ·exact absurd (cL (hb.1 x e) (ha.1 y e')) (bH _)
  subst hxy;rw [uA (l:=l) (l':=l') ha.2 hb.2 fun z=>⟨fun hz=>?_,fun hz=>?_⟩]
  ·rcases List.mem_cons.1 ((h z).1 (List.mem_cons_of_mem _ hz)) with e|e
   ·subst e;exact absurd (ha.1 z hz) (bH _)
   ·exact e
  ·rcases List.mem_cons.1 ((h z).2 (List.mem_cons_of_mem _ hz)) with e|e
   ·subst e;exact absurd (hb.1 z hz) (bH _)
   ·exact e
def iy (x:Pr) (L:List Pr) (k:Nat):List Pr:=L.take k++x :: L.drop k
theorem qo (x:Pr) (L:List Pr) (k:Nat):(iy x L k).length=L.length+1:=by
 unfold iy;rw [List.length_append,List.length_cons,List.length_take,List.length_drop];omega
theorem Cp (x:Pr) (L:List Pr) (k:Nat) (y:Pr):y∈iy x L k↔y=x∨y∈L:=by
 unfold iy;rw [List.mem_append,List.mem_cons];have:y∈L↔y∈L.take k∨y∈L.drop k:=by rw [←List.mem_append,List.take_append_drop]
 rw [this];constructor
 ·rintro (h|h|h)
  ·exact Or.inr (Or.inl h)
  ·exact Or.inl h
  ·exact Or.inr (Or.inr h)
 ·rintro (h|h|h)
  ·exact Or.inr (Or.inl h)
  ·exact Or.inl h
  ·exact Or.inr (Or.inr h)
theorem Cq {x:Pr} {L:List Pr} {k:Nat} (ha:EY L) (hk:k≤L.length) (hd:∀y∈L.drop k,fT x y) (ht:k=0∨∃h:k-1<L.length,fT L[k-1] x):EY (iy x L k):=by
 unfold iy EY at *
 rw [List.pairwise_append];refine ⟨ha.sublist (List.take_sublist _ _),List.pairwise_cons.2 ⟨hd,ha.sublist (List.drop_sublist _ _)⟩,fun a h1 b h2=>?_⟩;have hax:fT a x:=by
  obtain ⟨i,hi,rfl⟩:=List.getElem_of_mem h1;rw [List.length_take] at hi;rcases ht with rfl|⟨h,hlt⟩
  ·omega
  ·rw [List.getElem_take];rcases Nat.lt_or_ge i (k-1) with h3|h3
   ·exact cL (List.pairwise_iff_getElem.1 ha i (k-1) (by omega) (by omega) h3) hlt
   ·have:i=k-1:=by omega
    subst this;exact hlt
 rcases List.mem_cons.1 h2 with rfl|h2
 ·exact hax
 ·exact cL hax (hd b h2)
theorem AQ {l:List Pr} {x:Pr} {k j:Nat} (hk:k<l.length) (hx:l[k]=x) (hj:j≤(dM (l.take k)).length) (hd:∀y∈(dM (l.take k)).drop j,fT x y) (ht:j=0∨∃h:j-1<(dM (l.take k)).length,fT (dM (l.take k))[j-1] x) :
  iy x (dM (l.take k)) j=dM (l.take (k+1)):=by
 refine uA (Cq (iW _) hj hd ht) (iW _) fun y=>?_;rw [Cp,cN,cN,List.take_add_one,List.getElem?_eq_getElem hk,hx];simp [or_comm]
theorem AS {l:List Pr} {x:Pr} {k:Nat} (hk:k<l.length) (hx:l[k]=x) (hm:x∈dM (l.take k)):dM (l.take k)=dM (l.take (k+1)):=by
 refine uA (iW _) (iW _) fun y=>?_;rw [cN] at hm;rw [cN,cN,List.take_add_one,List.getElem?_eq_getElem hk,hx];simp only [Option.toList_some,List.mem_append,List.mem_singleton];constructor
 ·exact Or.inl
 ·rintro (h|rfl)
  ·exact h
  ·exact hm
theorem AT {x:Pr} {L:List Pr} {j:Nat} (h0:0<j) (hj:j≤L.length):((iy x L j).set (j-1) x).set j (L[j-1]'(by omega))=iy x L (j-1):=by
 obtain ⟨i,rfl⟩:∃i,j=i+1:=⟨j-1,by omega⟩;simp only [Nat.add_sub_cancel];unfold iy;have hl:(L.take i).length=i:=by rw [List.length_take];omega
 rw [List.take_add_one,List.getElem?_eq_getElem (show i<L.length by omega),List.drop_eq_getElem_cons (show i<L.length by omega)];simp only [Option.toList_some,List.append_assoc,List.singleton_append];rw [List.set_append_right _ _ (by omega),hl,Nat.sub_self,List.set_cons_zero,List.set_append_right _ _ (by omega),hl];simp
theorem Fc {x:Pr} {L:List Pr} {j:Nat} (hj:j≤L.length):(iy x L j)[j]'(by rw [qo];omega)=x:=by
 unfold iy;rw [List.getElem_append_right (by rw [List.length_take];omega)];simp [List.length_take,Nat.min_eq_left hj]
theorem vY {x:Pr} {L:List Pr} {j:Nat} (h0:0<j) (hj:j≤L.length):(iy x L j)[j-1]'(by rw [qo];omega)=L[j-1]'(by omega):=by
 unfold iy;rw [List.getElem_append_left (by rw [List.length_take];omega),List.getElem_take]
section
open Go.Sort Go.Lib
section
variable {α:Type}
theorem vZ (f:α→List Value) (k:Nat) (hk:∀x,(f x).length=k) (h0:0<k):∀(l:List α) (t:Nat),((l.map f).flatten)[t]? = (l[t / k]?).bind fun x=>(f x)[t % k]?
 | [],t=>by simp
 | x :: l,t=>by
  rw [List.map_cons,List.flatten_cons];rcases Nat.lt_or_ge t k with h|h
  ·rw [List.getElem?_append_left (by rw [hk];exact h),Nat.div_eq_of_lt h,Nat.mod_eq_of_lt h];rfl
  ·rw [List.getElem?_append_right (by rw [hk];exact h),hk,vZ f k hk h0 l (t-k)];obtain ⟨u,rfl⟩:∃u,t=u+k:=⟨t-k,by omega⟩;rw [Nat.add_sub_cancel,Nat.add_div_right _ h0,Nat.add_mod_right];rfl
theorem js [Inhabited α] (f:α→List Value) (k:Nat) (hk:∀x,(f x).length=k) (h0:0<k) (l:List α):(flatK f k l.toArray).toList=(l.map f).flatten:=by
 apply List.ext_getElem?
 intro t;rw [vZ f k hk h0];rcases Nat.lt_or_ge t (l.length*k) with h|h
 ·have hd:t / k<l.length:=(Nat.div_lt_iff_lt_mul h0).2 h;have hm:t % k<k:=Nat.mod_lt _ h0;rw [Array.getElem?_toList,Array.getElem?_eq_getElem (by simpa using h),←getElem!_pos _ t (by simpa using h),get_flatK _ _ _ _ (by simpa using h),getElem!_pos _ (t / k) (by simpa using hd),List.getElem?_eq_getElem hd,Option.bind_some,getElem!_pos _ (t % k) (by rw [hk];exact hm),List.getElem?_eq_getElem (by rw [hk];exact hm)];rfl
 ·have hd:l.length≤t / k:=by
   rw [Nat.le_div_iff_mul_le h0];exact h
  rw [List.getElem?_eq_none hd,Array.getElem?_toList,Array.getElem?_eq_none (by simpa using h)];rfl
variable {n:Nat} {pos:0<n} {f:α→List Value} {len:∀x,(f x).length=n} {one:∀x,∀u∈f x,u.oneCell'=true} {w:World} {S:Nat→Prop} {base:Nat} {e:TypeId} {g cap:Nat} {l:List α}
theorem Reps.plain:∀{l:List α} {xs:List Value},Reps (El.plain n pos f len one) w S l xs→xs=(l.map f).flatten
 | [],xs,h=>h
 | x :: l,xs,h=>by
  obtain ⟨cs,rest,rfl,h1,h2⟩:=h;rw [Reps.plain h2,show cs=f x from h1];rfl
theorem Reps.plain_mk:∀(l:List α),Reps (El.plain n pos f len one) w S l (l.map f).flatten
 | []=>rfl
 | x :: l=>⟨f x,(l.map f).flatten,rfl,rfl,Reps.plain_mk l⟩
theorem OwnRows.holdsK [Inhabited α] (h:OwnRows (El.plain n pos f len one) e w base (.slice (some ⟨g,0,none⟩) l.length cap) l):HoldsK f n w g 0 l.toArray:=by
 intro t ht;rw [size_flatK] at ht;have ht':t<l.length*n:=ht;have hcapn:l.length≤cap:=by
  obtain ⟨A,cap',hA,_,hc,_⟩:=h.form;injection hA with _ _ e3;omega
 have hcell:=h.cellAt (j:=t) (Nat.lt_of_lt_of_le ht' (Nat.mul_le_mul_right _ hcapn));rw [Nat.zero_add];refine ⟨?_,hcell.2⟩;obtain ⟨h0,xs,⟨h1,h2⟩,h3⟩:=h;rcases h2 with ⟨hv,_⟩|⟨g',cap',cur,hv,hg,hh,hnc,hcm,hcs,htk⟩
 ·cases hv
 ·injection hv with e1 _ e3;injection e1 with e1;injection e1 with e1;subst e1;subst e3;have hx:=Reps.plain h3;have hlt:t<cur.size:=by rw [hcs];exact Nat.lt_of_lt_of_le ht' (Nat.mul_le_mul_right _ hcapn)
  have hc:w.cell? ⟨g,t,none⟩=cur[t]?:=by simp [World.cell?,hh]
  have hxt:cur[t]? = xs[t]?:=by
   rw [←htk,List.getElem?_take,if_pos (show t<l.length*(El.plain n pos f len one).n from ht'),Array.getElem?_toList]
  rw [hc,hxt,hx,←js f n len pos l,Array.getElem?_toList,Array.getElem?_eq_getElem (by simpa using ht'),←getElem!_pos _ t (by simpa using ht')];rfl
theorem OwnRows.sorted [Inhabited α] (h:OwnRows (El.plain n pos f len one) e w base (.slice (some ⟨g,0,none⟩) l.length cap) l) (hg:g<w.heap.size) {l':List α} (hl:l'.length=l.length) (m:Nat) (os:Array Obj) :
  OwnRows (El.plain n pos f len one) e (sortWorldK f n w g 0 m l'.toArray os) base (.slice (some ⟨g,0,none⟩) l.length cap) l':=by
 obtain ⟨h0,xs,⟨h1,h2⟩,h3⟩:=h;have hsz:w.heap.size≤(sortWorldK f n w g 0 m l'.toArray os).heap.size:=by
  simp [sortWorldK,grow,putRowK,putRow,mapBlock]
 refine ⟨Nat.le_trans h0 hsz,(l'.map f).flatten,?_,Reps.plain_mk l'⟩;rw [hl];have hfl:((l'.map f).flatten).length=l.length*n:=by
  rw [←js f n len pos l',Array.length_toList,size_flatK];simp [hl]
 refine ⟨hfl,?_⟩;rcases h2 with ⟨hv,_⟩|⟨g',cap',cur,hv,hgb,hh,hnc,hcm,hcs,htk⟩
 ·cases hv
 ·injection hv with e1 _ e3;injection e1 with e1;injection e1 with e1;subst e1;subst e3;have hF:(flatK f n l'.toArray).size=l.length*n:=by simp [hl]
  have hle:l.length*n≤cap*n:=Nat.mul_le_mul_right _ hnc;refine .inr ⟨g,cap,putCells id 0 (flatK f n l'.toArray) cur,rfl,hgb,?_,hnc,hcm,by simp [putCells,hcs],?_⟩
  ·show (w.heap.modify g (onCells (putCells id 0 (flatK f n l'.toArray)))++os)[g]? = _;rw [Array.getElem?_append_left (by simpa using hg),Array.getElem?_modify,if_pos rfl,hh];rfl
  ·rw [←js f n len pos l'];apply List.ext_getElem?
   intro t;rw [List.getElem?_take];show (if t<l.length*n then _ else _)=_;split
   ·next ht =>
    rw [Array.getElem?_toList,Array.getElem?_toList];unfold putCells;rw [Array.getElem?_mapIdx,Array.getElem?_eq_getElem (by rw [hcs];exact Nat.lt_of_lt_of_le ht hle),Option.map_some,if_pos ⟨Nat.zero_le _,by rw [hF];omega⟩,Array.getElem?_eq_getElem (by rw [hF];exact ht),Nat.sub_zero,←getElem!_pos _ t (by rw [hF];exact ht)];rfl
   ·next ht =>
    rw [Array.getElem?_toList,Array.getElem?_eq_none (by rw [hF];omega)]
theorem uB [Inhabited α] {w0:World} {B:Nat} (hb:Go.RowKit.Below B w0 w) (hg:B≤g) (hg2:g<w.heap.size) (m:Nat) (d:Array α) (os:Array Obj):Go.RowKit.Below B w0 (sortWorldK f n w g 0 m d os):=by
 refine hb.trans ⟨rfl,rfl,rfl,by simp [sortWorldK,grow,putRowK,putRow,mapBlock],fun k hk=>?_⟩;show (w.heap.modify g (onCells (putCells id 0 (flatK f n d)))++os)[k]? = _;rw [Array.getElem?_append_left (by simp;omega),Array.getElem?_modify,if_neg (by omega)]
end
end
end Go.Proofs.YtjndcdcbjidocaaGreatDoor
namespace Go.Proofs
open Go.Shelf
def Tryz.sortProcs_ren:Go.Shelf.Ren:=⟨fun|6=>127|15=>190|14=>200|28=>254|29=>255|20=>262|21=>263|22=>264|23=>265|24=>266|25=>267|26=>268|27=>269|46=>312|47=>304|48=>305|49=>313|50=>314|57=>329|n=>n,fun|22=>75|24=>35|25=>73|3=>3|39=>203|0=>0|53=>248|55=>250|4=>4|46=>241|45=>240|50=>245|5=>5|9=>9|66=>277|70=>272|76=>297|77=>262|n=>n,fun|n=>n⟩
theorem Tryz.sortProcs:Go.Proofs.SlLaysF0.n6 Tryz.prog Tryz.sortProcs_ren:={
 mixed:=by kernel_rfl
 f6:=⟨Tryz.f127.name,by decide,Tryz.func127.trans (congrArg some (by kernel_rfl))⟩
 f14:=⟨Tryz.f200.name,by decide,Tryz.func200.trans (congrArg some (by kernel_rfl))⟩
 f15:=Tryz.func190.trans (congrArg some (by kernel_rfl))
 f20:=⟨Tryz.f262.name,by decide,Tryz.func262.trans (congrArg some (by kernel_rfl))⟩
 f21:=⟨Tryz.f263.name,by decide,Tryz.func263.trans (congrArg some (by kernel_rfl))⟩
 f22:=⟨Tryz.f264.name,by decide,Tryz.func264.trans (congrArg some (by kernel_rfl))⟩
 f23:=⟨Tryz.f265.name,by decide,Tryz.func265.trans (congrArg some (by kernel_rfl))⟩
 f24:=⟨Tryz.f266.name,by decide,Tryz.func266.trans (congrArg some (by kernel_rfl))⟩
 f25:=⟨Tryz.f267.name,by decide,Tryz.func267.trans (congrArg some (by kernel_rfl))⟩
 f26:=⟨Tryz.f268.name,by decide,Tryz.func268.trans (congrArg some (by kernel_rfl))⟩
 f27:=⟨Tryz.f269.name,by decide,Tryz.func269.trans (congrArg some (by kernel_rfl))⟩
 f28:=Tryz.func254.trans (congrArg some (by kernel_rfl))
 f29:=Tryz.func255.trans (congrArg some (by kernel_rfl))
 f46:=⟨Tryz.f312.name,by decide,Tryz.func312.trans (congrArg some (by kernel_rfl))⟩
 f47:=Tryz.func304.trans (congrArg some (by kernel_rfl))
 f48:=Tryz.func305.trans (congrArg some (by kernel_rfl))
 f49:=⟨Tryz.f313.name,by decide,Tryz.func313.trans (congrArg some (by kernel_rfl))⟩
 f50:=⟨Tryz.f314.name,by decide,Tryz.func314.trans (congrArg some (by kernel_rfl))⟩
 f57:=⟨Tryz.f329.name,by decide,Tryz.func329.trans (congrArg some (by kernel_rfl))⟩
 t0:=Tryz.underlying0
 a0:=Tryz.isAgg0
 z0:=Tryz.sizeOf0
 v0:=Tryz.zeroValue0
 t3:=Tryz.underlying3
 a3:=Tryz.isAgg3
 z3:=Tryz.sizeOf3
 v3:=Tryz.zeroValue3
 t4:=Tryz.underlying4
 a4:=Tryz.isAgg4
 z4:=Tryz.sizeOf4
 v4:=Tryz.zeroValue4
 t5:=Tryz.underlying5
 a5:=Tryz.isAgg5
 z5:=Tryz.sizeOf5
 v5:=Tryz.zeroValue5
 t9:=Tryz.underlying9
 a9:=Tryz.isAgg9
 z9:=Tryz.sizeOf9
 v9:=Tryz.zeroValue9
 t22:=Tryz.underlying75
 a22:=Tryz.isAgg75
 z22:=Tryz.sizeOf75
 v22:=Tryz.zeroValue75
 t25:=Tryz.underlying73
 a25:=Tryz.isAgg73
 z25:=Tryz.sizeOf73
 v25:=Tryz.zeroValue73
 t39:=Tryz.underlying203
 a39:=Tryz.isAgg203
 z39:=Tryz.sizeOf203
 v39:=Tryz.zeroValue203
 t45:=Tryz.underlying240
 a45:=Tryz.isAgg240
 z45:=Tryz.sizeOf240
 v45:=Tryz.zeroValue240
 t46:=Tryz.underlying241
 a46:=Tryz.isAgg241
 z46:=Tryz.sizeOf241
 v46:=Tryz.zeroValue241
 t50:=Tryz.underlying245
 a50:=Tryz.isAgg245
 z50:=Tryz.sizeOf245
 v50:=Tryz.zeroValue245
 t53:=Tryz.underlying248
 a53:=Tryz.isAgg248
 z53:=Tryz.sizeOf248
 v53:=Tryz.zeroValue248
 t55:=Tryz.underlying250
 a55:=Tryz.isAgg250
 z55:=Tryz.sizeOf250
 v55:=Tryz.zeroValue250
 t66:=Tryz.underlying277
 a66:=Tryz.isAgg277
 z66:=Tryz.sizeOf277
 v66:=Tryz.zeroValue277
 t70:=Tryz.underlying272
 a70:=Tryz.isAgg272
 z70:=Tryz.sizeOf272
 v70:=Tryz.zeroValue272
 t76:=Tryz.underlying297
 a76:=Tryz.isAgg297
 z76:=Tryz.sizeOf297
 v76:=Tryz.zeroValue297
 t77:=Tryz.underlying262
 a77:=Tryz.isAgg262
 z77:=Tryz.sizeOf262
 v77:=Tryz.zeroValue262 }
end Go.Proofs
namespace Go.Proofs.YtjndcdcbjidocaaGreatDoor
open Go.RowKit Go.Proofs.Tryz
section
open Go.Shelf
theorem yi (a b c x y z:Int) (w:World):Calls prog 47 #[.agg #[.int .i64 a,.int .i64 b,.int .i64 c],.agg #[.int .i64 x,.int .i64 y,.int .i64 z]] w fun e w'=>e = .returned (.int .i64 (bE ⟨a,b,c⟩ ⟨x,y,z⟩))∧∃os,w'=Go.Sort.grow w os:=by
 have i0:∀w:World,(Instr.index 100 (.agg #[.int .i64 a,.int .i64 b,.int .i64 c]) (.int .i64 0)).run prog w = .ok (.int .i64 a) w:=fun _=>by kernel_rfl
 have i1:∀w:World,(Instr.index 100 (.agg #[.int .i64 a,.int .i64 b,.int .i64 c]) (.int .i64 1)).run prog w = .ok (.int .i64 b) w:=fun _=>by kernel_rfl
 have i2:∀w:World,(Instr.index 100 (.agg #[.int .i64 a,.int .i64 b,.int .i64 c]) (.int .i64 2)).run prog w = .ok (.int .i64 c) w:=fun _=>by kernel_rfl
 obtain ⟨r,hr⟩:∃r,bE ⟨a,b,c⟩ ⟨x,y,z⟩=r:=⟨_,rfl⟩;rw [hr];have HR:=Lib.hid hr;clear hr
 go_enter func47,ntmps47
 go_wp2
 go_rounds 4
 all_goals go_ret
 all_goals refine ⟨lI ?_,_,by rw [Go.Sort.alloc_eq_grow,Go.Sort.alloc_eq_grow,Go.Sort.grow_grow]⟩
 all_goals rw [←HR.out]
 all_goals rcases dd ⟨a,b,c⟩ ⟨x,y,z⟩ with ⟨h,e⟩|⟨h,e⟩|⟨h,e⟩ <;> rw [e] <;> first|rfl|(exfalso;unfold fT at h;simp only at h;omega)|(exfalso;simp only [Pr.mk.injEq] at h;omega)
theorem Cr (p q:Pr) (w:World):Calls prog 24 #[p.val,q.val] w fun e w'=>e = .returned (.int .i64 (bE p q))∧∃os,w'=Go.Sort.grow w os:=by
 obtain ⟨a,b,c⟩:=p;obtain ⟨x,y,z⟩:=q;have HC:=Lib.hid (fun w=>yi a b c x y z w);obtain ⟨r,hr⟩:∃r,bE ⟨a,b,c⟩ ⟨x,y,z⟩=r:=⟨_,rfl⟩;rw [hr] at HC ⊢;clear hr;unfold Pr.val
 go_enter func24,ntmps24
 go_wp2_with fail
 refine (HC.out _).mono ?_;rintro e w1 ⟨rfl,os,rfl⟩;go_wp2
 go_ret
 exact ⟨rfl,_,by rw [Go.Sort.alloc_eq_grow,Go.Sort.alloc_eq_grow,Go.Sort.grow_grow,Go.Sort.grow_grow]⟩
theorem qp {x y:Pr}:ltOf bE x y=true↔fT x y:=by
 unfold ltOf;rw [decide_eq_true_iff,gO]
theorem tj {x y:Pr}:ltOf bE x y=false↔¬fT x y:=by
 unfold ltOf;rw [decide_eq_false_iff_not,gO]
theorem Cu:Go.Sort.SWO (ltOf bE) where
 irrefl x:=tj.2 (bH x)
 trans x y z h1 h2:=qp.2 (cL (qp.1 h1) (qp.1 h2))
 ntrans x y z h1 h2:=by
  rw [tj] at *
  intro h3;rcases gN x y with h|h|h
  ·exact h1 h
  ·subst h;exact h2 h3
  ·exact h2 (cL h h3)
theorem yj (x y:Pr) (h1:ltOf bE x y=false) (h2:ltOf bE y x=false):x=y:=by
 unfold ltOf at h1 h2;rw [decide_eq_false_iff_not,gO] at h1 h2;rcases gN x y with h|h|h
 ·exact absurd h h1
 ·exact h
 ·exact absurd h h2
theorem uC {w0:World} {base:Nat} {v:Value} {l:List Pr} (w:World) (hown:OwnRows fK 35 w base v l) (hb:Below base w0 w) (hsz:l.length<4611686018427387904) :
  Calls prog 127 #[v,.func (.func 24) #[] #[]] w fun e w'=>e = .returned (.tuple #[])∧OwnRows fK 35 w' base v (l.mergeSort fun x y=>!decide (bE y x<0))∧Below base w0 w':=by
 rcases Nat.eq_zero_or_pos l.length with h0|h0
 ·obtain ⟨A,cap,rfl,_,_,_,_⟩:=hown.form2;obtain rfl:=List.eq_nil_of_length_eq_zero h0;refine (AnyF.slices_SortFunc_none { sortProcs with } A cap _ w).mono ?_;rintro e w' ⟨rfl,rfl⟩;exact ⟨rfl,by simpa using hown,hb⟩
 ·obtain ⟨g,cap,rfl,hg,hg2,_,_,_,_⟩:=hown.addr h0;have eg:∀args w,(callFunc 24 args).run prog w = .ok (.enter 24 args) w:=enters_of func24 (by kernel_rfl) rfl;have hcmp:CmpLays prog 24 #[] Pr.cells 3 bE g 0 l.toArray.size w:=fun _ _ _ _ x y=>(Cr x y _).mono fun e w' ⟨he,os,hw⟩=>⟨he,0,os,hw⟩;have:=AnyQ.slices_SortFunc_total sortProcs 3 isAgg35 sizeOf35 Pr.cells (fun _=>rfl) (by intro x u hu;simp [Pr.cells] at hu;rcases hu with rfl|rfl|rfl <;> rfl) bE Cu 24 #[] g 0 cap l.toArray w eg hcmp hown.holdsK hg2 hsz yj;refine Calls.mono this ?_;rintro e w' ⟨rfl,n,os,rfl⟩;exact ⟨rfl,hown.sorted hg2 (by simp) n os,uB hb hg hg2 n _ os⟩
end
end Go.Proofs.YtjndcdcbjidocaaGreatDoor
