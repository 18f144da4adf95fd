/- Part 6 of 56 of the proof of both_hold (no condition). -/
import Derived.Test.YtcgpepnbohejfaaGreatDoorK04
import Derived.Scope
set_option linter.unusedVariables false
set_option linter.unusedSimpArgs false
set_option maxRecDepth 100000
set_option maxHeartbeats 64000000
namespace Go.Proofs.YtcgpepnbohejfaaGreatDoor
open Go.RowKit Go.Proofs.Tryz
def sv (pre:List Am):Array Value:=#[.bool (dV pre 0),.bool (dV pre 1),.bool (dV pre 2),.bool (dV pre 3),.bool (dV pre 4),.bool (dV pre 5)]
theorem DI {pre:List Am} {a:Am} (h:a.mode=0):sv (pre++[a])=sv pre:=by
 unfold sv;simp [sg,h]
theorem FM {pre:List Am} {a:Am} {m:Nat} (h:a.mode=(m:Int)) (h0:1≤m) (h5:m≤5):sv (pre++[a])=(sv pre).setIfInBounds m (.bool true):=by
 have:m=1∨m=2∨m=3∨m=4∨m=5:=by omega
 unfold sv;rcases this with rfl|rfl|rfl|rfl|rfl <;> simp [sg,h]
theorem Bi (pre:List Am) {j:Nat} (hj:j<6) (w:World):(Instr.index 208 (.agg (sv pre)) (.int .i64 (j:Int))).run prog w = .ok (.bool (dV pre j)) w:=by
 have:j=0∨j=1∨j=2∨j=3∨j=4∨j=5:=by omega
 clear hj;rcases this with rfl|rfl|rfl|rfl|rfl|rfl <;> (show _=_) <;> kernel_rfl
theorem oA (r:Rs) (A:Option Addr) (B cap:Nat) (l:List Am) (w:World) (hT:Tog w) (hm:l.length≤maxLen) (hB:B≤w.heap.size) (hr:RowsAt zE w (Lo B) A l) :
  Calls prog 224 #[r.val,.slice A l.length cap] w (rf w (.bool (f0 r l))):=by
 unfold maxLen at hm;have HR:=Lib.hid hr;have HT:=Lib.hid hT;clear hr hT;have HS:=Lib.hid (fun W=>ie r W);have HP:=Lib.hid (fun m u W=>rj r m u W);obtain ⟨q,hq⟩:∃q,f0 r l=q:=⟨_,rfl⟩;rw [hq];have HQ0:=Lib.hid hq;clear hq;cases hs:aU r with
 | false =>
  have HQ:Hid (q=false):=Lib.hid (by rw [←HQ0.out];unfold f0;rw [hs];rfl);rw [hs] at HS;clear hs;obtain ⟨nm,kd,un,h⟩:=r;unfold Rs.val at *
  go_enter func224,ntmps224
  go_wp2_with fail
  refine wp_scope_straight ?_;go_wp2_with fail
  repeat' (first|(go_at_call 109;refine (HS.out _).mono ?_;rintro e wa1 ⟨rfl,hb_wa1⟩;obtain ⟨hc_wa1,hf_wa1⟩:=m4 hb_wa1;have hs_wa1:=hb_wa1.size;(try simp at hs_wa1);have hz_wa1_w_0:w.heap.size<wa1.heap.size:=(by omega);clear hs_wa1;have HB_wa1:=Lib.hid hb_wa1;clear hb_wa1;go_wp2_with fail)|((try rw [Exit.noGoto_ret]);go_ret;exact ⟨aO HQ.out.symm,by exact bO⟩))
 | true =>
  have HQ:Hid (dw r 0 [] l=q):=Lib.hid (by have h:=HQ0.out;unfold f0 at h;rw [hs] at h;exact h);rw [hs] at HS;have HSH:=Lib.hid hs;have hu:0≤r.units:=by have:=bQ hs;omega
  have hu8:r.units≤8:=by have:=bQ hs;omega
  clear hs HQ0;obtain ⟨nm,kd,un,h⟩:=r;unfold Rs.val at *
  dsimp only at hu hu8
  go_enter func224,ntmps224
  go_wp2_with fail
  refine wp_scope_straight ?_;go_wp2_with fail
  refine (HS.out _).mono ?_;rintro e w1 ⟨rfl,hb1⟩;have HB1:=Lib.hid hb1;have HBW1:Hid (Below w.heap.size w w1):=Lib.hid bO;have HK1:Hid (Blk w1 w.heap.size 54 #[.string nm,.int .i64 kd,.int .i64 un,.int .i64 h]):=Lib.hid ((Blk.new w 54 #[.string nm,.int .i64 kd,.int .i64 un,.int .i64 h]).below hb1 (by simp));clear hb1;go_wp2_with fail
  refine wp_label ?_;go_wp2_with fail
  go_loopg [5,7,17] l.length (fun m v5 v7 v17 wq=>∃(k:Nat) (s:Int),v5 = .bool true∧v7 = .int .i64 s∧v17 = .int .i64 (k:Int)∧k≤l.length∧l.length≤k+m∧0≤s∧s≤un∧Hid (kd=1→s=0)∧Hid (dw ⟨nm,kd,un,h⟩ s (l.take k) (l.drop k)=q)∧Hid (∀b∈l.take k,aX ⟨nm,kd,un,h⟩ b=true)∧Hid (Below w.heap.size w wq)∧Hid (Blk wq w.heap.size 54 #[.string nm,.int .i64 kd,.int .i64 un,.int .i64 h])∧Hid (Blk wq w1.heap.size 208 (sv (l.take k))))
  case atStart=>exact ⟨0,0,rfl,rfl,rfl,Nat.zero_le _,by omega,by omega,hu,Lib.hid (fun _=>rfl),HQ,Lib.hid (by simp),Lib.hid bO,Lib.hid (HK1.out.alloc _),Lib.hid (Blk.new _ _ _)⟩
  case round =>
   obtain ⟨k,s,rfl,rfl,rfl,hk,hkm,hs0,hsu,HS0,HI,HPE,HB,HK,HV⟩:=hrel;have hsz:w.heap.size≤w1.heap.size:=HBW1.out.size;have hne:w.heap.size<w1.heap.size:=HK1.out.lt;by_cases hlt:k<l.length
   ·obtain ⟨⟨m,u⟩,hx⟩:∃x,l[k]=x:=⟨_,rfl⟩;obtain ⟨g,off,rfl,hbl,c0,c1⟩:=Bb (HR.out.below (B'':=w.heap.size) HB.out hB hB) hlt hx;have hbl2:g<wr.heap.size:=Nat.lt_of_lt_of_le hbl HB.out.size;have hlti:(k:Int)<(l.length:Int):=by omega
    have HTK:Hid (l.take (k+1)=l.take k++[⟨m,u⟩]):=Lib.hid (by rw [List.take_add_one,List.getElem?_eq_getElem hlt,hx];rfl);have HST:Hid ((aX ⟨nm,kd,un,h⟩ ⟨m,u⟩ && decide (s+u≤un) && (decide (m=0) || !ig (l.take k) m) && dw ⟨nm,kd,un,h⟩ (s+u) (l.take (k+1)) (l.drop (k+1)))=q):=Lib.hid (by
     have h1:=HI.out;rw [jy hlt hx,zI HSH.out HPE.out ⟨hs0,hsu⟩ HS0.out] at h1;rw [HTK.out];exact h1)
    have k0:=HK.out.cellx 2 (v:=.int .i64 un) rfl;have j0:=HK.out.cellx 0 (v:=.string nm) rfl;have j1:=HK.out.cellx 1 (v:=.int .i64 kd) rfl;have j3:=HK.out.cellx 3 (v:=.int .i64 h) rfl;have hlw:w.heap.size<wr.heap.size:=HK.out.lt;clear hx hbl;cases hp:aX ⟨nm,kd,un,h⟩ ⟨m,u⟩ with
    | false =>
     have HQF:Hid (q=false):=Lib.hid (by rw [←HST.out,hp];rfl);have HPF:Hid (∀W,Calls prog 97 #[.agg #[.string nm,.int .i64 kd,.int .i64 un,.int .i64 h],.agg #[.int .i64 m,.int .i64 u]] W (rf W (.bool false))):=Lib.hid (fun W=>hp▸HP.out m u W);clear hp;go_wp2_with fail
     refine (HPF.out _).mono ?_;rintro e w2 ⟨rfl,hb2⟩;have HB2:=Lib.hid hb2;clear hb2;go_wp2_with fail
     (try rw [Exit.noGoto_ret])
     go_ret
     exact ⟨aO HQF.out.symm,by exact bO⟩
    | true =>
     have HPT:Hid (∀W,Calls prog 97 #[.agg #[.string nm,.int .i64 kd,.int .i64 un,.int .i64 h],.agg #[.int .i64 m,.int .i64 u]] W (rf W (.bool true))):=Lib.hid (fun W=>hp▸HP.out m u W);have HP1:Hid (aX ⟨nm,kd,un,h⟩ ⟨m,u⟩=true):=Lib.hid hp;have hub:0≤u∧u≤8:=by
      by_cases hk1:kd=1
      ·have:=(gI hp hk1).1;dsimp only at this;omega
      ·have:=i3 hp hk1;dsimp only at this;omega
     have hwr:IntKind.i64.wrap (s+u)=s+u:=IntWalk.i64_in _ (by omega);have HPE2:Hid (∀b∈l.take (k+1),aX ⟨nm,kd,un,h⟩ b=true):=Lib.hid (by
      rw [HTK.out];intro b hb;rcases List.mem_append.1 hb with hb|hb
      ·exact HPE.out b hb
      ·simp only [List.mem_singleton] at hb;subst hb;exact hp)
     have HS2:Hid (kd=1→s+u=0):=Lib.hid (fun hk1=>by have h1:=(gI hp hk1).1;have h2:=HS0.out hk1;dsimp only at h1;omega);clear hp;by_cases hfit:s+u≤un
     ·have hfi:¬(un<s+u):=by omega
      by_cases hm0:m=0
      ·subst hm0;have HN:Hid (dw ⟨nm,kd,un,h⟩ (s+u) (l.take (k+1)) (l.drop (k+1))=q):=Lib.hid (by have h1:=HST.out;rw [HP1.out,decide_eq_true hfit] at h1;simpa using h1);have HSV:Hid (sv (l.take (k+1))=sv (l.take k)):=Lib.hid (by rw [HTK.out];exact DI rfl);go_wp2_with fail
       refine (HPT.out _).mono ?_;rintro e w2 ⟨rfl,hb2⟩;obtain ⟨hc_w2,hf_w2⟩:=m4 hb2;have hs_w2:=hb2.size
       (try simp at hs_w2)
       have hz_w2_0:wr.heap.size<w2.heap.size:=(by omega);clear hs_w2;have hz:w.heap.size<w2.heap.size:=by omega
       have HB2:=Lib.hid hb2;have HK2:Hid (Blk w2 w.heap.size 54 #[.string nm,.int .i64 kd,.int .i64 un,.int .i64 h]):=Lib.hid ((HK.out.alloc _).below hb2 (by simp;omega));have HV2:Hid (Blk w2 w1.heap.size 208 (sv (l.take k))):=Lib.hid ((HV.out.alloc _).below hb2 (by have:=HV.out.lt;simp;omega));clear hb2;go_wp2_with fail
       go_roundg (gk-1)
       case measure=>omega
       case rel=>exact ⟨k+1,s+u,rfl,by go_num,by go_num,by omega,by omega,by omega,by omega,HS2,HN,HPE2,Lib.hid bO,HK2,Lib.hid (by rw [HSV.out];exact HV2.out)⟩
      ·have hk1:kd=1:=Classical.byContradiction fun hk1=>hm0 (i3 HP1.out hk1).1;have hmb:bM m=true:=(gI HP1.out hk1).2.resolve_left hm0;obtain ⟨n,hn1,hn5,rfl⟩:∃n:Nat,1≤n∧n≤5∧m=(n:Int):=⟨m.toNat,by have:=cu hmb;omega,by have:=cu hmb;omega,by have:=cu hmb;omega⟩;have HC:Hid ((!ig (l.take k) n && dw ⟨nm,kd,un,h⟩ (s+u) (l.take (k+1)) (l.drop (k+1)))=q):=Lib.hid (by have h1:=HST.out;rw [HP1.out,decide_eq_true hfit,decide_eq_false hm0] at h1;simpa using h1);have hm0b:((n:Int) == 0)=false:=beq_eq_false_iff_ne.2 hm0;have HSV:Hid (sv (l.take (k+1))=(sv (l.take k)).setIfInBounds n (.bool true)):=Lib.hid (by rw [HTK.out];exact FM rfl hn1 hn5);clear hm0 hk1 hmb;go_wp2_with fail
       refine (HPT.out _).mono ?_;rintro e w2 ⟨rfl,hb2⟩;obtain ⟨hc_w2,hf_w2⟩:=m4 hb2;have hs_w2:=hb2.size
       (try simp at hs_w2)
       have hz_w2_0:wr.heap.size<w2.heap.size:=(by omega);clear hs_w2;have hz:w.heap.size<w2.heap.size:=by omega
       have HB2:=Lib.hid hb2;have HK2:Hid (Blk w2 w.heap.size 54 #[.string nm,.int .i64 kd,.int .i64 un,.int .i64 h]):=Lib.hid ((HK.out.alloc _).below hb2 (by simp;omega));have HV2:Hid (Blk w2 w1.heap.size 208 (sv (l.take k))):=Lib.hid ((HV.out.alloc _).below hb2 (by have:=HV.out.lt;simp;omega));have HT2:=Lib.hid (HT.out.below (show Below w.heap.size w w2 by exact bO));have HBW2:Hid (Below w.heap.size w w2):=Lib.hid bO;have hv0:=HV2.out.cellx 0 (v:=.bool (dV (l.take k) 0)) rfl;have hv1:=HV2.out.cellx 1 (v:=.bool (dV (l.take k) 1)) rfl;have hv2:=HV2.out.cellx 2 (v:=.bool (dV (l.take k) 2)) rfl;have hv3:=HV2.out.cellx 3 (v:=.bool (dV (l.take k) 3)) rfl;have hv4:=HV2.out.cellx 4 (v:=.bool (dV (l.take k) 4)) rfl;have hv5:=HV2.out.cellx 5 (v:=.bool (dV (l.take k) 5)) rfl;have hlv:=HV2.out.lt;have hfz:=HV2.out.frozen n;obtain ⟨un',hcn⟩:∃u,w2.cell? ⟨w1.heap.size,n,none⟩=some u:=⟨_,(HV2.out.cell n).trans (Array.getElem?_eq_getElem (show n<(sv (l.take k)).size by simp [sv];omega))⟩;have HM:=Lib.hid (fun a=>ka a n w2 HT2.out);obtain ⟨G,hG⟩:∃G,G=gk:=⟨_,rfl⟩;subst hG;obtain ⟨wo,hwo⟩:∃x,x=wr:=⟨_,rfl⟩;subst hwo;clear hb2;go_wp2_with fail
       go_loopg [5,42] 6 (fun m v5 v42 wq=>∃j:Nat,v5 = .bool true∧v42 = .int .i64 (j:Int)∧j≤6∧6≤j+m∧wq=w2∧Hid (∀i:Nat,i<j→(dV (l.take k) i && !iX i n)=false))
       case atStart=>exact ⟨0,rfl,rfl,by omega,by omega,rfl,Lib.hid (fun _ h=>absurd h (by omega))⟩
       case round =>
        obtain ⟨j,rfl,rfl,hj6,hjm,rfl,HJ⟩:=hrel;by_cases hj:j<6
        ·have ki:=fun W=>Bi (l.take k) hj W;unfold sv at ki;have hji:(j:Int)<6:=by omega
         have HMJ:=Lib.hid (HM.out j);obtain ⟨p1,hp1⟩:∃p,dV (l.take k) j=p:=⟨_,rfl⟩;obtain ⟨p2,hp2⟩:∃p,iX j n=p:=⟨_,rfl⟩;rw [hp1] at ki;rw [hp2] at HMJ;have HP12:=Lib.hid (And.intro hp1 hp2);clear hp1 hp2 hv0 hv1 hv2 hv3 hv4 hv5 hcn;cases p1 with
         | false =>
          go_wp2_with fail
          go_roundg (gk-1)
          case measure=>omega
          case rel=>exact ⟨j+1,rfl,by go_num,by omega,by omega,rfl,Lib.hid (fun i hi=>by
           rcases Nat.lt_or_ge i j with h1|h1
           ·exact HJ.out i h1
           ·obtain rfl:i=j:=by omega
            rw [HP12.out.1];rfl)⟩
         | true =>
          cases p2 with
          | true =>
           go_wp2_with fail
           refine HMJ.out.mono ?_;rintro e w3 ⟨rfl,hw3⟩;obtain rfl:=hw3.symm;clear hw3;go_wp2_with fail
           go_roundg (gk-1)
           case measure=>omega
           case rel=>exact ⟨j+1,rfl,by go_num,by omega,by omega,rfl,Lib.hid (fun i hi=>by
            rcases Nat.lt_or_ge i j with h1|h1
            ·exact HJ.out i h1
            ·obtain rfl:i=j:=by omega
             rw [HP12.out.2];simp)⟩
          | false =>
           have HQF:Hid (q=false):=Lib.hid (by
            have h1:ig (l.take k) n=true:=by
             unfold ig;rw [List.any_eq_true];exact ⟨j,by simpa using hj,by rw [HP12.out.1,HP12.out.2];rfl⟩
            rw [←HC.out,h1];rfl)
           go_wp2_with fail
           refine HMJ.out.mono ?_;rintro e w3 ⟨rfl,hw3⟩;obtain rfl:=hw3.symm;clear hw3;go_wp2_with fail
           (try rw [Exit.noGoto_ret])
           go_ret
           exact ⟨aO HQF.out.symm,HBW2.out⟩
        ·have hji:¬(j:Int)<6:=by omega
         have HN:Hid (dw ⟨nm,kd,un,h⟩ (s+u) (l.take (k+1)) (l.drop (k+1))=q):=Lib.hid (by
          have h1:ig (l.take k) n=false:=by
           unfold ig;rw [List.any_eq_false];intro i hi;rw [HJ.out i (by have:=List.mem_range.1 hi;omega)];simp
          rw [←HC.out,h1];rfl)
         go_wp2_with fail
         go_roundg (G-1)
         case measure=>omega
         case rel=>exact ⟨k+1,s+u,rfl,by go_num,by go_num,by omega,by omega,by omega,by omega,HS2,HN,HPE2,Lib.hid (Below.st HBW2.out (by simp;omega)),Lib.hid (HK2.out.far (by simp;omega) _),Lib.hid (by rw [HSV.out];exact HV2.out.set_ n _)⟩
     ·have hfi:un<s+u:=by omega
      have HQF:Hid (q=false):=Lib.hid (by rw [←HST.out,HP1.out,decide_eq_false hfit];rfl);go_wp2_with fail
      refine (HPT.out _).mono ?_;rintro e w2 ⟨rfl,hb2⟩;obtain ⟨hc_w2,hf_w2⟩:=m4 hb2;have hs_w2:=hb2.size
      (try simp at hs_w2)
      have hz_w2_0:wr.heap.size<w2.heap.size:=(by omega);clear hs_w2;have hz:w.heap.size<w2.heap.size:=by omega
      have HB2:=Lib.hid hb2;clear hb2;go_wp2_with fail
      (try rw [Exit.noGoto_ret])
      go_ret
      exact ⟨aO HQF.out.symm,by exact bO⟩
   ·have HQT:Hid (q=true):=Lib.hid (by have h1:=HI.out;rw [oz hlt] at h1;exact h1.symm);have hlti:¬(k:Int)<(l.length:Int):=by omega
    go_wp2_with fail
    (try rw [Exit.noGoto_ret])
    go_ret
    exact ⟨aO HQT.out.symm,by exact bO⟩
def rl (r:Rs):Option Pr→List Ho→Bool
 | _,[]=>true
 | p,x :: l=>j8 x.proc && aC r x.am && (match p with|none=>true|some p=>decide (bC p x.proc<0)) && rl r (some x.proc) l
def yq (r:Rs) (l:List Ho):Bool:=aU r && decide (l.length≤8) && rl r none l && f0 r (gp l)
theorem zJ (r:Rs) (p:Option Pr) (x:Ho) (l:List Ho):rl r p (x :: l)=(j8 x.proc && aC r x.am && (match p with|none=>true|some p=>decide (bC p x.proc<0)) && rl r (some x.proc) l):=rfl
def si (l:List Ho) (k:Nat):Option Pr:=if k=0 then none else (l[k-1]?).map (·.proc)
theorem xb (l:List Ho):si l 0=none:=rfl
theorem oB {l:List Ho} {k:Nat} {x:Ho} (h:k<l.length) (hx:l[k]=x):si l (k+1)=some x.proc:=by
 unfold si;rw [if_neg (by omega),Nat.add_sub_cancel,List.getElem?_eq_getElem h,hx];rfl
theorem zK {l:List Ho} {k:Nat} {x:Ho} (h0:0<k) (h:k-1<l.length) (hx:l[k-1]=x):si l k=some x.proc:=by
 unfold si;rw [if_neg (by omega),List.getElem?_eq_getElem h,hx];rfl
end Go.Proofs.YtcgpepnbohejfaaGreatDoor
