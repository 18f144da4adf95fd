/- Part 22 of 24 of the proof of rollbackBytes_holds (no condition). -/
import Derived.Test.YtdaajdflefnjfaaGreatL20
import Derived.Laws.BitsAllLaws
import Derived.LoopN
import Derived.Deep.RegionWith
set_option linter.unusedVariables false
set_option linter.unusedSimpArgs false
set_option maxRecDepth 100000
set_option maxHeartbeats 64000000
namespace Go.Proofs.YtdaajdflefnjfaaGreat
open Go.RowKit Go.Proofs.Tryz
def oE (l:List UInt8):Value:=.tuple #[.int .u64 ((aD l).1:Int),.int .i64 ((aD l).2.1:Int),.int .i64 (aD l).2.2]
theorem gy {l:List UInt8} {v n:Nat} {e:Int} (h:aD l=(v,n,e)):oE l = .tuple #[.int .u64 (v:Int),.int .i64 (n:Int),.int .i64 e]:=by unfold oE;rw [h]
theorem s6 {x:Nat} (h:x<256):bits .and .u8 (x:Int) 127=((x % 128:Nat):Int):=by
 have:=u8_and_nat x 127 h (by decide)
 rw [nat_mask7] at this
 exact this
theorem Ae {x:Nat} (h:x<256):bits .and .u8 (x:Int) 128=((x / 128*128:Nat):Int):=by
 have:=u8_and_nat x 128 h (by decide)
 rw [show (128:Nat)=2 ^ 7 from rfl,nat_bit] at this
 rw [show ((2 ^ 7:Nat):Int)=128 from rfl] at this
 rw [this]
 congr 1
 have:x / 2 ^ 7 % 2=x / 128:=by omega
 rw [this]
theorem Lr (k:Nat):2 ^ (7*(k+1))=2 ^ (7*k)*128:=by rw [show 7*(k+1)=7*k+7 by omega,Nat.pow_add]
theorem qZ {x k:Nat} (hx:x<128) (hk:k≤9) (h9:k=9→x≤1):x*2 ^ (7*k)<2 ^ 64:=by
 rcases Nat.lt_or_ge k 9 with h|h
 ·have h1:x*2 ^ (7*k)<128*2 ^ (7*k):=Nat.mul_lt_mul_of_pos_right hx (Nat.two_pow_pos _)
  have h2:128*2 ^ (7*k)=2 ^ (7+7*k):=by rw [Nat.pow_add]
  have h3:2 ^ (7+7*k)≤2 ^ 64:=Nat.pow_le_pow_right (by decide) (by omega)
  omega
 ·have:k=9:=by omega
  subst this
  have h1:=Nat.mul_le_mul_right (2 ^ (7*9)) (h9 rfl)
  have h2:1*2 ^ (7*9)<2 ^ 64:=by decide
  exact Nat.lt_of_le_of_lt h1 h2
theorem yw {x k:Nat} (hx:x<128) (hk:k≤9) (h9:k=9→x≤1):IntKind.u64.wrap ((x:Int)*2 ^ min (7*(k:Int)).toNat 64)=((x*2 ^ (7*k):Nat):Int):=by
 have h:=qZ hx hk h9
 rw [show min (7*(k:Int)).toNat 64=7*k by omega]
 have e:(x:Int)*2 ^ (7*k)=((x*2 ^ (7*k):Nat):Int):=by simp
 rw [e]
 exact IntWalk.u64_in _ (by
  have:(2 ^ 64:Nat)=18446744073709551616:=by decide
  omega)
theorem FE {acc x k:Nat} (hacc:acc<2 ^ (7*k)) (hx:x<128) (hk:k≤9) (h9:k=9→x≤1):bits .or .u64 (acc:Int) ((x*2 ^ (7*k):Nat):Int)=((acc+x*2 ^ (7*k):Nat):Int):=by
 have h:=qZ hx hk h9
 have e64:(2 ^ 64:Nat)=18446744073709551616:=by decide
 have h2:2 ^ (7*k)≤2 ^ 63:=Nat.pow_le_pow_right (by decide) (by omega)
 have e63:(2 ^ 63:Nat)=9223372036854775808:=by decide
 rw [u64_or_nat acc _ (by omega) (by omega)]
 congr 1
 rw [Nat.or_comm,nat_join (7*k) _ acc (Nat.mul_mod_left _ _) hacc,Nat.add_comm]
theorem s7 {k acc:Nat} {l:List UInt8} (hk:k<10) (hlt:k<l.length) (h:(k=9∧1<l[k].toNat)∨(l[k].toNat=0∧0<k)):bo (10-k) k acc (l.drop k)=(0,0,6):=by
 rw [List.drop_eq_getElem_cons hlt,show 10-k=(9-k)+1 by omega]
 unfold bo
 rw [if_pos h]
theorem s8 {k acc:Nat} {l:List UInt8} (hk:k<10) (hlt:k<l.length) (h:¬((k=9∧1<l[k].toNat)∨(l[k].toNat=0∧0<k))) (hc:l[k].toNat<128):bo (10-k) k acc (l.drop k)=(acc+l[k].toNat % 128*2 ^ (7*k),k+1,0):=by
 rw [List.drop_eq_getElem_cons hlt,show 10-k=(9-k)+1 by omega]
 unfold bo
 rw [if_neg h,if_pos hc]
theorem s9 {k acc:Nat} {l:List UInt8} (hk:k<10) (hlt:k<l.length) (h:¬((k=9∧1<l[k].toNat)∨(l[k].toNat=0∧0<k))) (hc:¬l[k].toNat<128):bo (10-k) k acc (l.drop k)=bo (10-(k+1)) (k+1) (acc+l[k].toNat % 128*2 ^ (7*k)) (l.drop (k+1)):=by
 rw [List.drop_eq_getElem_cons hlt,show 10-k=(9-k)+1 by omega]
 conv=>lhs;unfold bo
 rw [if_neg h,if_neg hc,show 9-k=10-(k+1) by omega]
theorem qG {k acc:Nat} {l:List UInt8} (hk:k<10) (hlt:l.length≤k):bo (10-k) k acc (l.drop k)=(0,0,5):=by
 rw [List.drop_eq_nil_of_le hlt,show 10-k=(9-k)+1 by omega]
 rfl
theorem ta (A:Option Addr) (B cap:Nat) (l:List UInt8) (w:World) (hm:l.length≤281474976710656) (hr:RowsAt aQ w (Lo B) A l):Calls prog 91 #[.slice A l.length cap] w (mj w (oE l)):=by
 have HR:=Lib.hid hr
 have HV:=Lib.hid (fun v n e h=>gy (l:=l) (v:=v) (n:=n) (e:=e) h)
 obtain ⟨res,hres⟩:∃res,oE l=res:=⟨_,rfl⟩
 rw [hres] at HV ⊢
 clear hr hres
 go_enter func91,ntmps91
 go_wp2
 go_loop [5,8] (fun v i=>∃(k acc:Nat),k≤10∧k≤l.length∧i = .int .i64 (k:Int)∧v = .int .u64 (acc:Int)∧acc<2 ^ (7*k)∧Hid (aD l=bo (10-k) k acc (l.drop k))) (fun _ i=>10-(intOf i).toNat)
 case atStart=>exact ⟨0,0,by omega,Nat.zero_le _,rfl,rfl,by decide,Lib.hid rfl⟩
 case round =>
  obtain ⟨k,acc,hk,hkl,rfl,rfl,hacc,HU⟩:=hrel
  have HACC:=Lib.hid hacc
  clear hacc
  by_cases h10:k<10
  ·by_cases hlt:k<l.length
   ·obtain ⟨b,off,rfl,_,hc⟩:=tQ HR.out hlt
    have hcb:=l[k].toNat_lt
    have F1:=Lib.hid (fun h=>s7 (acc:=acc) h10 hlt h)
    have F2:=Lib.hid (fun h h'=>s8 (acc:=acc) h10 hlt h h')
    have F3:=Lib.hid (fun h h'=>s9 (acc:=acc) h10 hlt h h')
    generalize l[k].toNat=x at *
    have hlti:(k:Int)<(l.length:Int):=by omega
    have m1:=s6 hcb
    have m2:=Ae hcb
    by_cases hA:k=9∧1<x
    ·have HVV:=Lib.hid (HV.out 0 0 6 (HU.out.trans (F1.out (Or.inl hA))))
     obtain ⟨h9,h1⟩:=hA
     have hk9:((k:Int) == 9)=true:=beq_iff_eq.2 (by omega)
     have h1i:(1:Int)<(x:Int):=by omega
     clear h9 h1 m1 m2
     go_wp2
     (refine bodyPost_ret (v:=res) (by simp [results,results91,go_sem,HVV.out]) rfl ⟨rfl,rfl⟩)
    ·have hx1:k=9→x % 128≤1:=fun h=>by omega
     have eE:(((x % 128*2 ^ (7*k):Nat)):Int)=(x:Int) % 128*2 ^ (7*k):=by push_cast;rfl
     have m3:=yw (x:=x % 128) (k:=k) (by omega) (by omega) hx1
     have m4:=FE (x:=x % 128) (k:=k) HACC.out (by omega) (by omega) hx1
     rw [show min (7*(k:Int)).toNat 64=7*k by omega,eE,show ((x % 128:Nat):Int)=(x:Int) % 128 by omega] at m3
     rw [Int.natCast_add,eE] at m4
     have EE:Hid (((acc+x % 128*2 ^ (7*k):Nat):Int)=(acc:Int)+(x:Int) % 128*2 ^ (7*k)):=Lib.hid (by rw [Int.natCast_add,eE])
     clear eE
     have HA:=Lib.hid hA
     by_cases hB:128≤x
     ·have HU2:=Lib.hid (HU.out.trans (F3.out (fun h=>h.elim hA (fun h=>by omega)) (by omega)))
      have HL:=Lib.hid (qZ (x:=x % 128) (k:=k) (by omega) (by omega) hx1)
      have m2':bits .and .u8 (x:Int) 128=128:=by rw [m2,show x / 128*128=128 by omega];rfl
      clear m2
      have H9:k=9∧x≤1∨k≠9:=by omega
      have hk9:((k:Int) == 9)=false:=beq_eq_false_iff_ne.2 (by omega)
      clear hA H9 hx1
      go_wp2
      go_round
      case rel=>exact ⟨k+1,acc+x % 128*2 ^ (7*k),by omega,by omega,by go_num,by rw [EE.out],by
       have:=HACC.out
       rw [Lr]
       have h1:x % 128≤127:=by omega
       have h2:=Nat.mul_le_mul_right (2 ^ (7*k)) h1
       omega,HU2⟩
      case measure=>simp [intOf];omega
     ·have m2':bits .and .u8 (x:Int) 128=0:=by rw [m2,show x / 128*128=0 by omega];rfl
      clear m2
      by_cases hZ:x=0∧0<k
      ·have HVV:=Lib.hid (HV.out 0 0 6 (HU.out.trans (F1.out (Or.inr hZ))))
       obtain ⟨hz1,hz2⟩:=hZ
       have hz3:((x:Int) == 0)=true:=beq_iff_eq.2 (by omega)
       have hz4:(0:Int)<(k:Int):=by omega
       have hx2:¬(1:Int)<(x:Int):=by omega
       clear hz1 hz2 hA hx1
       go_wp2
       all_goals (refine bodyPost_ret (v:=res) (by simp [results,results91,go_sem,HVV.out]) rfl ⟨rfl,rfl⟩)
      ·have HVV:=Lib.hid (HV.out _ _ _ (HU.out.trans (F2.out (fun h=>h.elim hA hZ) (by omega))))
       rw [EE.out] at HVV
       have hk01:k=0∨x≠0:=by omega
       have hk90:k=9∧x≤1∨k≠9:=by omega
       clear hx1 hA hZ
       rcases hk90 with ⟨h9,hx1⟩|h9
       ·have hk9:((k:Int) == 9)=true:=beq_iff_eq.2 (by omega)
        have hz3:((x:Int) == 0)=false:=beq_eq_false_iff_ne.2 (by omega)
        have hx2:(x:Int)≤1:=by omega
        clear h9 hk01 hx1
        go_wp2
        all_goals (refine bodyPost_ret (v:=res) (by simp [results,results91,go_sem,HVV.out]) rfl ⟨rfl,rfl⟩)
       ·have hk9:((k:Int) == 9)=false:=beq_eq_false_iff_ne.2 (by omega)
        clear h9
        rcases hk01 with h0|h0
        ·have hk0:¬(0:Int)<(k:Int):=by omega
         clear h0
         by_cases hx0:x=0
         ·subst hx0
          have m5:bits .or .u64 (acc:Int) 0=(acc:Int):=by simpa using m4
          have m6:bits .and .u8 (0:Int) 127=0:=by simpa using m1
          have m7:bits .and .u8 (0:Int) 128=0:=by simpa using m2'
          have m8:IntKind.u64.wrap 0=0:=by rw [IntWalk.u64_in _ (by omega)]
          clear m1 m2' m3 m4
          go_wp2
          all_goals (refine bodyPost_ret (v:=res) (by simp [results,results91,go_sem,HVV.out]) rfl ⟨rfl,rfl⟩)
         have hz3:((x:Int) == 0)=false:=beq_eq_false_iff_ne.2 (by omega)
         clear hx0
         go_wp2
         all_goals (refine bodyPost_ret (v:=res) (by simp [results,results91,go_sem,HVV.out]) rfl ⟨rfl,rfl⟩)
        ·have hz3:((x:Int) == 0)=false:=beq_eq_false_iff_ne.2 (by omega)
         clear h0
         go_wp2
         all_goals (refine bodyPost_ret (v:=res) (by simp [results,results91,go_sem,HVV.out]) rfl ⟨rfl,rfl⟩)
   ·have HVV:=Lib.hid (HV.out 0 0 5 (HU.out.trans (qG h10 (by omega))))
    go_wp2
    (refine bodyPost_ret (v:=res) (by simp [results,results91,go_sem,HVV.out]) rfl ⟨rfl,rfl⟩)
  ·obtain rfl:k=10:=by omega
   have HVV:=Lib.hid (HV.out 0 0 6 (HU.out.trans rfl))
   go_wp2
   (refine bodyPost_ret (v:=res) (by simp [results,results91,go_sem,HVV.out]) rfl ⟨rfl,rfl⟩)
theorem qH {m:Nat} (h:m<18446744073709551616):bits .and .u64 (m:Int) 127=(m:Int) % 128:=by
 have:=u64_and_nat m 127 h (by decide)
 rw [nat_mask7] at this
 exact this.trans (by omega)
theorem uQ {x:Nat} (h:x<128):bits .or .u8 (x:Int) 128=(x:Int)+128:=by
 have:=u8_or_nat x 128 (by omega) (by decide)
 rw [Nat.or_comm,nat_join 7 128 x (by decide) (by omega)] at this
 exact this.trans (by omega)
def Ls (A:Option Addr) (w:World) (l pre:List UInt8) (v:Value) (wq:World):Prop :=
 (pre=[]∧v = .slice A l.length l.length∧wq=w)∨OwnRows aQ 5 wq w.heap.size v (l++pre)
theorem lj (A:Option Addr) (cap:Nat) (l:List UInt8) (v:Nat) (w:World) (hv:v<18446744073709551616) (hA:A=none→l.length=0) (hc:l.length≤cap) (hcm:cap≤maxLen) (hm:l.length≤140737488355300) (hr:RowsAt aQ w (Lo w.heap.size) A l) :
  Calls prog 46 #[.slice A l.length cap,.int .u64 (v:Int)] w (jk aQ 5 w (l++aK v)):=by
 unfold maxLen at hcm
 have HR:=Lib.hid hr
 have HA:Hid (A=none→l.length=0∧l.length=0):=Lib.hid (fun h=>⟨hA h,hA h⟩)
 have hlen:(aK v).length≤10:=eG 9 v (by
  have e70:(2:Nat) ^ (7*(9+1))=1180591620717411303424:=by decide
  omega)
 have HLEN:=Lib.hid hlen
 have HV64:=Lib.hid hv
 clear hr hA hlen hv
 go_enter func46,ntmps46
 go_wp2_with fail
 go_loopg [1,5] (aK v).length (fun g v1 v5 wq=>∃(m:Nat) (pre:List UInt8),v1 = .int .u64 (m:Int)∧Hid (m<18446744073709551616)∧Hid (aK v=pre++aK m)∧(aK m).length≤g∧Hid (Ls A w l pre v5 wq)∧Below w.heap.size w wq)
 case atStart=>exact ⟨v,[],rfl,HV64,Lib.hid rfl,Nat.le_refl _,Lib.hid (Or.inl ⟨rfl,rfl,rfl⟩),Below.refl _ _⟩
 case round =>
  obtain ⟨m,pre,rfl,HM,HE,hg,HP,hbw⟩:=hrel
  have HBW:=Lib.hid hbw
  have hpre:Hid (pre.length+(aK m).length≤10):=Lib.hid (by have:=HLEN.out;rw [HE.out,List.length_append] at this;exact this)
  clear hbw
  by_cases hlt:m<128
  ·have es:=gV hlt
   have hw8:IntKind.u8.wrap (m:Int)=(m:Int):=IntWalk.u8_in _ (by omega)
   have htn:((UInt8.ofNat m).toNat:Int)=(m:Int):=by rw [dV (by omega)]
   have ES:=Lib.hid es
   have HT:=Lib.hid htn
   clear es htn
   rcases HP.out with ⟨rfl,rfl,rfl⟩|hown
   ·go_wp2_with (at_builtin;refine tP eS rfl (.tmp 23) (.tmp 26) rfl wr A l.length l.length l rfl (UInt8.ofNat m) [.int .u8 (m:Int)] _ rfl rfl (Nat.le_refl _) HA.out HR.out wr.heap.size rfl rfl (by show [_]=[_];rw [HT.out]) (by unfold maxLen;omega) (by omega) ?_;intro v7 w7 hown7 hb7;have HOWN7:=Lib.hid hown7;have HB7:=Lib.hid hb7;clear hown7 hb7)
    go_ret
    exact ⟨_,rfl,by rw [HE.out,ES.out];exact HOWN7.out,HB7.out⟩
   ·have HOWN:=Lib.hid hown
    have hl10:Hid ((l++pre).length<maxLen∧((l++pre).length+1)*1≤140737488355328):=Lib.hid (by have:=hpre.out;simp [maxLen];omega)
    clear hown
    go_wp2_with (at_builtin;refine nj eS rfl (.tmp 23) (.tmp 26) rfl wr w.heap.size u5 (l++pre) (UInt8.ofNat m) [.int .u8 (m:Int)] _ rfl rfl HOWN.out wr.heap.size rfl rfl (by show [_]=[_];rw [HT.out]) hl10.out.1 hl10.out.2 ?_;intro v7 w7 hown7 hb7 hsp7;have HOWN7:=Lib.hid hown7;have HB7:=Lib.hid (HBW.out.trans hb7);clear hown7 hb7 hsp7)
    go_ret
    exact ⟨_,rfl,by rw [HE.out,ES.out,←List.append_assoc];exact HOWN7.out,HB7.out⟩
  ·have es:=nk hlt
   have a1:=qH HM.out
   have a2:IntKind.u8.wrap ((m:Int) % 128)=(m:Int) % 128:=IntWalk.u8_in _ (by omega)
   have a3:bits .or .u8 ((m:Int) % 128) 128=(m:Int) % 128+128:=by
    have:=uQ (x:=m % 128) (by omega)
    rwa [show ((m % 128:Nat):Int)=(m:Int) % 128 by omega] at this
   have htn:((UInt8.ofNat (m % 128+128)).toNat:Int)=(m:Int) % 128+128:=by rw [dV (by omega)];omega
   have ES:=Lib.hid es
   have HT:=Lib.hid htn
   have hgr:Hid ((aK (m / 128)).length+1≤gk):=Lib.hid (by rw [es] at hg;simpa using hg)
   have hM2:Hid (m / 128<18446744073709551616):=Lib.hid (by have:=HM.out;omega)
   have hlti:(127:Int)<(m:Int):=by omega
   clear es htn
   rcases HP.out with ⟨rfl,rfl,rfl⟩|hown
   ·go_wp2_with (at_builtin;refine tP eS rfl (.tmp 14) (.tmp 19) rfl wr A l.length l.length l rfl (UInt8.ofNat (m % 128+128)) [.int .u8 ((m:Int) % 128+128)] _ rfl rfl (Nat.le_refl _) HA.out HR.out wr.heap.size rfl rfl (by show [_]=[_];rw [HT.out]) (by unfold maxLen;omega) (by omega) ?_;intro v7 w7 hown7 hb7;have HOWN7:=Lib.hid hown7;have HB7:=Lib.hid hb7;clear hown7 hb7)
    go_roundg (gk-1)
    case measure=>have:=hgr.out;omega
    case rel=>exact ⟨m / 128,[UInt8.ofNat (m % 128+128)],by congr 1,hM2,Lib.hid (by rw [HE.out,ES.out];rfl),by have:=hgr.out;omega,Lib.hid (Or.inr HOWN7.out),HB7.out⟩
   ·have HOWN:=Lib.hid hown
    have hl10:Hid ((l++pre).length<maxLen∧((l++pre).length+1)*1≤140737488355328):=Lib.hid (by have:=hpre.out;simp [maxLen];omega)
    clear hown
    go_wp2_with (at_builtin;refine nj eS rfl (.tmp 14) (.tmp 19) rfl wr w.heap.size u5 (l++pre) (UInt8.ofNat (m % 128+128)) [.int .u8 ((m:Int) % 128+128)] _ rfl rfl HOWN.out wr.heap.size rfl rfl (by show [_]=[_];rw [HT.out]) hl10.out.1 hl10.out.2 ?_;intro v7 w7 hown7 hb7 hsp7;have HOWN7:=Lib.hid hown7;have HB7:=Lib.hid (HBW.out.trans hb7);clear hown7 hb7 hsp7)
    go_roundg (gk-1)
    case measure=>have:=hgr.out;omega
    case rel=>exact ⟨m / 128,pre++[UInt8.ofNat (m % 128+128)],by congr 1,hM2,Lib.hid (by rw [HE.out,ES.out];simp),by have:=hgr.out;omega,Lib.hid (Or.inr (by rw [←List.append_assoc];exact HOWN7.out)),HB7.out⟩
theorem yx (A:Option Addr) (cap:Nat) (l:List UInt8) (v:Nat) (w:World) (hv:v<18446744073709551616) (hA:A=none→l.length=0∧cap=0) (hc:l.length≤cap) (hcm:cap≤maxLen) (hm:l.length≤140737488355300) (hr:RowsAt aQ w (Lo w.heap.size) A l) :
  Calls prog 46 #[.slice A l.length cap,.int .u64 (v:Int)] w (jk aQ 5 w (l++aK v)) :=
 lj A cap l v w hv (fun h=>(hA h).1) hc hcm hm hr
theorem ll {w0:World} {base:Nat} {v:Value} {l:List UInt8} (n:Int) (w:World) (hown:OwnRows aQ 5 w base v l) (hb:Below base w0 w) (h0:0≤n) (h1:n≤999) (hm:l.length≤140737488355300) :
  Calls prog 46 #[v,.int .u64 n] w fun e w'=>∃v',e = .returned v'∧OwnRows aQ 5 w' base v' (l++aK n.toNat)∧Below base w0 w':=by
 obtain ⟨A,cap,rfl,hA,hr,hc,hcm⟩:=hown.form2
 have:=yx A cap l n.toNat w (by omega) hA hc hcm hm hr
 rw [show ((n.toNat:Nat):Int)=n by omega] at this
 refine this.mono ?_
 rintro e w' ⟨v',rfl,ho,hbl⟩
 exact ⟨v',rfl,ho.older hown.1,hb.trans (hbl.mono hown.1)⟩
theorem yy (A:Option Addr) (cap:Nat) (l:List UInt8) (p:Pr) (w:World) (hm:l.length≤140737488355200) (hr:RowsAt aQ w (Lo w.heap.size) A l) :
  Calls prog 45 #[.slice A l.length cap,p.val] w (jk aQ 5 w (l++ml p)):=by
 have HR:=Lib.hid hr
 have HV:=Lib.hid (fun W=>oU p W)
 obtain ⟨bv,hbv⟩:∃b,fI p=b:=⟨_,rfl⟩
 rw [hbv] at HV
 have HBV:=Lib.hid hbv
 obtain ⟨L,hL⟩:∃L,l++ml p=L:=⟨_,rfl⟩
 rw [hL]
 have HL:=Lib.hid hL
 clear hr hbv hL
 obtain ⟨a,b,c⟩:=p
 unfold Pr.val at *
 have i0:∀w:World,(Instr.index 150 (.agg #[.int .i64 a,.int .i64 b,.int .i64 c]) (.int .i64 0)).run prog w = .ok (.int .i64 a) w:=fun _=>by kernel_rfl
 have i1:∀w:World,(Instr.index 150 (.agg #[.int .i64 a,.int .i64 b,.int .i64 c]) (.int .i64 1)).run prog w = .ok (.int .i64 b) w:=fun _=>by kernel_rfl
 have i2:∀w:World,(Instr.index 150 (.agg #[.int .i64 a,.int .i64 b,.int .i64 c]) (.int .i64 2)).run prog w = .ok (.int .i64 c) w:=fun _=>by kernel_rfl
 have HN:Hid (OwnRows aQ 5 (w.alloc (.cells #[.int .i64 a,.int .i64 b,.int .i64 c] 23)) (w.heap.size+1) (.slice none 0 0) []):=Lib.hid (OwnRows.nil _ _ _ _ (by simp))
 have HRA:Hid (RowsAt aQ (w.alloc (.cells #[.int .i64 a,.int .i64 b,.int .i64 c] 23)) (qI (w.alloc (.cells #[.int .i64 a,.int .i64 b,.int .i64 c] 23)) (.slice none 0 0)) A l):=Lib.hid (HR.out.same (fun b hb=>Below.heap_alloc w _ b hb) fun b hb=>⟨Nat.lt_of_lt_of_le hb (by simp),fun e=>by cases e⟩)
 go_enter func45,ntmps45
 go_wp2_with (at_builtin;refine uZ eS rfl (.const (.slice none 0 0)) (.tmp 8) rfl _ (w.heap.size+1) _ [] l l.length rfl A cap rfl HN.out rfl HRA.out (by simp [maxLen];omega) (by simp;omega) ?_;intro v3 w3 hown3 hb3 hsp3;rw [List.nil_append] at hown3;have HOWN3:=Lib.hid hown3;have hb4:Below (w.alloc (.cells #[.int .i64 a,.int .i64 b,.int .i64 c] 23)).heap.size (w.alloc (.cells #[.int .i64 a,.int .i64 b,.int .i64 c] 23)) w3:=(by simpa using hb3);obtain ⟨hc3,hf3⟩:=wK hb4;have hz3:w.heap.size<w3.heap.size:=(by have:=hb4.size;simp at this;omega);have HB3:=Lib.hid (Below.tr (Below.al (Below.refl _ w) _) hb4);clear hown3 hb3 hb4 hsp3)
 refine (HV.out _).mono ?_
 rintro e w4 ⟨rfl,hb4⟩
 have HOWN4:=Lib.hid (HOWN3.out.below (B:=w3.heap.size) hb4 (Nat.le_refl _))
 obtain ⟨hc4,hf4⟩:=wK hb4
 have hz4:w.heap.size<w4.heap.size:=by have:=hb4.size;omega
 have HB4:Hid (Below w.heap.size w w4):=Lib.hid (Below.tr HB3.out hb4)
 clear hb4
 cases bv with
 | false =>
  have HL0:Hid (L=l):=Lib.hid (by
   rw [←HL.out]
   unfold ml
   rw [if_neg (by rw [HBV.out];simp),List.append_nil])
  go_wp2_with fail
  go_ret
  exact ⟨_,rfl,by rw [HL0.out];exact HOWN4.out.older (by omega),HB4.out⟩
 | true =>
  obtain ⟨a0,a1,b0,b1,c0,c1⟩:=fX.1 HBV.out
  dsimp only at a0 a1 b0 b1 c0 c1
  have HL0:Hid (L=l++aK a.toNat++aK b.toNat++aK c.toNat):=Lib.hid (by
   rw [←HL.out]
   unfold ml mE
   rw [if_pos HBV.out]
   simp)
  have wa:IntKind.u64.wrap a=a:=IntWalk.u64_in _ (by omega)
  have wb:IntKind.u64.wrap b=b:=IntWalk.u64_in _ (by omega)
  have wc:IntKind.u64.wrap c=c:=IntWalk.u64_in _ (by omega)
  have HLa:Hid ((aK a.toNat).length≤10∧(aK b.toNat).length≤10):=Lib.hid ⟨eG 9 _ (by
   have e70:(2:Nat) ^ (7*(9+1))=1180591620717411303424:=by decide
   omega),eG 9 _ (by
   have e70:(2:Nat) ^ (7*(9+1))=1180591620717411303424:=by decide
   omega)⟩
  have HRG:=Lib.hid (And.intro (And.intro a0 a1) (And.intro (And.intro b0 b1) (And.intro c0 c1)))
  clear a0 a1 b0 b1 c0 c1
  go_wp2_with fail
  clear hc3 hf3 hc4 hf4
  refine wp_loop_rounds 4 ?_
  rw [rounds_succ]
  go_wp2_with fail
  refine (ll a _ HOWN4.out (Below.refl _ _) HRG.out.1.1 (by have:=HRG.out.1.2;omega) (by omega)).mono ?_
  rintro e w5 ⟨v5,rfl,hown5,hb5⟩
  have HOWN5:=Lib.hid hown5
  have HB5:Hid (Below w.heap.size w w5):=Lib.hid (HB4.out.trans (hb5.mono (by omega)))
  clear hown5 hb5
  go_wp2_with fail
  rw [rounds_succ]
  go_wp2_with fail
  refine (ll b _ HOWN5.out (Below.refl _ _) (by have:=HRG.out.2.1.1;omega) (by have:=HRG.out.2.1.2;omega) (by have:=HLa.out.1;rw [List.length_append];omega)).mono ?_
  rintro e w6 ⟨v6,rfl,hown6,hb6⟩
  have HOWN6:=Lib.hid hown6
  have HB6:Hid (Below w.heap.size w w6):=Lib.hid (HB5.out.trans (hb6.mono (by omega)))
  clear hown6 hb6
  go_wp2_with fail
  rw [rounds_succ]
  go_wp2_with fail
  refine (ll c _ HOWN6.out (Below.refl _ _) (by have:=HRG.out.2.2.1;omega) HRG.out.2.2.2 (by have:=HLa.out;rw [List.length_append,List.length_append];omega)).mono ?_
  rintro e w7 ⟨v7,rfl,hown7,hb7⟩
  have HOWN7:=Lib.hid hown7
  have HB7:Hid (Below w.heap.size w w7):=Lib.hid (HB6.out.trans (hb7.mono (by omega)))
  clear hown7 hb7
  go_wp2_with fail
  rw [rounds_succ]
  go_wp2_with fail
  go_ret
  exact ⟨_,rfl,by rw [HL0.out];exact HOWN7.out.older (by omega),HB7.out⟩
theorem gL (A:Option Addr) (cap:Nat) (l:List UInt8) (v:Nat) (w:World) (hv:v<18446744073709551616) (hm:l.length≤140737488355300) (hr:RowsAt aQ w (Lo w.heap.size) A l) :
  Calls prog 42 #[.slice A l.length cap,.int .u64 (v:Int)] w (jk aQ 5 w (l++aK v)):=by
 have HR:=Lib.hid hr
 have hlen:(aK v).length≤10:=eG 9 v (by
  have e70:(2:Nat) ^ (7*(9+1))=1180591620717411303424:=by decide
  omega)
 have HLEN:=Lib.hid hlen
 have HV64:=Lib.hid hv
 clear hr hlen hv
 go_enter func42,ntmps42
 have hown0:=OwnRows.made aQ 5 w w.heap.size #[] 0 (Nat.le_refl _) (by simp [maxLen]) rfl
 have HOWN0:=Lib.hid hown0
 have HRA:Hid (RowsAt aQ (w.alloc (.cells #[] 5)) (qI (w.alloc (.cells #[] 5)) (.slice (some ⟨w.heap.size,0,none⟩) 0 0)) A l):=Lib.hid (HR.out.same (fun b hb=>Below.heap_alloc w _ b hb) fun b hb=>⟨Nat.lt_of_lt_of_le hb (by simp),fun e=>by injection e with e;have:b<w.heap.size:=hb;simp at e;omega⟩)
 clear hown0
 go_wp2_with (at_builtin;refine uZ eS rfl (.tmp 6) (.tmp 7) rfl _ w.heap.size _ [] l l.length rfl A cap rfl HOWN0.out rfl HRA.out (by simp [maxLen];omega) (by simp;omega) ?_;intro v3 w3 hown3 hb3 hsp3;rw [List.nil_append] at hown3;have HOWN3:=Lib.hid hown3;have HB3:Hid (Below w.heap.size w w3):=Lib.hid ((Below.al (Below.refl _ _) _).trans hb3);clear hown3 hb3 hsp3)
 go_loopg [1,5] (aK v).length (fun g v1 v5 wq=>∃(m:Nat) (pre:List UInt8),v1 = .int .u64 (m:Int)∧Hid (m<18446744073709551616)∧Hid (aK v=pre++aK m)∧(aK m).length≤g∧OwnRows aQ 5 wq w.heap.size v5 (l++pre)∧Below w.heap.size w wq)
 case atStart=>exact ⟨v,[],rfl,HV64,Lib.hid rfl,Nat.le_refl _,by rw [List.append_nil];exact HOWN3.out,HB3.out⟩
 case round =>
  obtain ⟨m,pre,rfl,HM,HE,hg,hown,hbw⟩:=hrel
  have HOWN:=Lib.hid hown
  clear hown
  have HBW:=Lib.hid hbw
  have hpre:Hid (pre.length+(aK m).length≤10):=Lib.hid (by have:=HLEN.out;rw [HE.out,List.length_append] at this;exact this)
  clear hbw
  by_cases hlt:m<128
  ·have es:=gV hlt
   have hw8:IntKind.u8.wrap (m:Int)=(m:Int):=IntWalk.u8_in _ (by omega)
   have htn:((UInt8.ofNat m).toNat:Int)=(m:Int):=by rw [dV (by omega)]
   have ES:=Lib.hid es
   have HT:=Lib.hid htn
   clear es htn
   have hl10:Hid ((l++pre).length<maxLen∧((l++pre).length+1)*1≤140737488355328):=Lib.hid (by have:=hpre.out;simp [maxLen];omega)
   go_wp2_with (at_builtin;refine nj eS rfl (.tmp 20) (.tmp 23) rfl wr w.heap.size u5 (l++pre) (UInt8.ofNat m) [.int .u8 (m:Int)] _ rfl rfl HOWN.out wr.heap.size rfl rfl (by show [_]=[_];rw [HT.out]) hl10.out.1 hl10.out.2 ?_;intro v7 w7 hown7 hb7 hsp7;have HOWN7:=Lib.hid hown7;have HB7:=Lib.hid (HBW.out.trans hb7);clear hown7 hb7 hsp7)
   go_ret
   exact ⟨_,rfl,by rw [HE.out,ES.out,←List.append_assoc];exact HOWN7.out,HB7.out⟩
  ·have es:=nk hlt
   have a1:=qH HM.out
   have a2:IntKind.u8.wrap ((m:Int) % 128)=(m:Int) % 128:=IntWalk.u8_in _ (by omega)
   have a3:bits .or .u8 ((m:Int) % 128) 128=(m:Int) % 128+128:=by
    have:=uQ (x:=m % 128) (by omega)
    rwa [show ((m % 128:Nat):Int)=(m:Int) % 128 by omega] at this
   have htn:((UInt8.ofNat (m % 128+128)).toNat:Int)=(m:Int) % 128+128:=by rw [dV (by omega)];omega
   have ES:=Lib.hid es
   have HT:=Lib.hid htn
   have hgr:Hid ((aK (m / 128)).length+1≤gk):=Lib.hid (by rw [es] at hg;simpa using hg)
   have hM2:Hid (m / 128<18446744073709551616):=Lib.hid (by have:=HM.out;omega)
   have hlti:(128:Int)≤(m:Int):=by omega
   clear es htn
   have hl10:Hid ((l++pre).length<maxLen∧((l++pre).length+1)*1≤140737488355328):=Lib.hid (by have:=hpre.out;simp [maxLen];omega)
   go_wp2_with (at_builtin;refine nj eS rfl (.tmp 11) (.tmp 16) rfl wr w.heap.size u5 (l++pre) (UInt8.ofNat (m % 128+128)) [.int .u8 ((m:Int) % 128+128)] _ rfl rfl HOWN.out wr.heap.size rfl rfl (by show [_]=[_];rw [HT.out]) hl10.out.1 hl10.out.2 ?_;intro v7 w7 hown7 hb7 hsp7;have HOWN7:=Lib.hid hown7;have HB7:=Lib.hid (HBW.out.trans hb7);clear hown7 hb7 hsp7)
   go_roundg (gk-1)
   case measure=>have:=hgr.out;omega
   case rel=>exact ⟨m / 128,pre++[UInt8.ofNat (m % 128+128)],by congr 1,hM2,Lib.hid (by rw [HE.out,ES.out];simp),by have:=hgr.out;omega,by rw [←List.append_assoc];exact HOWN7.out,HB7.out⟩
theorem oF {w0:World} {base:Nat} {v:Value} {l:List UInt8} (n:Int) (w:World) (hown:OwnRows aQ 5 w base v l) (hb:Below base w0 w) (h0:0≤n) (h1:n≤999) (hm:l.length≤140737488355300) :
  Calls prog 42 #[v,.int .u64 n] w fun e w'=>∃v',e = .returned v'∧OwnRows aQ 5 w' w.heap.size v' (l++aK n.toNat)∧Below base w0 w'∧Below w.heap.size w w':=by
 obtain ⟨A,cap,rfl,hA,hr,hc,hcm⟩:=hown.form2
 have:=gL A cap l n.toNat w (by omega) hm hr
 rw [show ((n.toNat:Nat):Int)=n by omega] at this
 refine this.mono ?_
 rintro e w' ⟨v',rfl,ho,hbl⟩
 exact ⟨v',rfl,ho,hb.trans (hbl.mono hown.1),hbl⟩
theorem wA (A:Option Addr) (cap:Nat) (l:List UInt8) (p:Pr) (w:World) (hp:fI p=true) (hm:l.length≤140737488355200) (hr:RowsAt aQ w (Lo w.heap.size) A l) :
  Calls prog 41 #[.slice A l.length cap,p.val] w (jk aQ 5 w (l++ml p)):=by
 have HV:=Lib.hid (fun W=>mD p W)
 rw [hp] at HV
 have HL:Hid (l++ml p=l++aK p.site.toNat++aK p.inc.toNat++aK p.num.toNat):=Lib.hid (by
  unfold ml mE
  rw [if_pos hp]
  simp)
 rw [HL.out]
 obtain ⟨a0,a1,b0,b1,c0,c1⟩:=fX.1 hp
 have H1:Hid (∀W,Below w.heap.size w W→Calls prog 42 #[.slice A l.length cap,.int .u64 p.site] W fun e w'=>∃v',e = .returned v'∧OwnRows aQ 5 w' W.heap.size v' (l++aK p.site.toNat)∧Below W.heap.size W w'):=Lib.hid (fun W hb=>by
  have:=gL A cap l p.site.toNat W (by omega) (by omega) (hr.below hb (Nat.le_refl _) hb.size)
  rw [show ((p.site.toNat:Nat):Int)=p.site by omega] at this
  exact this)
 obtain ⟨a,b,c⟩:=p
 unfold Pr.val at *
 dsimp only at *
 have wa:IntKind.u64.wrap a=a:=IntWalk.u64_in _ (by omega)
 have wb:IntKind.u64.wrap b=b:=IntWalk.u64_in _ (by omega)
 have wc:IntKind.u64.wrap c=c:=IntWalk.u64_in _ (by omega)
 have HLa:Hid ((aK a.toNat).length≤10∧(aK b.toNat).length≤10):=Lib.hid ⟨eG 9 _ (by
   have e70:(2:Nat) ^ (7*(9+1))=1180591620717411303424:=by decide
   omega),eG 9 _ (by
   have e70:(2:Nat) ^ (7*(9+1))=1180591620717411303424:=by decide
   omega)⟩
 have HM:=Lib.hid hm
 have HRG:=Lib.hid (And.intro (And.intro a0 a1) (And.intro (And.intro b0 b1) (And.intro c0 c1)))
 have l2:Hid ((l++aK a.toNat).length≤140737488355300):=Lib.hid (by have:=HLa.out.1;rw [List.length_append];omega)
 have l3:Hid ((l++aK a.toNat++aK b.toNat).length≤140737488355300):=Lib.hid (by have:=HLa.out;rw [List.length_append,List.length_append];omega)
 clear a0 a1 b0 b1 c0 c1 hp hr
 go_enter func41,ntmps41
 go_wp2_with fail
 refine (HV.out _).mono ?_
 rintro e w1 ⟨rfl,hb1⟩
 have HK1:Hid (Blk w1.drew w.heap.size 23 #[.int .i64 a,.int .i64 b,.int .i64 c]):=Lib.hid (((Blk.new w 23 #[.int .i64 a,.int .i64 b,.int .i64 c]).below hb1 (by simp)).drewN 1)
 have HB1:Hid (Below w.heap.size w w1.drew):=Lib.hid (Below.drew (Below.tr (Below.al (Below.refl _ _) _) hb1))
 clear hb1
 go_wp2_with fail
 go_region_held3 (fun w'=>w'.cell? ⟨w.heap.size,0,none⟩=some (.int .i64 a)∧w'.cell? ⟨w.heap.size,1,none⟩=some (.int .i64 b)∧w'.cell? ⟨w.heap.size,2,none⟩=some (.int .i64 c))
  (first
   | exact ⟨HK1.out.cellx 0 rfl,HK1.out.cellx 1 rfl,HK1.out.cellx 2 rfl⟩
   | exact hC4|exact hC3|exact hC2)
  ((first
   | (go_at_call_of 42 (Value.int .u64 a);refine (H1.out _ HB1.out).mono ?_;rintro e w2 ⟨v2,rfl,hown2,hb2⟩;have HOWN2:=Lib.hid hown2;have HB2:Hid (Below w.heap.size w w2):=Lib.hid (Below.tr HB1.out hb2);have hK2:Hid (Blk w2 w.heap.size 23 #[.int .i64 a,.int .i64 b,.int .i64 c]):=Lib.hid (HK1.out.below hb2 HK1.out.lt);have hC2:=And.intro (hK2.out.cellx 0 (v:=.int .i64 a) rfl) (And.intro (hK2.out.cellx 1 (v:=.int .i64 b) rfl) (hK2.out.cellx 2 (v:=.int .i64 c) rfl));clear hown2 hb2)
   | (go_at_call_of 42 (Value.int .u64 b);refine (oF b _ HOWN2.out (Below.refl _ _) (by have:=HRG.out.2.1;omega) (by have:=HRG.out.2.1;omega) l2.out).mono ?_;rintro e w3 ⟨v3,rfl,hown3,_,hb3⟩;have HOWN3:=Lib.hid hown3;have HB3:Hid (Below w.heap.size w w3):=Lib.hid (Below.tr HB2.out hb3);have hK3:Hid (Blk w3 w.heap.size 23 #[.int .i64 a,.int .i64 b,.int .i64 c]):=Lib.hid (hK2.out.below hb3 hK2.out.lt);have hC3:=And.intro (hK3.out.cellx 0 (v:=.int .i64 a) rfl) (And.intro (hK3.out.cellx 1 (v:=.int .i64 b) rfl) (hK3.out.cellx 2 (v:=.int .i64 c) rfl));clear hown3 hb3 hC2)
   | (go_at_call_of 42 (Value.int .u64 c);refine (oF c _ HOWN3.out (Below.refl _ _) (by have:=HRG.out.2.2;omega) (by have:=HRG.out.2.2;omega) l3.out).mono ?_;rintro e w4 ⟨v4,rfl,hown4,_,hb4⟩;have HOWN4:=Lib.hid hown4;have HB4:Hid (Below w.heap.size w w4):=Lib.hid (Below.tr HB3.out hb4);have hK4:Hid (Blk w4 w.heap.size 23 #[.int .i64 a,.int .i64 b,.int .i64 c]):=Lib.hid (hK3.out.below hb4 hK3.out.lt);have hC4:=And.intro (hK4.out.cellx 0 (v:=.int .i64 a) rfl) (And.intro (hK4.out.cellx 1 (v:=.int .i64 b) rfl) (hK4.out.cellx 2 (v:=.int .i64 c) rfl));clear hown4 hb4 hC3)))
 all_goals
  go_wp2
  go_ret
  exact ⟨_,rfl,HOWN4.out.older HB3.out.size,HB4.out⟩
def oG (b:UInt8):Value:=.int .u8 (b.toNat:Int)
theorem wB {P:Program} {w:World} (size:Nat) (s:ByteArray):(Builtin.firstCells size s.size (.string s)).run P w = .ok (s.data.map oG) w:=by
 have h:(s.extract 0 s.size).data=s.data:=by
  have e:s.extract 0 s.size=s:=ByteArray.extract_zero_size
  rw [e]
 simp only [Builtin.firstCells,Sem.run_pure,h]
 rfl
theorem Af {P:Program} (w:World) (base:Nat) (t u ty e:TypeId) (i:TypeInfo) (z:Value) (ht:P.underlying t=some (.slice e)) (hu:P.underlying u=some .string) (hi:P.info? e=some i) (hz:i.zero=some z)
  (hsize:i.size=1) (hby:i.bytes=1) (hzs:z.cells.size=1) (v:Value) (n:Nat) (xs:List Value) (hown:w.ownsRow base e 1 v n xs) (s:ByteArray)
  (h63:n+s.size≤maxLen) (hbytes:n+s.size≤140737488355328) (hbase:base≤w.heap.size) :
  ∃v' w',(Builtin.append_ #[t,u] ty #[v,.string s]).run P w = .ok v' w'∧w'.ownsRow base e 1 v' (n+s.size) (xs++(s.data.map oG).toList)∧w.grownBy w' v.ownBlock:=by
 obtain ⟨N,hN⟩:∃N,(s.data.map oG).toList=N:=⟨_,rfl⟩
 have hNa:s.data.map oG=N.toArray:=by rw [←hN]
 have hNl:N.length=s.size:=by rw [←hN];simp
 have h1:∀u∈N,u.oneCell'=true:=by
  intro u hu
  rw [←hN] at hu
  simp only [Array.toList_map,List.mem_map] at hu
  obtain ⟨b,_,rfl⟩:=hu
  rfl
 rw [hN]
 have hxl:xs.length=n:=by have:=hown.1;omega
 have hsm:¬(9223372036854775807<((n:Int)+(s.size:Int))):=by simp only [maxLen] at h63;omega
 have hf:∀W:World,(Builtin.firstCells 1 s.size (.string s)).run P W = .ok N.toArray W:=fun W=>by rw [wB,hNa]
 have grown:∀(old:Nat),old<n+s.size→∀row:Option Nat,
   (w.drew.alloc (.cells (xs.toArray++N.toArray++Builtin.zeroCells z.cells (grownCap w (n+s.size) old e-(n+s.size))) e)).ownsRow base e 1 (.slice (some ⟨w.heap.size,0,none⟩) (n+s.size) (grownCap w (n+s.size) old e)) (n+s.size) (xs++N)∧
   w.grownBy (w.drew.alloc (.cells (xs.toArray++N.toArray++Builtin.zeroCells z.cells (grownCap w (n+s.size) old e-(n+s.size))) e)) row:=by
  intro old ho row
  have hge:=grownCap_ge w (n+s.size) old e
  have hcm:=grownCap_le_maxLen w (n+s.size) old e h63
  have hl:(xs++N).length=n+s.size:=by rw [List.length_append,hxl,hNl]
  refine ⟨⟨by rw [hl,Nat.mul_one],.inr ⟨w.heap.size,_,_,rfl,hbase,heap_alloc_new w.drew _,hge,hcm,?_,?_⟩⟩,⟨rfl,rfl,rfl,by simp,fun k hk _=>Below.heap_alloc w.drew _ k hk⟩⟩
  ·simp only [Array.size_append,List.size_toArray,size_zeroCells,hzs,hxl,hNl,Nat.mul_one]
   omega
  ·simp only [Array.toList_append,List.append_assoc,Nat.mul_one]
   rw [←List.append_assoc,←hl]
   exact List.take_left
 rcases hown.2 with ⟨rfl,rfl⟩|⟨g,cap,cur,rfl,hbg,hg,hnc,hcm,hcs,htake⟩
 ·obtain rfl:=List.eq_nil_of_length_eq_zero hxl
  by_cases hm:s.size=0
  ·have hn:N=[]:=List.eq_nil_of_length_eq_zero (by rw [hNl,hm])
   subst hn
   refine ⟨.slice none 0 0,w,?_,by rw [hm];exact World.ownsRow_nil w base e 1,⟨rfl,rfl,rfl,Nat.le_refl _,fun _ _ _=>rfl⟩⟩
   have hf0:=hf w
   rw [hm] at hf0
   simp [Builtin.append_,run_underlying ht,run_underlying hu,sizeOf,typeInfo,hi,Builtin.lenOf,hm,hsize,hf0]
  ·have h48:¬(281474976710656<Builtin.nextslicecap s.size 0*i.bytes):=by rw [nextslicecap_zero (by omega),hby];omega
   have hgr:=grown 0 (by omega) (Value.ownBlock (.slice none 0 0))
   simp only [Nat.zero_add,List.nil_append,Array.empty_append] at hgr hsm ⊢
   refine ⟨_,_,?_,hgr.1,hgr.2⟩
   have hsm':¬(9223372036854775807<(s.size:Int)):=by simp only [maxLen] at h63;omega
   simp [Builtin.append_,run_underlying ht,run_underlying hu,sizeOf,typeInfo,zeroValue,hi,hz,hsize,Builtin.lenOf,hm,hsm',h48,Question.forced,hf,run_firstCells_none,newRow,grownCap]
 ·by_cases hroom:n+s.size≤cap
  ·have hfit:n+N.length≤cur.size:=by rw [hNl,hcs,Nat.mul_one];exact hroom
   have hst:=run_storeCells_at P g n e N 0 cur w hg (by simpa using hfit) h1
   simp only [Nat.add_zero] at hst
   rw [Nat.mul_one] at htake
   refine ⟨.slice (some ⟨g,0,none⟩) (n+s.size) cap,w.setRow g (cur.toList.take n++N++cur.toList.drop (n+N.length)).toArray,?_,⟨by simp [hxl,hNl],.inr ⟨g,cap,_,rfl,hbg,setRow_heap w g cur _ e _ hg,hroom,hcm,?_,?_⟩⟩,⟨rfl,rfl,rfl,by simp,fun k _ hk=>setRow_other w g k _ (fun e=>hk (by simp [Value.ownBlock,e]))⟩⟩
   ·simp [Builtin.append_,run_underlying ht,run_underlying hu,sizeOf,typeInfo,hi,hsize,Builtin.lenOf,hroom,hf,Addr.add_lit,hst]
   ·simp only [List.size_toArray,List.length_append,List.length_take,List.length_drop,Array.length_toList]
    omega
   ·rw [htake,Nat.mul_one,←hNl,←hxl,←List.length_append]
    exact List.take_left
  ·have holds:∀j u,xs[j]? = some u→w.cell? ((⟨g,0,none⟩:Addr).add j)=some u:=hown.cells (g:=g) rfl
   have hfo:=run_firstCells_some (P:=P) w.drew 1 n ⟨g,0,none⟩ n cap xs (by rw [hxl,Nat.mul_one]) (by simpa using holds)
   have h48:¬(281474976710656<Builtin.nextslicecap (n+s.size) cap*i.bytes):=by
    have:=growslice_fits (need:=n+s.size) (old:=cap) (bytes:=1) (by omega) (by omega)
    rw [hby]
    omega
   have hgr:=grown cap (by omega) (Value.ownBlock (.slice (some ⟨g,0,none⟩) n cap))
   refine ⟨_,_,?_,hgr.1,hgr.2⟩
   simp [Builtin.append_,run_underlying ht,run_underlying hu,sizeOf,typeInfo,zeroValue,hi,hz,hsize,Builtin.lenOf,hroom,hsm,h48,Question.forced,hf,hfo,newRow,grownCap]
   try (congr 2;apply Array.ext';simp [List.append_assoc])
theorem mB {P:Program} {ops:Array Oper} {rest:List Oper} {o:Oper} {a:Act} {Q:Exit→Act→World→Prop} (w:World) (hgd:o.guard=none) (x y:Operand) (t u:TypeId)
  (ho:o.op = .call { callee:=.builtin .append,args:=#[x,y],argTypes:=#[t,u] }) (base:Nat) (e:TypeId) (i:TypeInfo) (z:Value) (ht:P.underlying t=some (.slice e)) (hu:P.underlying u=some .string) (hi:P.info? e=some i) (hz:i.zero=some z)
  (hsize:i.size=1) (hby:i.bytes=1) (hzs:z.cells.size=1) (v:Value) (n:Nat) (xs:List Value) (hv:a.eval x=v) (hown:w.ownsRow base e 1 v n xs) (s:ByteArray) (hs:a.eval y = .string s)
  (h63:n+s.size≤maxLen) (hbytes:n+s.size≤140737488355328) (hbase:base≤w.heap.size)
  (h:∀v' w',w'.ownsRow base e 1 v' (n+s.size) (xs++(s.data.map oG).toList)→w.grownBy w' v.ownBlock→wpList P ops Q rest (a.put o.dst v') w'):wpList P ops Q (o :: rest) a w:=by
 refine wpList_plain hgd fun K hK=>?_
 obtain ⟨v',w',hr,h2,h3⟩:=Af (P:=P) w base t u o.type e i z ht hu hi hz hsize hby hzs v n xs hown s h63 hbytes hbase
 unfold Oper.wp execOp
 simp only [ho,resolve,invoke,builtin,Sem.run_bind,Sem.run_pure,Result.andThen_ok,List.map_toArray,List.map_cons,List.map_nil,hv,hs,hr]
 exact hK _ _ (h v' w' h2 h3)
theorem FF (s:ByteArray):(s.data.map oG).toList=(s.data.toList.map fun c=>[Value.int .u8 (c.toNat:Int)]).flatten:=by
 rw [Array.toList_map]
 induction s.data.toList with
 | nil=>rfl
 | cons c l ih=>rw [List.map_cons,List.map_cons,List.flatten_cons,ih];rfl
theorem Br {w w':World} {base:Nat} {v v':Value} {L:List UInt8} {s:ByteArray} {xs:List Value} (hx:Reps aQ w (qI w v) L xs) (hb:base≤w'.heap.size) (h:w'.ownsRow base 5 1 v' (L.length+s.size) (xs++(s.data.map oG).toList)):OwnRows aQ 5 w' base v' (L++s.data.toList):=by
 refine ⟨hb,xs++(s.data.map oG).toList,?_,?_⟩
 ·have e:(L++s.data.toList).length=L.length+s.size:=by simp
  rw [e]
  exact h
 ·have e1:=Reps.plain hx
  have e2:xs++(s.data.map oG).toList=((L++s.data.toList).map fun c=>[Value.int .u8 (c.toNat:Int)]).flatten:=by
   rw [List.map_append,List.flatten_append,←FF,e1]
  rw [e2]
  exact Reps.plain_mk _
theorem yz (A:Option Addr) (cap:Nat) (l:List UInt8) (s:ByteArray) (w:World) (hA:A=none→l.length=0) (hc:l.length≤cap) (hcm:cap≤maxLen) (hm:l.length≤1000000000) (hs:s.size≤1000000000) (hr:RowsAt aQ w (Lo w.heap.size) A l) :
  Calls prog 47 #[.slice A l.length cap,.string s] w (jk aQ 5 w (l++aK s.size++s.data.toList)):=by
 have hw:IntKind.u64.wrap (s.size:Int)=(s.size:Int):=IntWalk.u64_in _ (by omega)
 have HP:=Lib.hid (lj A cap l s.size w (by omega) hA hc hcm (by omega) hr)
 have hlen:(aK s.size).length≤10:=eG 9 s.size (by
  have e70:(2:Nat) ^ (7*(9+1))=1180591620717411303424:=by decide
  omega)
 have HL:=Lib.hid hlen
 have HM:=Lib.hid hm
 have HS:=Lib.hid hs
 clear hA hc hcm hr hlen hm hs
 go_enter func47,ntmps47
 go_wp2_with fail
 refine HP.out.mono ?_
 rintro e w1 ⟨v1,rfl,hown,hb⟩
 obtain ⟨hb0,xs,ho,hx⟩:=hown
 have HO:=Lib.hid ho
 have HX:=Lib.hid hx
 have HB:=Lib.hid hb
 have HB0:=Lib.hid hb0
 clear ho hx hb hb0
 obtain ⟨i0,z,hi,hz0,hz1,hz2,hz3⟩:=eS.info
 have HI:=Lib.hid hi
 clear hi
 go_wp2_with (at_builtin;refine mB w1 rfl (.tmp 9) (.tmp 10) _ _ rfl w.heap.size 5 i0 z eS.under underlying9 HI.out hz0 hz1 hz3 hz2 v1 _ xs rfl HO.out s rfl (by have:=HL.out;have:=HM.out;have:=HS.out;simp [maxLen];omega) (by have:=HL.out;have:=HM.out;have:=HS.out;simp;omega) HB0.out ?_;intro v2 w2 hown2 hg2;have HO2:=Lib.hid hown2;have HG2:=Lib.hid hg2;clear hown2 hg2)
 go_ret
 have hB2:Below w.heap.size w w2:=HB.out.grown HG2.out HB0.out fun k hk=>(HO.out.lt k hk).1
 exact ⟨_,rfl,(Br (L:=l++aK s.size) HX.out hB2.size (by simpa using HO2.out)),hB2⟩
theorem wC (A:Option Addr) (cap:Nat) (l:List UInt8) (s:ByteArray) (w:World) (hA:A=none→l.length=0) (hc:l.length≤cap) (hcm:cap≤maxLen) (hm:l.length≤1000000000) (hs:s.size≤1000000000) (hr:RowsAt aQ w (Lo w.heap.size) A l) :
  Calls prog 43 #[.slice A l.length cap,.string s] w (jk aQ 5 w (l++aK s.size++s.data.toList)):=by
 have hw:IntKind.u64.wrap (s.size:Int)=(s.size:Int):=IntWalk.u64_in _ (by omega)
 have HP:=Lib.hid (gL A cap l s.size w (by omega) (by omega) hr)
 have hlen:(aK s.size).length≤10:=eG 9 s.size (by
  have e70:(2:Nat) ^ (7*(9+1))=1180591620717411303424:=by decide
  omega)
 have HL:=Lib.hid hlen
 have HM:=Lib.hid hm
 have HS:=Lib.hid hs
 clear hA hc hcm hr hlen hm hs
 go_enter func43,ntmps43
 go_wp2_with fail
 refine HP.out.mono ?_
 rintro e w1 ⟨v1,rfl,hown,hb⟩
 obtain ⟨hb0,xs,ho,hx⟩:=hown
 have HO:=Lib.hid ho
 have HX:=Lib.hid hx
 have HB:=Lib.hid hb
 have HB0:=Lib.hid hb0
 clear ho hx hb hb0
 obtain ⟨i0,z,hi,hz0,hz1,hz2,hz3⟩:=eS.info
 have HI:=Lib.hid hi
 clear hi
 go_wp2_with (at_builtin;refine mB w1 rfl (.tmp 9) (.tmp 10) _ _ rfl w.heap.size 5 i0 z eS.under underlying9 HI.out hz0 hz1 hz3 hz2 v1 _ xs rfl HO.out s rfl (by have:=HL.out;have:=HM.out;have:=HS.out;simp [maxLen];omega) (by have:=HL.out;have:=HM.out;have:=HS.out;simp;omega) HB0.out ?_;intro v2 w2 hown2 hg2;have HO2:=Lib.hid hown2;have HG2:=Lib.hid hg2;clear hown2 hg2)
 go_ret
 have hB2:Below w.heap.size w w2:=HB.out.grown HG2.out HB0.out fun k hk=>(HO.out.lt k hk).1
 exact ⟨_,rfl,(Br (L:=l++aK s.size) HX.out hB2.size (by simpa using HO2.out)),hB2⟩
theorem aN {fn:Func} {p u u2:Tmp} {ty:TypeId} (h:fn.results = #[.cell p ty,.tmp u,.tmp u2]) (tmps:Array Value) (P:Program) (w:World) :
  (results fn tmps).run P w =
   ((asAddr (tmps.getD p undef)).run P w).andThen fun a w₁=>((loadVar ty a).run P w₁).andThen fun v w₂=>.ok (.tuple #[v,tmps.getD u undef,tmps.getD u2 undef]) w₂:=by
 simp only [results,h]
 simp [Sem.run_bind,Result.andThen]
def fN (x:Pr×Nat×Int):Value:=.tuple #[x.1.val,.int .i64 (x.2.1:Int),.int .i64 x.2.2]
theorem oH {l:List UInt8} {v n:Nat} {e:Int} (h:aD l=(v,n,e)) (he:e≠0):bO l=(eF,0,e):=by
 unfold bO
 simp [h,he]
theorem oI {l:List UInt8} {v n v' n':Nat} {e':Int} (h:aD l=(v,n,0)) (h':aD (l.drop n)=(v',n',e')) (he:e'≠0):bO l=(eF,0,e'):=by
 unfold bO
 simp [h,h',he]
theorem oJ {l:List UInt8} {v n v' n' v'' n'':Nat} {e'':Int} (h:aD l=(v,n,0)) (h':aD (l.drop n)=(v',n',0)) (h'':aD (l.drop (n+n'))=(v'',n'',e'')) (he:e''≠0):bO l=(eF,0,e''):=by
 unfold bO
 simp [h,h',h'',he]
theorem io {l:List UInt8} {v n v' n' v'' n'':Nat} (h:aD l=(v,n,0)) (h':aD (l.drop n)=(v',n',0)) (h'':aD (l.drop (n+n'))=(v'',n'',0)):bO l=qJ v v' v'' (n+n'+n''):=by
 unfold bO
 simp [h,h',h'']
def jL (v:Nat):Nat:=min v 1073741824
theorem Bt (a b c:Nat):fI ⟨(jL a:Int),(jL b:Int),(jL c:Int)⟩=fI ⟨(a:Int),(b:Int),(c:Int)⟩:=by
 rw [Bool.eq_iff_iff,fX,fX]
 simp only [jL]
 omega
theorem Ag {a b c:Nat} (h:fI ⟨(a:Int),(b:Int),(c:Int)⟩=true):jL a=a∧jL b=b∧jL c=c:=by
 have:=fX.1 h
 simp only [jL] at *
 omega
theorem wD (v:Nat):(if (1073741824:Int)<(v:Int) then 1073741824 else (v:Int))=(jL v:Int)∧min (v:Int) 1073741824=(jL v:Int):=by unfold jL;exact ⟨by split <;> omega,by omega⟩
theorem tc (v:Nat):IntKind.i64.wrap (jL v:Int)=(jL v:Int):=IntWalk.i64_in _ (by unfold jL;omega)
theorem yA (A:Option Addr) (B cap k:Nat) (l:List UInt8) (w:World) (hk:k≤l.length) (hc:l.length≤cap) (hm:l.length≤281474976710656) (hr:RowsAt aQ w (Lo B) A l) :
  Calls prog 91 #[.slice (o0 A cap k 1) (l.length-k) (cap-k)] w (mj w (oE (l.drop k))):=by
 have:=ta (o0 A cap k 1) B (cap-k) (l.drop k) w (by rw [List.length_drop];omega) (hr.cut hk hc)
 rwa [List.length_drop] at this
theorem FG (A:Option Addr) (cap:Nat) (l:List UInt8) (w:World) (hc:l.length≤cap) (hcm:cap≤maxLen) (hm:l.length≤281474976710656) (hr:RowsAt aQ w (Lo w.heap.size) A l) :
  Calls prog 90 #[.slice A l.length cap] w (BB w (fN (bO l))):=by
 have HR:=Lib.hid hr
 have HC:=Lib.hid hc
 have HM:=Lib.hid hm
 obtain ⟨u0,n0,e0,hu0⟩:∃a b c,aD l=(a,b,c):=⟨_,_,_,rfl⟩
 have b0:=bi l
 rw [hu0] at b0
 dsimp only at b0
 have HU0:=Lib.hid hu0
 have HB0:=Lib.hid b0
 have HE0:=Lib.hid (fun he=>oH hu0 he)
 have HX0:Hid (∀W,Below w.heap.size w W→Calls prog 91 #[.slice A l.length cap] W (mj W (.tuple #[.int .u64 (u0:Int),.int .i64 (n0:Int),.int .i64 e0]))):=Lib.hid (fun W hb=>by
  have:=ta A w.heap.size cap l W hm (hr.below hb (Nat.le_refl _) (Nat.le_refl _))
  rw [gy hu0] at this
  exact this)
 obtain ⟨res,hres⟩:∃res,fN (bO l)=res:=⟨_,rfl⟩
 rw [hres]
 have HRES:=Lib.hid hres
 clear hr hc hm hu0 b0 hres
 unfold maxLen at hcm
 go_enter func90,ntmps90
 go_wp2_with fail
 refine wp_loop_rounds 4 ?_
 rw [rounds_succ]
 go_wp2_with fail
 refine (HX0.out _ (by (exact ct))).mono ?_
 rintro e w1 ⟨rfl,hw⟩
 rw [hw]
 clear hw
 have hE0:=HB0.out.2.2
 by_cases he0:e0=0
 ·obtain rfl:=he0.symm
  obtain ⟨hp0,hl0,ht0⟩:=HB0.out.2.1 rfl
  have c0:=wD u0
  have d0:=tc u0
  obtain ⟨m0,hm0⟩:∃m,jL u0=m:=⟨_,rfl⟩
  rw [hm0] at c0 d0
  obtain ⟨u1,n1,e1,hu1⟩:∃a b c,aD (l.drop n0)=(a,b,c):=⟨_,_,_,rfl⟩
  have b1:=bi (l.drop n0)
  rw [hu1,List.length_drop] at b1
  dsimp only at b1
  have HU1:=Lib.hid hu1
  have HB1:=Lib.hid b1
  have HE1:=Lib.hid (fun he=>oI HU0.out hu1 he)
  have HM0:=Lib.hid hm0
  have HX1:Hid (∀W,Below w.heap.size w W→Calls prog 91 #[.slice (o0 A cap n0 1) (l.length-n0) (cap-n0)] W (mj W (.tuple #[.int .u64 (u1:Int),.int .i64 (n1:Int),.int .i64 e1]))):=Lib.hid (fun W hb=>by
   have:=yA A w.heap.size cap n0 l W hl0 HC.out HM.out (HR.out.below hb (Nat.le_refl _) (Nat.le_refl _))
   rw [gy hu1] at this
   exact this)
  have hcut1:=(Gf underlying56 (z:=.int .u8 0) (sz:=1) (by_:=1) (by kernel_rfl) A l.length cap n0 hl0 HC.out).2
  clear hu1 b1 hm0 hE0 HX0
  go_wp2_with fail
  rw [rounds_succ]
  go_wp2_with fail
  refine (HX1.out _ (by (exact ct))).mono ?_
  rintro e w1 ⟨rfl,hw⟩
  rw [hw]
  clear hw hcut1 c0 d0
  have hE1:=HB1.out.2.2
  by_cases he1:e1=0
  ·obtain rfl:=he1.symm
   obtain ⟨hp1,hl1,ht1⟩:=HB1.out.2.1 rfl
   have c1:=wD u1
   have d1:=tc u1
   obtain ⟨m1,hm1⟩:∃m,jL u1=m:=⟨_,rfl⟩
   rw [hm1] at c1 d1
   have hl01:n0+n1≤l.length:=by omega
   obtain ⟨u2,n2,e2,hu2⟩:∃a b c,aD (l.drop (n0+n1))=(a,b,c):=⟨_,_,_,rfl⟩
   have b2:=bi (l.drop (n0+n1))
   rw [hu2,List.length_drop] at b2
   dsimp only at b2
   have HU2:=Lib.hid hu2
   have HB2:=Lib.hid b2
   have HE2:=Lib.hid (fun he=>oJ HU0.out HU1.out hu2 he)
   have HM1:=Lib.hid hm1
   have HX2:Hid (∀W,Below w.heap.size w W→Calls prog 91 #[.slice (o0 A cap (n0+n1) 1) (l.length-(n0+n1)) (cap-(n0+n1))] W (mj W (.tuple #[.int .u64 (u2:Int),.int .i64 (n2:Int),.int .i64 e2]))):=Lib.hid (fun W hb=>by
    have:=yA A w.heap.size cap (n0+n1) l W hl01 HC.out HM.out (HR.out.below hb (Nat.le_refl _) (Nat.le_refl _))
    rw [gy hu2] at this
    exact this)
   have hcut2:=(Gf underlying56 (z:=.int .u8 0) (sz:=1) (by_:=1) (by kernel_rfl) A l.length cap (n0+n1) hl01 HC.out).2
   rw [Int.natCast_add] at hcut2
   clear hu2 b2 hm1 hE1 HX1
   go_wp2_with fail
   rw [rounds_succ]
   go_wp2_with fail
   refine (HX2.out _ (by (exact ct))).mono ?_
   rintro e w1 ⟨rfl,hw⟩
   rw [hw]
   clear hw hcut2 c1 d1
   have hE2:=HB2.out.2.2
   by_cases he2:e2=0
   ·obtain rfl:=he2.symm
    obtain ⟨hp2,hl2,ht2⟩:=HB2.out.2.1 rfl
    have c2:=wD u2
    have d2:=tc u2
    obtain ⟨m2,hm2⟩:∃m,jL u2=m:=⟨_,rfl⟩
    rw [hm2] at c2 d2
    have HM2:=Lib.hid hm2
    clear hm2 hE2 HX2
    go_wp2_with fail
    rw [rounds_succ]
    go_wp2_with fail
    refine (oU ⟨m0,m1,m2⟩ _).mono ?_
    rintro e w4 ⟨rfl,hb4⟩
    obtain ⟨hc_w4,hf_w4⟩:=wK hb4
    have hs_w4:=hb4.size
    (try simp at hs_w4)
    have hz_w4_0:w.heap.size<w4.heap.size:=(by omega)
    have hz_w4_1:w.heap.size+1<w4.heap.size:=(by omega)
    have hz_w4_2:w.heap.size+1+1<w4.heap.size:=(by omega)
    clear hs_w4
    have hr0:=io HU0.out HU1.out HU2.out
    unfold qJ at hr0
    rw [←Bt,HM0.out,HM1.out,HM2.out] at hr0
    have HB4:Hid (Below w.heap.size w w4):=Lib.hid (Below.tr (Below.al (Below.al (Below.al (Below.refl _ _) _) _) _) hb4)
    have PB0:Blk w4 w.heap.size 23 #[.int .i64 0,.int .i64 0,.int .i64 0]:=(((Blk.new w 23 _).alloc _).alloc _).below hb4 (by simp;omega)
    have z0:=PB0.cellx 0 (v:=.int .i64 0) rfl
    have z1:=PB0.cellx 1 (v:=.int .i64 0) rfl
    have z2:=PB0.cellx 2 (v:=.int .i64 0) rfl
    have fz0:=PB0.frozen 0
    have fz1:=PB0.frozen 1
    have fz2:=PB0.frozen 2
    clear hb4 PB0
    cases hvp:fI ⟨(m0:Int),(m1:Int),(m2:Int)⟩ with
    | false =>
     rw [hvp,if_neg (by simp)] at hr0
     rw [hr0] at HRES
     clear hvp hr0
     go_wp2_with fail
     (try simp only [Exit.inBlock,Exit.then])
     have hv:=HRES.out
     have HB:=HB4.out
     refine bodyPost_ret_by (v:=res) ?_ rfl ⟨rfl,by (exact ct)⟩
     rw [aN rfl,←hv]
     unfold fN eF Pr.val
     go_simp
    | true =>
     rw [hvp,if_pos rfl] at hr0
     have hid:jL u0=u0∧jL u1=u1∧jL u2=u2:=Ag (by rw [←Bt,HM0.out,HM1.out,HM2.out];exact hvp)
     rw [HM0.out,HM1.out,HM2.out] at hid
     rw [←hid.1,←hid.2.1,←hid.2.2] at hr0
     rw [hr0] at HRES
     have HN:Hid (((n0+n1+n2:Nat):Int)=(n0:Int)+(n1:Int)+(n2:Int)):=Lib.hid (by omega)
     clear hvp hr0 hid
     go_wp2_with fail
     (try simp only [Exit.inBlock,Exit.then])
     have hv:=HRES.out
     have HB:=HB4.out
     refine bodyPost_ret_by (v:=res) ?_ rfl ⟨rfl,by (exact ct)⟩
     rw [aN rfl,←hv]
     unfold fN Pr.val
     rw [HN.out]
     go_simp
   ·have hb2:((e2:Int) == 0)=false:=beq_eq_false_iff_ne.2 he2
    clear hE2
    have hr0:=HE2.out he2
    rw [hr0] at HRES
    go_wp2_with fail
    (try simp only [Exit.inBlock,Exit.then])
    have hv:=HRES.out
    refine bodyPost_ret_by (v:=res) ?_ rfl ⟨rfl,by (exact ct)⟩
    rw [aN rfl,←hv]
    unfold fN eF Pr.val
    go_simp
  ·have hb1:((e1:Int) == 0)=false:=beq_eq_false_iff_ne.2 he1
   clear hE1
   have hr0:=HE1.out he1
   rw [hr0] at HRES
   go_wp2_with fail
   (try simp only [Exit.inBlock,Exit.then])
   have hv:=HRES.out
   refine bodyPost_ret_by (v:=res) ?_ rfl ⟨rfl,by (exact ct)⟩
   rw [aN rfl,←hv]
   unfold fN eF Pr.val
   go_simp
 ·have hb0:((e0:Int) == 0)=false:=beq_eq_false_iff_ne.2 he0
  clear hE0
  have hr0:=HE0.out he0
  rw [hr0] at HRES
  go_wp2_with fail
  (try simp only [Exit.inBlock,Exit.then])
  have hv:=HRES.out
  refine bodyPost_ret_by (v:=res) ?_ rfl ⟨rfl,by (exact ct)⟩
  rw [aN rfl,←hv]
  unfold fN eF Pr.val
  go_simp
theorem pP (A:Option Addr) (B cap:Nat) (l:List UInt8) (w:World) (hm:l.length≤281474976710656) (hr:RowsAt aQ w (Lo B) A l):Calls prog 94 #[.slice A l.length cap] w (mj w (oE l)):=by
 have HR:=Lib.hid hr
 have HV:=Lib.hid (fun v n e h=>gy (l:=l) (v:=v) (n:=n) (e:=e) h)
 obtain ⟨res,hres⟩:∃res,oE l=res:=⟨_,rfl⟩
 rw [hres] at HV ⊢
 clear hr hres
 go_enter func94,ntmps94
 go_wp2
 go_loop [5,6] (fun v i=>∃(k acc:Nat),k≤10∧k≤l.length∧i = .int .i64 (k:Int)∧v = .int .u64 (acc:Int)∧acc<2 ^ (7*k)∧Hid (aD l=bo (10-k) k acc (l.drop k))) (fun _ i=>10-(intOf i).toNat)
 case atStart=>exact ⟨0,0,by omega,Nat.zero_le _,rfl,rfl,by decide,Lib.hid rfl⟩
 case round =>
  obtain ⟨k,acc,hk,hkl,rfl,rfl,hacc,HU⟩:=hrel
  have HACC:=Lib.hid hacc
  clear hacc
  by_cases h10:k<10
  ·by_cases hlt:k<l.length
   ·obtain ⟨b,off,rfl,_,hc⟩:=tQ HR.out hlt
    have hcb:=l[k].toNat_lt
    have F1:=Lib.hid (fun h=>s7 (acc:=acc) h10 hlt h)
    have F2:=Lib.hid (fun h h'=>s8 (acc:=acc) h10 hlt h h')
    have F3:=Lib.hid (fun h h'=>s9 (acc:=acc) h10 hlt h h')
    generalize l[k].toNat=x at *
    have hlti:(k:Int)<(l.length:Int):=by omega
    have m1:=s6 hcb
    have m9:IntKind.u64.wrap (7*(k:Int))=7*(k:Int):=IntWalk.u64_in _ (by omega)
    have hk90:k=9∨k≠9:=by omega
    by_cases hF:(k=9∧1<x)∨(x=0∧0<k)
    ·have HVV:=Lib.hid (HV.out 0 0 6 (HU.out.trans (F1.out hF)))
     clear m1 m9
     rcases hF with ⟨h9,h1⟩|⟨h0,h1⟩
     ·have hk9:((k:Int) == 9)=true:=beq_iff_eq.2 (by omega)
      have h1i:(1:Int)<(x:Int):=by omega
      clear h9 h1 hk90
      go_wp2
      all_goals (refine bodyPost_ret (v:=res) (by simp [results,results94,go_sem,HVV.out]) rfl ⟨rfl,rfl⟩)
     ·have hz3:((x:Int) == 0)=true:=beq_iff_eq.2 (by omega)
      have h1i:(0:Int)<(k:Int):=by omega
      have h2i:¬(1:Int)<(x:Int):=by omega
      clear h0 h1
      rcases hk90 with h9|h9
      ·have hk9:((k:Int) == 9)=true:=beq_iff_eq.2 (by omega)
       clear h9
       go_wp2
       all_goals (refine bodyPost_ret (v:=res) (by simp [results,results94,go_sem,HVV.out]) rfl ⟨rfl,rfl⟩)
      ·have hk9:((k:Int) == 9)=false:=beq_eq_false_iff_ne.2 (by omega)
       clear h9
       go_wp2
       all_goals (refine bodyPost_ret (v:=res) (by simp [results,results94,go_sem,HVV.out]) rfl ⟨rfl,rfl⟩)
    ·have hx1:k=9→x % 128≤1:=fun h=>by omega
     have eE:(((x % 128*2 ^ (7*k):Nat)):Int)=(x:Int) % 128*2 ^ (7*k):=by push_cast;rfl
     have m3:=yw (x:=x % 128) (k:=k) (by omega) (by omega) hx1
     have m4:=FE (x:=x % 128) (k:=k) HACC.out (by omega) (by omega) hx1
     rw [show min (7*(k:Int)).toNat 64=7*k by omega,eE,show ((x % 128:Nat):Int)=(x:Int) % 128 by omega] at m3
     rw [Int.natCast_add,eE] at m4
     have EE:Hid (((acc+x % 128*2 ^ (7*k):Nat):Int)=(acc:Int)+(x:Int) % 128*2 ^ (7*k)):=Lib.hid (by rw [Int.natCast_add,eE])
     clear eE
     by_cases hB:128≤x
     ·have HU2:=Lib.hid (HU.out.trans (F3.out hF (by omega)))
      have HL:=Lib.hid (qZ (x:=x % 128) (k:=k) (by omega) (by omega) hx1)
      have hk9:((k:Int) == 9)=false:=beq_eq_false_iff_ne.2 (by omega)
      have hz3:((x:Int) == 0)=false:=beq_eq_false_iff_ne.2 (by omega)
      clear hF hx1 hk90
      go_wp2
      go_round
      case rel=>exact ⟨k+1,acc+x % 128*2 ^ (7*k),by omega,by omega,by go_num,by rw [EE.out],by
       have:=HACC.out
       rw [Lr]
       have h1:x % 128≤127:=by omega
       have h2:=Nat.mul_le_mul_right (2 ^ (7*k)) h1
       omega,HU2⟩
      case measure=>simp [intOf];omega
     ·have HVV:=Lib.hid (HV.out _ _ _ (HU.out.trans (F2.out hF (by omega))))
      rw [EE.out] at HVV
      have hk01:k=0∨x≠0:=by omega
      have hx9:k=9→x≤1:=by omega
      clear hx1 hF
      by_cases hx0:x=0
      ·have hk0:¬(0:Int)<(k:Int):=by omega
       have hk9:((k:Int) == 9)=false:=beq_eq_false_iff_ne.2 (by omega)
       clear hk01 hx9 hk90
       subst hx0
       have m5:bits .or .u64 (acc:Int) 0=(acc:Int):=by simpa using m4
       have m6:bits .and .u8 (0:Int) 127=0:=by simpa using m1
       have m8:IntKind.u64.wrap 0=0:=by rw [IntWalk.u64_in _ (by omega)]
       clear m1 m3 m4
       go_wp2
       all_goals (refine bodyPost_ret (v:=res) (by simp [results,results94,go_sem,HVV.out]) rfl ⟨rfl,rfl⟩)
      ·have hz3:((x:Int) == 0)=false:=beq_eq_false_iff_ne.2 (by omega)
       clear hk01
       rcases hk90 with h9|h9
       ·have hk9:((k:Int) == 9)=true:=beq_iff_eq.2 (by omega)
        have hx2:(x:Int)≤1:=by have:=hx9 h9;omega
        clear h9 hx9 hx0
        go_wp2
        all_goals (refine bodyPost_ret (v:=res) (by simp [results,results94,go_sem,HVV.out]) rfl ⟨rfl,rfl⟩)
       ·have hk9:((k:Int) == 9)=false:=beq_eq_false_iff_ne.2 (by omega)
        clear h9 hx9 hx0
        go_wp2
        all_goals (refine bodyPost_ret (v:=res) (by simp [results,results94,go_sem,HVV.out]) rfl ⟨rfl,rfl⟩)
   ·have HVV:=Lib.hid (HV.out 0 0 5 (HU.out.trans (qG h10 (by omega))))
    go_wp2
    (refine bodyPost_ret (v:=res) (by simp [results,results91,go_sem,HVV.out]) rfl ⟨rfl,rfl⟩)
  ·obtain rfl:k=10:=by omega
   have HVV:=Lib.hid (HV.out 0 0 6 (HU.out.trans rfl))
   go_wp2
   (refine bodyPost_ret (v:=res) (by simp [results,results91,go_sem,HVV.out]) rfl ⟨rfl,rfl⟩)
theorem uR (A:Option Addr) (B cap k:Nat) (l:List UInt8) (w:World) (hk:k≤l.length) (hc:l.length≤cap) (hm:l.length≤281474976710656) (hr:RowsAt aQ w (Lo B) A l) :
  Calls prog 94 #[.slice (o0 A cap k 1) (l.length-k) (cap-k)] w (mj w (oE (l.drop k))):=by
 have:=pP (o0 A cap k 1) B (cap-k) (l.drop k) w (by rw [List.length_drop];omega) (hr.cut hk hc)
 rwa [List.length_drop] at this
theorem CX (A:Option Addr) (cap:Nat) (l:List UInt8) (w:World) (hc:l.length≤cap) (hcm:cap≤maxLen) (hm:l.length≤281474976710656) (hr:RowsAt aQ w (Lo w.heap.size) A l) :
  Calls prog 93 #[.slice A l.length cap] w (BB w (fN (bO l))):=by
 have HR:=Lib.hid hr
 have HC:=Lib.hid hc
 have HM:=Lib.hid hm
 obtain ⟨u0,n0,e0,hu0⟩:∃a b c,aD l=(a,b,c):=⟨_,_,_,rfl⟩
 have b0:=bi l
 rw [hu0] at b0
 dsimp only at b0
 have HU0:=Lib.hid hu0
 have HB0:=Lib.hid b0
 have HE0:=Lib.hid (fun he=>oH hu0 he)
 have HX0:Hid (∀W,Below w.heap.size w W→Calls prog 94 #[.slice A l.length cap] W (mj W (.tuple #[.int .u64 (u0:Int),.int .i64 (n0:Int),.int .i64 e0]))):=Lib.hid (fun W hb=>by
  have:=pP A w.heap.size cap l W hm (hr.below hb (Nat.le_refl _) (Nat.le_refl _))
  rw [gy hu0] at this
  exact this)
 obtain ⟨res,hres⟩:∃res,fN (bO l)=res:=⟨_,rfl⟩
 rw [hres]
 have HRES:=Lib.hid hres
 clear hr hc hm hu0 b0 hres
 unfold maxLen at hcm
 go_enter func93,ntmps93
 go_wp2_with fail
 refine wp_loop_rounds 4 ?_
 rw [rounds_succ]
 go_wp2_with fail
 refine (HX0.out _ (by (exact ct))).mono ?_
 rintro e w1 ⟨rfl,hw⟩
 rw [hw]
 clear hw
 have hE0:=HB0.out.2.2
 by_cases he0:e0=0
 ·obtain rfl:=he0.symm
  obtain ⟨hp0,hl0,ht0⟩:=HB0.out.2.1 rfl
  obtain ⟨u1,n1,e1,hu1⟩:∃a b c,aD (l.drop n0)=(a,b,c):=⟨_,_,_,rfl⟩
  have b1:=bi (l.drop n0)
  rw [hu1,List.length_drop] at b1
  dsimp only at b1
  have HU1:=Lib.hid hu1
  have HB1:=Lib.hid b1
  have HE1:=Lib.hid (fun he=>oI HU0.out hu1 he)
  have HX1:Hid (∀W,Below w.heap.size w W→Calls prog 94 #[.slice (o0 A cap n0 1) (l.length-n0) (cap-n0)] W (mj W (.tuple #[.int .u64 (u1:Int),.int .i64 (n1:Int),.int .i64 e1]))):=Lib.hid (fun W hb=>by
   have:=uR A w.heap.size cap n0 l W hl0 HC.out HM.out (HR.out.below hb (Nat.le_refl _) (Nat.le_refl _))
   rw [gy hu1] at this
   exact this)
  have hcut1:=(Gf underlying56 (z:=.int .u8 0) (sz:=1) (by_:=1) (by kernel_rfl) A l.length cap n0 hl0 HC.out).2
  clear hu1 b1 hE0 HX0
  go_wp2_with fail
  rw [rounds_succ]
  go_wp2_with fail
  refine (HX1.out _ (by (exact ct))).mono ?_
  rintro e w1 ⟨rfl,hw⟩
  rw [hw]
  clear hw hcut1
  have hE1:=HB1.out.2.2
  by_cases he1:e1=0
  ·obtain rfl:=he1.symm
   obtain ⟨hp1,hl1,ht1⟩:=HB1.out.2.1 rfl
   have hl01:n0+n1≤l.length:=by omega
   obtain ⟨u2,n2,e2,hu2⟩:∃a b c,aD (l.drop (n0+n1))=(a,b,c):=⟨_,_,_,rfl⟩
   have b2:=bi (l.drop (n0+n1))
   rw [hu2,List.length_drop] at b2
   dsimp only at b2
   have HU2:=Lib.hid hu2
   have HB2:=Lib.hid b2
   have HE2:=Lib.hid (fun he=>oJ HU0.out HU1.out hu2 he)
   have HX2:Hid (∀W,Below w.heap.size w W→Calls prog 94 #[.slice (o0 A cap (n0+n1) 1) (l.length-(n0+n1)) (cap-(n0+n1))] W (mj W (.tuple #[.int .u64 (u2:Int),.int .i64 (n2:Int),.int .i64 e2]))):=Lib.hid (fun W hb=>by
    have:=uR A w.heap.size cap (n0+n1) l W hl01 HC.out HM.out (HR.out.below hb (Nat.le_refl _) (Nat.le_refl _))
    rw [gy hu2] at this
    exact this)
   have hcut2:=(Gf underlying56 (z:=.int .u8 0) (sz:=1) (by_:=1) (by kernel_rfl) A l.length cap (n0+n1) hl01 HC.out).2
   rw [Int.natCast_add] at hcut2
   clear hu2 b2 hE1 HX1
   go_wp2_with fail
   rw [rounds_succ]
   go_wp2_with fail
   refine (HX2.out _ (by (exact ct))).mono ?_
   rintro e w1 ⟨rfl,hw⟩
   rw [hw]
   clear hw hcut2
   have hE2:=HB2.out.2.2
   by_cases he2:e2=0
   ·obtain rfl:=he2.symm
    obtain ⟨hp2,hl2,ht2⟩:=HB2.out.2.1 rfl
    clear hE2 HX2
    go_wp2_with fail
    rw [rounds_succ]
    by_cases g0:(1073741824:Int)<(u0:Int)
    ·have hr0:=io HU0.out HU1.out HU2.out
     unfold qJ at hr0
     rw [if_neg (fun h=>by have h:=fX.1 h;dsimp only at h;omega)] at hr0
     rw [hr0] at HRES
     clear hr0
     go_wp2_with fail
     (try simp only [Exit.inBlock,Exit.then])
     have hv:=HRES.out
     refine bodyPost_ret_by (v:=res) ?_ rfl ⟨rfl,by (exact ct)⟩
     rw [aN rfl,←hv]
     unfold fN eF Pr.val
     go_simp
    ·by_cases g1:(1073741824:Int)<(u1:Int)
     ·have hr0:=io HU0.out HU1.out HU2.out
      unfold qJ at hr0
      rw [if_neg (fun h=>by have h:=fX.1 h;dsimp only at h;omega)] at hr0
      rw [hr0] at HRES
      clear hr0
      go_wp2_with fail
      (try simp only [Exit.inBlock,Exit.then])
      have hv:=HRES.out
      refine bodyPost_ret_by (v:=res) ?_ rfl ⟨rfl,by (exact ct)⟩
      rw [aN rfl,←hv]
      unfold fN eF Pr.val
      go_simp
     ·by_cases g2:(1073741824:Int)<(u2:Int)
      ·have hr0:=io HU0.out HU1.out HU2.out
       unfold qJ at hr0
       rw [if_neg (fun h=>by have h:=fX.1 h;dsimp only at h;omega)] at hr0
       rw [hr0] at HRES
       clear hr0
       go_wp2_with fail
       (try simp only [Exit.inBlock,Exit.then])
       have hv:=HRES.out
       refine bodyPost_ret_by (v:=res) ?_ rfl ⟨rfl,by (exact ct)⟩
       rw [aN rfl,←hv]
       unfold fN eF Pr.val
       go_simp
      ·have q0:IntKind.i64.wrap (u0:Int)=(u0:Int):=IntWalk.i64_in _ (by omega)
       have q1:IntKind.i64.wrap (u1:Int)=(u1:Int):=IntWalk.i64_in _ (by omega)
       have q2:IntKind.i64.wrap (u2:Int)=(u2:Int):=IntWalk.i64_in _ (by omega)
       go_wp2_with fail
       clear q0 q1 q2 g0 g1 g2
       refine (mD ⟨u0,u1,u2⟩ _).mono ?_
       rintro e w4 ⟨rfl,hb4⟩
       obtain ⟨hc_w4,hf_w4⟩:=wK hb4
       have hs_w4:=hb4.size
       (try simp at hs_w4)
       have hz_w4_0:w.heap.size<w4.heap.size:=(by omega)
       have hz_w4_1:w.heap.size+1<w4.heap.size:=(by omega)
       have hz_w4_2:w.heap.size+1+1<w4.heap.size:=(by omega)
       clear hs_w4
       have hr0:=io HU0.out HU1.out HU2.out
       unfold qJ at hr0
       have HB4:Hid (Below w.heap.size w w4):=Lib.hid (Below.tr (Below.al (Below.al (Below.al (Below.refl _ _) _) _) _) hb4)
       have PB0:Blk w4 w.heap.size 23 #[.int .i64 0,.int .i64 0,.int .i64 0]:=(((Blk.new w 23 _).alloc _).alloc _).below hb4 (by simp;omega)
       have z0:=PB0.cellx 0 (v:=.int .i64 0) rfl
       have z1:=PB0.cellx 1 (v:=.int .i64 0) rfl
       have z2:=PB0.cellx 2 (v:=.int .i64 0) rfl
       have fz0:=PB0.frozen 0
       have fz1:=PB0.frozen 1
       have fz2:=PB0.frozen 2
       clear hb4 PB0
       cases hvp:fI ⟨(u0:Int),(u1:Int),(u2:Int)⟩ with
       | false =>
        rw [hvp,if_neg (by simp)] at hr0
        rw [hr0] at HRES
        clear hvp hr0
        go_wp2_with fail
        (try simp only [Exit.inBlock,Exit.then])
        have hv:=HRES.out
        have HB:=HB4.out
        refine bodyPost_ret_by (v:=res) ?_ rfl ⟨rfl,by (exact ct)⟩
        rw [aN rfl,←hv]
        unfold fN eF Pr.val
        go_simp
       | true =>
        rw [hvp,if_pos rfl] at hr0
        rw [hr0] at HRES
        have HN:Hid (((n0+n1+n2:Nat):Int)=(n0:Int)+(n1:Int)+(n2:Int)):=Lib.hid (by omega)
        clear hvp hr0
        go_wp2_with fail
        (try simp only [Exit.inBlock,Exit.then])
        have hv:=HRES.out
        have HB:=HB4.out
        refine bodyPost_ret_by (v:=res) ?_ rfl ⟨rfl,by (exact ct)⟩
        rw [aN rfl,←hv]
        unfold fN Pr.val
        rw [HN.out]
        go_simp
   ·have hb2:((e2:Int) == 0)=false:=beq_eq_false_iff_ne.2 he2
    clear hE2
    have hr0:=HE2.out he2
    rw [hr0] at HRES
    go_wp2_with fail
    (try simp only [Exit.inBlock,Exit.then])
    have hv:=HRES.out
    refine bodyPost_ret_by (v:=res) ?_ rfl ⟨rfl,by (exact ct)⟩
    rw [aN rfl,←hv]
    unfold fN eF Pr.val
    go_simp
  ·have hb1:((e1:Int) == 0)=false:=beq_eq_false_iff_ne.2 he1
   clear hE1
   have hr0:=HE1.out he1
   rw [hr0] at HRES
   go_wp2_with fail
   (try simp only [Exit.inBlock,Exit.then])
   have hv:=HRES.out
   refine bodyPost_ret_by (v:=res) ?_ rfl ⟨rfl,by (exact ct)⟩
   rw [aN rfl,←hv]
   unfold fN eF Pr.val
   go_simp
 ·have hb0:((e0:Int) == 0)=false:=beq_eq_false_iff_ne.2 he0
  clear hE0
  have hr0:=HE0.out he0
  rw [hr0] at HRES
  go_wp2_with fail
  (try simp only [Exit.inBlock,Exit.then])
  have hv:=HRES.out
  refine bodyPost_ret_by (v:=res) ?_ rfl ⟨rfl,by (exact ct)⟩
  rw [aN rfl,←hv]
  unfold fN eF Pr.val
  go_simp
end Go.Proofs.YtdaajdflefnjfaaGreat
