/- Part 2 of 56 of the proof of both_hold (no condition). -/
import Derived.Test.YtcgpepnbohejfaaGreatDoorK01
set_option linter.unusedVariables false
set_option linter.unusedSimpArgs false
set_option maxRecDepth 100000
set_option maxHeartbeats 64000000
namespace Go.Proofs.YtcgpepnbohejfaaGreatDoor
open Go.RowKit Go.Proofs.Tryz
def cE (s:Bs):Bool:=decide (1≤s.length) && decide (s.length≤12) && !Fg s && (s.take 1).all d9 && s.all gF
theorem mZ (s:ByteArray):s.toList.length=s.size:=by rw [ByteArray.toList_eq];simp
theorem yo (s:ByteArray) (k:Nat) (h:k<s.size) (h':k<s.toList.length):s.toList[k]=s[k]:=by
 simp only [ByteArray.toList_eq];rfl
theorem ri {p:UInt8→Bool} {l:Bs} {k:Nat} (h:k<l.length):(l.take (k+1)).all p=((l.take k).all p && p l[k]):=by
 rw [List.take_succ_eq_append_getElem h,List.all_append];simp
theorem uS {s:Bs} (h1:1≤s.length) (h12:s.length≤12):cE s=(!Fg s && d9 s[0] && s.all gF):=by
 unfold cE;rw [decide_eq_true h1,decide_eq_true h12];cases s with
 | nil=>simp at h1
 | cons a r=>simp
theorem ow (s:ByteArray) (w:World):Calls prog 93 #[.string s] w fun e w'=>e = .returned (.bool (cE s.toList))∧w'=w:=by
 have hsz:=mZ s;by_cases h1:s.size<1
 ·have hn:Hid (cE s.toList=false):=Lib.hid (by unfold cE;rw [show decide (1≤s.toList.length)=false from decide_eq_false (by omega)];rfl)
  go_enter func93,ntmps93
  go_wp2_with fail
  go_ret
  exact ⟨aO hn.out.symm,rfl⟩
 ·by_cases h2:12<s.size
  ·have hn:Hid (cE s.toList=false):=Lib.hid (by unfold cE;rw [show decide (s.toList.length≤12)=false from decide_eq_false (by omega),Bool.and_false];rfl)
   go_enter func93,ntmps93
   go_wp2_with fail
   go_ret
   exact ⟨aO hn.out.symm,rfl⟩
  ·have HN:=Lib.hid (uS (s:=s.toList) (by omega) (by omega));have HG:=Lib.hid (yo s);have h0:0<s.size:=by omega
   have hlen:s.toList.length=s.size:=hsz;generalize cE s.toList=r at *
   go_enter func93,ntmps93
   go_wp2_with fail
   refine (ou _ w).mono ?_;rintro e w' ⟨rfl,hw'⟩;obtain rfl:=hw'.symm;obtain ⟨b0,hb0⟩:∃b,d9 s[0]=b:=⟨_,rfl⟩;have HB:=Lib.hid hb0;rw [hb0];clear hb0;cases b0 with
   | false =>
    go_wp2
    go_ret
    exact ⟨aO (by rw [HN.out,HG.out 0 h0 (by omega),HB.out];simp),rfl⟩
   | true =>
    go_wp2_with fail
    refine (rh s w).mono ?_;rintro e w' ⟨rfl,hw'⟩;obtain rfl:=hw'.symm;obtain ⟨b1,hb1⟩:∃b,Fg s.toList=b:=⟨_,rfl⟩;have HB1:=Lib.hid hb1;rw [hb1];clear hb1;cases b1 with
    | true =>
     go_wp2
     go_ret
     exact ⟨aO (by rw [HN.out,HB1.out];simp),rfl⟩
    | false =>
     have HM:Hid (r=s.toList.all gF):=Lib.hid (by rw [HN.out,HB1.out,HG.out 0 h0 (by omega),HB.out];simp);go_wp2_with fail
     go_loopg [3] s.size (fun m v wq=>∃k:Nat,v = .int .i64 (k:Int)∧k≤s.size∧s.size≤k+m∧Hid ((s.toList.take k).all gF=true)∧wq=w)
     case atStart=>exact ⟨0,rfl,Nat.zero_le _,by omega,Lib.hid (by simp),rfl⟩
     case round =>
      obtain ⟨k,rfl,hk,hkm,hall,rfl⟩:=hrel;by_cases hlt:k<s.size
      ·go_wp2_with fail
       refine (A9 _ _).mono ?_;rintro e w' ⟨rfl,hw'⟩;obtain rfl:=hw'.symm;obtain ⟨b2,hb2⟩:∃b,gF s[k]=b:=⟨_,rfl⟩;have HB2:=Lib.hid hb2;rw [hb2];clear hb2;cases b2 with
       | false =>
        go_wp2
        go_ret
        refine ⟨aO ?_,rfl⟩;rw [HM.out]
        symm
        rw [Bool.eq_false_iff];intro h;have h3:=(List.all_eq_true.1 h) _ (List.getElem_mem (show k<s.toList.length by omega));rw [HG.out k hlt (by omega),HB2.out] at h3;cases h3
       | true =>
        have hnx:Hid ((s.toList.take (k+1)).all gF=true):=Lib.hid (by rw [ri (by omega),hall.out,HG.out k hlt (by omega),HB2.out];rfl);go_wp2
        go_roundg (gk-1)
        case measure=>omega
        case rel=>exact ⟨k+1,by go_num,by omega,by omega,hnx,rfl⟩
      ·have hfin:Hid (r=true):=Lib.hid (by rw [HM.out,←hall.out,List.take_of_length_le (by omega)]);go_wp2
       go_ret
       exact ⟨aO hfin.out.symm,rfl⟩
def iU (k:Nat) (n:Int):Prop:=(97≤n∧n≤122)∨(k≠0∧((48≤n∧n≤57)∨n=95∨n=45))
theorem sd {c:UInt8}:gF c=true↔iU 1 c.toNat:=by
 unfold gF d9 iU;simp only [Bool.or_eq_true,Bool.and_eq_true,decide_eq_true_eq];omega
theorem uT {c:UInt8}:d9 c=true↔iU 0 c.toNat:=by
 unfold d9 iU;simp only [Bool.and_eq_true,decide_eq_true_eq];omega
theorem tG {s:Bs} (h:0<s.length):(d9 s[0] && s.all gF)=true↔∀k (hk:k<s.length),iU k s[k].toNat:=by
 rw [Bool.and_eq_true,uT,List.all_eq_true];constructor
 ·rintro ⟨h1,h2⟩ k hk;have:=sd.1 (h2 _ (List.getElem_mem hk));rcases Nat.eq_zero_or_pos k with rfl|h0
  ·exact h1
  ·unfold iU at this ⊢;omega
 ·intro h1;refine ⟨h1 0 h,fun c hc=>?_⟩;obtain ⟨k,hk,rfl⟩:=List.mem_iff_getElem.1 hc;rw [sd];have:=h1 k hk;unfold iU at this ⊢;omega
theorem jX (s:ByteArray) (w:World):Calls prog 103 #[.string s] w fun e w'=>e = .returned (.bool (cE s.toList))∧w'=w:=by
  have hsz:=mZ s;by_cases h1:s.size<1
  · have hn:Hid (cE s.toList=false):=Lib.hid (by unfold cE;rw [show decide (1≤s.toList.length)=false from decide_eq_false (by omega)];rfl)
    go_enter func103,ntmps103
    go_wp2_with fail
    go_ret
    exact ⟨aO hn.out.symm,rfl⟩
  · by_cases h2:12<s.size
    · have hn:Hid (cE s.toList=false):=Lib.hid (by unfold cE;rw [show decide (s.toList.length≤12)=false from decide_eq_false (by omega),Bool.and_false];rfl)
      go_enter func103,ntmps103
      go_wp2_with fail
      go_ret
      exact ⟨aO hn.out.symm,rfl⟩
    · have HN:=Lib.hid (uS (s:=s.toList) (by omega) (by omega))
      have HG:=Lib.hid (yo s);have h0:0<s.size:=by omega
      have hlen:s.toList.length=s.size:=hsz;have HAP:=Lib.hid (tG (s:=s.toList) (by omega));generalize cE s.toList=r at *
      go_enter func103,ntmps103
      go_wp2_with fail
      refine (tE s w).mono ?_;rintro e w' ⟨rfl,hw'⟩;obtain rfl:=hw'.symm;obtain ⟨b1,hb1⟩:∃b,Fg s.toList=b:=⟨_,rfl⟩;have HB1:=Lib.hid hb1;rw [hb1];clear hb1;cases b1 with
      | true =>
        go_wp2
        go_ret
        exact ⟨aO (by rw [HN.out,HB1.out];simp),rfl⟩
      | false =>
        have HM:Hid (r=(d9 s.toList[0] && s.toList.all gF)):=Lib.hid (by rw [HN.out,HB1.out];simp);have HBad:Hid (∀k (h:k<s.size),¬iU k s[k].toNat→false=r):=Lib.hid fun k h hno=>by
          symm
          rw [Bool.eq_false_iff,HM.out];intro hc;have:=HAP.out.1 hc k (by omega);rw [HG.out k h (by omega)] at this;exact hno this
        have HGood:Hid ((∀k (h:k<s.size),iU k s[k].toNat)→true=r):=Lib.hid fun h=>by
          rw [HM.out]
          symm
          refine HAP.out.2 fun k hk=>?_;rw [HG.out k (by omega) hk];exact h k (by omega)
        clear HN HM HB1 HG HAP hlen hsz;go_wp2_with fail
        go_loopg [21] s.size (fun m v wq=>∃k:Nat,v = .int .i64 (k:Int)∧k≤s.size∧s.size≤k+m∧Hid (∀j (h:j<s.size),j<k→iU j s[j].toNat)∧wq=w)
        case atStart=>exact ⟨0,rfl,Nat.zero_le _,by omega,Lib.hid (fun j _ h=>absurd h (by omega)),rfl⟩
        case round =>
          obtain ⟨k,rfl,hk,hkm,hall,rfl⟩:=hrel;by_cases hlt:k<s.size
          · have hbad:=Lib.hid (HBad.out k hlt)
            have hnext:Hid (iU k s[k].toNat→∀j (h:j<s.size),j<k+1→iU j s[j].toNat):=Lib.hid fun hk1 j hj h=>by
              by_cases e:j=k
              · subst e;exact hk1
              · exact hall.out j hj (by omega)
            have hN:iU k s[k].toNat∨¬iU k s[k].toNat:=Classical.em _;have hcl:(97≤(s[k].toNat:Int)∧(s[k].toNat:Int)≤122)∨(s[k].toNat:Int)<97∨122<(s[k].toNat:Int):=by omega
            have hco:(48≤(s[k].toNat:Int)∧(s[k].toNat:Int)≤57)∨(s[k].toNat:Int)=95∨(s[k].toNat:Int)=45∨((s[k].toNat:Int)<48∧¬(s[k].toNat:Int)=45)∨(57<(s[k].toNat:Int)∧¬(s[k].toNat:Int)=95):=by omega
            rcases hN with hN|hN
            · have hn:=Lib.hid (hnext.out hN)
              unfold iU at hN;clear hbad hnext HBad HGood;rcases hcl with ⟨ha,hb⟩|hcl
              · clear hco hN
                go_wp2_with fail
                all_goals
                  go_roundg (gk-1)
                  case measure=>omega
                  case rel=>exact ⟨k+1,by go_num,by omega,by omega,hn,rfl⟩
              · have hk0:0<k:=by omega
                have hco2:(48≤(s[k].toNat:Int)∧(s[k].toNat:Int)≤57)∨(s[k].toNat:Int)=95∨(s[k].toNat:Int)=45:=by omega
                clear hN hco;rcases hcl with ha|ha;all_goals rcases hco2 with ⟨hb,hc⟩|hb|hb
                all_goals first
                  | (exfalso;omega)
                  | (go_wp2_with fail
                     go_roundg (gk-1)
                     case measure=>omega
                     case rel=>exact ⟨k+1,by go_num,by omega,by omega,hn,rfl⟩)
            · have hb0:=Lib.hid (hbad.out hN)
              clear hbad hnext HBad HGood;have hcl2:(s[k].toNat:Int)<97∨122<(s[k].toNat:Int):=by unfold iU at hN;omega
              have hk1:k=0∨(0<k∧(((s[k].toNat:Int)<48∧¬(s[k].toNat:Int)=45)∨(57<(s[k].toNat:Int)∧¬(s[k].toNat:Int)=95))):=by unfold iU at hN;omega
              clear hN hcl hco;rcases hk1 with rfl|⟨hk0,hco⟩
              · rcases hcl2 with ha|ha
                all_goals
                  go_wp2_with fail
                  all_goals first
                    | (go_ret
                       exact ⟨aO hb0.out,rfl⟩)
                    | (exfalso
                       have d1:decide ((s[0].toNat:Int)≤122)=false:=decide_eq_false (by omega)
                       simp_all)
              · rcases hcl2 with ha|ha
                all_goals rcases hco with ⟨hb,hc⟩|⟨hb,hc⟩
                all_goals first
                  | (exfalso;omega)
                  | (have e1:((s[k].toNat:Int) == 95)=false:=beq_eq_false_iff_ne.2 (by omega)
                     have e2:((s[k].toNat:Int) == 45)=false:=beq_eq_false_iff_ne.2 (by omega);try have e3:decide ((s[k].toNat:Int)≤57)=false:=decide_eq_false (by omega)
                     try have e4:decide ((s[k].toNat:Int)≤122)=false:=decide_eq_false (by omega)
                     go_wp2_with fail
                     all_goals
                       go_ret
                       exact ⟨aO hb0.out,rfl⟩)
          · go_wp2
            go_ret
            exact ⟨aO (HGood.out fun j hj=>hall.out j hj (by omega)),rfl⟩
end Go.Proofs.YtcgpepnbohejfaaGreatDoor
