/- Part K04 of a proof of statements of chapter 15 (no condition). -/
import Derived.Test.YtkkbopkbjacfmaaGreatDoorK01
set_option linter.unusedVariables false
set_option linter.unusedSimpArgs false
set_option maxRecDepth 100000
set_option maxHeartbeats 64000000
namespace Go.Proofs.YtkkbopkbjacfmaaGreatDoor
open Go.RowKit Go.Proofs.Tryz
abbrev Bs:=List UInt8
def Mi (s:Bs):Bool:=s == [97,108,108] || s == [97,110,121] || s == [111,102] || s == [112,114,105,111] || s == [108,105,109,105,116]
theorem wH (s:ByteArray) (w:World):Calls prog 256 #[.string s] w fun e w'=>e = .returned (.bool (Mi s.toList))/\w'=w:=by
 go_enter func256,ntmps256
 go_wp2
 all_goals go_ret
 all_goals exact ⟨by simp_all [Mi],rfl⟩
theorem yl (s:ByteArray) (w:World):Calls prog 229 #[.string s] w fun e w'=>e = .returned (.bool (Mi s.toList))/\w'=w:=by
 go_enter func229,ntmps229
 go_wp2
 all_goals go_ret
 all_goals exact ⟨by simp_all [Mi],rfl⟩
def fH (c:UInt8):Bool:=decide ((97:Int)<=c.toNat) && decide ((c.toNat:Int)<=122)
def jq (c:UInt8):Bool:=fH c || decide ((48:Int)<=c.toNat) && decide ((c.toNat:Int)<=57) || decide ((c.toNat:Int)=95) || decide ((c.toNat:Int)=45)
theorem t7 (c:UInt8) (w:World):Calls prog 255 #[.int .u8 c.toNat] w fun e w'=>e = .returned (.bool (fH c))/\w'=w:=by
 unfold fH;generalize (c.toNat:Int)=n
 go_enter func255,ntmps255
 go_wp2
 all_goals go_ret
 all_goals exact ⟨by simp_all <;> omega,rfl⟩
theorem GO (c:UInt8) (w:World):Calls prog 257 #[.int .u8 c.toNat] w fun e w'=>e = .returned (.bool (jq c))/\w'=w:=by
 have HL:=Lib.hid (t7 c w);obtain ⟨b,hb⟩:=qGe (fH c);have HB:=Lib.hid hb;have hp:jq c=(b || decide ((48:Int)<=c.toNat) && decide ((c.toNat:Int)<=57) || decide ((c.toNat:Int)=95) || decide ((c.toNat:Int)=45)):=by
  unfold jq;rw [hb]
 rw [hb] at HL;rw [hp];clear hp hb HB;generalize (c.toNat:Int)=n at *
 go_enter func257,ntmps257
 go_wp2_with fail
 refine HL.out.mono ?_;rintro e w' ⟨rfl,rfl⟩;cases b <;> go_wp2
 all_goals go_ret
 all_goals refine ⟨congrArg (fun b=>Ending.returned (.bool b)) (?_:(_:Bool)=_),rfl⟩
 all_goals first|rfl|(rw [Bool.eq_iff_iff];done)|(rw [Bool.eq_iff_iff];simp;done)|(rw [Bool.eq_iff_iff];simp;omega)
def bU (s:Bs):Bool:=decide (1<=s.length) && decide (s.length<=12) && !Mi s && (s.take 1).all fH && s.all jq
theorem lK (s:ByteArray):s.toList.length=s.size:=by rw [ByteArray.toList_eq];simp
theorem DG (s:ByteArray) (k:Nat) (h:k<s.size) (h':k<s.toList.length):s.toList[k]=s[k]:=by
 simp only [ByteArray.toList_eq];rfl
theorem wI {p:UInt8->Bool} {l:Bs} {k:Nat} (h:k<l.length):(l.take (k+1)).all p=((l.take k).all p && p l[k]):=by
 rw [List.take_succ_eq_append_getElem h,List.all_append];simp
theorem zD {s:Bs} (h1:1<=s.length) (h12:s.length<=12):bU s=(!Mi s && fH s[0] && s.all jq):=by
 unfold bU;rw [qDt h1,qDt h12];cases s with
 | nil=>simp at h1
 | cons a r=>simp
theorem lL (s:ByteArray) (w:World):Calls prog 165 #[.string s] w fun e w'=>e = .returned (.bool (bU s.toList))/\w'=w:=by
 have hsz:=lK s;by_cases h1:s.size<1
 ·have hn:Hid (bU s.toList=false):=Lib.hid (by unfold bU;rw [show decide (1<=s.toList.length)=false from qDf (by omega)];rfl)
  go_enter func165,ntmps165
  go_wp2_with fail
  go_ret
  exact ⟨aX hn.out.symm,rfl⟩
 ·by_cases h2:12<s.size
  ·have hn:Hid (bU s.toList=false):=Lib.hid (by unfold bU;rw [show decide (s.toList.length<=12)=false from qDf (by omega),Bool.and_false];rfl)
   go_enter func165,ntmps165
   go_wp2_with fail
   go_ret
   exact ⟨aX hn.out.symm,rfl⟩
  ·have HN:=Lib.hid (zD (s:=s.toList) (by omega) (by omega));have HG:=Lib.hid (DG s);have h0:0<s.size:=by omega
   have hlen:s.toList.length=s.size:=hsz;generalize bU s.toList=r at *
   go_enter func165,ntmps165
   go_wp2_with fail
   refine (t7 _ w).mono ?_;rintro e w' ⟨rfl,hw'⟩;obtain rfl:=hw'.symm;obtain ⟨b0,hb0⟩:∃b,fH s[0]=b:=⟨_,rfl⟩;have HB:=Lib.hid hb0;rw [hb0];clear hb0;cases b0 with
   | false =>
    go_wp2
    go_ret
    exact ⟨aX (by rw [HN.out,HG.out 0 h0 (by omega),HB.out];simp),rfl⟩
   | true =>
    go_wp2_with fail
    refine (wH s w).mono ?_;rintro e w' ⟨rfl,hw'⟩;obtain rfl:=hw'.symm;obtain ⟨b1,hb1⟩:∃b,Mi s.toList=b:=⟨_,rfl⟩;have HB1:=Lib.hid hb1;rw [hb1];clear hb1;cases b1 with
    | true =>
     go_wp2
     go_ret
     exact ⟨aX (by rw [HN.out,HB1.out];simp),rfl⟩
    | false =>
     have HM:Hid (r=s.toList.all jq):=Lib.hid (by rw [HN.out,HB1.out,HG.out 0 h0 (by omega),HB.out];simp);go_wp2_with fail
     go_loopg [3] s.size (fun m v wq=>∃k:Nat,v = .int .i64 (k:Int)/\k<=s.size/\s.size<=k+m/\Hid ((s.toList.take k).all jq=true)/\wq=w)
     case atStart=>exact ⟨0,rfl,Nat.zero_le _,by omega,Lib.hid (by simp),rfl⟩
     case round =>
      obtain ⟨k,rfl,hk,hkm,hall,rfl⟩:=hrel;by_cases hlt:k<s.size
      ·go_wp2_with fail
       refine (GO _ _).mono ?_;rintro e w' ⟨rfl,hw'⟩;obtain rfl:=hw'.symm;obtain ⟨b2,hb2⟩:∃b,jq s[k]=b:=⟨_,rfl⟩;have HB2:=Lib.hid hb2;rw [hb2];clear hb2;cases b2 with
       | false =>
        go_wp2
        go_ret
        refine ⟨aX ?_,rfl⟩;rw [HM.out]
        symm
        rw [Bool.eq_false_iff];intro h;have h3:=(List.all_eq_true.1 h) _ (List.getElem_mem (show k<s.toList.length by omega));rw [HG.out k hlt (by omega),HB2.out] at h3;cases h3
       | true =>
        have hnx:Hid ((s.toList.take (k+1)).all jq=true):=Lib.hid (by rw [wI (by omega),hall.out,HG.out k hlt (by omega),HB2.out];rfl);go_wp2
        go_roundg (gk-1)
        case measure=>omega
        case rel=>exact ⟨k+1,by go_num,by omega,by omega,hnx,rfl⟩
      ·have hfin:Hid (r=true):=Lib.hid (by rw [HM.out,<-hall.out,List.take_of_length_le (by omega)]);go_wp2
       go_ret
       exact ⟨aX hfin.out.symm,rfl⟩
def lM (k:Nat) (n:Int):Prop:=(97<=n/\n<=122)\/(k≠0/\((48<=n/\n<=57)\/n=95\/n=45))
theorem xd {c:UInt8}:jq c=true↔lM 1 c.toNat:=by
 unfold jq fH lM;simp only [Bool.or_eq_true,qBa,decide_eq_true_eq];omega
theorem zE {c:UInt8}:fH c=true↔lM 0 c.toNat:=by
 unfold fH lM;simp only [qBa,decide_eq_true_eq];omega
theorem yo {s:Bs} (h:0<s.length):(fH s[0] && s.all jq)=true↔∀k (hk:k<s.length),lM k s[k].toNat:=by
 rw [qBa,zE,List.all_eq_true];constructor
 ·rintro ⟨h1,h2⟩ k hk;have:=xd.1 (h2 _ (List.getElem_mem hk));rcases Nat.eq_zero_or_pos k with rfl|h0
  ·exact h1
  ·unfold lM at this ⊢;omega
 ·intro h1;refine ⟨h1 0 h,fun c hc=>?_⟩;obtain ⟨k,hk,rfl⟩:=List.mem_iff_getElem.1 hc;rw [xd];have:=h1 k hk;unfold lM at this ⊢;omega
theorem nz (s:ByteArray) (w:World):Calls prog 144 #[.string s] w fun e w'=>e = .returned (.bool (bU s.toList))/\w'=w:=by
  have hsz:=lK s;by_cases h1:s.size<1
  · have hn:Hid (bU s.toList=false):=Lib.hid (by unfold bU;rw [show decide (1<=s.toList.length)=false from qDf (by omega)];rfl)
    go_enter func144,ntmps144
    go_wp2_with fail
    go_ret
    exact ⟨aX hn.out.symm,rfl⟩
  · by_cases h2:12<s.size
    · have hn:Hid (bU s.toList=false):=Lib.hid (by unfold bU;rw [show decide (s.toList.length<=12)=false from qDf (by omega),Bool.and_false];rfl)
      go_enter func144,ntmps144
      go_wp2_with fail
      go_ret
      exact ⟨aX hn.out.symm,rfl⟩
    · have HN:=Lib.hid (zD (s:=s.toList) (by omega) (by omega))
      have HG:=Lib.hid (DG s);have h0:0<s.size:=by omega
      have hlen:s.toList.length=s.size:=hsz;have HAP:=Lib.hid (yo (s:=s.toList) (by omega));generalize bU s.toList=r at *
      go_enter func144,ntmps144
      go_wp2_with fail
      refine (yl s w).mono ?_;rintro e w' ⟨rfl,hw'⟩;obtain rfl:=hw'.symm;obtain ⟨b1,hb1⟩:∃b,Mi s.toList=b:=⟨_,rfl⟩;have HB1:=Lib.hid hb1;rw [hb1];clear hb1;cases b1 with
      | true =>
        go_wp2
        go_ret
        exact ⟨aX (by rw [HN.out,HB1.out];simp),rfl⟩
      | false =>
        have HM:Hid (r=(fH s.toList[0] && s.toList.all jq)):=Lib.hid (by rw [HN.out,HB1.out];simp);have HBad:Hid (∀k (h:k<s.size),¬lM k s[k].toNat->false=r):=Lib.hid fun k h hno=>by
          symm
          rw [Bool.eq_false_iff,HM.out];intro hc;have:=HAP.out.1 hc k (by omega);rw [HG.out k h (by omega)] at this;exact hno this
        have HGood:Hid ((∀k (h:k<s.size),lM k s[k].toNat)->true=r):=Lib.hid fun h=>by
          rw [HM.out]
          symm
          refine HAP.out.2 fun k hk=>?_;rw [HG.out k (by omega) hk];exact h k (by omega)
        clear HN HM HB1 HG HAP hlen hsz;go_wp2_with fail
        go_loopg [21] s.size (fun m v wq=>∃k:Nat,v = .int .i64 (k:Int)/\k<=s.size/\s.size<=k+m/\Hid (∀j (h:j<s.size),j<k->lM j s[j].toNat)/\wq=w)
        case atStart=>exact ⟨0,rfl,Nat.zero_le _,by omega,Lib.hid (fun j _ h=>absurd h (by omega)),rfl⟩
        case round =>
          obtain ⟨k,rfl,hk,hkm,hall,rfl⟩:=hrel;by_cases hlt:k<s.size
          · have hbad:=Lib.hid (HBad.out k hlt)
            have hnext:Hid (lM k s[k].toNat->∀j (h:j<s.size),j<k+1->lM j s[j].toNat):=Lib.hid fun hk1 j hj h=>by
              by_cases e:j=k
              · subst e;exact hk1
              · exact hall.out j hj (by omega)
            have hN:lM k s[k].toNat\/¬lM k s[k].toNat:=Classical.em _;have hcl:(97<=(s[k].toNat:Int)/\(s[k].toNat:Int)<=122)\/(s[k].toNat:Int)<97\/122<(s[k].toNat:Int):=by omega
            have hco:(48<=(s[k].toNat:Int)/\(s[k].toNat:Int)<=57)\/(s[k].toNat:Int)=95\/(s[k].toNat:Int)=45\/((s[k].toNat:Int)<48/\¬(s[k].toNat:Int)=45)\/(57<(s[k].toNat:Int)/\¬(s[k].toNat:Int)=95):=by omega
            rcases hN with hN|hN
            · have hn:=Lib.hid (hnext.out hN)
              unfold lM at hN;clear hbad hnext HBad HGood;rcases hcl with ⟨ha,hb⟩|hcl
              · clear hco hN
                go_wp2_with fail
                all_goals
                  go_roundg (gk-1)
                  case measure=>omega
                  case rel=>exact ⟨k+1,by go_num,by omega,by omega,hn,rfl⟩
              · have hk0:0<k:=by omega
                have hco2:(48<=(s[k].toNat:Int)/\(s[k].toNat:Int)<=57)\/(s[k].toNat:Int)=95\/(s[k].toNat:Int)=45:=by omega
                clear hN hco;rcases hcl with ha|ha;all_goals rcases hco2 with ⟨hb,hc⟩|hb|hb
                all_goals first
                  | (exfalso;omega)
                  | (go_wp2_with fail
                     go_roundg (gk-1)
                     case measure=>omega
                     case rel=>exact ⟨k+1,by go_num,by omega,by omega,hn,rfl⟩)
            · have hb0:=Lib.hid (hbad.out hN)
              clear hbad hnext HBad HGood;have hcl2:(s[k].toNat:Int)<97\/122<(s[k].toNat:Int):=by unfold lM at hN;omega
              have hk1:k=0\/(0<k/\(((s[k].toNat:Int)<48/\¬(s[k].toNat:Int)=45)\/(57<(s[k].toNat:Int)/\¬(s[k].toNat:Int)=95))):=by unfold lM at hN;omega
              clear hN hcl hco;rcases hk1 with rfl|⟨hk0,hco⟩
              · rcases hcl2 with ha|ha
                all_goals
                  go_wp2_with fail
                  all_goals first
                    | (go_ret
                       exact ⟨aX hb0.out,rfl⟩)
                    | (exfalso
                       have d1:decide ((s[0].toNat:Int)<=122)=false:=qDf (by omega)
                       simp_all)
              · rcases hcl2 with ha|ha
                all_goals rcases hco with ⟨hb,hc⟩|⟨hb,hc⟩
                all_goals first
                  | (exfalso;omega)
                  | (have e1:((s[k].toNat:Int) == 95)=false:=beq_eq_false_iff_ne.2 (by omega)
                     have e2:((s[k].toNat:Int) == 45)=false:=beq_eq_false_iff_ne.2 (by omega);try have e3:decide ((s[k].toNat:Int)<=57)=false:=qDf (by omega)
                     try have e4:decide ((s[k].toNat:Int)<=122)=false:=qDf (by omega)
                     go_wp2_with fail
                     all_goals
                       go_ret
                       exact ⟨aX hb0.out,rfl⟩)
          · go_wp2
            go_ret
            exact ⟨aX (HGood.out fun j hj=>hall.out j hj (by omega)),rfl⟩
structure Rs where
 name:ByteArray
 kind:Int
 units:Int
 home:Int
deriving Inhabited
def Rs.key (r:Rs):Bs:=r.name.toList
def Rs.cells (r:Rs):List Value:=[.string r.name,.int .i64 r.kind,.int .i64 r.units,.int .i64 r.home]
def Rs.val (r:Rs):Value:=.agg #[.string r.name,.int .i64 r.kind,.int .i64 r.units,.int .i64 r.home]
def f9:El Rs:=El.plain 4 (by decide) Rs.cells (fun _=>rfl) (by intro x u hu;simp [Rs.cells] at hu;rcases hu with rfl|rfl|rfl|rfl <;> rfl)
theorem toList_inj {a b:ByteArray} (h:a.toList=b.toList):a=b:=by
 rw [ByteArray.toList_eq,ByteArray.toList_eq] at h;have h2:a.data=b.data:=Array.toList_inj.1 h;cases a
 cases b
 simpa using h2
def aW (r:Rs):Bool:=(decide (r.kind=1) && decide (r.units=1)) || (decide (r.kind=2) && decide (1<=r.units) && decide (r.units<=8))
def ly (r:Rs):Bool:=bU r.key && aW r && decide (0<=r.home) && decide (r.home<4)
theorem zF (r:Rs) (w:World):Calls prog 176 #[r.val] w (xc w (.bool (aW r))):=by
 obtain ⟨nm,k,u,h⟩:=r;unfold Rs.val aW
 go_enter func176,ntmps176
 go_wp2
 all_goals go_ret
 all_goals refine ⟨aX ?_,(Below.refl _ _).alloc (Nat.le_refl _) _⟩
 all_goals (first|rfl|(simp_all;done)|(simp_all;omega)|(rw [Bool.eq_iff_iff];simp_all;done)|(rw [Bool.eq_iff_iff];simp_all;omega))
theorem jW (r:Rs) (w:World):Calls prog 211 #[r.val] w (xc w (.bool (aW r))):=by
 obtain ⟨nm,k,u,h⟩:=r;unfold Rs.val aW
 go_enter func211,ntmps211
 go_wp2
 all_goals go_ret
 all_goals refine ⟨aX ?_,(Below.refl _ _).alloc (Nat.le_refl _) _⟩
 all_goals (first|rfl|(simp_all;done)|(simp_all;omega)|(rw [Bool.eq_iff_iff];simp_all;done)|(rw [Bool.eq_iff_iff];simp_all;omega))
theorem yp (r:Rs) (w:World):Calls prog 329 #[r.val] w (xc w (.bool (ly r))):=by
 have HS:=Lib.hid (fun w=>jW r w);have HN:=Lib.hid (fun w=>nz r.name w);unfold ly Rs.key;obtain ⟨b1,hb1⟩:∃b,bU r.name.toList=b:=⟨_,rfl⟩;obtain ⟨b2,hb2⟩:∃b,aW r=b:=⟨_,rfl⟩;rw [hb1] at HN ⊢;rw [hb2] at HS ⊢;clear hb1 hb2;obtain ⟨nm,k,u,h⟩:=r;unfold Rs.val at HS ⊢
 go_enter func329,ntmps329
 go_wp2_with fail
 refine (HN.out _).mono ?_;rintro e w' ⟨rfl,hw'⟩;obtain rfl:=hw'.symm;cases b1 with
 | false =>
  go_wp2
  go_ret
  exact ⟨aX (by simp),(Below.refl _ _).alloc (Nat.le_refl _) _⟩
 | true =>
  go_wp2_with fail
  refine (HS.out _).mono ?_;rintro e w' ⟨rfl,hb⟩;have hbb:=((Below.refl w.heap.size w).alloc (Nat.le_refl _) _).trans (hb.mono (by simp));obtain ⟨hc,hz⟩:(∀b o,b<w.heap.size+1->w'.cell? ⟨b,o,none⟩=(w.alloc (.cells #[.string nm,.int .i64 k,.int .i64 u,.int .i64 h] 74)).cell? ⟨b,o,none⟩)/\w.heap.size+1<=w'.heap.size :=
   ⟨fun b o hlt=>hb.cell (p:=⟨b,o,none⟩) (by simpa using hlt),by simpa using hb.size⟩
  clear hb;go_wp2
  all_goals go_ret
  all_goals refine ⟨aX ?_,hbb⟩
  all_goals (clear hbb hc hz HS HN)
  all_goals (first|rfl|(simp_all;done)|(simp_all;omega)|(rw [Bool.eq_iff_iff];simp_all;done)|(rw [Bool.eq_iff_iff];simp_all;omega))
theorem wJ (r:Rs) (w:World):Calls prog 315 #[r.val] w (xc w (.bool (ly r))):=by
 have HS:=Lib.hid (fun w=>zF r w);have HN:=Lib.hid (fun w=>lL r.name w);unfold ly Rs.key;obtain ⟨b1,hb1⟩:∃b,bU r.name.toList=b:=⟨_,rfl⟩;obtain ⟨b2,hb2⟩:∃b,aW r=b:=⟨_,rfl⟩;rw [hb1] at HN ⊢;rw [hb2] at HS ⊢;clear hb1 hb2;obtain ⟨nm,k,u,h⟩:=r;unfold Rs.val at HS ⊢
 go_enter func315,ntmps315
 go_wp2_with fail
 refine (HN.out _).mono ?_;rintro e w' ⟨rfl,hw'⟩;obtain rfl:=hw'.symm;cases b1 with
 | false =>
  go_wp2
  go_ret
  exact ⟨aX (by simp),(Below.refl _ _).alloc (Nat.le_refl _) _⟩
 | true =>
  go_wp2_with fail
  refine (HS.out _).mono ?_;rintro e w' ⟨rfl,hb⟩;have hbb:=((Below.refl w.heap.size w).alloc (Nat.le_refl _) _).trans (hb.mono (by simp));obtain ⟨hc,hz⟩:(∀b o,b<w.heap.size+1->w'.cell? ⟨b,o,none⟩=(w.alloc (.cells #[.string nm,.int .i64 k,.int .i64 u,.int .i64 h] 74)).cell? ⟨b,o,none⟩)/\w.heap.size+1<=w'.heap.size :=
   ⟨fun b o hlt=>hb.cell (p:=⟨b,o,none⟩) (by simpa using hlt),by simpa using hb.size⟩
  clear hb;go_wp2
  all_goals go_ret
  all_goals refine ⟨aX ?_,hbb⟩
  all_goals (clear hbb hc hz HS HN)
  all_goals (first|rfl|(simp_all;done)|(simp_all;omega)|(rw [Bool.eq_iff_iff];simp_all;done)|(rw [Bool.eq_iff_iff];simp_all;omega))
def aJ (a:Am):Bool:=decide (a=⟨0,0⟩)
def aH (r:Rs) (a:Am):Bool:=aW r && (if r.kind=1 then bP a.mode && decide (a.units=0) else decide (a.mode=0) && decide (1<=a.units) && decide (a.units<=r.units))
def bI (r:Rs) (a:Am):Bool:=aW r && (aJ a || aH r a)
def bc (r:Rs) (a b:Am):Bool:=bI r a && bI r b && (aJ b || !aJ a && (if r.kind=1 then dK a.mode b.mode else decide (b.units<=a.units)))
theorem GT (m u:Int) (w:World):Calls prog 250 #[.agg #[.int .i64 m,.int .i64 u]] w (xc w (.bool (aJ ⟨m,u⟩))):=by
 obtain ⟨_,k1,k2⟩:=OD m u 0 0
 go_enter func250,ntmps250
 go_wp2_with fail
 repeat' (first|(go_ret;refine ⟨aX ?_,by exact fp⟩;simp [aJ]))
theorem GU (r:Rs) (m n:Int) (w:World):Calls prog 307 #[r.val,.agg #[.int .i64 m,.int .i64 n]] w (xc w (.bool (aH r ⟨m,n⟩))):=by
 obtain ⟨nm,kd,u,h⟩:=r;have HS:=Lib.hid (fun W=>jW ⟨nm,kd,u,h⟩ W);have HM:=Lib.hid (fun W=>fA m W);unfold Rs.val
 go_enter func307,ntmps307
 go_wp2_with fail
 repeat' (first|(go_at_call 211;refine (HS.out _).mono ?_;rintro e wa1 ⟨rfl,hb_wa1⟩;obtain ⟨hc_wa1,hf_wa1⟩:=lN hb_wa1;have hs_wa1:=hb_wa1.size;(try simp at hs_wa1);have hz_wa1_w_0:w.heap.size<wa1.heap.size:=(by omega);have hz_wa1_w_1:w.heap.size+1<wa1.heap.size:=(by omega);clear hs_wa1;have HB_wa1:=Lib.hid hb_wa1;clear hb_wa1;go_wp2_with fail)|(go_at_call 230;refine (HM.out _).mono ?_;rintro e wa2 ⟨rfl,hwa2⟩;obtain rfl:=hwa2.symm;clear hwa2;go_wp2_with fail)|(go_ret;refine ⟨aX ?_,by exact fp⟩;(first|(simp_all [aH];done)|(simp_all [aH];omega)|(rw [Bool.eq_iff_iff];simp_all [aH];done)|(rw [Bool.eq_iff_iff];simp_all [aH];omega))))
theorem wL (r:Rs) (m n:Int) (w:World):Calls prog 212 #[r.val,.agg #[.int .i64 m,.int .i64 n]] w (xc w (.bool (bI r ⟨m,n⟩))):=by
 obtain ⟨nm,kd,u,h⟩:=r;have HS:=Lib.hid (fun W=>jW ⟨nm,kd,u,h⟩ W);have HZ:=Lib.hid (fun W=>GT m n W);have HM:=Lib.hid (fun W=>GU ⟨nm,kd,u,h⟩ m n W);unfold Rs.val
 go_enter func212,ntmps212
 go_wp2_with fail
 repeat' (first|(go_at_call 211;refine (HS.out _).mono ?_;rintro e wa1 ⟨rfl,hb_wa1⟩;obtain ⟨hc_wa1,hf_wa1⟩:=lN hb_wa1;have hs_wa1:=hb_wa1.size;(try simp at hs_wa1);have hz_wa1_w_0:w.heap.size<wa1.heap.size:=(by omega);have hz_wa1_w_1:w.heap.size+1<wa1.heap.size:=(by omega);clear hs_wa1;have HB_wa1:=Lib.hid hb_wa1;clear hb_wa1;go_wp2_with fail)|(go_at_call 250;refine (HZ.out _).mono ?_;rintro e wa2 ⟨rfl,hb_wa2⟩;obtain ⟨hc_wa2,hf_wa2⟩:=lN hb_wa2;have hs_wa2:=hb_wa2.size;(try simp at hs_wa2);have hz_wa2_w_0:w.heap.size<wa2.heap.size:=(by omega);have hz_wa2_w_1:w.heap.size+1<wa2.heap.size:=(by omega);clear hs_wa2;have HB_wa2:=Lib.hid hb_wa2;clear hb_wa2;go_wp2_with fail)|(go_at_call 307;refine (HM.out _).mono ?_;rintro e wa3 ⟨rfl,hb_wa3⟩;obtain ⟨hc_wa3,hf_wa3⟩:=lN hb_wa3;have hs_wa3:=hb_wa3.size;(try simp at hs_wa3);have hz_wa3_w_0:w.heap.size<wa3.heap.size:=(by omega);have hz_wa3_w_1:w.heap.size+1<wa3.heap.size:=(by omega);clear hs_wa3;have HB_wa3:=Lib.hid hb_wa3;clear hb_wa3;go_wp2_with fail)|(go_ret;refine ⟨aX ?_,by exact fp⟩;(first|(simp_all [bI];done)|(simp_all [bI];omega)|(rw [Bool.eq_iff_iff];simp_all [bI];done)|(rw [Bool.eq_iff_iff];simp_all [bI];omega))))
end Go.Proofs.YtkkbopkbjacfmaaGreatDoor
