/- Part K02 of a proof of statements of chapter 15 (no condition). -/
import Derived.Test.YthpgjkjgkhjjlaaGreatDoorK01
import Derived.Sort.Walk0
set_option linter.unusedVariables false
set_option linter.unusedSimpArgs false
set_option maxRecDepth 100000
set_option maxHeartbeats 64000000
namespace Go.Proofs.YthpgjkjgkhjjlaaGreatDoor
open Go.RowKit Go.Proofs.Tryz
def dh (s:Bs):Bool:=decide (1<=s.length) && decide (s.length<=12) && !Py s && (s.take 1).all gl && s.all kf
theorem uM (s:ByteArray):s.toList.length=s.size:=by rw [ByteArray.toList_eq];simp
theorem He (s:ByteArray) (k:Nat) (h:k<s.size) (h':k<s.toList.length):s.toList[k]=s[k]:=by
 simp only [ByteArray.toList_eq];rfl
theorem z6 {p:UInt8->Bool} {l:Bs} {k:Nat} (h:k<l.length):(l.take (k+1)).all p=((l.take k).all p && p l[k]):=by
 rw [List.take_succ_eq_append_getElem h,List.all_append];simp
theorem Dc {s:Bs} (h1:1<=s.length) (h12:s.length<=12):dh s=(!Py s && gl s[0] && s.all kf):=by
 unfold dh;rw [qDt h1,qDt h12];cases s with
 | nil=>simp at h1
 | cons a r=>simp
theorem mD (s:ByteArray) (w:World):Calls prog 175 #[.string s] w fun e w'=>e = .returned (.bool (dh s.toList))/\w'=w:=by
 have hsz:=uM s;by_cases h1:s.size<1
 ·have hn:Hid (dh s.toList=false):=Lib.hid (by unfold dh;rw [show decide (1<=s.toList.length)=false from qDf (by omega)];rfl)
  go_enter func175,ntmps175
  go_wp2_with fail
  go_ret
  exact ⟨bp hn.out.symm,rfl⟩
 ·by_cases h2:12<s.size
  ·have hn:Hid (dh s.toList=false):=Lib.hid (by unfold dh;rw [show decide (s.toList.length<=12)=false from qDf (by omega),Bool.and_false];rfl)
   go_enter func175,ntmps175
   go_wp2_with fail
   go_ret
   exact ⟨bp hn.out.symm,rfl⟩
  ·have HN:=Lib.hid (Dc (s:=s.toList) (by omega) (by omega));have HG:=Lib.hid (He s);have h0:0<s.size:=by omega
   have hlen:s.toList.length=s.size:=hsz;generalize dh s.toList=r at *
   go_enter func175,ntmps175
   go_wp2_with fail
   refine (xE _ w).mono ?_;rintro e w' ⟨rfl,hw'⟩;obtain rfl:=hw'.symm;obtain ⟨b0,hb0⟩:∃b,gl s[0]=b:=⟨_,rfl⟩;have HB:=Lib.hid hb0;rw [hb0];clear hb0;cases b0 with
   | false =>
    go_wp2
    go_ret
    exact ⟨bp (by rw [HN.out,HG.out 0 h0 (by omega),HB.out];simp),rfl⟩
   | true =>
    go_wp2_with fail
    refine (zZ s w).mono ?_;rintro e w' ⟨rfl,hw'⟩;obtain rfl:=hw'.symm;obtain ⟨b1,hb1⟩:∃b,Py s.toList=b:=⟨_,rfl⟩;have HB1:=Lib.hid hb1;rw [hb1];clear hb1;cases b1 with
    | true =>
     go_wp2
     go_ret
     exact ⟨bp (by rw [HN.out,HB1.out];simp),rfl⟩
    | false =>
     have HM:Hid (r=s.toList.all kf):=Lib.hid (by rw [HN.out,HB1.out,HG.out 0 h0 (by omega),HB.out];simp);go_wp2_with fail
     go_loopg [3] s.size (fun m v wq=>∃k:Nat,v = .int .i64 (k:Int)/\k<=s.size/\s.size<=k+m/\Hid ((s.toList.take k).all kf=true)/\wq=w)
     case atStart=>exact ⟨0,rfl,Nat.zero_le _,by omega,Lib.hid (by simp),rfl⟩
     case round =>
      obtain ⟨k,rfl,hk,hkm,hall,rfl⟩:=hrel;by_cases hlt:k<s.size
      ·go_wp2_with fail
       refine (KF _ _).mono ?_;rintro e w' ⟨rfl,hw'⟩;obtain rfl:=hw'.symm;obtain ⟨b2,hb2⟩:∃b,kf s[k]=b:=⟨_,rfl⟩;have HB2:=Lib.hid hb2;rw [hb2];clear hb2;cases b2 with
       | false =>
        go_wp2
        go_ret
        refine ⟨bp ?_,rfl⟩;rw [HM.out]
        symm
        rw [Bool.eq_false_iff];intro h;have h3:=(List.all_eq_true.1 h) _ (List.getElem_mem (show k<s.toList.length by omega));rw [HG.out k hlt (by omega),HB2.out] at h3;cases h3
       | true =>
        have hnx:Hid ((s.toList.take (k+1)).all kf=true):=Lib.hid (by rw [z6 (by omega),hall.out,HG.out k hlt (by omega),HB2.out];rfl);go_wp2
        go_roundg (gk-1)
        case measure=>omega
        case rel=>exact ⟨k+1,by go_num,by omega,by omega,hnx,rfl⟩
      ·have hfin:Hid (r=true):=Lib.hid (by rw [HM.out,<-hall.out,List.take_of_length_le (by omega)]);go_wp2
       go_ret
       exact ⟨bp hfin.out.symm,rfl⟩
def mE (k:Nat) (n:Int):Prop:=(97<=n/\n<=122)\/(k≠0/\((48<=n/\n<=57)\/n=95\/n=45))
theorem Aq {c:UInt8}:kf c=true↔mE 1 c.toNat:=by
 unfold kf gl mE;simp only [Bool.or_eq_true,qBa,decide_eq_true_eq];omega
theorem Dd {c:UInt8}:gl c=true↔mE 0 c.toNat:=by
 unfold gl mE;simp only [qBa,decide_eq_true_eq];omega
theorem BJ {s:Bs} (h:0<s.length):(gl s[0] && s.all kf)=true↔∀k (hk:k<s.length),mE k s[k].toNat:=by
 rw [qBa,Dd,List.all_eq_true];constructor
 ·rintro ⟨h1,h2⟩ k hk;have:=Aq.1 (h2 _ (List.getElem_mem hk));rcases Nat.eq_zero_or_pos k with rfl|h0
  ·exact h1
  ·unfold mE at this ⊢;omega
 ·intro h1;refine ⟨h1 0 h,fun c hc=>?_⟩;obtain ⟨k,hk,rfl⟩:=List.mem_iff_getElem.1 hc;rw [Aq];have:=h1 k hk;unfold mE at this ⊢;omega
theorem oy (s:ByteArray) (w:World):Calls prog 185 #[.string s] w fun e w'=>e = .returned (.bool (dh s.toList))/\w'=w:=by
  have hsz:=uM s;by_cases h1:s.size<1
  · have hn:Hid (dh s.toList=false):=Lib.hid (by unfold dh;rw [show decide (1<=s.toList.length)=false from qDf (by omega)];rfl)
    go_enter func185,ntmps185
    go_wp2_with fail
    go_ret
    exact ⟨bp hn.out.symm,rfl⟩
  · by_cases h2:12<s.size
    · have hn:Hid (dh s.toList=false):=Lib.hid (by unfold dh;rw [show decide (s.toList.length<=12)=false from qDf (by omega),Bool.and_false];rfl)
      go_enter func185,ntmps185
      go_wp2_with fail
      go_ret
      exact ⟨bp hn.out.symm,rfl⟩
    · have HN:=Lib.hid (Dc (s:=s.toList) (by omega) (by omega))
      have HG:=Lib.hid (He s);have h0:0<s.size:=by omega
      have hlen:s.toList.length=s.size:=hsz;have HAP:=Lib.hid (BJ (s:=s.toList) (by omega));generalize dh s.toList=r at *
      go_enter func185,ntmps185
      go_wp2_with fail
      refine (BH s w).mono ?_;rintro e w' ⟨rfl,hw'⟩;obtain rfl:=hw'.symm;obtain ⟨b1,hb1⟩:∃b,Py s.toList=b:=⟨_,rfl⟩;have HB1:=Lib.hid hb1;rw [hb1];clear hb1;cases b1 with
      | true =>
        go_wp2
        go_ret
        exact ⟨bp (by rw [HN.out,HB1.out];simp),rfl⟩
      | false =>
        have HM:Hid (r=(gl s.toList[0] && s.toList.all kf)):=Lib.hid (by rw [HN.out,HB1.out];simp);have HBad:Hid (∀k (h:k<s.size),¬mE k s[k].toNat->false=r):=Lib.hid fun k h hno=>by
          symm
          rw [Bool.eq_false_iff,HM.out];intro hc;have:=HAP.out.1 hc k (by omega);rw [HG.out k h (by omega)] at this;exact hno this
        have HGood:Hid ((∀k (h:k<s.size),mE k s[k].toNat)->true=r):=Lib.hid fun h=>by
          rw [HM.out]
          symm
          refine HAP.out.2 fun k hk=>?_;rw [HG.out k (by omega) hk];exact h k (by omega)
        clear HN HM HB1 HG HAP hlen hsz;go_wp2_with fail
        go_loopg [21] s.size (fun m v wq=>∃k:Nat,v = .int .i64 (k:Int)/\k<=s.size/\s.size<=k+m/\Hid (∀j (h:j<s.size),j<k->mE j s[j].toNat)/\wq=w)
        case atStart=>exact ⟨0,rfl,Nat.zero_le _,by omega,Lib.hid (fun j _ h=>absurd h (by omega)),rfl⟩
        case round =>
          obtain ⟨k,rfl,hk,hkm,hall,rfl⟩:=hrel;by_cases hlt:k<s.size
          · have hbad:=Lib.hid (HBad.out k hlt)
            have hnext:Hid (mE k s[k].toNat->∀j (h:j<s.size),j<k+1->mE j s[j].toNat):=Lib.hid fun hk1 j hj h=>by
              by_cases e:j=k
              · subst e;exact hk1
              · exact hall.out j hj (by omega)
            have hN:mE k s[k].toNat\/¬mE k s[k].toNat:=Classical.em _;have hcl:(97<=(s[k].toNat:Int)/\(s[k].toNat:Int)<=122)\/(s[k].toNat:Int)<97\/122<(s[k].toNat:Int):=by omega
            have hco:(48<=(s[k].toNat:Int)/\(s[k].toNat:Int)<=57)\/(s[k].toNat:Int)=95\/(s[k].toNat:Int)=45\/((s[k].toNat:Int)<48/\¬(s[k].toNat:Int)=45)\/(57<(s[k].toNat:Int)/\¬(s[k].toNat:Int)=95):=by omega
            rcases hN with hN|hN
            · have hn:=Lib.hid (hnext.out hN)
              unfold mE at hN;clear hbad hnext HBad HGood;rcases hcl with ⟨ha,hb⟩|hcl
              · clear hco hN
                go_wp2_with fail
                all_goals
                  go_roundg (gk-1)
                  case measure=>omega
                  case rel=>exact ⟨k+1,by go_num,by omega,by omega,hn,rfl⟩
              · have hk0:0<k:=by omega
                have hco2:(48<=(s[k].toNat:Int)/\(s[k].toNat:Int)<=57)\/(s[k].toNat:Int)=95\/(s[k].toNat:Int)=45:=by omega
                clear hN hco;rcases hcl with ha|ha;all_goals rcases hco2 with ⟨hb,hc⟩|hb|hb
                all_goals first
                  | (exfalso;omega)
                  | (go_wp2_with fail
                     go_roundg (gk-1)
                     case measure=>omega
                     case rel=>exact ⟨k+1,by go_num,by omega,by omega,hn,rfl⟩)
            · have hb0:=Lib.hid (hbad.out hN)
              clear hbad hnext HBad HGood;have hcl2:(s[k].toNat:Int)<97\/122<(s[k].toNat:Int):=by unfold mE at hN;omega
              have hk1:k=0\/(0<k/\(((s[k].toNat:Int)<48/\¬(s[k].toNat:Int)=45)\/(57<(s[k].toNat:Int)/\¬(s[k].toNat:Int)=95))):=by unfold mE at hN;omega
              clear hN hcl hco;rcases hk1 with rfl|⟨hk0,hco⟩
              · rcases hcl2 with ha|ha
                all_goals
                  go_wp2_with fail
                  all_goals first
                    | (go_ret
                       exact ⟨bp hb0.out,rfl⟩)
                    | (exfalso
                       have d1:decide ((s[0].toNat:Int)<=122)=false:=qDf (by omega)
                       simp_all)
              · rcases hcl2 with ha|ha
                all_goals rcases hco with ⟨hb,hc⟩|⟨hb,hc⟩
                all_goals first
                  | (exfalso;omega)
                  | (have e1:((s[k].toNat:Int) == 95)=false:=beq_eq_false_iff_ne.2 (by omega)
                     have e2:((s[k].toNat:Int) == 45)=false:=beq_eq_false_iff_ne.2 (by omega);try have e3:decide ((s[k].toNat:Int)<=57)=false:=qDf (by omega)
                     try have e4:decide ((s[k].toNat:Int)<=122)=false:=qDf (by omega)
                     go_wp2_with fail
                     all_goals
                       go_ret
                       exact ⟨bp hb0.out,rfl⟩)
          · go_wp2
            go_ret
            exact ⟨bp (HGood.out fun j hj=>hall.out j hj (by omega)),rfl⟩
structure Rs where
 name:ByteArray
 kind:Int
 units:Int
 home:Int
deriving Inhabited
abbrev Ct:=List Rs
def Rs.key (r:Rs):Bs:=r.name.toList
def Rs.cells (r:Rs):List Value:=[.string r.name,.int .i64 r.kind,.int .i64 r.units,.int .i64 r.home]
def Rs.val (r:Rs):Value:=.agg #[.string r.name,.int .i64 r.kind,.int .i64 r.units,.int .i64 r.home]
def dQ:El Rs:=El.plain 4 (by decide) Rs.cells (fun _=>rfl) (by intro x u hu;simp [Rs.cells] at hu;rcases hu with rfl|rfl|rfl|rfl <;> rfl)
theorem toList_inj {a b:ByteArray} (h:a.toList=b.toList):a=b:=by
 rw [ByteArray.toList_eq,ByteArray.toList_eq] at h;have h2:a.data=b.data:=Array.toList_inj.1 h;cases a
 cases b
 simpa using h2
def br (r:Rs):Bool:=(decide (r.kind=1) && decide (r.units=1)) || (decide (r.kind=2) && decide (1<=r.units) && decide (r.units<=8))
def iB (r:Rs):Bool:=dh r.key && br r && decide (0<=r.home) && decide (r.home<4)
def Sorted (l:Ct):Prop:=∀i (h:i+1<l.length),l[i].key<l[i+1].key
theorem Sorted.lt {l:Ct} (h:Sorted l):∀j i (hj:j<l.length) (hi:i<j),l[i].key<l[j].key:=by
 intro j;induction j with
 | zero=>intro i _ hi;omega
 | succ j ih =>
  intro i hj hi;have h1:=h j hj;by_cases e:i=j
  ·subst e;exact h1
  ·exact List.lt_trans (ih i (by omega) (by omega)) h1
theorem De (r:Rs) (w:World):Calls prog 102 #[r.val] w (uL w (.bool (br r))):=by
 obtain ⟨nm,k,u,h⟩:=r;unfold Rs.val br
 go_enter func102,ntmps102
 go_wp2
 all_goals go_ret
 all_goals refine ⟨bp ?_,(Below.refl _ _).alloc (Nat.le_refl _) _⟩
 all_goals (first|rfl|(simp_all;done)|(simp_all;omega)|(rw [Bool.eq_iff_iff];simp_all;done)|(rw [Bool.eq_iff_iff];simp_all;omega))
theorem lx (r:Rs) (w:World):Calls prog 191 #[r.val] w (uL w (.bool (br r))):=by
 obtain ⟨nm,k,u,h⟩:=r;unfold Rs.val br
 go_enter func191,ntmps191
 go_wp2
 all_goals go_ret
 all_goals refine ⟨bp ?_,(Below.refl _ _).alloc (Nat.le_refl _) _⟩
 all_goals (first|rfl|(simp_all;done)|(simp_all;omega)|(rw [Bool.eq_iff_iff];simp_all;done)|(rw [Bool.eq_iff_iff];simp_all;omega))
theorem BK (r:Rs) (w:World):Calls prog 128 #[r.val] w (uL w (.bool (iB r))):=by
 have HS:=Lib.hid (fun w=>lx r w);have HN:=Lib.hid (fun w=>oy r.name w);unfold iB Rs.key;obtain ⟨b1,hb1⟩:∃b,dh r.name.toList=b:=⟨_,rfl⟩;obtain ⟨b2,hb2⟩:∃b,br r=b:=⟨_,rfl⟩;rw [hb1] at HN ⊢;rw [hb2] at HS ⊢;clear hb1 hb2;obtain ⟨nm,k,u,h⟩:=r;unfold Rs.val at HS ⊢
 go_enter func128,ntmps128
 go_wp2_with fail
 refine (HN.out _).mono ?_;rintro e w' ⟨rfl,hw'⟩;obtain rfl:=hw'.symm;cases b1 with
 | false =>
  go_wp2
  go_ret
  exact ⟨bp (by simp),(Below.refl _ _).alloc (Nat.le_refl _) _⟩
 | true =>
  go_wp2_with fail
  refine (HS.out _).mono ?_;rintro e w' ⟨rfl,hb⟩;have hbb:=((Below.refl w.heap.size w).alloc (Nat.le_refl _) _).trans (hb.mono (by simp));obtain ⟨hc,hz⟩:(∀b o,b<w.heap.size+1->w'.cell? ⟨b,o,none⟩=(w.alloc (.cells #[.string nm,.int .i64 k,.int .i64 u,.int .i64 h] 63)).cell? ⟨b,o,none⟩)/\w.heap.size+1<=w'.heap.size :=
   ⟨fun b o hlt=>hb.cell (p:=⟨b,o,none⟩) (by simpa using hlt),by simpa using hb.size⟩
  clear hb;go_wp2
  all_goals go_ret
  all_goals refine ⟨bp ?_,hbb⟩
  all_goals (clear hbb hc hz HS HN)
  all_goals (first|rfl|(simp_all;done)|(simp_all;omega)|(rw [Bool.eq_iff_iff];simp_all;done)|(rw [Bool.eq_iff_iff];simp_all;omega))
theorem z7 (r:Rs) (w:World):Calls prog 129 #[r.val] w (uL w (.bool (iB r))):=by
 have HS:=Lib.hid (fun w=>De r w);have HN:=Lib.hid (fun w=>mD r.name w);unfold iB Rs.key;obtain ⟨b1,hb1⟩:∃b,dh r.name.toList=b:=⟨_,rfl⟩;obtain ⟨b2,hb2⟩:∃b,br r=b:=⟨_,rfl⟩;rw [hb1] at HN ⊢;rw [hb2] at HS ⊢;clear hb1 hb2;obtain ⟨nm,k,u,h⟩:=r;unfold Rs.val at HS ⊢
 go_enter func129,ntmps129
 go_wp2_with fail
 refine (HN.out _).mono ?_;rintro e w' ⟨rfl,hw'⟩;obtain rfl:=hw'.symm;cases b1 with
 | false =>
  go_wp2
  go_ret
  exact ⟨bp (by simp),(Below.refl _ _).alloc (Nat.le_refl _) _⟩
 | true =>
  go_wp2_with fail
  refine (HS.out _).mono ?_;rintro e w' ⟨rfl,hb⟩;have hbb:=((Below.refl w.heap.size w).alloc (Nat.le_refl _) _).trans (hb.mono (by simp));obtain ⟨hc,hz⟩:(∀b o,b<w.heap.size+1->w'.cell? ⟨b,o,none⟩=(w.alloc (.cells #[.string nm,.int .i64 k,.int .i64 u,.int .i64 h] 63)).cell? ⟨b,o,none⟩)/\w.heap.size+1<=w'.heap.size :=
   ⟨fun b o hlt=>hb.cell (p:=⟨b,o,none⟩) (by simpa using hlt),by simpa using hb.size⟩
  clear hb;go_wp2
  all_goals go_ret
  all_goals refine ⟨bp ?_,hbb⟩
  all_goals (clear hbb hc hz HS HN)
  all_goals (first|rfl|(simp_all;done)|(simp_all;omega)|(rw [Bool.eq_iff_iff];simp_all;done)|(rw [Bool.eq_iff_iff];simp_all;omega))
end Go.Proofs.YthpgjkjgkhjjlaaGreatDoor
