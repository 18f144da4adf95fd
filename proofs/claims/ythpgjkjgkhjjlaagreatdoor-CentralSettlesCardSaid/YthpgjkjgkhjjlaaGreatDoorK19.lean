/- Part K19 of a proof of statements of chapter 15 (no condition). -/
import Derived.Test.YthpgjkjgkhjjlaaGreatDoorK16
import Derived.Test.YthpgjkjgkhjjlaaGreatDoorK17
set_option linter.unusedVariables false
set_option linter.unusedSimpArgs false
set_option maxRecDepth 100000
set_option maxHeartbeats 64000000
namespace Go.Proofs.YthpgjkjgkhjjlaaGreatDoor
open Go.RowKit Go.Proofs.Tryz
instance:ST prog gK 139 40 24:=⟨ElTB.mk' underlying139 (.agg #[.int .i64 0,.int .i64 0,.int .i64 0]) 3 24 (by kernel_rfl) rfl rfl⟩
abbrev lV (k:Nat) (p:Pr):Nat×Box:=(k,.box 40 [.sc (.int .i64 p.site),.sc (.int .i64 p.inc),.sc (.int .i64 p.num)])
theorem Eg (l:List Pr) (p:Pr):FSpec prog 223 [.one (.sl gK l),p.a] [] [] (.b (decide (p∈l))) []:=by
 refine a7 func223 ?_;refine aY (fun c ρ a w hr=>bV (t:=0) hr rfl) (fun hl0=>?_);refine ao ?_;refine ab (fun i=>i<=l.length/\(p∈l↔p∈l.drop i)) (fun i=>bP [3] [(0,.c (.sl gK l)),(3,.c (.ptr 3 0)),(5,.i i)] [lV 3 p]) (fun i=>l.length-i) 0 ⟨Nat.zero_le _,Iff.rfl⟩ aT ?_;rintro i ⟨hi,hs⟩;repeat' (first|refine av ?_ ?_|refine aq ?_|exact aw|refine ap fun hb=>?_)
 ·refine eU ?_;have:p∈l:=by rw [<-hb];exact List.getElem_mem _
  simp [this]
 ·refine ⟨i+1,⟨by omega,?_⟩,by omega,?_⟩
  ·rw [hs,List.drop_eq_getElem_cons (i:=i) (by omega),List.mem_cons];exact ⟨fun h=>h.resolve_left fun e=>hb e.symm,.inr⟩
  ·exact aT
 ·refine eU ?_;have:p ∉ l:=by rw [hs,qDn (by omega)];simp
  simp [this]
theorem H9 (o:Bool) (l:List Pr) (hl:l.length<=1000000):FSpec prog 149 [.one (.sl gK l)] [] (bif o then [0] else []) (.c (bif o then .own 0 else .sl gK (eu l))) (bif o then [(0,some (.arr 40 gK (eu l)))] else []):=by
 refine iF func149 rfl (fun b W=>by kernel_rfl) (by cases o <;> rfl) (qNl rfl) ?_;refine ao ?_;refine cj 3 1000 40 gK rfl rfl rfl ?_;have h0:eu (l.take 0)=[]:=List.eq_nil_of_length_eq_zero (by have:=rY (l.take 0);simpa using this);refine ab (fun i=>i<=l.length) (fun i=>bP [1000] [(0,.c (.sl gK l)),(3,.c (.own 1000)),(4,.i i)] [(1000,.arr 40 gK (eu (l.take i)))]) (fun i=>l.length-i) 0 (Nat.zero_le _) (by rw [h0];exact aT) ?_;intro i hi;by_cases hlt:i<l.length
 case neg =>
  rw [List.take_of_length_le (by omega)];refine ao ?_;cases o with
  | true=>refine cc (qf [(0,1000)]) ?_;exact af
  | false=>refine cc (qf []) ?_;exact af
 obtain ⟨x,hx⟩:=qGe (l[i]);have hgx:l[i]? = some x:=by rw [qGg hlt,hx]
 have hLl:=rY (l.take i);have HIN:=fun j hj hd ht=>Jg (x:=x) (j:=j) hlt hx hj hd ht;have HHS:=fun hm=>Jh (x:=x) hlt hx hm;obtain ⟨L,hL⟩:=qGe (eu (l.take i));obtain ⟨L',hL'⟩:∃L',eu (l.take (i+1))=L':=⟨_,rfl⟩;rw [hL] at HIN HHS hLl ⊢;simp only [hL,hL'] at HIN HHS;rw [List.length_take] at hLl;clear hL hx;by_cases hm:x∈L
 ·obtain rfl:L=L':=HHS hm;repeat' (first|refine av ?_ ?_|refine aa 9 rfl (cB [1000] (Eg L x) ?_)|refine aq ?_|exact aw|(refine ap fun hb=>?_;first|(exact absurd hm hb)|skip))
  refine ⟨i+1,by omega,by omega,?_⟩;rw [hL'];exact aT
 have e1:jG x L L.length=L++[x]:=by simp [jG]
 repeat' (first|refine av ?_ ?_|(refine aa 8 rfl ?_;refine be (ae rfl rfl (aH rfl rfl) (aN [x] rfl rfl rfl rfl) rfl aQ aQ) rfl rfl rfl ?_)|refine aa 9 rfl (cB [1000] (Eg L x) ?_)|refine aq ?_|exact aw|(refine ap fun hb=>?_;first|(exact absurd hb hm)|skip))
 refine ab (fun j=>j<=L.length/\∀y∈L.drop j,g7 x y) (fun j=>bP [1000] [(0,.c (.sl gK l)),(3,.c (.own 1000)),(4,.i i),(5,.i j)] [(1000,.arr 40 gK (jG x L j))]) (fun j=>j) L.length ⟨Nat.le_refl _,by simp⟩ (by rw [e1];exact bo (qf [(1000,27)])) ?_;rintro j ⟨hj,hall⟩;have hW:=xN x L j;rcases Nat.eq_zero_or_pos j with h0|h0
 ·subst h0;have e:=HIN 0 (Nat.zero_le _) hall (.inl rfl);rw [e];refine ao ?_;refine ⟨i+1,by omega,by omega,?_⟩;rw [hL'];exact aT
 obtain ⟨y,hy⟩:=qGe (L[j-1]'(by omega));have hg1:(jG x L j)[((j:Int)-1).toNat]? = some y:=by
  rw [show ((j:Int)-1).toNat=j-1 by omega,qGg (by omega),Dm h0 hj,hy]
 have hg2:(jG x L j)[j]? = some x:=by rw [qGg (by omega),ND hj]
 have hset:((jG x L j).set ((j:Int)-1).toNat x).set j y=jG x L (j-1):=by
  rw [show ((j:Int)-1).toNat=j-1 by omega,<-hy];exact Ji h0 hj
 have hW2:((jG x L j).set ((j:Int)-1).toNat x).length=L.length+1:=by rw [List.length_set,hW]
 by_cases hc:0<cl y x
 ·have hxy:g7 x y:=by rcases dV y x with ⟨_,e⟩|⟨_,e⟩|⟨e,_⟩ <;> first|exact e|omega
  clear HIN HHS;repeat' (first|refine av ?_ ?_|refine aa 9 rfl (cB [] (kY y x) ?_)|refine aq ?_|(refine aa 4 rfl ?_;first|(refine a8 (ak (z:=x) rfl rfl rfl rfl (by first|assumption|exact qGg (by omega)) rfl rfl rfl rfl (qNl rfl) rfl rfl) rfl rfl rfl ?_)|(refine a8 (ak (z:=y) rfl rfl rfl rfl (by first|assumption|exact qGg (by omega)) rfl rfl rfl rfl (qNl rfl) rfl rfl) rfl rfl rfl ?_))|exact aw|refine ap fun hb=>?_)
  refine ⟨j-1,⟨by omega,?_⟩,by omega,?_⟩
  ·rw [List.drop_eq_getElem_cons (i:=j-1) (by omega),hy,show j-1+1=j by omega];intro z hz;rcases List.mem_cons.1 hz with rfl|hz
   ·exact hxy
   ·exact hall z hz
  ·rw [<-hset];exact aT
 ·have hyx:g7 L[j-1] x:=by
   rw [hy];rcases dV y x with ⟨e,_⟩|⟨e,_⟩|⟨_,e⟩
   ·exact e
   ·exact absurd (by rw [<-e,<-hy];exact List.getElem_mem _) hm
   ·omega
  have e:=HIN j hj hall (.inr ⟨by omega,hyx⟩);have:=kY y x;refine ao ?_;refine ⟨i+1,by omega,by omega,?_⟩;rw [hL',<-e];exact aT
theorem LS (l:List Pr) (hl:l.length<=1000000):FSpec prog 149 [.one (.sl gK l)] [] [] (.c (.sl gK (eu l))) []:=H9 false l hl
theorem LT (l:List Ho) (hl:l.length<=100000):FSpec prog 221 [.one (.sl gM l)] [] [0] (.c (.own 0)) [(0,some (.arr 40 gK (dA l)))]:=by
 refine a7 func221 ?_;refine ao ?_;refine cj 3 1000 40 gK rfl rfl rfl ?_;refine ab (fun i=>i<=l.length) (fun i=>bP [1000] [(0,.c (.sl gM l)),(3,.c (.own 1000)),(4,.i i)] [(1000,.arr 40 gK (dA (l.take i)))]) (fun i=>l.length-i) 0 (Nat.zero_le _) aT ?_;intro i hi;have hlen:(dA (l.take i)).length=i:=by simp [dA];omega
 by_cases hlt:i<l.length
 ·have e:dA (l.take (i+1))=dA (l.take i)++[l[i].proc]:=by unfold dA;rw [List.take_succ_eq_append_getElem hlt,List.map_append];rfl
  repeat' (first|refine av ?_ ?_|(refine aa 8 rfl ?_;refine be (ae rfl rfl (aH rfl rfl) (aN [l[i].proc] rfl rfl rfl rfl) rfl aQ aQ) rfl rfl rfl ?_)|refine aq ?_|exact aw|refine ap fun hb=>?_)
  refine ⟨i+1,by omega,by omega,?_⟩;rw [e];exact bo (qf [(1000,18)])
 ·rw [List.take_of_length_le (by omega)];refine ao ?_
  (refine cc (qf [(0,1000)]) ?_;exact af)
theorem QL (q:Qu) (h2:q.convs.length<=100000) (h3:q.waits.length<=100000):FSpec prog 222 [q.a] [] [] (.c (.sl gK (oH q))) []:=by
 refine a7 func222 ?_;refine ao ?_;refine cj 3 1000 40 gK rfl rfl rfl ?_;refine ab (fun i=>i<=q.convs.length) (fun i=>bP [1,1000] [(1,.c (.ptr 1 0)),(3,.c (.own 1000)),(4,.i i)] [(1,.box 66 q.d),(1000,.arr 40 gK (cK (q.convs.take i)))]) (fun i=>q.convs.length-i) 0 (Nat.zero_le _) aT ?_;intro i hi;have hlen:(cK (q.convs.take i)).length=i:=by simp [cK];omega
 by_cases hlt:i<q.convs.length
 ·have e:cK (q.convs.take (i+1))=cK (q.convs.take i)++[q.convs[i].proc]:=by unfold cK;rw [List.take_succ_eq_append_getElem hlt,List.map_append];rfl
  repeat' (first|refine av ?_ ?_|(refine aa 8 rfl ?_;refine be (ae rfl rfl (aH rfl rfl) (aN [q.convs[i].proc] rfl rfl rfl rfl) rfl aQ aQ) rfl rfl rfl ?_)|refine aq ?_|exact aw|refine ap fun hb=>?_)
  refine ⟨i+1,by omega,by omega,?_⟩;rw [e];exact bo (qf [(1000,21)])
 ·rw [List.take_of_length_le (by omega)];refine ao ?_;refine ab (fun i=>i<=q.waits.length) (fun i=>bP [1,1000] [(1,.c (.ptr 1 0)),(3,.c (.own 1000)),(5,.i i)] [(1,.box 66 q.d),(1000,.arr 40 gK (cK (q.convs++q.waits.take i)))]) (fun i=>q.waits.length-i) 0 (Nat.zero_le _) (by rw [List.take_zero,List.append_nil];exact aT) ?_;intro i hi;have hlen:(cK (q.convs++q.waits.take i)).length=q.convs.length+i:=by simp [cK];omega
  by_cases hlt:i<q.waits.length
  ·have e:cK (q.convs++q.waits.take (i+1))=cK (q.convs++q.waits.take i)++[q.waits[i].proc]:=by unfold cK;rw [List.take_succ_eq_append_getElem hlt,<-List.append_assoc,List.map_append];rfl
   repeat' (first|refine av ?_ ?_|(refine aa 8 rfl ?_;refine be (ae rfl rfl (aH rfl rfl) (aN [q.waits[i].proc] rfl rfl rfl rfl) rfl aQ aQ) rfl rfl rfl ?_)|refine aq ?_|exact aw|refine ap fun hb=>?_)
   refine ⟨i+1,by omega,by omega,?_⟩;rw [e];exact bo (qf [(1000,37)])
  ·rw [List.take_of_length_le (by omega)];exact UG
theorem Om (q:Qu) (h8:fU q):FSpec prog 148 [q.a] [] [] (.c (.sl gK (gq q))) []:=by
 obtain ⟨h1,h2,h3⟩:=h8;have hl:(dA q.holds++oH q).length<=24:=by simp [dA,oH];omega
 have hl1:(dA q.holds).length<=8:=by simp [dA];omega
 have hl2:(oH q).length<=16:=by simp [oH];omega
 refine a7 func148 ?_;repeat' (first|refine av ?_ ?_|(refine aa 9 rfl ?_;first|(refine cH (qf [(0,1000)]) (LT q.holds (by omega)) ?_)|(refine cC [] (QL q (by omega) (by omega)) ?_)|(refine cC [8] (LS (dA q.holds++oH q) (by omega)) ?_))|refine aq ?_|exact aw|refine ap fun hb=>?_|exact bg|fail)
theorem sw (l:List Qu) (n:ByteArray):FSpec prog 22 [.one (.sl eh l),.one (.sc (.string n))] [] [] (.i (bG n 0 l)) []:=by
 obtain ⟨v,hv⟩:=qGe (bG n 0 l);rw [hv];refine a7 func22 ?_;refine aY (fun c ρ a w hr=>bV (t:=0) hr rfl) (fun hl0=>?_);refine ao ?_;refine ab (fun i=>i<=l.length/\bG n i (l.drop i)=v) (fun i=>bP [] [(0,.c (.sl eh l)),(1,.c (.sc (.string n))),(5,.i i)] []) (fun i=>l.length-i) 0 ⟨Nat.zero_le _,hv⟩ aT ?_;rintro i ⟨hi,hs⟩;by_cases hlt:i<l.length
 ·rw [qDc hlt,gt] at hs;repeat' (first|refine av ?_ ?_|refine aq ?_|exact aw|refine ap fun hb=>?_)
  ·exact Vz
  ·refine ⟨i+1,⟨by omega,by rw [<-hs,beq_eq_false_iff_ne.2 hb];rfl⟩,by omega,?_⟩;exact aT
 ·exact U5
theorem LU (l:List Qu):FSpec prog 147 [.one (.sl eh l)] [] [] (.b (gu l)) []:=by
  obtain ⟨v,hv⟩:=qGe (gu l);rw [hv];unfold gu at hv;refine a7 func147 ?_;refine aY (fun c ρ a w hr=>bV (t:=0) hr rfl) (fun hl0=>?_);by_cases h8:8<l.length
  · rw [qDf (by omega)] at hv
    obtain rfl:false=v:=hv;exact UG
  rw [qDt (by omega),Bool.true_and] at hv;refine ao ?_;refine ab (fun i=>i<=l.length/\mN (xQ l i) (l.drop i)=v) (fun i=>bP [] [(0,.c (.sl eh l)),(3,.i i)] []) (fun i=>l.length-i) 0 ⟨Nat.zero_le _,hv⟩ aT ?_;rintro i ⟨hi,hs⟩;by_cases hlt:i<l.length
  · rw [qDc hlt,eM] at hs
    rcases Nat.eq_zero_or_pos i with h0|h0
    · subst h0
      rw [xR] at hs;have:=dj l[0];repeat' (first|refine av ?_ ?_|refine gV ?_|refine aq ?_|exact aw|(refine ap fun hb=>?_;first|(simp at hb;done)|skip))
      all_goals first
        | (obtain rfl:false=v:=by rw [<-hs];simp [*]
           refine cc (qf []) ?_;exact af)
        | (refine ⟨1,⟨by omega,by rw [<-hs,lD hlt rfl];simp [*,Hf]⟩,by omega,?_⟩
           exact aT)
    · obtain ⟨m,hm⟩:=qGe (l[i-1])
      have hgm:l[((i:Int)-1).toNat]? = some m:=by rw [show ((i:Int)-1).toNat=i-1 by omega,qGg (by omega),hm]
      rw [Ax h0 (by omega) hm] at hs;have:=dj l[i];repeat' (first|refine av ?_ ?_|refine gV ?_|refine aq ?_|exact aw|refine ap fun hb=>?_)
      all_goals first
        | (obtain rfl:false=v:=by rw [<-hs];simp [*,Hf]
           refine cc (qf []) ?_;exact af)
        | (refine ⟨i+1,⟨by omega,by rw [<-hs,lD hlt rfl];simp [*,Hf]⟩,by omega,?_⟩
           exact aT)
  · rw [qDn (by omega)] at hs
    obtain rfl:true=v:=hs;exact UG
theorem yD (q:Qu) (l:List Qu):lC (q :: l)=gq q++lC l:=rfl
theorem LV (o:Bool) (l:List Qu) (hm:l.length<=12) (h8:∀q∈l,fU q):FSpec prog 87 [.one (.sl eh l)] [] (bif o then [0] else []) (.c (bif o then .own 0 else .sl gK (aO l))) (bif o then [(0,some (.arr 40 gK (aO l)))] else []):=by
 obtain ⟨R,hR⟩:=qGe (lC l);have hRl:R.length<=288:=by rw [<-hR];have:=xP l h8;omega
 unfold aO;rw [hR];refine iF func87 rfl (fun b W=>by kernel_rfl) (by cases o <;> rfl) (qNl rfl) ?_;refine ao ?_;refine cj 3 1000 40 gK rfl rfl rfl ?_;refine ab (fun x:Nat×List Pr=>x.1<=l.length/\x.2++lC (l.drop x.1)=R) (fun x=>bP [1000] [(0,.c (.sl eh l)),(3,.c (.own 1000)),(4,.i x.1)] [(1000,.arr 40 gK x.2)]) (fun x=>l.length-x.1) (0,[]) ⟨Nat.zero_le _,hR⟩ aT ?_;rintro ⟨i,out⟩ ⟨hi,hs⟩;dsimp only at *
 have hol:out.length<=288:=by have:=congrArg List.length hs;simp at this;omega
 by_cases hlt:i<l.length
 ·rw [qDc hlt,yD,<-List.append_assoc] at hs;have hq:=h8 _ (List.getElem_mem hlt);have hql:=oI hq;have kP:=Om l[i] hq;clear h8;refine ao ?_;refine ⟨(i+1,out++gq l[i]),⟨by dsimp only;omega,hs⟩,by dsimp only;omega,?_⟩;exact bo (qf [(1000,17)])
 ·rw [qDn (by omega)] at hs;obtain rfl:out=R:=by rw [<-hs];simp [lC]
  repeat' (first|refine av ?_ ?_|((fail_if_success (first|refine m8 6 ?_|refine m9 6 ?_));refine aq ?_)|exact aw|refine ap fun hb=>?_)
  refine gU 1000 rfl ?_;cases o with
  | true =>
   repeat' (first|refine av ?_ ?_|refine aa 9 rfl (cH (qf [(0,1001)]) (H9 true out (by omega)) ?_)|refine aq ?_|exact aw|refine ap fun hb=>?_|(refine cc (qf [(0,1001)]) ?_;exact af))
  | false =>
   have:=LS out (by omega);exact UG
theorem pY (l:List Qu) (hm:l.length<=12) (h8:∀q∈l,fU q):FSpec prog 87 [.one (.sl eh l)] [] [] (.c (.sl gK (aO l))) []:=LV false l hm h8
theorem j5 (l:List En) (n:ByteArray):FSpec prog 35 [.one (.sl ke l),.one (.sc (.string n))] [] [] (.v (aC l n).a) []:=by
 obtain ⟨v,hv⟩:=qGe (aC l n);rw [hv];unfold aC at hv;refine a7 func35 ?_;refine aY (fun c ρ a w hr=>bV (t:=0) hr rfl) (fun hl0=>?_);refine ao ?_;refine ab (fun x:Nat×Am=>x.1<=l.length/\eF n x.2 (l.drop x.1)=v) (fun x=>bP [4,5] [(0,.c (.sl ke l)),(1,.c (.sc (.string n))),(4,.c (.ptr 4 0)),(5,.c (.ptr 5 0)),(6,.i x.1)] [(4,.box 42 [.sc (.int .i64 0),.sc (.int .i64 0)]),(5,.box 42 [.sc (.int .i64 x.2.mode),.sc (.int .i64 x.2.units)])]) (fun x=>l.length-x.1) (0,⟨0,0⟩) ⟨Nat.zero_le _,hv⟩ aT ?_;rintro ⟨i,a⟩ ⟨hi,hs⟩;dsimp only at *
 by_cases hlt:i<l.length
 ·rw [qDc hlt,eF] at hs;repeat' (first|refine av ?_ ?_|refine aq ?_|exact aw|refine ap fun hb=>?_)
  ·refine ⟨(i+1,l[i].after),⟨by dsimp only;omega,by rw [<-hs];simp [*,bC]⟩,by dsimp only;omega,?_⟩;exact aT
  ·refine ⟨(i+1,a),⟨by dsimp only;omega,by rw [<-hs,bC,beq_eq_false_iff_ne.2 hb];rfl⟩,by dsimp only;omega,?_⟩;exact aT
 ·rw [qDn (by omega)] at hs;obtain rfl:a=v:=hs;exact UG
theorem LW (x y:Am):FSpec prog 224 [x.a,y.a] [] [] (.b (dX x y)) []:=by
 unfold dX aR;refine a7 func224 ?_;repeat' (first|refine av ?_ ?_|(refine aa 9 rfl ?_;first|(refine cB [] (pV y) ?_)|(refine cB [] (pV x) ?_)|(refine cB [] (H8 y.mode x.mode) ?_))|refine aq ?_|exact aw|refine ap fun hb=>?_)
 all_goals (refine eU ?_;first|(simp [*];done)|(simp_all;done))
theorem lW (l:List Sv) (n:Int):FSpec prog 168 [.one (.sl lS l),.one (.sc (.int .i64 n))] [] [] (.i (bb n 0 l)) []:=by
 obtain ⟨v,hv⟩:=qGe (bb n 0 l);rw [hv];refine a7 func168 ?_;refine aY (fun c ρ a w hr=>bV (t:=0) hr rfl) (fun hl0=>?_);refine ao ?_;refine ab (fun i=>i<=l.length/\bb n i (l.drop i)=v) (fun i=>bP [] [(0,.c (.sl lS l)),(1,.i n),(5,.i i)] []) (fun i=>l.length-i) 0 ⟨Nat.zero_le _,hv⟩ aT ?_;rintro i ⟨hi,hs⟩;by_cases hlt:i<l.length
 ·rw [qDc hlt,bb] at hs;repeat' (first|refine av ?_ ?_|refine aq ?_|exact aw|refine ap fun hb=>?_)
  ·exact Vz
  ·exact Vc
 ·exact U5
theorem PH (n:Int):FSpec prog 163 [.one (.sc (.int .i64 n))] [] [] (.i (bc n)) []:=by
 obtain ⟨v,hv⟩:=qGe (bc n);rw [hv];unfold bc at hv;refine a7 func163 ?_;by_cases h:n<0\/1073741824<=n
 ·rw [if_pos h] at hv;obtain rfl:=hv;repeat' (first|refine av ?_ ?_|refine aq ?_|exact aw|refine ap fun hb=>?_|exact bg|fail)
  all_goals (exfalso;omega)
 ·rw [if_neg h] at hv;obtain rfl:=hv;exact UG
theorem Ek {n:Nat} {q:Qu} {acc:List Ho} (hs:Sd q) (h:ay q=true):eO n q acc=(q,acc):=by
 cases n with
 | zero=>rfl
 | succ n =>
  have h2:=(dN.1 h).2;unfold eO;cases hh:dD q with
  | none=>rfl
  | some x=>dsimp only;rw [h2 x hh];rfl
theorem A5 {n:Nat} {q:Qu} {acc:List Ho} (hs:Sd q) (h:ay q=false) (hn:fQ q<=n):∃x,dD q=some x/\Sd (g9 q x)/\fQ (g9 q x)+1=fQ q/\0<n/\eO n q acc=eO (n-1) (g9 q x) (acc++[⟨x.proc,x.am⟩]):=by
 cases hh:dD q with
 | none=>rw [dN.2 ⟨hs,fun x hx=>by rw [hh] at hx;cases hx⟩] at h;cases h
 | some x =>
  have hr:gO q.res q.holds x.proc x.am=true:=by
   cases hc:gO q.res q.holds x.proc x.am with
   | true=>rfl
   | false=>rw [dN.2 ⟨hs,fun y hy=>by rw [hh] at hy;injection hy with hy;rw [<-hy];exact hc⟩] at h;cases h
  have hp:=Ga hh;obtain ⟨m,rfl⟩:∃m,n=m+1:=⟨n-1,by omega⟩;refine ⟨x,rfl,hs.pop hh hr,hp,Nat.succ_pos _,?_⟩;rw [eO,hh];dsimp only;rw [hr];rfl
def Gn:List D:=[.sc (.string ⟨#[]⟩),.sc (.int .i64 0),.sc (.int .i64 0),.sc (.int .i64 0),.sc (.slice none 0 0),.sc (.slice none 0 0),.sc (.slice none 0 0),.sc (.int .i64 0)]
theorem L0 (q:Qu) (hs:Sd q):FSpec prog 331 [q.a] [] [] (.tup [(mW q).1.a,.one (.sl gM (mW q).2)]) []:=by
 have hh:=hs.hv.len;have h1:=hs.clen;have h2:=hs.wlen;have hsd:=oQ.2 hs;have hm:fQ q<=16:=by unfold fQ;omega
 refine a7 func331 ?_;have:=Ci q;have:=oY q (by omega) (by omega) (by omega);refine ao ?_;refine cj 4 1000 121 gM rfl rfl rfl ?_;refine ab (fun x:Nat×Qu×List Ho=>Sd x.2.1/\fQ x.2.1<=x.1/\eO x.1 x.2.1 x.2.2=mW q/\x.2.2.length+x.1<=16) (fun x=>bP [1,2,1000] [(1,.c (.ptr 1 0)),(2,.c (.ptr 2 0)),(4,.c (.own 1000))] [(1,.box 66 x.2.1.d),(2,.box 66 Gn),(1000,.arr 121 gM x.2.2)]) (fun x=>x.1) (fQ q,q,[]) ⟨hs,Nat.le_refl _,rfl,by simpa using hm⟩ aT ?_;rintro ⟨n,q1,acc⟩ ⟨hs1,hn,hadv,hlen⟩;dsimp only at *
 cases hset:ay q1 with
 | true =>
  have:=pX q1;refine ao ?_;rw [Ek hs1 hset] at hadv;rw [<-hadv];exact VU
 | false =>
  obtain ⟨x,hx,hs2,hn2,hpos,hgo⟩:=A5 (acc:=acc) hs1 hset hn;rw [hgo] at hadv;have hh1:=hs1.hv.len;have hq1:=hs1;obtain ⟨r,hs',cs,ws,gn⟩:=q1;cases cs with
  | cons y cs =>
   obtain rfl:y=x:=by simpa [dD] using hx
   repeat' (first|refine av ?_ ?_|(refine aa 8 rfl ?_;refine be (ae rfl rfl (aH rfl rfl) (aN [⟨y.proc,y.am⟩] rfl rfl rfl rfl) rfl aQ aQ) rfl rfl rfl ?_)|(refine aa 9 rfl ?_;first|(refine cB [] (pX ⟨r,hs',y :: cs,ws,gn⟩) ?_)|(refine cB [] (LQ ⟨r,hs',y :: cs,ws,gn⟩) ?_)|(refine cC [] (JP hs' y.proc y.am (by dsimp only at hh1;omega)) ?_))|refine aq ?_|exact aw|(refine ap fun hb=>?_;first|(simp [hset] at hb;done)|skip))
   ·refine ⟨(n-1,g9 ⟨r,hs',y :: cs,ws,gn⟩ y,acc++[⟨y.proc,y.am⟩]),⟨hs2,by dsimp only;omega,hadv,by simp;omega⟩,by dsimp only;omega,?_⟩;exact bo (qf [(1000,48)])
  | nil =>
   obtain ⟨ws2,rfl⟩:∃m,ws=x :: m:=by
    cases ws with
    | nil=>simp [dD] at hx
    | cons z m=>exact ⟨m,by rw [show z=x by simpa [dD] using hx]⟩
   repeat' (first|refine av ?_ ?_|(refine aa 8 rfl ?_;refine be (ae rfl rfl (aH rfl rfl) (aN [⟨x.proc,x.am⟩] rfl rfl rfl rfl) rfl aQ aQ) rfl rfl rfl ?_)|(refine aa 9 rfl ?_;first|(refine cB [] (pX ⟨r,hs',[],x :: ws2,gn⟩) ?_)|(refine cB [] (LQ ⟨r,hs',[],x :: ws2,gn⟩) ?_)|(refine cC [] (JP hs' x.proc x.am (by dsimp only at hh1;omega)) ?_))|refine aq ?_|exact aw|(refine ap fun hb=>?_;first|(simp [hset] at hb;done)|skip))
   ·refine ⟨(n-1,g9 ⟨r,hs',[],x :: ws2,gn⟩ x,acc++[⟨x.proc,x.am⟩]),⟨hs2,by dsimp only;omega,hadv,by simp;omega⟩,by dsimp only;omega,?_⟩;exact bo (qf [(1000,48)])
def p7 (R:Qu×List Ho×Int):TV:=.tup [R.1.a,.one (.sl gM R.2.1),.one (.sc (.int .i64 R.2.2))]
theorem fS (q:Qu) (p:Pr):FSpec prog 34 [q.a,p.a] [] [] (.v (ah q.holds p).a) []:=by
 refine a7 func34 ?_;have:=Ok q.holds p;exact UG
theorem cX (q:Qu) (p:Pr) {o:Option Am} (h:aj q p=o):FSpec prog 68 [q.a,p.a] [] [] (.tup [(Gk o).a,.one (.sc (.bool o.isSome))]) []:=h▸Ol q p
theorem L8 (q:Qu) (p:Pr):FSpec prog 233 [q.a,p.a] [] [] (.b (fd q p)) []:=by
 refine a7 func233 ?_;cases hw:aj q p with
 | some a =>
  rw [show fd q p=true by unfold fd;rw [hw];rfl];have:=cX q p hw;exact UG
 | none =>
  rw [show fd q p = !aR (ah q.holds p) by unfold fd;rw [hw];rfl];have:=cX q p hw;have:=fS q p;have:=gW (ah q.holds p);exact UG
theorem na (q:Qu) (hs:Sd q):FSpec prog 280 [q.a] [] [] (p7 (iY (dB q))) []:=by
 refine a7 func280 ?_;have:=L0 q hs;have:=PH q.gen;refine ao ?_
 (refine dP (qf []) ?_;exact af)
theorem bF {α:Type} {b:Bool} {x y:α} (h:b=false):(bif b then x else y)=y:=by rw [h];rfl
theorem bT {α:Type} {b:Bool} {x y:α} (h:b=true):(bif b then x else y)=x:=by rw [h];rfl
theorem Ep (q:Qu) (p:Pr) {R:Qu×List Ho×Int} (hR:bB q p=R):FSpec prog 282 [q.a,p.a] [] [] (p7 R) []:=by
 refine a7 func282 ?_;cases hS:ay q with
 | false =>
  obtain rfl:R=bR 2:=by rw [<-hR];simp [bB,hS]
  have:=dj q;refine ao ?_
  (refine dP (qf []) ?_;exact af)
 | true =>
  have hs:=aP hS;have h1:=hs.hv.len;have h2:=hs.clen;have h3:=hs.wlen;cases hw:aj q p with
  | none =>
   obtain rfl:R=bR 10:=by rw [<-hR];simp [bB,hS,hw]
   have:=dj q;have:=cX q p hw;refine ao ?_
   (refine dP (qf []) ?_;exact af)
  | some a =>
   obtain rfl:R=iY (dB { q with convs:=cq q.convs p,waits:=cq q.waits p }):=by rw [<-hR];simp [bB,hS,hw]
   have hd:=hs.drop p;repeat' (first|refine av ?_ ?_|(refine aa 9 rfl ?_;first|(refine cB [] (dj q) ?_)|(refine cB [] (cX q p hw) ?_)|(refine cC [] (oY q (by omega) (by omega) (by omega)) ?_)|(refine cC [] (pW q.convs p (by omega)) ?_)|(refine cC [] (pW q.waits p (by omega)) ?_)|(refine cC [] (na { q with convs:=cq q.convs p,waits:=cq q.waits p } hd) ?_))|refine aq ?_|exact aw|(refine ap fun hb=>?_;first|(simp [hS] at hb;done)|skip)|(refine dP (qf []) ?_;exact af))
theorem Co (q:Qu) (p:Pr) (a:Am) {R:Qu×List Ho×Int} (hR:bE q p a=R):FSpec prog 232 [q.a,p.a,a.a] [] [] (p7 R) []:=by
 refine a7 func232 ?_;cases hS:ay q with
 | false =>
  obtain rfl:R=bR 2:=by rw [<-hR];simp [bE,hS]
  have:=dj q;refine ao ?_
  (refine dP (qf []) ?_;exact af)
 | true =>
  have hs:=aP hS;have h1:=hs.hv.len;have h2:=hs.clen;have h3:=hs.wlen;cases hz:aR (ah q.holds p) with
  | true =>
   obtain rfl:R=bR 10:=by rw [<-hR];simp [bE,hS,hz]
   have:=dj q;have:=fS q p;have:=gW (ah q.holds p);refine ao ?_
   (refine dP (qf []) ?_;exact af)
  | false =>
   cases hw:aj q p with
   | some b =>
    obtain rfl:R=bR 14:=by rw [<-hR];simp [bE,hS,hz,hw]
    have:=dj q;have:=fS q p;have:=gW (ah q.holds p);have:=cX q p hw;refine ao ?_
    (refine dP (qf []) ?_;exact af)
   | none =>
    cases hc:bq q.res (ah q.holds p) a with
    | false =>
     obtain rfl:R=bR 12:=by rw [<-hR];simp [bE,hS,hz,hw,hc]
     have:=dj q;have:=fS q p;have:=gW (ah q.holds p);have:=cX q p hw;have:=dJ q.res (ah q.holds p) a;refine ao ?_
     (refine dP (qf []) ?_;exact af)
    | true =>
     have hd:=hs.lower hw (bN.1 hz) hc;obtain ⟨R1,hR1⟩:∃R1,R1=(bif decide (ah q.holds p=a) then iY (q,[]) else iY (dB { q with holds:=cw q.holds p a })):=⟨_,rfl⟩;obtain rfl:R=R1:=by rw [<-hR,hR1];simp [bE,hS,hz,hw,hc]
     clear hR;have:=dj q;have:=fS q p;have:=gW (ah q.holds p);have:=cX q p hw;have:=dJ q.res (ah q.holds p) a;have:=oY q (by omega) (by omega) (by omega);have:=JP q.holds p a (by omega);have:=na { q with holds:=cw q.holds p a } hd;repeat' (first|refine av ?_ ?_|refine gV ?_|refine aq ?_|exact aw|(refine ap fun hb=>?_;first|(simp [hS] at hb;done)|(simp [hz] at hb;done)|(simp [hc] at hb;done)|skip))
     ·obtain rfl:R=iY (q,[]):=by rw [hR1];simp [hb]
      refine dP (qf []) ?_;exact af
     ·obtain rfl:R=iY (dB { q with holds:=cw q.holds p a }):=by rw [hR1];simp [hb]
      refine dP (qf []) ?_;exact af
theorem Er (q:Qu) (p:Pr) {R:Qu×List Ho×Int} (hR:aU q p=R):FSpec prog 234 [q.a,p.a] [] [] (p7 R) []:=by
 refine a7 func234 ?_;cases hS:ay q with
 | false =>
  obtain rfl:R=bR 2:=by rw [<-hR];simp [aU,hS]
  have:=dj q;refine ao ?_
  (refine dP (qf []) ?_;exact af)
 | true =>
  have hs:=aP hS;have h1:=hs.hv.len;have h2:=hs.clen;have h3:=hs.wlen;cases hh:fd q p with
  | false =>
   obtain rfl:R=bR 10:=by rw [<-hR];simp [aU,hS,hh]
   have:=dj q;have:=L8 q p;refine ao ?_
   (refine dP (qf []) ?_;exact af)
  | true =>
   obtain rfl:R=iY (dB { q with holds:=cw q.holds p ⟨0,0⟩,convs:=cq q.convs p,waits:=cq q.waits p }):=by rw [<-hR];simp [aU,hS,hh]
   have hd:=hs.gone p;repeat' (first|refine av ?_ ?_|(refine aa 9 rfl ?_;first|(refine cB [] (dj q) ?_)|(refine cB [] (L8 q p) ?_)|(refine cC [] (oY q (by omega) (by omega) (by omega)) ?_)|(refine cC [] (JP q.holds p ⟨0,0⟩ (by omega)) ?_)|(refine cC [] (pW q.convs p (by omega)) ?_)|(refine cC [] (pW q.waits p (by omega)) ?_)|(refine cC [] (na { q with holds:=cw q.holds p ⟨0,0⟩,convs:=cq q.convs p,waits:=cq q.waits p } hd) ?_))|refine aq ?_|exact aw|(refine ap fun hb=>?_;first|(simp [hS] at hb;done)|(simp [hh] at hb;done)|skip)|(refine dP (qf []) ?_;exact af))
end Go.Proofs.YthpgjkjgkhjjlaaGreatDoor
