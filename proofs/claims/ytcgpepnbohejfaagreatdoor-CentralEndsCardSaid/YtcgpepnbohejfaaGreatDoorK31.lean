/- Part 31 of 56 of the proof of both_hold (no condition). -/
import Derived.Test.YtcgpepnbohejfaaGreatDoorK29
import Derived.Test.YtcgpepnbohejfaaGreatDoorK30
set_option linter.unusedVariables false
set_option linter.unusedSimpArgs false
set_option maxRecDepth 100000
set_option maxHeartbeats 64000000
namespace Go.Proofs.YtcgpepnbohejfaaGreatDoor
open Go.RowKit Go.Proofs.Tryz
theorem GV (d:Nat) (w:Wk) (k:Cm) (h:CI w.c) (hs:∀x∈w.c.procs,dP w.c.queues x=false) (he:w.ev.length≤1000) {Z:Wk×Int} (hZ:oc w k=Z):FSpec prog 26 [iS,k.a d] (HP d w) [3,4] (.i Z.2) (HR d Z.1):=by
 refine aT func26 ?_;obtain ⟨kd,p,r,nm,n⟩:=k;unfold oc at hZ;dsimp only at hZ;have h8:=h.len;by_cases hA:1≤kd∧kd≤9
 case neg =>
  rw [show (decide (1≤kd) && decide (kd≤9))=false by rw [Bool.and_eq_false_iff];simp;omega] at hZ;obtain rfl:(w,1)=Z:=hZ;repeat' (first|refine af ?_ ?_|refine ae ?_|exact ah|(refine ab fun hb=>?_;first|(exfalso;omega)|skip)|(refine ct (qf [(3,1),(4,2)]) ?_;exact aw))
 obtain ⟨hA1,hA2⟩:=hA;rw [decide_eq_true hA1,decide_eq_true hA2,Bool.and_self,Bool.not_true,cond_false] at hZ;by_cases h1:kd=1
 ·subst h1;have hZ:j6 w p n=Z:=hZ;have kO:=GT d w p n h8 (Jo h p) hZ;repeat' (first|refine af ?_ ?_|refine aa 9 rfl (cH (qf [(0,0),(1,1),(2,2),(3,1003),(4,1004)]) (kO) ?_)|refine ae ?_|exact ah|refine ab fun hb=>?_|(refine ct (qf [(3,1003),(4,1004)]) ?_;exact aw))
 rw [decide_eq_false h1,cond_false] at hZ;by_cases h9:kd=9
 ·subst h9;have hZ:gZ w n=Z:=hZ;have kT:=GU d w n h hs he hZ;repeat' (first|refine af ?_ ?_|refine aa 9 rfl (cH (qf [(0,0),(1,1),(2,2),(4,1004)]) (kT) ?_)|refine ae ?_|exact ah|refine ab fun hb=>?_|(refine ct (qf [(3,1),(4,1004)]) ?_;exact aw))
 rw [decide_eq_false h9,cond_false] at hZ;by_cases hI:cD p 0 w.c.procs<0
 ·rw [decide_eq_true hI,cond_true] at hZ;obtain rfl:(w,10)=Z:=hZ;have kI:=uO d w.c.procs p (by omega) rfl;repeat' (first|refine af ?_ ?_|refine aa 9 rfl (cH (qf [(1,1)]) (kI) ?_)|(refine aa 21 rfl ?_;first|refine sx (aq rfl rfl) ?_|refine sx (aE rfl rfl) ?_)|refine ae ?_|exact ah|(refine ab fun hb=>?_;first|(exfalso;omega)|skip)|(refine ct (qf [(3,1),(4,2)]) ?_;exact aw))
 rw [decide_eq_false hI,cond_false] at hZ;obtain ⟨i,hi,ei,_⟩:=fX (p:=p) (l:=w.c.procs) (k:=0) (by omega);rw [Nat.zero_add] at ei;have kI:=uO d w.c.procs p (by omega) ei;rw [ei,Int.toNat_natCast] at hZ;clear hI ei;obtain ⟨x,hx⟩:∃x,w.c.procs[i]? = some x:=⟨_,List.getElem?_eq_getElem hi⟩;have hpc:=fI hx;by_cases h2:kd=2
 ·subst h2;have hZ:ck w i r=Z:=hZ;have kT:=AX d w i r hx h (by omega) hZ;repeat' (first|refine af ?_ ?_|(refine aa 9 rfl ?_;first|(refine cH (qf [(1,1)]) (kI) ?_)|(refine cH (qf [(0,0),(1,1),(2,2),(4,1004)]) (kT) ?_))|(refine aa 21 rfl ?_;first|refine sx (aq rfl rfl) ?_|refine sx (aE rfl rfl) ?_)|refine ae ?_|exact ah|(refine ab fun hb=>?_;first|(exfalso;omega)|skip)|(refine ct (qf [(3,1),(4,1004)]) ?_;exact aw))
 rw [decide_eq_false h2,cond_false] at hZ;by_cases h3:kd=3
 ·subst h3;rw [hpc] at hZ;have hZ:(bif !x.waiting then (w,(14:Int)) else (bf (aY (az w i) i),0))=Z:=hZ;have kT:=Dh d w i hx h (by omega) hZ;repeat' (first|refine af ?_ ?_|(refine aa 9 rfl ?_;first|(refine cH (qf [(1,1)]) (kI) ?_)|(refine cH (qf [(0,0),(1,1),(2,2),(4,1004)]) (kT) ?_))|(refine aa 21 rfl ?_;first|refine sx (aq rfl rfl) ?_|refine sx (aE rfl rfl) ?_)|refine ae ?_|exact ah|(refine ab fun hb=>?_;first|(exfalso;omega)|skip)|(refine ct (qf [(3,1),(4,1004)]) ?_;exact aw))
 rw [decide_eq_false h3,cond_false] at hZ;by_cases h4:kd=4
 ·subst h4;have hZ:dJ w i nm=Z:=hZ;have kT:=AS d w i nm hx h (by omega) hZ;repeat' (first|refine af ?_ ?_|(refine aa 9 rfl ?_;first|(refine cH (qf [(1,1)]) (kI) ?_)|(refine cH (qf [(0,0),(1,1),(2,2),(4,1004)]) (kT) ?_))|(refine aa 21 rfl ?_;first|refine sx (aq rfl rfl) ?_|refine sx (aE rfl rfl) ?_)|refine ae ?_|exact ah|(refine ab fun hb=>?_;first|(exfalso;omega)|skip)|(refine ct (qf [(3,1),(4,1004)]) ?_;exact aw))
 rw [decide_eq_false h4,cond_false] at hZ;by_cases h5:kd=5
 ·subst h5;rw [hpc] at hZ;have hZ:(bif x.waiting then (w,(14:Int)) else bif !decide ((d8 x.led n).2=0) then (w,(d8 x.led n).2) else (aY (w.setP i { x with led:=(d8 x.led n).1 }) i,0))=Z:=hZ;have kT:=GQ d w i n hx hZ;repeat' (first|refine af ?_ ?_|(refine aa 9 rfl ?_;first|(refine cH (qf [(1,1)]) (kI) ?_)|(refine cH (qf [(0,0),(1,1),(2,2),(4,1004)]) (kT) ?_))|(refine aa 21 rfl ?_;first|refine sx (aq rfl rfl) ?_|refine sx (aE rfl rfl) ?_)|refine ae ?_|exact ah|(refine ab fun hb=>?_;first|(exfalso;omega)|skip)|(refine ct (qf [(3,1),(4,1004)]) ?_;exact aw))
 rw [decide_eq_false h5,cond_false] at hZ;by_cases h6:kd=6
 ·subst h6;have hZ:cy w i n=Z:=hZ;have kT:=x9 d w i n hx h (by omega) hZ;repeat' (first|refine af ?_ ?_|(refine aa 9 rfl ?_;first|(refine cH (qf [(1,1)]) (kI) ?_)|(refine cH (qf [(0,0),(1,1),(2,2),(4,1004)]) (kT) ?_))|(refine aa 21 rfl ?_;first|refine sx (aq rfl rfl) ?_|refine sx (aE rfl rfl) ?_)|refine ae ?_|exact ah|(refine ab fun hb=>?_;first|(exfalso;omega)|skip)|(refine ct (qf [(3,1),(4,1004)]) ?_;exact aw))
 rw [decide_eq_false h6,cond_false] at hZ;obtain ⟨F,hF⟩:∃F,fG w i=F:=⟨_,rfl⟩;have kG:=GR d w i hx h (by omega) hF;rw [hF,hpc] at hZ;by_cases h8b:kd=8
 ·subst h8b;cases hw:x.waiting with
  | true =>
   rw [hw] at hZ;obtain rfl:(w,14)=Z:=hZ;repeat' (first|refine af ?_ ?_|refine aa 9 rfl (cH (qf [(1,1)]) (kI) ?_)|(refine aa 21 rfl ?_;first|refine sx (aq rfl rfl) ?_|refine sx (aE rfl rfl) ?_)|refine ae ?_|exact ah|(refine ab fun hb=>?_;first|(cases hw.symm.trans hb;done)|(exfalso;omega)|skip)|(refine ct (qf [(3,1),(4,2)]) ?_;exact aw))
  | false =>
   rw [hw] at hZ;obtain rfl:(F,0)=Z:=hZ;repeat' (first|refine af ?_ ?_|(refine aa 9 rfl ?_;first|(refine cH (qf [(1,1)]) (kI) ?_)|(refine cH (qf [(0,0),(1,1),(2,2),(3,1003),(4,1004)]) (kG) ?_))|(refine aa 21 rfl ?_;first|refine sx (aq rfl rfl) ?_|refine sx (aE rfl rfl) ?_)|refine ae ?_|exact ah|(refine ab fun hb=>?_;first|(cases hw.symm.trans hb;done)|(exfalso;omega)|skip)|(refine ct (qf [(3,1003),(4,1004)]) ?_;exact aw))
 ·rw [decide_eq_false h8b] at hZ;obtain rfl:kd=7:=by omega
  obtain rfl:(F,0)=Z:=hZ;repeat' (first|refine af ?_ ?_|(refine aa 9 rfl ?_;first|(refine cH (qf [(1,1)]) (kI) ?_)|(refine cH (qf [(0,0),(1,1),(2,2),(3,1003),(4,1004)]) (kG) ?_))|(refine aa 21 rfl ?_;first|refine sx (aq rfl rfl) ?_|refine sx (aE rfl rfl) ?_)|refine ae ?_|exact ah|(refine ab fun hb=>?_;first|(exfalso;omega)|skip)|(refine ct (qf [(3,1003),(4,1004)]) ?_;exact aw))
end Go.Proofs.YtcgpepnbohejfaaGreatDoor
