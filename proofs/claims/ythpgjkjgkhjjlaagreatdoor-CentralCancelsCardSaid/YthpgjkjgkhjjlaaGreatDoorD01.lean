/- Part D01 of a proof of statements of chapter 15 (no condition). -/
import Derived.Test.YthpgjkjgkhjjlaaGreatDoorK42
set_option linter.unusedVariables false
set_option linter.unusedSimpArgs false
set_option maxRecDepth 100000
set_option maxHeartbeats 64000000
namespace Go.Proofs.YthpgjkjgkhjjlaaGreatDoor
open Go.RowKit Go.Proofs.Tryz
def pi:Cs->List Cm->Cs
 | c,[]=>c
 | c,k :: l=>pi (bif decide ((cy c k).2.2=0) then (cy c k).1 else c) l
theorem Cx:∀(l:List Cm) (c:Cs),cG c=true->cG (pi c l)=true
 | [],_,h=>h
 | k :: l,c,h=>by
  show cG (pi (bif decide ((cy c k).2.2=0) then (cy c k).1 else c) l)=true;by_cases he:(cy c k).2.2=0
  ·exact V8
  ·rw [qDf he];exact Cx l c h
theorem xz {c:Cs} (h:CI c) {i:Nat} (hi:i<c.procs.length):bM c.procs[i].proc 0 c.procs=(i:Int):=by
 have h0:0<=bM c.procs[i].proc 0 c.procs:=yR.2 (List.mem_map.2 ⟨_,List.getElem_mem hi,rfl⟩);obtain ⟨j,hj,e,hp⟩:=c7 h0;by_cases hij:j=i
 ·rw [e,hij];omega
 ·exact absurd hp (np h hj hi hij)
theorem E7 {c:Cs} (h:CI c) {x y:Pc} (hx:x∈c.procs) (hy:y∈c.procs) (e:x.proc=y.proc):x=y:=by
 obtain ⟨i,hi,rfl⟩:=List.mem_iff_getElem.1 hx;obtain ⟨j,hj,rfl⟩:=List.mem_iff_getElem.1 hy;by_cases hij:i=j
 ·subst hij;rfl
 ·exact absurd e (np h hi hj hij)
theorem mi {c:Cs} {k:Cm} (h:cG c=true) (h0:(g8 ⟨c,[]⟩ k).2=0):cy c k=((g8 ⟨c,[]⟩ k).1.c,(g8 ⟨c,[]⟩ k).1.ev,0):=by
 unfold cy;rw [h,qDt h0];rfl
theorem iQ {c:Cs} {k:Cm} (h:(cy c k).2.2=0):cG c=true/\(g8 ⟨c,[]⟩ k).2=0:=by
 have hc:=(fI h).1;refine ⟨hc,?_⟩;unfold cy at h;rw [hc] at h;by_cases h0:(g8 ⟨c,[]⟩ k).2=0
 ·exact h0
 ·rw [qDf h0] at h;exact h
theorem CQ {c:Cs} {k:Cm} (h:(cy c k).2.2≠0):(cy c k).1=LA/\(cy c k).2.1=[]:=by
 unfold cy at h ⊢;cases hc:cG c with
 | false=>exact ⟨rfl,rfl⟩
 | true =>
  rw [hc] at h;by_cases h0:(g8 ⟨c,[]⟩ k).2=0
  ·rw [qDt h0] at h;exact absurd rfl h
  ·rw [qDf h0];exact ⟨rfl,rfl⟩
theorem CR {c:Cs} {k:Cm} (h:CI c) {i:Nat} (hi:i<c.procs.length) (hp:k.proc=c.procs[i].proc) :
  (k.kind=2->g8 ⟨c,[]⟩ k=bX ⟨c,[]⟩ i k.req)/\
  (k.kind=3->g8 ⟨c,[]⟩ k=bif !(Wk.pc ⟨c,[]⟩ i).waiting then (⟨c,[]⟩,14) else (bw (aZ (ai ⟨c,[]⟩ i) i),0))/\
  (k.kind=6->g8 ⟨c,[]⟩ k=cu ⟨c,[]⟩ i k.n)/\
  (k.kind=7->g8 ⟨c,[]⟩ k=(gT ⟨c,[]⟩ i,0)):=by
 have e:bM k.proc 0 c.procs=(i:Int):=by rw [hp];exact xz h hi
 have e0:decide (bM k.proc 0 (Wk.mk c []).c.procs<0)=false:=qDf (by show ¬(bM k.proc 0 c.procs<0);omega);have e1:(bM k.proc 0 (Wk.mk c []).c.procs).toNat=i:=by show (bM k.proc 0 c.procs).toNat=i;omega
 refine ⟨?_,?_,?_,?_⟩ <;> intro hk <;> unfold g8 <;> rw [e0,e1,hk] <;> rfl
theorem run_holds {c:Cs} (h:CI c) {x:Pc} (hx:x∈c.procs) (hw:x.waiting=false):dx x.led=db c.queues x.proc/\bW x.proc c.queues=[]:=by
 have hi:=h.inv x hx;exact (xv h.tv fun n hn=>(hi.stat.hf n hn).1).2 (hi.run hw).2.2
theorem Aj {c:Cs} {k k':Cm} (hk:k.kind=2) (hk':k'.kind=3) (hpp:k'.proc=k.proc) (he:(cy c k).2.2=0) {x:Pc} (hx:x∈(cy c k).1.procs) (hxp:x.proc=k.proc) :
  (x.waiting=false->(cy (cy c k).1 k').2.2=14)/\
  (x.waiting=true->(cy (cy c k).1 k').2.2=0/\(∃y∈(cy (cy c k).1 k').1.procs,y.proc=k.proc/\y.waiting=false)/\
   db (cy (cy c k).1 k').1.queues k.proc=db c.queues k.proc/\bW k.proc (cy (cy c k).1 k').1.queues=[]):=by
 obtain ⟨hc,hd⟩:=fI he;obtain ⟨hci,_⟩:=aV.1 hc;obtain ⟨hdi,_⟩:=aV.1 hd;obtain ⟨_,h0⟩:=iQ he;obtain ⟨j,hj,ej⟩:=List.mem_iff_getElem.1 hx;have hpj:k'.proc=(cy c k).1.procs[j].proc:=by rw [ej,hpp,hxp]
 have e3:=(CR hdi hj hpj).2.1 hk';have hpcj:Wk.pc ⟨(cy c k).1,[]⟩ j=x:=by rw [bh (w:=⟨(cy c k).1,[]⟩) hj];exact ej
 rw [hpcj] at e3;constructor
 ·intro hw;rw [hw] at e3;unfold cy at *
  rw [hd,e3];rfl
 ·intro hw;rw [hw] at e3;have e4:=mi (k:=k') hd (by rw [e3];rfl);have h4:(cy (cy c k).1 k').2.2=0:=by rw [e4]
  have hf:=(fI h4).2;rw [e3] at e4;obtain ⟨hfi,_⟩:=aV.1 hf;have hidx:0<=bM k.proc 0 c.procs:=by
   refine Classical.byContradiction fun hn=>?_;have hn':decide (bM k.proc 0 (Wk.mk c []).c.procs<0)=true:=qDt (by show bM k.proc 0 c.procs<0;omega);unfold g8 at h0;rw [hk,hn'] at h0;exact absurd (show (10:Int)=0 from h0) (by decide)
  obtain ⟨i,hi,_,hip⟩:=c7 hidx;have e5:=(CR hci hi hip.symm).1 hk;rw [e5] at h0;obtain ⟨_,_,_,_,hr,_⟩:=jD (w:=⟨c,[]⟩) hci hi h0;have hpc:=bh (w:=⟨c,[]⟩) hi;have hrun:(Wk.pc ⟨c,[]⟩ i).waiting=false:=by
   cases hh:(Wk.pc ⟨c,[]⟩ i).waiting with
   | false=>rfl
   | true=>unfold bX at h0;rw [hh] at h0;exact absurd (show (14:Int)=0 from h0) (by decide)
  have e6:=mi (k:=k) hc (by rw [e5];exact h0);rw [e5] at e6;have hx':x∈(bX ⟨c,[]⟩ i k.req).1.c.procs:=by rw [e6] at hx;exact hx
  have hled:x.led=c.procs[i].led:=by
   rcases hr x hx' hw with h7|h7
   ·exfalso;have:=E7 hci h7 (List.getElem_mem hi) (by rw [hxp,hip]);rw [<-hpc] at this;rw [this,hrun] at hw;cases hw
   ·rw [h7,hpc]
  have hb:=run_holds hci (List.getElem_mem hi) (by rw [<-hpc];exact hrun);obtain ⟨w1,_,w3,w4,_⟩:=b9 (w:=⟨(cy c k).1,[]⟩) hdi hj (by rw [hpcj];exact hw);have hj2:j<(ai ⟨(cy c k).1,[]⟩ j).c.procs.length:=by rw [w3.len];exact hj
  have hz:(ai ⟨(cy c k).1,[]⟩ j).pc j = { x with waiting:=false,req:=Rq.zero,since:=0 }:=by
   rw [bh hj2];simp [w4,hpcj]
  obtain ⟨n1,n2,_⟩:=eL w1 hj2 (by rw [hz]);have hkn:=jp n1;have hy:(⟨x.proc,x.cost,x.led,false,Rq.zero,0,bc x.gen⟩:Pc)∈(cy (cy c k).1 k').1.procs:=by
   rw [e4];refine hkn.nw _ ?_ rfl;show _∈(ai ⟨(cy c k).1,[]⟩ j).c.procs.set j { (ai ⟨(cy c k).1,[]⟩ j).pc j with gen:=bc ((ai ⟨(cy c k).1,[]⟩ j).pc j).gen };rw [hz];exact List.mem_iff_getElem.2 ⟨j,by simpa using hj2,by simp⟩
  have hb2:=run_holds hfi hy rfl;refine ⟨h4,⟨_,hy,hxp,rfl⟩,?_,?_⟩
  ·have h8:=hb2.1;have h9:=hb.1;simp only at h8;rw [hled,h9,hip,hxp] at h8;exact h8.symm
  ·have h8:=hb2.2;simp only at h8;rw [hxp] at h8;exact h8
def i5 (w:Wk) (i:Nat):Wk:=bw (aZ (ai (w.note 4 (w.pc i).proc) i) i)
theorem d5 (n:Nat) (w:Wk):cI (n+1) w=bif decide (cA w<0) then w else cI n (i5 w (cA w).toNat):=rfl
theorem qu {w:Wk} (h:CI w.c) (he:0<=cA w):CI (i5 w (cA w).toNat).c/\ct (i5 w (cA w).toNat).c.procs+1<=ct w.c.procs/\Kp w (i5 w (cA w).toNat):=by
 obtain ⟨hi,hl⟩:=(gF w).2 he;generalize (cA w).toNat=i at *
 have hc0:CI (w.note 4 (w.pc i).proc).c:=h;have hw0:((w.note 4 (w.pc i).proc).pc i).waiting=true:=by rw [bh (w:=w.note 4 (w.pc i).proc) hi];exact hl.1
 obtain ⟨k1,k2,k3,k4,_⟩:=b9 hc0 hi hw0;have hi2:i<(ai (w.note 4 (w.pc i).proc) i).c.procs.length:=by rw [k3.len];exact hi
 have hrun:((ai (w.note 4 (w.pc i).proc) i).pc i).waiting=false:=by rw [bh hi2];simp [k4]
 obtain ⟨n1,n2,n3⟩:=eL k1 hi2 hrun;obtain ⟨q1,_,q3,q4,q5,q6,_,q8⟩:=ir n1;have k2':ct (ai (w.note 4 (w.pc i).proc) i).c.procs+1=ct w.c.procs:=k2;have hk:=(k3.trans n2).trans (⟨q6,q4,q3,q8⟩:Kp _ (bw (aZ (ai (w.note 4 (w.pc i).proc) i) i)));exact UX
theorem Fc {w:Wk} {i:Nat} (h:CI w.c) (hi:i<w.c.procs.length) (hw:(w.pc i).waiting=true):KG w.c.procs (ai w i).c.procs:=by
 obtain ⟨_,_,_,k4,_⟩:=b9 h hi hw;rw [k4];exact KG.set hi (GrP.led (by rw [bh hi]) (by rw [bh hi]))
theorem IJ {w:Wk} {i:Nat} (h:CI w.c) (hi:i<w.c.procs.length) (hw:(w.pc i).waiting=true):KG w.c.procs (bw (aZ (ai w i) i)).c.procs:=by
 obtain ⟨k1,_,k3,k4,_⟩:=b9 h hi hw;have hi2:i<(ai w i).c.procs.length:=by rw [k3.len];exact hi
 obtain ⟨n1,_,_⟩:=eL k1 hi2 (by rw [bh hi2];simp [k4]);exact ((Fc h hi hw).trans (Cw hi2)).trans (jp n1).gr
theorem O2 {w:Wk} (h:CI w.c) (he:0<=cA w):KG w.c.procs (i5 w (cA w).toNat).c.procs:=by
 obtain ⟨hi,hl⟩:=(gF w).2 he;generalize (cA w).toNat=i at *
 exact IJ (w:=w.note 4 (w.pc i).proc) h hi (by rw [bh (w:=w.note 4 (w.pc i).proc) hi];exact hl.1)
theorem IK:∀(n:Nat) (w:Wk),CI w.c->KG w.c.procs (cI n w).c.procs
 | 0,w,_=>KG.refl _
 | n+1,w,h=>by
  rw [d5];by_cases he:cA w<0
  ·rw [qDt he];exact KG.refl _
  ·rw [qDf he,qCf];exact (O2 h (by omega)).trans (IK n _ (qu h (by omega)).1)
theorem PV {c:Cs} {k:Cm} (h:cG c=true) (he:(g8 ⟨c,[]⟩ k).2=0) {x:Pc} (hx:x∈c.procs) (hk:k.proc≠x.proc\/k.kind=2\/k.kind=3\/k.kind=9):∃y∈(g8 ⟨c,[]⟩ k).1.c.procs,GrP x y:=by
 obtain ⟨hci,hun⟩:=aV.1 h;have all:∀w:Wk,KG c.procs w.c.procs->∃y∈w.c.procs,GrP x y:=fun w hg=>hg x hx;unfold g8 at he ⊢;cases hA:decide (1<=k.kind) && decide (k.kind<=9) with
 | false=>rw [hA] at he;simp at he
 | true =>
  rw [hA] at he;simp only [Bool.not_true,qCf] at he ⊢;by_cases h1:k.kind=1
  ·exact VD
  ·rw [qDf h1] at he ⊢;simp only [qCf] at he ⊢;by_cases h9:k.kind=9
   ·rw [qDt h9] at he ⊢;simp only [qCt] at he ⊢;unfold gi at he ⊢;cases hB:decide (0<=k.n) && decide (k.n<=1000) with
    | false=>rw [hB] at he;simp at he
    | true =>
     rw [hB] at he;simp only [Bool.not_true,qCf] at he ⊢;simp only [qBa,decide_eq_true_eq] at hB;by_cases hm:1073741824-k.n<c.now
     ·exact Wj
     ·exact Wl
   ·rw [qDf h9] at he ⊢;simp only [qCf] at he ⊢;by_cases hI:bM k.proc 0 c.procs<0
    ·exact VG
    ·rw [qDf hI] at he ⊢;simp only [qCf] at he ⊢;obtain ⟨i,hi,e,hip⟩:=c7 (p:=k.proc) (l:=c.procs) (k:=0) (by omega);have ei:(bM k.proc 0 c.procs).toNat=i:=by rw [e];omega
     have hpc:=bh (w:=⟨c,[]⟩) hi;have hpp:(Wk.pc ⟨c,[]⟩ i).proc=k.proc:=by rw [hpc];exact hip
     rw [ei] at he ⊢;by_cases h2:k.kind=2
     ·rw [qDt h2] at he ⊢;simp only [qCt] at he ⊢;exact all _ (jD hci hi he).2.2.2.2.2.1
     ·rw [qDf h2] at he ⊢;simp only [qCf] at he ⊢;by_cases h3:k.kind=3
      ·rw [qDt h3] at he ⊢;simp only [qCt] at he ⊢;cases hw:(Wk.pc ⟨c,[]⟩ i).waiting with
       | false=>rw [hw] at he;simp at he
       | true =>
        simp only [Bool.not_true,qCf];exact all _ (IJ (w:=⟨c,[]⟩) hci hi hw)
      ·rw [qDf h3] at he ⊢;simp only [qCf] at he ⊢;have hne:x.proc≠(Wk.pc ⟨c,[]⟩ i).proc:=by
        rw [hpp];intro e2;rcases hk with hk|hk|hk|hk
        ·exact hk e2.symm
        ·exact h2 hk
        ·exact h3 hk
        ·exact h9 hk
       by_cases h4:k.kind=4
       ·rw [qDt h4] at he ⊢;simp only [qCt] at he ⊢;exact (lZ hci hi he).2.2.2 x hx hne
       ·rw [qDf h4] at he ⊢;simp only [qCf] at he ⊢;by_cases h5:k.kind=5
        ·rw [qDt h5] at he ⊢;simp only [qCt] at he ⊢;rcases Bool.eq_false_or_eq_true (Wk.pc ⟨c,[]⟩ i).waiting with hw|hw
         ·rw [cT hw] at he;simp at he
         ·rw [cF hw] at he ⊢;by_cases hs:(da (Wk.pc ⟨c,[]⟩ i).led k.n).2=0
          ·rw [qDt hs];simp only [Bool.not_true,qCf];have hi2:i<(Wk.setP ⟨c,[]⟩ i { Wk.pc ⟨c,[]⟩ i with led:=(da (Wk.pc ⟨c,[]⟩ i).led k.n).1 }).c.procs.length:=by
            show i<(c.procs.set i _).length;simpa using hi
           exact KO.then (KO.set hi (by rw [<-hpc]) _) (Cw hi2) x hx hne
          ·exact V6
        ·rw [qDf h5] at he ⊢;simp only [qCf] at he ⊢;by_cases h6:k.kind=6
         ·rw [qDt h6] at he ⊢;simp only [qCt] at he ⊢;exact (iN hci hi he).2.2.2.1 x hx hne
         ·rw [qDf h6] at he ⊢;simp only [qCf] at he ⊢;cases h8:decide (k.kind=8) && (Wk.pc ⟨c,[]⟩ i).waiting with
          | true=>rw [h8] at he;simp at he
          | false =>
           simp only [qCf];exact (xu (w:=⟨c,[]⟩) hci hi).2.2.2.2.2.1 x hx hne
theorem PW {c:Cs} {k:Cm} (h:cG c=true) (he:(g8 ⟨c,[]⟩ k).2=0):ef (g8 ⟨c,[]⟩ k).1.c.queues=ef c.queues:=by
 obtain ⟨hci,hun⟩:=aV.1 h;unfold g8 at he ⊢;cases hA:decide (1<=k.kind) && decide (k.kind<=9) with
 | false=>rw [hA] at he;simp at he
 | true =>
  rw [hA] at he;simp only [Bool.not_true,qCf] at he ⊢;by_cases h1:k.kind=1
  ·exact VE
  ·rw [qDf h1] at he ⊢;simp only [qCf] at he ⊢;by_cases h9:k.kind=9
   ·rw [qDt h9] at he ⊢;simp only [qCt] at he ⊢;unfold gi at he ⊢;cases hB:decide (0<=k.n) && decide (k.n<=1000) with
    | false=>rw [hB] at he;simp at he
    | true =>
     rw [hB] at he;simp only [Bool.not_true,qCf] at he ⊢;simp only [qBa,decide_eq_true_eq] at hB;by_cases hm:1073741824-k.n<c.now
     ·exact Wj
     ·rw [qDf hm];simp only [qCf];have gen:∀(n:Nat) (w:Wk),CI w.c->ef (cI n w).c.queues=ef w.c.queues:=by
       intro n;induction n with
       | zero=>intro w _;rfl
       | succ n ih =>
        intro w hw;rw [d5];by_cases he:cA w<0
        ·rw [qDt he];rfl
        ·exact Vn
      exact Vi
   ·rw [qDf h9] at he ⊢;simp only [qCf] at he ⊢;by_cases hI:bM k.proc 0 c.procs<0
    ·exact VG
    ·rw [qDf hI] at he ⊢;simp only [qCf] at he ⊢;obtain ⟨i,hi,e,hip⟩:=c7 (p:=k.proc) (l:=c.procs) (k:=0) (by omega);have ei:(bM k.proc 0 c.procs).toNat=i:=by rw [e];omega
     rw [ei] at he ⊢;by_cases h2:k.kind=2
     ·exact Vq
     ·rw [qDf h2] at he ⊢;simp only [qCf] at he ⊢;by_cases h3:k.kind=3
      ·rw [qDt h3] at he ⊢;simp only [qCt] at he ⊢;cases hw:(Wk.pc ⟨c,[]⟩ i).waiting with
       | false=>rw [hw] at he;simp at he
       | true =>
        simp only [Bool.not_true,qCf];obtain ⟨k1,_,k3,k4,_⟩:=b9 (w:=⟨c,[]⟩) hci hi hw;have hi2:i<(ai ⟨c,[]⟩ i).c.procs.length:=by rw [k3.len];exact hi
        obtain ⟨n1,n2,_⟩:=eL k1 hi2 (by rw [bh hi2];simp [k4]);obtain ⟨_,_,q3⟩:=gE n1;exact ((k3.trans n2).trans q3).nm
      ·rw [qDf h3] at he ⊢;simp only [qCf] at he ⊢;by_cases h4:k.kind=4
       ·exact Vt
       ·rw [qDf h4] at he ⊢;simp only [qCf] at he ⊢;by_cases h5:k.kind=5
        ·rw [qDt h5] at he ⊢;simp only [qCt] at he ⊢;rcases Bool.eq_false_or_eq_true (Wk.pc ⟨c,[]⟩ i).waiting with hw|hw
         ·rw [cT hw] at he;simp at he
         ·rw [cF hw] at he ⊢;cases hs : !decide ((da (Wk.pc ⟨c,[]⟩ i).led k.n).2=0) with
          | true=>rfl
          | false=>rfl
        ·rw [qDf h5] at he ⊢;simp only [qCf] at he ⊢;by_cases h6:k.kind=6
         ·exact Vu
         ·rw [qDf h6] at he ⊢;simp only [qCf] at he ⊢;cases h8:decide (k.kind=8) && (Wk.pc ⟨c,[]⟩ i).waiting with
          | true=>rw [h8] at he;simp at he
          | false =>
           exact VL
theorem C6 {r:Rs} (h:iB r=true):ay (gI r)=true:=by
 have hs:br r=true:=by unfold iB at h;simp only [qBa] at h;exact h.1.1.2
 unfold ay jt gI;simp only [h,Bool.true_and];have h1:zX r []=true:=by unfold zX;rw [hs];simp [xJ,iX,js,hs,fm]
 rw [h1];rfl
theorem G6 {l:List Rs} (h:CatOk l):gu (l.map gI)=true:=by
 have key:∀(m:List Rs) (o:Option ByteArray),(∀x∈m,iB x=true)->(∀i (h:i+1<m.length),jN (m[i]'(by omega)).name m[i+1].name=true)->(∀n,o=some n->∀x,m.head? = some x->jN n x.name=true)->mN o (m.map gI)=true:=by
  intro m;induction m with
  | nil=>intro _ _ _ _;rfl
  | cons x m ih =>
   intro o h1 h2 h3;rw [List.map_cons,eM,C6 (h1 x (by simp))];have e:Hf o (gI x).res.name=true:=by
    cases o with
    | none=>rfl
    | some n=>exact h3 n rfl x rfl
   rw [e];refine ih _ (fun y hy=>h1 y (by simp [hy])) (fun i hi=>?_) fun n hn y hy=>?_
   ·have:=h2 (i+1) (by simpa using hi);simpa using this
   ·cases m with
    | nil=>cases hy
    | cons z m =>
     have:=h2 0 (by simp);exact UR
 exact Vd
theorem BE:eu []=[]:=by
 apply List.eq_nil_iff_forall_not_mem.2
 intro x hx;rw [dd] at hx;cases hx
theorem Kv (l:List Rs):lC (l.map gI)=[]:=by
 induction l with
 | nil=>rfl
 | cons x l ih=>show eu []++lC (l.map gI)=[];rw [ih,BE];rfl
theorem G7 {l:List Rs} (h:CatOk l):di (l.map gI)=true/\aO (l.map gI)=[]:=by
 have e:aO (l.map gI)=[]:=by unfold aO;rw [Kv,BE]
 exact VI
theorem Fx {l:List Rs} (h:CatOk l):cG ⟨0,l.map gI,[]⟩=true:=by
 obtain ⟨h1,h2⟩:=G7 h;exact V3
theorem Ng {c:Cs} {k:Cm} (he:(cy c k).2.2=0):(cy c k).1.queues.length=c.queues.length:=by
 obtain ⟨hc,h0⟩:=iQ he;have h:=congrArg List.length (PW hc h0);rw [mi hc h0];unfold ef at h
 rwa [List.length_map,List.length_map] at h
theorem Nh (c:Cs) (k:Cm) (l:List Cm):pi c (k :: l)=pi (bif decide ((cy c k).2.2=0) then (cy c k).1 else c) l:=rfl
theorem Fy:∀(l:List Cm) (c:Cs),(pi c l).queues.length=c.queues.length
 | [],_=>rfl
 | k :: l,c=>by
  rw [Nh,Fy l];by_cases he:(cy c k).2.2=0
  ·rw [qDt he,qCt];exact Ng he
  ·rw [qDf he,qCf]
theorem Kw (c:Cs) (k:Cm) (l:List Cm):pi c (k :: l)=pi (bif decide ((cy c k).2.2=0) then (cy c k).1 else c) l:=rfl
theorem Tf (c:Cs) (ks:List Cm) {W:Cs} (hW:pi c ks=W):FSpec prog 55 [c.a 2,.one (.sl (Pk 2) ks)] [] [] (.v (W.a 2)) []:=by
 refine a7 func55 ?_;refine aY (fun c ρ a w hr=>bV (t:=1) hr rfl) (fun hl1=>?_);refine ao ?_;refine ab (fun y:Nat×Cs=>y.1<=ks.length/\pi y.2 (ks.drop y.1)=W) (fun y=>bP [2,4] [(1,.c (.sl (Pk 2) ks)),(2,.c (.ptr 2 0)),(4,.c (.ptr 4 0)),(5,.i y.1)] [(2,.box 32 (y.2.d 2)),(4,.box 32 [.sc (.int .i64 0),.sc (.slice none 0 0),.sc (.slice none 0 0)])]) (fun y=>ks.length-y.1) (0,c) ⟨Nat.zero_le _,hW⟩ aT ?_;clear hW c;rintro ⟨i,c⟩ ⟨hi,hs⟩;dsimp only at *
 by_cases hlt:i<ks.length
 ·obtain ⟨k,hk⟩:∃k,ks[i]? = some k:=⟨_,qGg hlt⟩;have ek:=qGs hk;rw [qDc hlt,ek,Kw] at hs;obtain ⟨R,hR⟩:=qGe (cy c k);have kD:=Ur 2 c k hR;rw [hR] at hs;by_cases h0:R.2.2=0
  ·exact UU
  ·exact UV
 ·exact Vm
def i6 (l:List Int):Cs:=pi ⟨0,(fb l).1.map gI,[]⟩ (fb l).2
theorem jr (l:List Int) (hl:l.length<=300) (hc:CatOk (fb l).1) {W:Cs} (hW:i6 l=W):FSpec prog 19 [.one (.sl km l)] [] [] (.v (W.a 2)) []:=by
 exact UL
theorem RD (d:Nat) (c:Cs) (p:Pr) {z:Int} (hi:bM p 0 c.procs=z) (hz:z<0):FSpec prog 30 [c.a d,p.a] [] [] (.tup [FI.a d,.one (.sc (.bool false))]) []:=by
 refine a7 func30 ?_;have kI:=xB d c.procs p hi;refine ao ?_
 (refine fE (qf []) ?_;exact af)
theorem gB (l:List Int):cG (i6 l)=true:=Cx (fb l).2 _ (Fx (jV l))
theorem qX (l:List Int):(0<(bI (i6 l).queues).length/\(bI (i6 l).queues).length<=8)/\∀r∈bI (i6 l).queues,1<=r.units/\r.units<=1000:=by
 have hv:=(aV.1 (gB l)).1;have h8:=(bi hv.tv).1;have h6:=(IZ (t:=⟨l,0⟩) rfl).1;have hL:(i6 l).queues.length=6:=by
  exact Vs
 exact UO
theorem RE {c:Cs} {k:Cm} (he:(cy c k).2.2=0) (h1:k.kind≠1) (h9:k.kind≠9):∃x∈c.procs,x.proc=k.proc:=by
 obtain ⟨_,h0⟩:=iQ he;unfold g8 at h0;cases hA:decide (1<=k.kind) && decide (k.kind<=9) with
 | false=>rw [hA] at h0;simp at h0
 | true =>
  rw [hA,qDf h1,qDf h9] at h0;simp only [Bool.not_true,qCf] at h0;by_cases hI:bM k.proc 0 c.procs<0
  ·rw [qDt hI] at h0;simp at h0
  ·obtain ⟨i,hi,_,hp⟩:=c7 (p:=k.proc) (l:=c.procs) (k:=0) (by omega);exact ⟨c.procs[i],List.getElem_mem hi,hp⟩
set_option maxRecDepth 100000
set_option maxHeartbeats 64000000
theorem C7 (d:Nat) {c:Cs} (h:cG c=true) {x:Pc} (hx:x∈c.procs):FSpec prog 30 [c.a d,x.proc.a] [] [] (.tup [x.a d,.one (.sc (.bool true))]) []:=by
 have hc:=(aV.1 h).1;obtain ⟨i,hi,e⟩:=List.mem_iff_getElem.1 hx;have hI:=xz hc hi;exact Vv
theorem Nl {c:Cs} {p:Pr} (h:∀x∈c.procs,x.proc≠p):bM p 0 c.procs<0:=by
 by_cases h0:0<=bM p 0 c.procs
 ·obtain ⟨i,hi,_,hp⟩:=c7 h0;exact absurd hp (h _ (List.getElem_mem hi))
 ·omega
theorem RF (d:Nat) {c:Cs} {p:Pr} (h:∀x∈c.procs,x.proc≠p):FSpec prog 30 [c.a d,p.a] [] [] (.tup [FI.a d,.one (.sc (.bool false))]) []:=RD d c p rfl (Nl h)
theorem I4 (d:Nat) (c:Cs) (hl:c.queues.length<=100000):FSpec prog 21 [c.a d] [] [] (.c (.sl dQ (bI c.queues))) []:=by
 refine a7 func21 ?_;refine ao ?_;refine cj 3 1000 63 dQ rfl rfl rfl ?_;refine ab (fun i=>i<=c.queues.length) (fun i=>bP [1,1000] [(1,.c (.ptr 1 0)),(3,.c (.own 1000)),(4,.i i)] [(1,.box 32 (c.d d)),(1000,.arr 63 dQ (bI (c.queues.take i)))]) (fun i=>c.queues.length-i) 0 (Nat.zero_le _) aT ?_;intro i hi;have hlen:(bI (c.queues.take i)).length=i:=by simp [bI,Nat.min_eq_left hi]
 repeat' (first|refine av ?_ ?_|(refine aa 8 rfl ?_;refine be (ae rfl rfl (aH rfl rfl) (aN [(c.queues[i]'(by omega)).res] rfl rfl rfl rfl) rfl aQ aQ) rfl rfl rfl ?_)|refine aq ?_|exact aw|refine ap fun hb=>?_)
 ·refine ⟨i+1,by omega,by omega,?_⟩;have e:bI (c.queues.take (i+1))=bI (c.queues.take i)++[(c.queues[i]'(by omega)).res]:=by
   unfold bI;exact Va
  rw [e];exact bo (qf [(1000,20)])
 ·have e:bI (c.queues.take i)=bI c.queues:=by rw [List.take_of_length_le (by omega)]
  rw [<-e];exact U4
theorem FD (l:List Int) (who:Int) (more:List Int):FSpec prog 6 [.one (.sl km l),lw who,.one (.sl km more)] [] [] (.b true) []:=by
 refine a7 func6 ?_;have kA:=jF;obtain ⟨bl,hbl⟩:∃b,decide (l.length<=300)=b:=⟨_,rfl⟩;have kL:=ka l hbl;obtain ⟨bm,hbm⟩:∃b,decide (more.length<=300)=b:=⟨_,rfl⟩;have kM:=ka more hbm;cases bl with
 | false =>
  exact UG
 | true =>
 cases bm with
 | false =>
  exact Vb
 | true =>
  have hl:=of_decide_eq_true hbl;have hm:=of_decide_eq_true hbm;obtain ⟨c,hW⟩:∃W,i6 l=W:=⟨_,rfl⟩;have kC:=jr l hl (jV l) hW;have hv:cG c=true:=hW▸gB l;obtain ⟨hq,hu⟩:=hW▸qX l;have h8:=(bi (aV.1 hv).1.tv).1;obtain ⟨p,hp⟩:=qGe (ce who);have kP:=j9 who;rw [hp] at kP;have kH:=jl c.queues p (by omega);have kQ:=I4 2 c (by omega);obtain ⟨R,hR⟩:=qGe (vF ⟨more,0⟩ (bI c.queues));have kR:=Nb ⟨more,0⟩ (bI c.queues) ⟨Nat.zero_le _,by show more.length<=_;omega⟩ hq hu hR;clear hR hu hp hW hbl hbm hl;obtain ⟨r,t⟩:=R;dsimp only at kR;obtain ⟨D,hD⟩:∃R,cy c ⟨2,p,r,⟨#[]⟩,0⟩=R:=⟨_,rfl⟩;have kD:=FJ 2 c _ hD;obtain ⟨F,hF⟩:∃R,cy D.1 ⟨3,p,Rq.zero,⟨#[]⟩,0⟩=R:=⟨_,rfl⟩;have kF:=FJ 2 D.1 _ hF;by_cases h0:D.2.2=0
  case neg =>
   have hz:=(CQ (k:=⟨2,p,r,⟨#[]⟩,0⟩) (c:=c) (by rw [hD];exact h0)).1;rw [hD] at hz;obtain ⟨X,E,e⟩:=D;dsimp only at *
   subst hz;have kN:=RF 2 (c:=LA) (p:=p) (fun x hx=>absurd hx (by simp [LA]));clear hD hF hv;repeat' (first|refine av ?_ ?_|(refine aa 9 rfl ?_;first|(refine cB [] kL ?_)|(refine cB [] kM ?_)|(refine cC [] kC ?_)|(refine cB [] kP ?_)|(refine cC [] kH ?_)|(refine cC [] kQ ?_)|(refine cH (qf [(0,42)]) kR ?_)|(refine cC [] kD ?_)|(refine cC [] kN ?_)|(refine cC [] kF ?_)|(refine cB [] kA ?_))|refine aq ?_|exact aw|(refine ap fun hb=>?_;first|(exact absurd hb h0)|skip)|exact bg|fail)
  obtain ⟨x0,hx0,hp0⟩:=RE (c:=c) (k:=⟨2,p,r,⟨#[]⟩,0⟩) (by rw [hD];exact h0) (fun h=>by cases h) (fun h=>by cases h);obtain ⟨_,hd0⟩:=iQ (c:=c) (k:=⟨2,p,r,⟨#[]⟩,0⟩) (by rw [hD];exact h0);obtain ⟨x,hx,hg⟩:=PV hv hd0 hx0 (.inr (.inl rfl));have hX:=(fI (c:=c) (k:=⟨2,p,r,⟨#[]⟩,0⟩) (by rw [hD];exact h0)).2;have hxp:x.proc=p:=hg.proc.trans hp0;have hx':x∈(cy c ⟨2,p,r,⟨#[]⟩,0⟩).1.procs:=by rw [mi hv hd0];exact hx
  obtain ⟨c1,c2⟩:=Aj (c:=c) (k:=⟨2,p,r,⟨#[]⟩,0⟩) (k':=⟨3,p,Rq.zero,⟨#[]⟩,0⟩) rfl rfl rfl (by rw [hD];exact h0) hx' hxp;rw [hD] at c1 c2 hx' hX;rw [hF] at c1 c2;clear hx hg hd0 hx0 hp0 x0 hD hv;obtain ⟨X,E,e⟩:=D;obtain ⟨Y,G,f⟩:=F;dsimp only at *
  obtain rfl:e=0:=h0;have kN:=C7 2 hX hx';rw [hxp] at kN;cases hw:x.waiting with
  | false =>
   obtain rfl:f=14:=c1 hw;clear c1 c2 hF;repeat' (first|refine av ?_ ?_|(refine aa 9 rfl ?_;first|(refine cB [] kL ?_)|(refine cB [] kM ?_)|(refine cC [] kC ?_)|(refine cB [] kP ?_)|(refine cC [] kH ?_)|(refine cC [] kQ ?_)|(refine cH (qf [(0,42)]) kR ?_)|(refine cC [] kD ?_)|(refine cC [] kN ?_)|(refine cC [] kF ?_)|(refine cB [] kA ?_))|refine aq ?_|exact aw|(refine ap fun hb=>?_;first|(cases hw.symm.trans hb;done)|skip)|exact bg|fail)
  | true =>
   obtain ⟨rfl,⟨y,hy,hyp,hyw⟩,ho,hc⟩:=c2 hw;have hY:=(fI (c:=X) (k:=⟨3,p,Rq.zero,⟨#[]⟩,0⟩) (by rw [hF])).2;rw [hF] at hY;dsimp only at hY;have kO:=C7 2 hY hy;rw [hyp] at kO;have h8':=(bi (aV.1 hY).1.tv).1;have kI:=jl Y.queues p (by omega);rw [ho] at kI;have kJ:=Cq Y.queues p (by omega);rw [hc] at kJ;have kS:=ml (db c.queues p) (db c.queues p);rw [qDt rfl] at kS;clear c1 c2 hF;repeat' (first|refine av ?_ ?_|(refine aa 9 rfl ?_;first|(refine cB [] kL ?_)|(refine cB [] kM ?_)|(refine cC [] kC ?_)|(refine cB [] kP ?_)|(refine cC [] kH ?_)|(refine cC [] kQ ?_)|(refine cH (qf [(0,42)]) kR ?_)|(refine cC [] kD ?_)|(refine cC [] kN ?_)|(refine cC [] kF ?_)|(refine cC [] kO ?_)|(refine cC [] kI ?_)|(refine cC [] kJ ?_)|(refine cB [] kS ?_)|(refine cB [] kA ?_))|refine aq ?_|exact aw|(refine ap fun hb=>?_;first|(cases hw.symm.trans hb;done)|(cases hyw.symm.trans hb;done)|skip)|exact bg|fail)
end Go.Proofs.YthpgjkjgkhjjlaaGreatDoor
