/- Part E01 of a proof of statements of chapter 15 (no condition). -/
import Derived.Test.YthpgjkjgkhjjlaaGreatDoorK42
set_option linter.unusedVariables false
set_option linter.unusedSimpArgs false
set_option maxRecDepth 100000
set_option maxHeartbeats 64000000
namespace Go.Proofs.YthpgjkjgkhjjlaaGreatDoor
open Go.RowKit Go.Proofs.Tryz
def pi:Cs->List Cm->Cs
 | c,[]=>c
 | c,k :: l=>pi (bif decide ((cy c k).2.2=0) then (cy c k).1 else c) l
theorem Cx:∀(l:List Cm) (c:Cs),cG c=true->cG (pi c l)=true
 | [],_,h=>h
 | k :: l,c,h=>by
  show cG (pi (bif decide ((cy c k).2.2=0) then (cy c k).1 else c) l)=true;by_cases he:(cy c k).2.2=0
  ·exact V8
  ·rw [qDf he];exact Cx l c h
theorem xz {c:Cs} (h:CI c) {i:Nat} (hi:i<c.procs.length):bM c.procs[i].proc 0 c.procs=(i:Int):=by
 have h0:0<=bM c.procs[i].proc 0 c.procs:=yR.2 (List.mem_map.2 ⟨_,List.getElem_mem hi,rfl⟩);obtain ⟨j,hj,e,hp⟩:=c7 h0;by_cases hij:j=i
 ·rw [e,hij];omega
 ·exact absurd hp (np h hj hi hij)
theorem mi {c:Cs} {k:Cm} (h:cG c=true) (h0:(g8 ⟨c,[]⟩ k).2=0):cy c k=((g8 ⟨c,[]⟩ k).1.c,(g8 ⟨c,[]⟩ k).1.ev,0):=by
 unfold cy;rw [h,qDt h0];rfl
theorem iQ {c:Cs} {k:Cm} (h:(cy c k).2.2=0):cG c=true/\(g8 ⟨c,[]⟩ k).2=0:=by
 have hc:=(fI h).1;refine ⟨hc,?_⟩;unfold cy at h;rw [hc] at h;by_cases h0:(g8 ⟨c,[]⟩ k).2=0
 ·exact h0
 ·rw [qDf h0] at h;exact h
theorem CQ {c:Cs} {k:Cm} (h:(cy c k).2.2≠0):(cy c k).1=LA/\(cy c k).2.1=[]:=by
 unfold cy at h ⊢;cases hc:cG c with
 | false=>exact ⟨rfl,rfl⟩
 | true =>
  rw [hc] at h;by_cases h0:(g8 ⟨c,[]⟩ k).2=0
  ·rw [qDt h0] at h;exact absurd rfl h
  ·rw [qDf h0];exact ⟨rfl,rfl⟩
theorem CR {c:Cs} {k:Cm} (h:CI c) {i:Nat} (hi:i<c.procs.length) (hp:k.proc=c.procs[i].proc) :
  (k.kind=2->g8 ⟨c,[]⟩ k=bX ⟨c,[]⟩ i k.req)/\
  (k.kind=3->g8 ⟨c,[]⟩ k=bif !(Wk.pc ⟨c,[]⟩ i).waiting then (⟨c,[]⟩,14) else (bw (aZ (ai ⟨c,[]⟩ i) i),0))/\
  (k.kind=6->g8 ⟨c,[]⟩ k=cu ⟨c,[]⟩ i k.n)/\
  (k.kind=7->g8 ⟨c,[]⟩ k=(gT ⟨c,[]⟩ i,0)):=by
 have e:bM k.proc 0 c.procs=(i:Int):=by rw [hp];exact xz h hi
 have e0:decide (bM k.proc 0 (Wk.mk c []).c.procs<0)=false:=qDf (by show ¬(bM k.proc 0 c.procs<0);omega);have e1:(bM k.proc 0 (Wk.mk c []).c.procs).toNat=i:=by show (bM k.proc 0 c.procs).toNat=i;omega
 refine ⟨?_,?_,?_,?_⟩ <;> intro hk <;> unfold g8 <;> rw [e0,e1,hk] <;> rfl
theorem run_holds {c:Cs} (h:CI c) {x:Pc} (hx:x∈c.procs) (hw:x.waiting=false):dx x.led=db c.queues x.proc/\bW x.proc c.queues=[]:=by
 have hi:=h.inv x hx;exact (xv h.tv fun n hn=>(hi.stat.hf n hn).1).2 (hi.run hw).2.2
def i5 (w:Wk) (i:Nat):Wk:=bw (aZ (ai (w.note 4 (w.pc i).proc) i) i)
theorem d5 (n:Nat) (w:Wk):cI (n+1) w=bif decide (cA w<0) then w else cI n (i5 w (cA w).toNat):=rfl
theorem qu {w:Wk} (h:CI w.c) (he:0<=cA w):CI (i5 w (cA w).toNat).c/\ct (i5 w (cA w).toNat).c.procs+1<=ct w.c.procs/\Kp w (i5 w (cA w).toNat):=by
 obtain ⟨hi,hl⟩:=(gF w).2 he;generalize (cA w).toNat=i at *
 have hc0:CI (w.note 4 (w.pc i).proc).c:=h;have hw0:((w.note 4 (w.pc i).proc).pc i).waiting=true:=by rw [bh (w:=w.note 4 (w.pc i).proc) hi];exact hl.1
 obtain ⟨k1,k2,k3,k4,_⟩:=b9 hc0 hi hw0;have hi2:i<(ai (w.note 4 (w.pc i).proc) i).c.procs.length:=by rw [k3.len];exact hi
 have hrun:((ai (w.note 4 (w.pc i).proc) i).pc i).waiting=false:=by rw [bh hi2];simp [k4]
 obtain ⟨n1,n2,n3⟩:=eL k1 hi2 hrun;obtain ⟨q1,_,q3,q4,q5,q6,_,q8⟩:=ir n1;have k2':ct (ai (w.note 4 (w.pc i).proc) i).c.procs+1=ct w.c.procs:=k2;have hk:=(k3.trans n2).trans (⟨q6,q4,q3,q8⟩:Kp _ (bw (aZ (ai (w.note 4 (w.pc i).proc) i) i)));exact UX
theorem Fc {w:Wk} {i:Nat} (h:CI w.c) (hi:i<w.c.procs.length) (hw:(w.pc i).waiting=true):KG w.c.procs (ai w i).c.procs:=by
 obtain ⟨_,_,_,k4,_⟩:=b9 h hi hw;rw [k4];exact KG.set hi (GrP.led (by rw [bh hi]) (by rw [bh hi]))
theorem IJ {w:Wk} {i:Nat} (h:CI w.c) (hi:i<w.c.procs.length) (hw:(w.pc i).waiting=true):KG w.c.procs (bw (aZ (ai w i) i)).c.procs:=by
 obtain ⟨k1,_,k3,k4,_⟩:=b9 h hi hw;have hi2:i<(ai w i).c.procs.length:=by rw [k3.len];exact hi
 obtain ⟨n1,_,_⟩:=eL k1 hi2 (by rw [bh hi2];simp [k4]);exact ((Fc h hi hw).trans (Cw hi2)).trans (jp n1).gr
theorem O2 {w:Wk} (h:CI w.c) (he:0<=cA w):KG w.c.procs (i5 w (cA w).toNat).c.procs:=by
 obtain ⟨hi,hl⟩:=(gF w).2 he;generalize (cA w).toNat=i at *
 exact IJ (w:=w.note 4 (w.pc i).proc) h hi (by rw [bh (w:=w.note 4 (w.pc i).proc) hi];exact hl.1)
theorem IK:∀(n:Nat) (w:Wk),CI w.c->KG w.c.procs (cI n w).c.procs
 | 0,w,_=>KG.refl _
 | n+1,w,h=>by
  rw [d5];by_cases he:cA w<0
  ·rw [qDt he];exact KG.refl _
  ·rw [qDf he,qCf];exact (O2 h (by omega)).trans (IK n _ (qu h (by omega)).1)
theorem PV {c:Cs} {k:Cm} (h:cG c=true) (he:(g8 ⟨c,[]⟩ k).2=0) {x:Pc} (hx:x∈c.procs) (hk:k.proc≠x.proc\/k.kind=2\/k.kind=3\/k.kind=9):∃y∈(g8 ⟨c,[]⟩ k).1.c.procs,GrP x y:=by
 obtain ⟨hci,hun⟩:=aV.1 h;have all:∀w:Wk,KG c.procs w.c.procs->∃y∈w.c.procs,GrP x y:=fun w hg=>hg x hx;unfold g8 at he ⊢;cases hA:decide (1<=k.kind) && decide (k.kind<=9) with
 | false=>rw [hA] at he;simp at he
 | true =>
  rw [hA] at he;simp only [Bool.not_true,qCf] at he ⊢;by_cases h1:k.kind=1
  ·exact VD
  ·rw [qDf h1] at he ⊢;simp only [qCf] at he ⊢;by_cases h9:k.kind=9
   ·rw [qDt h9] at he ⊢;simp only [qCt] at he ⊢;unfold gi at he ⊢;cases hB:decide (0<=k.n) && decide (k.n<=1000) with
    | false=>rw [hB] at he;simp at he
    | true =>
     rw [hB] at he;simp only [Bool.not_true,qCf] at he ⊢;simp only [qBa,decide_eq_true_eq] at hB;by_cases hm:1073741824-k.n<c.now
     ·exact Wj
     ·exact Wl
   ·rw [qDf h9] at he ⊢;simp only [qCf] at he ⊢;by_cases hI:bM k.proc 0 c.procs<0
    ·exact VG
    ·rw [qDf hI] at he ⊢;simp only [qCf] at he ⊢;obtain ⟨i,hi,e,hip⟩:=c7 (p:=k.proc) (l:=c.procs) (k:=0) (by omega);have ei:(bM k.proc 0 c.procs).toNat=i:=by rw [e];omega
     have hpc:=bh (w:=⟨c,[]⟩) hi;have hpp:(Wk.pc ⟨c,[]⟩ i).proc=k.proc:=by rw [hpc];exact hip
     rw [ei] at he ⊢;by_cases h2:k.kind=2
     ·rw [qDt h2] at he ⊢;simp only [qCt] at he ⊢;exact all _ (jD hci hi he).2.2.2.2.2.1
     ·rw [qDf h2] at he ⊢;simp only [qCf] at he ⊢;by_cases h3:k.kind=3
      ·rw [qDt h3] at he ⊢;simp only [qCt] at he ⊢;cases hw:(Wk.pc ⟨c,[]⟩ i).waiting with
       | false=>rw [hw] at he;simp at he
       | true =>
        simp only [Bool.not_true,qCf];exact all _ (IJ (w:=⟨c,[]⟩) hci hi hw)
      ·rw [qDf h3] at he ⊢;simp only [qCf] at he ⊢;have hne:x.proc≠(Wk.pc ⟨c,[]⟩ i).proc:=by
        rw [hpp];intro e2;rcases hk with hk|hk|hk|hk
        ·exact hk e2.symm
        ·exact h2 hk
        ·exact h3 hk
        ·exact h9 hk
       by_cases h4:k.kind=4
       ·rw [qDt h4] at he ⊢;simp only [qCt] at he ⊢;exact (lZ hci hi he).2.2.2 x hx hne
       ·rw [qDf h4] at he ⊢;simp only [qCf] at he ⊢;by_cases h5:k.kind=5
        ·rw [qDt h5] at he ⊢;simp only [qCt] at he ⊢;rcases Bool.eq_false_or_eq_true (Wk.pc ⟨c,[]⟩ i).waiting with hw|hw
         ·rw [cT hw] at he;simp at he
         ·rw [cF hw] at he ⊢;by_cases hs:(da (Wk.pc ⟨c,[]⟩ i).led k.n).2=0
          ·rw [qDt hs];simp only [Bool.not_true,qCf];have hi2:i<(Wk.setP ⟨c,[]⟩ i { Wk.pc ⟨c,[]⟩ i with led:=(da (Wk.pc ⟨c,[]⟩ i).led k.n).1 }).c.procs.length:=by
            show i<(c.procs.set i _).length;simpa using hi
           exact KO.then (KO.set hi (by rw [<-hpc]) _) (Cw hi2) x hx hne
          ·exact V6
        ·rw [qDf h5] at he ⊢;simp only [qCf] at he ⊢;by_cases h6:k.kind=6
         ·rw [qDt h6] at he ⊢;simp only [qCt] at he ⊢;exact (iN hci hi he).2.2.2.1 x hx hne
         ·rw [qDf h6] at he ⊢;simp only [qCf] at he ⊢;cases h8:decide (k.kind=8) && (Wk.pc ⟨c,[]⟩ i).waiting with
          | true=>rw [h8] at he;simp at he
          | false =>
           simp only [qCf];exact (xu (w:=⟨c,[]⟩) hci hi).2.2.2.2.2.1 x hx hne
structure From (c:Cs) (p:Pr) (E:List En) (S:List Sv):Prop where
 v:cG c=true
 ex:∃x∈c.procs,x.proc=p/\(∃m,x.led.entries=E++m)/\x.led.saves=S
theorem From.step {c:Cs} {p:Pr} {E:List En} {S:List Sv} (h:From c p E S) {k:Cm} (he:(cy c k).2.2=0) (hk:k.proc≠p\/k.kind=2\/k.kind=3\/k.kind=9):From (cy c k).1 p E S:=by
 obtain ⟨x,hx,hp,⟨m,hm⟩,hs⟩:=h.ex;obtain ⟨_,h0⟩:=iQ he;obtain ⟨y,hy,hg⟩:=PV h.v h0 hx (by rw [hp];exact hk);refine ⟨(fI he).2,y,?_,hg.proc.trans hp,?_,hg.svs.trans hs⟩
 ·rw [mi h.v h0];exact hy
 ·obtain ⟨m',hm'⟩:=hg.ents;exact ⟨m++m',by rw [hm',hm,List.append_assoc]⟩
theorem vz {n a:Int}:∀{l:List Sv} {k:Nat},(∀s∈l,s.label≠n)->bb n k (l++[⟨n,a⟩])=((k+l.length:Nat):Int)
 | [],k,_=>by simp [bb]
 | s :: l,k,h=>by
  have h1:s.label≠n:=h s (by simp);show (bif decide (s.label=n) then (k:Int) else bb n (k+1) (l++[⟨n,a⟩]))=_;rw [qDf h1,qCf,vz fun s hs=>h s (by simp [hs])];simp only [List.length_cons];omega
theorem Ke {g:Lg} {E m:List En} {S:List Sv} {n:Int} (hg:rT g=true) (he:g.entries=E++m) (hs:g.saves=S++[⟨n,E.length⟩]):(cQ g n).2.2=0/\(cN g n).entries=E:=by
 have hld:=eK.1 hg;have hn:1<=n:=(hld.svs.lab ⟨n,E.length⟩ (by rw [hs];simp)).1.1;have hnd:=hld.svs.nd;rw [hs,List.map_append,List.nodup_append] at hnd;have hf:bb n 0 g.saves=(S.length:Int):=by
  rw [hs,vz fun s hs' e=>hnd.2.2 s.label (List.mem_map.2 ⟨s,hs',rfl⟩) n (by simp) e];simp
 constructor
 ·unfold cQ;rw [hg,hf,qDf (show ¬((S.length:Int)<0) by omega),Bool.and_false];rfl
 ·unfold cN;rw [qDf (show ¬n=0 by omega),qCf];show g.entries.take ((g.saves.getD (bb n 0 g.saves).toNat ⟨0,0⟩).at_).toNat=E;rw [hf,hs,he];simp
theorem pn {g g':Lg} (h:g.entries=g'.entries):dx g=dx g':=by unfold dx;rw [h]
theorem Kf {c:Cs} {k:Cm} (hk:k.kind=5) (he:(cy c k).2.2=0):∃E S,From (cy c k).1 k.proc E (S++[⟨k.n,E.length⟩])/\(∀s,dx ⟨E,s⟩=db (cy c k).1.queues k.proc):=by
 obtain ⟨hc,hd⟩:=fI he;obtain ⟨hci,_⟩:=aV.1 hc;obtain ⟨hdi,_⟩:=aV.1 hd;obtain ⟨_,h0⟩:=iQ he;have hidx:0<=bM k.proc 0 c.procs:=by
  refine Classical.byContradiction fun hn=>?_;have hn':decide (bM k.proc 0 (Wk.mk c []).c.procs<0)=true:=qDt (by show bM k.proc 0 c.procs<0;omega);unfold g8 at h0;rw [hk,hn'] at h0;exact absurd (show (10:Int)=0 from h0) (by decide)
 obtain ⟨i,hi,e,hip⟩:=c7 hidx;have e0:decide (bM k.proc 0 (Wk.mk c []).c.procs<0)=false:=qDf (by show ¬(bM k.proc 0 c.procs<0);omega);have e1:(bM k.proc 0 (Wk.mk c []).c.procs).toNat=i:=by show (bM k.proc 0 c.procs).toNat=i;omega
 have ed:g8 ⟨c,[]⟩ k=bif (Wk.pc ⟨c,[]⟩ i).waiting then (⟨c,[]⟩,14) else bif !decide ((da (Wk.pc ⟨c,[]⟩ i).led k.n).2=0) then (⟨c,[]⟩,(da (Wk.pc ⟨c,[]⟩ i).led k.n).2) else (aZ (Wk.setP ⟨c,[]⟩ i { Wk.pc ⟨c,[]⟩ i with led:=(da (Wk.pc ⟨c,[]⟩ i).led k.n).1 }) i,0):=by
  unfold g8;rw [e0,e1,hk];rfl
 have hpc:=bh (w:=⟨c,[]⟩) hi;have e6:=mi hc h0;rw [ed] at h0 e6;cases hw:(Wk.pc ⟨c,[]⟩ i).waiting with
 | true=>rw [hw] at h0;exact absurd (show (14:Int)=0 from h0) (by decide)
 | false =>
  rw [hw] at h0 e6;by_cases hs:(da (Wk.pc ⟨c,[]⟩ i).led k.n).2=0
  ·rw [qDt hs] at e6;simp only [Bool.not_true,qCf] at e6;obtain ⟨_,hse,_⟩:=HY hs;rw [hse] at e6;have hi2:i<(c.procs.set i { Wk.pc ⟨c,[]⟩ i with led:=⟨(Wk.pc ⟨c,[]⟩ i).led.entries,(Wk.pc ⟨c,[]⟩ i).led.saves++[⟨k.n,(Wk.pc ⟨c,[]⟩ i).led.entries.length⟩]⟩ }).length:=by simpa using hi
   have hy':(⟨(Wk.pc ⟨c,[]⟩ i).proc,(Wk.pc ⟨c,[]⟩ i).cost,⟨(Wk.pc ⟨c,[]⟩ i).led.entries,(Wk.pc ⟨c,[]⟩ i).led.saves++[⟨k.n,(Wk.pc ⟨c,[]⟩ i).led.entries.length⟩]⟩,(Wk.pc ⟨c,[]⟩ i).waiting,(Wk.pc ⟨c,[]⟩ i).req,(Wk.pc ⟨c,[]⟩ i).since,bc (Wk.pc ⟨c,[]⟩ i).gen⟩:Pc)∈(cy c k).1.procs:=by
    rw [e6];unfold aZ;rw [fa hi,fP];exact List.mem_iff_getElem.2 ⟨i,by show i<(c.procs.set i _).length;simpa using hi,by show (c.procs.set i _)[i]'_=_;simp⟩
   have hpp:(Wk.pc ⟨c,[]⟩ i).proc=k.proc:=by rw [hpc];exact hip
   refine ⟨(Wk.pc ⟨c,[]⟩ i).led.entries,(Wk.pc ⟨c,[]⟩ i).led.saves,⟨hd,_,hy',hpp,⟨[],by simp⟩,rfl⟩,fun s=>?_⟩;have hb:=(run_holds hdi hy' hw).1;refine Eq.trans (pn ?_) (hb.trans ?_)
   ·rfl
   ·show db _ (Wk.pc ⟨c,[]⟩ i).proc=_;rw [hpp]
  ·rw [qDf hs] at h0;exact absurd h0 hs
theorem Fd {c:Cs} {k:Cm} {E:List En} {S:List Sv} (hk:k.kind=6) (h:From c k.proc E (S++[⟨k.n,E.length⟩])) :
  (cy c k).2.2=0/\(∃y∈(cy c k).1.procs,y.proc=k.proc/\y.waiting=false)/\∀s,db (cy c k).1.queues k.proc=dx ⟨E,s⟩:=by
 obtain ⟨hci,_⟩:=aV.1 h.v;obtain ⟨x,hx,hp,⟨m,hm⟩,hs⟩:=h.ex;obtain ⟨i,hi,ei⟩:=List.mem_iff_getElem.1 hx;have hpc:=bh (w:=⟨c,[]⟩) hi;have ed:=(CR hci hi (k:=k) (by rw [ei,hp])).2.2.1 hk;obtain ⟨u1,u2⟩:=Ke (eK.2 (hci.inv x hx).stat.led) hm hs;have hl:(Wk.pc ⟨c,[]⟩ i).led=x.led:=by rw [hpc,<-ei]
 have hr:(cu ⟨c,[]⟩ i k.n).2=0:=by
  unfold cu;rw [hl,u1];rfl
 obtain ⟨_,_,_,_,y,hy,hyp,hyw,hyl⟩:=iN (w:=⟨c,[]⟩) hci hi hr;have e6:=mi (k:=k) h.v (by rw [ed];exact hr);rw [ed] at e6;have h0:(cy c k).2.2=0:=by rw [e6]
 have hd:=(fI h0).2;have hpp:(Wk.pc ⟨c,[]⟩ i).proc=k.proc:=by rw [hpc,<-hp,<-ei]
 have hy':y∈(cy c k).1.procs:=by rw [e6];exact hy
 refine ⟨h0,⟨y,hy',hyp.trans hpp,hyw⟩,fun s=>?_⟩;have hb:=(run_holds (aV.1 hd).1 hy' hyw).1;rw [hyp,hpp] at hb;rw [<-hb];refine pn ?_;rw [hyl,hl,u2]
theorem PW {c:Cs} {k:Cm} (h:cG c=true) (he:(g8 ⟨c,[]⟩ k).2=0):ef (g8 ⟨c,[]⟩ k).1.c.queues=ef c.queues:=by
 obtain ⟨hci,hun⟩:=aV.1 h;unfold g8 at he ⊢;cases hA:decide (1<=k.kind) && decide (k.kind<=9) with
 | false=>rw [hA] at he;simp at he
 | true =>
  rw [hA] at he;simp only [Bool.not_true,qCf] at he ⊢;by_cases h1:k.kind=1
  ·exact VE
  ·rw [qDf h1] at he ⊢;simp only [qCf] at he ⊢;by_cases h9:k.kind=9
   ·rw [qDt h9] at he ⊢;simp only [qCt] at he ⊢;unfold gi at he ⊢;cases hB:decide (0<=k.n) && decide (k.n<=1000) with
    | false=>rw [hB] at he;simp at he
    | true =>
     rw [hB] at he;simp only [Bool.not_true,qCf] at he ⊢;simp only [qBa,decide_eq_true_eq] at hB;by_cases hm:1073741824-k.n<c.now
     ·exact Wj
     ·rw [qDf hm];simp only [qCf];have gen:∀(n:Nat) (w:Wk),CI w.c->ef (cI n w).c.queues=ef w.c.queues:=by
       intro n;induction n with
       | zero=>intro w _;rfl
       | succ n ih =>
        intro w hw;rw [d5];by_cases he:cA w<0
        ·rw [qDt he];rfl
        ·exact Vn
      exact Vi
   ·rw [qDf h9] at he ⊢;simp only [qCf] at he ⊢;by_cases hI:bM k.proc 0 c.procs<0
    ·exact VG
    ·rw [qDf hI] at he ⊢;simp only [qCf] at he ⊢;obtain ⟨i,hi,e,hip⟩:=c7 (p:=k.proc) (l:=c.procs) (k:=0) (by omega);have ei:(bM k.proc 0 c.procs).toNat=i:=by rw [e];omega
     rw [ei] at he ⊢;by_cases h2:k.kind=2
     ·exact Vq
     ·rw [qDf h2] at he ⊢;simp only [qCf] at he ⊢;by_cases h3:k.kind=3
      ·rw [qDt h3] at he ⊢;simp only [qCt] at he ⊢;cases hw:(Wk.pc ⟨c,[]⟩ i).waiting with
       | false=>rw [hw] at he;simp at he
       | true =>
        simp only [Bool.not_true,qCf];obtain ⟨k1,_,k3,k4,_⟩:=b9 (w:=⟨c,[]⟩) hci hi hw;have hi2:i<(ai ⟨c,[]⟩ i).c.procs.length:=by rw [k3.len];exact hi
        obtain ⟨n1,n2,_⟩:=eL k1 hi2 (by rw [bh hi2];simp [k4]);obtain ⟨_,_,q3⟩:=gE n1;exact ((k3.trans n2).trans q3).nm
      ·rw [qDf h3] at he ⊢;simp only [qCf] at he ⊢;by_cases h4:k.kind=4
       ·exact Vt
       ·rw [qDf h4] at he ⊢;simp only [qCf] at he ⊢;by_cases h5:k.kind=5
        ·rw [qDt h5] at he ⊢;simp only [qCt] at he ⊢;rcases Bool.eq_false_or_eq_true (Wk.pc ⟨c,[]⟩ i).waiting with hw|hw
         ·rw [cT hw] at he;simp at he
         ·rw [cF hw] at he ⊢;cases hs : !decide ((da (Wk.pc ⟨c,[]⟩ i).led k.n).2=0) with
          | true=>rfl
          | false=>rfl
        ·rw [qDf h5] at he ⊢;simp only [qCf] at he ⊢;by_cases h6:k.kind=6
         ·exact Vu
         ·rw [qDf h6] at he ⊢;simp only [qCf] at he ⊢;cases h8:decide (k.kind=8) && (Wk.pc ⟨c,[]⟩ i).waiting with
          | true=>rw [h8] at he;simp at he
          | false =>
           exact VL
theorem C6 {r:Rs} (h:iB r=true):ay (gI r)=true:=by
 have hs:br r=true:=by unfold iB at h;simp only [qBa] at h;exact h.1.1.2
 unfold ay jt gI;simp only [h,Bool.true_and];have h1:zX r []=true:=by unfold zX;rw [hs];simp [xJ,iX,js,hs,fm]
 rw [h1];rfl
theorem G6 {l:List Rs} (h:CatOk l):gu (l.map gI)=true:=by
 have key:∀(m:List Rs) (o:Option ByteArray),(∀x∈m,iB x=true)->(∀i (h:i+1<m.length),jN (m[i]'(by omega)).name m[i+1].name=true)->(∀n,o=some n->∀x,m.head? = some x->jN n x.name=true)->mN o (m.map gI)=true:=by
  intro m;induction m with
  | nil=>intro _ _ _ _;rfl
  | cons x m ih =>
   intro o h1 h2 h3;rw [List.map_cons,eM,C6 (h1 x (by simp))];have e:Hf o (gI x).res.name=true:=by
    cases o with
    | none=>rfl
    | some n=>exact h3 n rfl x rfl
   rw [e];refine ih _ (fun y hy=>h1 y (by simp [hy])) (fun i hi=>?_) fun n hn y hy=>?_
   ·have:=h2 (i+1) (by simpa using hi);simpa using this
   ·cases m with
    | nil=>cases hy
    | cons z m =>
     have:=h2 0 (by simp);exact UR
 exact Vd
theorem BE:eu []=[]:=by
 apply List.eq_nil_iff_forall_not_mem.2
 intro x hx;rw [dd] at hx;cases hx
theorem Kv (l:List Rs):lC (l.map gI)=[]:=by
 induction l with
 | nil=>rfl
 | cons x l ih=>show eu []++lC (l.map gI)=[];rw [ih,BE];rfl
theorem G7 {l:List Rs} (h:CatOk l):di (l.map gI)=true/\aO (l.map gI)=[]:=by
 have e:aO (l.map gI)=[]:=by unfold aO;rw [Kv,BE]
 exact VI
theorem Fx {l:List Rs} (h:CatOk l):cG ⟨0,l.map gI,[]⟩=true:=by
 obtain ⟨h1,h2⟩:=G7 h;exact V3
theorem Ng {c:Cs} {k:Cm} (he:(cy c k).2.2=0):(cy c k).1.queues.length=c.queues.length:=by
 obtain ⟨hc,h0⟩:=iQ he;have h:=congrArg List.length (PW hc h0);rw [mi hc h0];unfold ef at h
 rwa [List.length_map,List.length_map] at h
theorem Nh (c:Cs) (k:Cm) (l:List Cm):pi c (k :: l)=pi (bif decide ((cy c k).2.2=0) then (cy c k).1 else c) l:=rfl
theorem Fy:∀(l:List Cm) (c:Cs),(pi c l).queues.length=c.queues.length
 | [],_=>rfl
 | k :: l,c=>by
  rw [Nh,Fy l];by_cases he:(cy c k).2.2=0
  ·rw [qDt he,qCt];exact Ng he
  ·rw [qDf he,qCf]
theorem Kw (c:Cs) (k:Cm) (l:List Cm):pi c (k :: l)=pi (bif decide ((cy c k).2.2=0) then (cy c k).1 else c) l:=rfl
theorem Tf (c:Cs) (ks:List Cm) {W:Cs} (hW:pi c ks=W):FSpec prog 55 [c.a 2,.one (.sl (Pk 2) ks)] [] [] (.v (W.a 2)) []:=by
 refine a7 func55 ?_;refine aY (fun c ρ a w hr=>bV (t:=1) hr rfl) (fun hl1=>?_);refine ao ?_;refine ab (fun y:Nat×Cs=>y.1<=ks.length/\pi y.2 (ks.drop y.1)=W) (fun y=>bP [2,4] [(1,.c (.sl (Pk 2) ks)),(2,.c (.ptr 2 0)),(4,.c (.ptr 4 0)),(5,.i y.1)] [(2,.box 32 (y.2.d 2)),(4,.box 32 [.sc (.int .i64 0),.sc (.slice none 0 0),.sc (.slice none 0 0)])]) (fun y=>ks.length-y.1) (0,c) ⟨Nat.zero_le _,hW⟩ aT ?_;clear hW c;rintro ⟨i,c⟩ ⟨hi,hs⟩;dsimp only at *
 by_cases hlt:i<ks.length
 ·obtain ⟨k,hk⟩:∃k,ks[i]? = some k:=⟨_,qGg hlt⟩;have ek:=qGs hk;rw [qDc hlt,ek,Kw] at hs;obtain ⟨R,hR⟩:=qGe (cy c k);have kD:=Ur 2 c k hR;rw [hR] at hs;by_cases h0:R.2.2=0
  ·exact UU
  ·exact UV
 ·exact Vm
def i6 (l:List Int):Cs:=pi ⟨0,(fb l).1.map gI,[]⟩ (fb l).2
theorem jr (l:List Int) (hl:l.length<=300) (hc:CatOk (fb l).1) {W:Cs} (hW:i6 l=W):FSpec prog 19 [.one (.sl km l)] [] [] (.v (W.a 2)) []:=by
 exact UL
theorem gB (l:List Int):cG (i6 l)=true:=Cx (fb l).2 _ (Fx (jV l))
theorem qX (l:List Int):(0<(bI (i6 l).queues).length/\(bI (i6 l).queues).length<=8)/\∀r∈bI (i6 l).queues,1<=r.units/\r.units<=1000:=by
 have hv:=(aV.1 (gB l)).1;have h8:=(bi hv.tv).1;have h6:=(IZ (t:=⟨l,0⟩) rfl).1;have hL:(i6 l).queues.length=6:=by
  exact Vs
 exact UO
set_option maxRecDepth 100000
set_option maxHeartbeats 64000000
theorem C7 (d:Nat) {c:Cs} (h:cG c=true) {x:Pc} (hx:x∈c.procs):FSpec prog 30 [c.a d,x.proc.a] [] [] (.tup [x.a d,.one (.sc (.bool true))]) []:=by
 have hc:=(aV.1 h).1;obtain ⟨i,hi,e⟩:=List.mem_iff_getElem.1 hx;have hI:=xz hc hi;exact Vv
theorem I4 (d:Nat) (c:Cs) (hl:c.queues.length<=100000):FSpec prog 21 [c.a d] [] [] (.c (.sl dQ (bI c.queues))) []:=by
 refine a7 func21 ?_;refine ao ?_;refine cj 3 1000 63 dQ rfl rfl rfl ?_;refine ab (fun i=>i<=c.queues.length) (fun i=>bP [1,1000] [(1,.c (.ptr 1 0)),(3,.c (.own 1000)),(4,.i i)] [(1,.box 32 (c.d d)),(1000,.arr 63 dQ (bI (c.queues.take i)))]) (fun i=>c.queues.length-i) 0 (Nat.zero_le _) aT ?_;intro i hi;have hlen:(bI (c.queues.take i)).length=i:=by simp [bI,Nat.min_eq_left hi]
 repeat' (first|refine av ?_ ?_|(refine aa 8 rfl ?_;refine be (ae rfl rfl (aH rfl rfl) (aN [(c.queues[i]'(by omega)).res] rfl rfl rfl rfl) rfl aQ aQ) rfl rfl rfl ?_)|refine aq ?_|exact aw|refine ap fun hb=>?_)
 ·refine ⟨i+1,by omega,by omega,?_⟩;have e:bI (c.queues.take (i+1))=bI (c.queues.take i)++[(c.queues[i]'(by omega)).res]:=by
   unfold bI;exact Va
  rw [e];exact bo (qf [(1000,20)])
 ·have e:bI (c.queues.take i)=bI c.queues:=by rw [List.take_of_length_le (by omega)]
  rw [<-e];exact U4
theorem Ky (l:List Int) (who lab:Int) (more:List Int):FSpec prog 7 [.one (.sl km l),lw who,lw lab,.one (.sl km more)] [] [] (.b true) []:=by
  refine a7 func7 ?_;have kA:=jF;obtain ⟨bl,hbl⟩:∃b,decide (l.length<=300)=b:=⟨_,rfl⟩;have kL:=ka l hbl;cases bl with
  | false =>
    exact UG
  | true =>
    by_cases hm:more.length<=60
    case neg =>
      exact UG
    have hl:=of_decide_eq_true hbl;obtain ⟨c,hW⟩:∃W,i6 l=W:=⟨_,rfl⟩;have kC:=jr l hl (jV l) hW;have hv:cG c=true:=hW▸gB l;obtain ⟨hq,hu'⟩:=hW▸qX l;have h8:=(bi (aV.1 hv).1.tv).1;obtain ⟨p,hp⟩:=qGe (ce who);have kP:=j9 who;rw [hp] at kP;have kQ:=I4 2 c (by omega);clear hp hW hbl hl;obtain ⟨D,hD⟩:∃R,cy c ⟨5,p,Rq.zero,⟨#[]⟩,lab⟩=R:=⟨_,rfl⟩;have kD:=FJ 2 c _ hD;by_cases h0:D.2.2=0
    case neg =>
      have hz:=(CQ (k:=⟨5,p,Rq.zero,⟨#[]⟩,lab⟩) (c:=c) (by rw [hD];exact h0)).1;rw [hD] at hz;obtain ⟨X,E,e⟩:=D;dsimp only at *
      subst hz;clear hD hv;exact UG
    obtain ⟨E,S,hF,hH⟩:=Kf (c:=c) (k:=⟨5,p,Rq.zero,⟨#[]⟩,lab⟩) rfl (by rw [hD];exact h0);rw [hD] at hF hH;clear hD hv;obtain ⟨X,G,e⟩:=D;dsimp only at *
    obtain rfl:e=0:=h0;have h8':=(bi (aV.1 hF.v).1.tv).1;have kH:=jl X.queues p (by omega);rw [<-hH []] at kH;obtain ⟨B,hB⟩:=qGe (dx ⟨E,[]⟩);rw [hB] at kH;have hB':∀s,dx ⟨E,s⟩=B:=fun s=>(pn rfl).trans hB;clear hH hB h8' h8;refine ao ?_;have h0:TOk ⟨more,0⟩:=⟨Nat.zero_le _,by show more.length<=_;omega⟩;refine ab (fun y:Tp×Cs=>TOk y.1/\From y.2 p E (S++[⟨lab,E.length⟩])) (fun y=>bP [9,10,11,63] [(2,.i lab),(9,.c (.ptr 9 0)),(10,.c (.ptr 10 0)),(11,.c (.ptr 11 0)),(14,.c (.sl c6 B)),(15,.c (.ptr 63 0))] [(9,.box 32 (c.d 2)),(10,.box 40 [.sc (.int .i64 p.site),.sc (.int .i64 p.inc),.sc (.int .i64 p.num)]),(11,.box 32 (y.2.d 2)),(63,.box 58 (P7 y.1))]) (fun y=>y.1.l.length-y.1.at_) (⟨more,0⟩,X) ⟨h0,hF⟩ aT ?_;clear hF h0 hm kL kC kP kD kH;rintro ⟨u,Y⟩ ⟨hu,hY⟩;dsimp only at *
    have kM:=M9 u hu;by_cases hlt:u.at_<u.l.length
    · rw [qDt hlt] at kM
      obtain ⟨G,hG⟩:=qGe (vG u (bI c.queues));have kG:=Nc u (bI c.queues) hu hq hu' hG;have ha:=EJ u (bI c.queues);have hs1:=u.s_lt hlt;rw [hG] at ha;have hw:=hu.s.adv ha;have hle:=ha.le;have hl2:G.2.l.length=u.l.length:=by rw [ha.l,u.s_l]
      clear hG ha;obtain ⟨k,v⟩:=G;dsimp only at *
      obtain ⟨D,hD⟩:∃R,cy Y k=R:=⟨_,rfl⟩;have kD:=FJ 2 Y k hD;have hst:D.2.2=0->(k.proc≠p\/k.kind=2\/k.kind=3)->From D.1 p E (S++[⟨lab,E.length⟩]):=fun h1 h2=>by
        have:=hY.step (k:=k) (by rw [hD];exact h1) (by rcases h2 with h|h|h <;> simp [h])
        rwa [hD] at this
      clear hD;obtain ⟨Z,F,f⟩:=D;dsimp only at *
      by_cases hgo:f=0/\(k.proc≠p\/k.kind=2\/k.kind=3)
      · have hZ:=hst hgo.1 hgo.2
        clear hst;obtain ⟨rfl,hgo⟩:=hgo;by_cases hkp:k.proc=p
        · by_cases hk2:k.kind=2
          · repeat' (first
              | refine av ?_ ?_
              | (refine aa 9 rfl ?_;first|(refine cH (qf [(0,63)]) kM ?_)|(refine cC [] kQ ?_)|(refine cH (qf [(0,63)]) kG ?_)|(refine cC [] kD ?_))
              | refine aq ?_
              | exact aw|(refine ap fun hb=>?_;first|(exact absurd hk2 hb)|(simp [hkp] at hb;done)|skip))
            refine ⟨(v,Z),⟨hw,hZ⟩,by dsimp only;omega,?_⟩;exact aT
          · have hk3:k.kind=3:=(hgo.resolve_left fun h=>h hkp).resolve_left hk2
            repeat' (first|refine av ?_ ?_|(refine aa 9 rfl ?_;first|(refine cH (qf [(0,63)]) kM ?_)|(refine cC [] kQ ?_)|(refine cH (qf [(0,63)]) kG ?_)|(refine cC [] kD ?_))|refine aq ?_|exact aw|(refine ap fun hb=>?_;first|(exact absurd hk3 hb)|(exact absurd hb hk2)|(simp [hkp] at hb;done)|skip))
            refine ⟨(v,Z),⟨hw,hZ⟩,by dsimp only;omega,?_⟩;exact aT
        · repeat' (first
            | refine av ?_ ?_
            | (refine aa 9 rfl ?_;first|(refine cH (qf [(0,63)]) kM ?_)|(refine cC [] kQ ?_)|(refine cH (qf [(0,63)]) kG ?_)|(refine cC [] kD ?_))
            | refine aq ?_
            | exact aw|(refine ap fun hb=>?_;first|(exact absurd hb hkp)|(simp [hkp] at hb;done)|skip))
          refine ⟨(v,Z),⟨hw,hZ⟩,by dsimp only;omega,?_⟩;exact aT
      · clear hst
        repeat' (first|refine av ?_ ?_|(refine aa 9 rfl ?_;first|(refine cH (qf [(0,63)]) kM ?_)|(refine cC [] kQ ?_)|(refine cH (qf [(0,63)]) kG ?_)|(refine cC [] kD ?_))|refine aq ?_|exact aw|refine ap fun hb=>?_)
        all_goals first
          | (exfalso;apply hgo;refine ⟨by assumption,?_⟩;simp [*];done)
          | (refine ⟨(v,Y),⟨hw,hY⟩,by dsimp only;omega,?_⟩
             exact aT)
    · rw [qDf hlt] at kM
      obtain ⟨D,hD⟩:∃R,cy Y ⟨6,p,Rq.zero,⟨#[]⟩,lab⟩=R:=⟨_,rfl⟩;have kD:=FJ 2 Y _ hD;obtain ⟨r0,⟨y,hy,hyp,hyw⟩,hho⟩:=Fd (c:=Y) (k:=⟨6,p,Rq.zero,⟨#[]⟩,lab⟩) rfl hY;have hZ:=(fI (c:=Y) (k:=⟨6,p,Rq.zero,⟨#[]⟩,lab⟩) r0).2;have hho:=(hho []).trans (hB' []);rw [hD] at r0 hy hho hZ;clear hD hY;obtain ⟨Z,F,f⟩:=D;dsimp only at *
      obtain rfl:f=0:=r0;have kF:=C7 2 hZ hy;rw [hyp] at kF;have h8':=(bi (aV.1 hZ).1.tv).1;have kH:=jl Z.queues p (by omega);rw [hho] at kH;have kS:=ml B B;rw [qDt rfl] at kS;repeat' (first|refine av ?_ ?_|(refine aa 9 rfl ?_;first|(refine cH (qf [(0,63)]) kM ?_)|(refine cC [] kD ?_)|(refine cC [] kF ?_)|(refine cC [] kH ?_)|(refine cB [] kS ?_)|(refine cB [] kA ?_))|refine aq ?_|exact aw|(refine ap fun hb=>?_;first|(cases hyw.symm.trans hb;done)|skip)|exact bg|fail)
end Go.Proofs.YthpgjkjgkhjjlaaGreatDoor
