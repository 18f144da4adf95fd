/- Part C01 of a proof of statements of chapter 15 (no condition). -/
import Derived.Test.YtkkbopkbjacfmaaGreatDoorK40
import Derived.Test.YtkkbopkbjacfmaaGreatDoorK41
import Derived.Test.YtkkbopkbjacfmaaGreatDoorK42
set_option linter.unusedVariables false
set_option linter.unusedSimpArgs false
set_option maxRecDepth 100000
set_option maxHeartbeats 64000000
namespace Go.Proofs.YtkkbopkbjacfmaaGreatDoor
open Go.RowKit Go.Proofs.Tryz
theorem L4 {c:Cs} (h:CI c) {i:Nat} (hi:i<c.procs.length):d8 c.procs[i].proc 0 c.procs=(i:Int):=by
 have h0:0<=d8 c.procs[i].proc 0 c.procs:=AX.2 (List.mem_map.2 ⟨_,List.getElem_mem hi,rfl⟩);obtain ⟨j,hj,e,hp⟩:=iy h0;by_cases hij:j=i
 ·rw [e,hij];omega
 ·exact absurd hp (pA h hj hi hij)
theorem JX {c:Cs} {k:Cm} (h:dA c=true) (h0:(wD ⟨c,[]⟩ k).2=0):nL c k=((wD ⟨c,[]⟩ k).1.c,(wD ⟨c,[]⟩ k).1.ev,0):=by
 unfold nL;rw [h,qDt h0];rfl
theorem JY {c:Cs} {k:Cm} (h:CI c) {i:Nat} (hi:i<c.procs.length) (hp:k.proc=c.procs[i].proc) :
  (k.kind=2->wD ⟨c,[]⟩ k=cQ ⟨c,[]⟩ i k.req)/\
  (k.kind=3->wD ⟨c,[]⟩ k=bif !(Wk.pc ⟨c,[]⟩ i).waiting then (⟨c,[]⟩,14) else (bQ (bi (aC ⟨c,[]⟩ i) i),0))/\
  (k.kind=6->wD ⟨c,[]⟩ k=cu ⟨c,[]⟩ i k.n)/\
  (k.kind=7->wD ⟨c,[]⟩ k=(ib ⟨c,[]⟩ i,0)):=by
 have e:d8 k.proc 0 c.procs=(i:Int):=by rw [hp];exact L4 h hi
 have e0:decide (d8 k.proc 0 (Wk.mk c []).c.procs<0)=false:=qDf (by show ¬(d8 k.proc 0 c.procs<0);omega);have e1:(d8 k.proc 0 (Wk.mk c []).c.procs).toNat=i:=by show (d8 k.proc 0 c.procs).toNat=i;omega
 refine ⟨?_,?_,?_,?_⟩ <;> intro hk <;> unfold wD <;> rw [e0,e1,hk] <;> rfl
def BV (w:Wk) (i:Nat):Wk:=bQ (bi (aC (w.note 4 (w.pc i).proc) i) i)
theorem Du (n:Nat) (w:Wk):gR (n+1) w=bif decide (d9 w<0) then w else gR n (BV w (d9 w).toNat):=rfl
theorem L5 {w:Wk} (h:CI w.c) (he:0<=d9 w):CI (BV w (d9 w).toNat).c/\cy (BV w (d9 w).toNat).c.procs+1<=cy w.c.procs/\Kp w (BV w (d9 w).toNat):=by
 obtain ⟨hi,hl⟩:=(nc w).2 he;generalize (d9 w).toNat=i at *
 have hc0:CI (w.note 4 (w.pc i).proc).c:=h;have hw0:((w.note 4 (w.pc i).proc).pc i).waiting=true:=by rw [bZ (w:=w.note 4 (w.pc i).proc) hi];exact hl.1
 obtain ⟨k1,k2,k3,k4,_⟩:=eU hc0 hi hw0;have hi2:i<(aC (w.note 4 (w.pc i).proc) i).c.procs.length:=by rw [k3.len];exact hi
 have hrun:((aC (w.note 4 (w.pc i).proc) i).pc i).waiting=false:=by rw [bZ hi2];simp [k4]
 obtain ⟨n1,n2,n3⟩:=jc k1 hi2 hrun;obtain ⟨q1,_,q3,q4,q5,q6,_,q8⟩:=jQ n1;have k2':cy (aC (w.note 4 (w.pc i).proc) i).c.procs+1=cy w.c.procs:=k2;have hk:=(k3.trans n2).trans (⟨q6,q4,q3,q8⟩:Kp _ (bQ (bi (aC (w.note 4 (w.pc i).proc) i) i)));refine ⟨q1,?_,⟨hk.kw,hk.now,hk.pr,hk.nm⟩⟩;have:cy (BV w i).c.procs<=cy (bi (aC (w.note 4 (w.pc i).proc) i) i).c.procs:=q5;omega
theorem MR {c:Cs} {k:Cm} (h:dA c=true) (he:(wD ⟨c,[]⟩ k).2=0):eZ (wD ⟨c,[]⟩ k).1.c.queues=eZ c.queues:=by
 obtain ⟨hci,hun⟩:=cf.1 h;unfold wD at he ⊢;cases hA:decide (1<=k.kind) && decide (k.kind<=9) with
 | false=>rw [hA] at he;simp at he
 | true =>
  rw [hA] at he;simp only [Bool.not_true,qCf] at he ⊢;by_cases h1:k.kind=1
  ·rw [qDt h1] at he ⊢;simp only [qCt] at he ⊢;rw [(Em hci he).2.1]
  ·rw [qDf h1] at he ⊢;simp only [qCf] at he ⊢;by_cases h9:k.kind=9
   ·rw [qDt h9] at he ⊢;simp only [qCt] at he ⊢;unfold jL at he ⊢;cases hB:decide (0<=k.n) && decide (k.n<=1000) with
    | false=>rw [hB] at he;simp at he
    | true =>
     rw [hB] at he;simp only [Bool.not_true,qCf] at he ⊢;simp only [qBa,decide_eq_true_eq] at hB;by_cases hm:1073741824-k.n<c.now
     ·rw [qDt hm] at he;simp at he
     ·rw [qDf hm];simp only [qCf];have gen:∀(n:Nat) (w:Wk),CI w.c->eZ (gR n w).c.queues=eZ w.c.queues:=by
       intro n;induction n with
       | zero=>intro w _;rfl
       | succ n ih =>
        intro w hw;rw [Du];by_cases he:d9 w<0
        ·rw [qDt he];rfl
        ·rw [qDf he,qCf];obtain ⟨l1,_,l3⟩:=L5 hw (by omega);exact (ih _ l1).trans l3.nm
      exact gen c.procs.length ⟨{ c with now:=c.now+k.n },[]⟩ (hci.later hB.1 (by omega))
   ·rw [qDf h9] at he ⊢;simp only [qCf] at he ⊢;by_cases hI:d8 k.proc 0 c.procs<0
    ·rw [qDt hI] at he;simp at he
    ·rw [qDf hI] at he ⊢;simp only [qCf] at he ⊢;obtain ⟨i,hi,e,hip⟩:=iy (p:=k.proc) (l:=c.procs) (k:=0) (by omega);have ei:(d8 k.proc 0 c.procs).toNat=i:=by rw [e];omega
     rw [ei] at he ⊢;by_cases h2:k.kind=2
     ·rw [qDt h2] at he ⊢;simp only [qCt] at he ⊢;exact (vO hci hi he).2.2.2.2.2.2
     ·rw [qDf h2] at he ⊢;simp only [qCf] at he ⊢;by_cases h3:k.kind=3
      ·rw [qDt h3] at he ⊢;simp only [qCt] at he ⊢;cases hw:(Wk.pc ⟨c,[]⟩ i).waiting with
       | false=>rw [hw] at he;simp at he
       | true =>
        simp only [Bool.not_true,qCf];obtain ⟨k1,_,k3,k4,_⟩:=eU (w:=⟨c,[]⟩) hci hi hw;have hi2:i<(aC ⟨c,[]⟩ i).c.procs.length:=by rw [k3.len];exact hi
        obtain ⟨n1,n2,_⟩:=jc k1 hi2 (by rw [bZ hi2];simp [k4]);obtain ⟨_,_,q3⟩:=iv n1;exact ((k3.trans n2).trans q3).nm
      ·rw [qDf h3] at he ⊢;simp only [qCf] at he ⊢;by_cases h4:k.kind=4
       ·rw [qDt h4] at he ⊢;simp only [qCt] at he ⊢;exact (vP hci hi he).2.2.1.nm
       ·rw [qDf h4] at he ⊢;simp only [qCf] at he ⊢;by_cases h5:k.kind=5
        ·rw [qDt h5] at he ⊢;simp only [qCt] at he ⊢;rcases Bool.eq_false_or_eq_true (Wk.pc ⟨c,[]⟩ i).waiting with hw|hw
         ·rw [cT hw] at he;simp at he
         ·rw [cF hw] at he ⊢;cases hs : !decide ((iH (Wk.pc ⟨c,[]⟩ i).led k.n).2=0) with
          | true=>rfl
          | false=>rfl
        ·rw [qDf h5] at he ⊢;simp only [qCf] at he ⊢;by_cases h6:k.kind=6
         ·rw [qDt h6] at he ⊢;simp only [qCt] at he ⊢;exact (mt hci hi he).2.2.1.nm
         ·rw [qDf h6] at he ⊢;simp only [qCf] at he ⊢;cases h8:decide (k.kind=8) && (Wk.pc ⟨c,[]⟩ i).waiting with
          | true=>rw [h8] at he;simp at he
          | false =>
           simp only [qCf];exact (zb (w:=⟨c,[]⟩) hci hi).2.2.2.2.2.2
theorem J1 (n:ByteArray):∀(l:List Tm) (k i:Nat) {a:Tm},tj n k l=((k+i:Nat):Int)->l[i]? = some a->a.name=n
 | [],k,i,a,h,_=>by unfold tj at h;omega
 | b :: l,k,i,a,h,ha=>by
  unfold tj at h;cases hn:aV b.name n with
  | true =>
   rw [hn,qCt] at h;obtain rfl:i=0:=by omega
   rw [List.getElem?_cons_zero] at ha;cases ha
   exact aZ.1 hn
  | false =>
   rw [hn,qCf] at h;cases i with
   | zero=>have:=Dv n l (k+1);omega
   | succ i =>
    rw [List.getElem?_cons_succ] at ha;exact J1 n l (k+1) i (by omega) ha
theorem Ot {r:Rs} {c b a:Am} (h1:bc r c b=true) (h2:bc r b a=true):bc r c a=true:=by
 unfold bc at *
 simp only [qBa,Bool.or_eq_true] at h1 h2 ⊢;obtain ⟨⟨p1,p2⟩,h1⟩:=h1;obtain ⟨⟨_,p3⟩,h2⟩:=h2;refine ⟨⟨p1,p3⟩,?_⟩;rcases h2 with h2|⟨z2,h2⟩
 ·exact .inl h2
 ·rcases h1 with h1|⟨z1,h1⟩
  ·rw [h1] at z2;cases z2
  ·refine .inr ⟨z1,?_⟩;by_cases hk:r.kind=1
   ·rw [if_pos hk] at h1 h2 ⊢;unfold dK bP at *
    simp only [qBa,Bool.or_eq_true,decide_eq_true_eq,Bool.not_eq_true',decide_eq_false_iff_not] at h1 h2 ⊢;omega
   ·rw [if_neg hk] at h1 h2 ⊢;simp only [decide_eq_true_eq] at h1 h2 ⊢;omega
theorem J2 {o:Opn} (ho:iT o=true) {q:Qu} (h:ai q=true) {g:Am} (hin:∀a∈o.lower,a.name=q.res.name->a.am=g) (hout:(∀a∈o.lower,a.name≠q.res.name)->af q.holds o.proc=g)
  (hcov:af q.holds o.proc=g\/(af q.holds o.proc≠⟨0,0⟩/\bc q.res (af q.holds o.proc) g=true)):af (iZ o q).holds o.proc=g:=by
 have hasc:o.lower.Pairwise fun a b=>a.name≠b.name:=by
  unfold iT at ho;simp only [qBa] at ho;exact (p6 ho.2).1
 obtain ⟨c1,c2,c3⟩:=BW h o.proc;show af (wZ o.proc o.lower (iY o.proc q)).holds o.proc=g;by_cases hn:tj (iY o.proc q).res.name 0 o.lower<0
 ·rw [zA o.proc hn,c2];refine hout fun a ha e=>?_;have:=zz (iY o.proc q).res.name o.lower 0 a ha (by rw [c1.res];exact e);omega
 ·obtain ⟨a,ha,e⟩:=t6 o.proc (q:=iY o.proc q) hasc (k:=0) (i:=(tj (iY o.proc q).res.name 0 o.lower).toNat) (by omega);have han:a.name=q.res.name:=by
   have:=J1 (iY o.proc q).res.name o.lower 0 (tj (iY o.proc q).res.name 0 o.lower).toNat (by omega) ha;rw [this,c1.res]
  rw [e,hin a (List.mem_of_getElem? ha) han];unfold tw;by_cases hg:af (iY o.proc q).holds o.proc=g
  ·rw [qDt hg];exact hg
  ·rw [qDf hg];rw [c2] at hg;obtain ⟨h0,hc⟩:=hcov.resolve_left hg;have hz:=sM (a:=g) c1.ok (by rw [c2];exact h0) c3 (by rw [c2,c1.res];exact hc);rw [qDt hz];exact (kq hz).2.1
theorem Mb {t:List Qu} {now:Int} {x:Pc} (hv:eV t=true) (hi:PInv t now x) {q:Qu} (hq:q∈t) :
  af q.holds x.proc=g6 x q.res.name\/(af q.holds x.proc≠⟨0,0⟩/\bc q.res (af q.holds x.proc) (g6 x q.res.name)=true):=by
 obtain ⟨hn,hat⟩:=gI hv hq;cases hw:x.waiting with
 | false =>
  have:=((hi.run hw).2.2 _ hn).h;rw [hat] at this;exact .inl this
 | true =>
  have hf:=(hi.wat hw).2 _ hn;unfold FitW at hf;cases ha:dT (cR x.req.expr) q.res.name with
  | none =>
   rw [ha] at hf;have:=FitR.h hf;rw [hat] at this;exact .inl this
  | some a =>
   rw [ha] at hf;rcases hf with ⟨_,hf⟩|⟨hc,⟨h1,_⟩|⟨h1,_⟩⟩
   ·have:=hf.h;rw [hat] at this;exact .inl this
   ·rw [hat] at h1 hc;unfold jn at h1;rw [hat] at h1;have ham:a∈cR x.req.expr/\a.name=q.res.name:=by
     unfold dT at ha;exact ⟨List.mem_of_find?_eq_some ha,aZ.1 (by simpa using List.find?_some ha)⟩
    have hrs:gQ t (cR x.req.expr)=0:=by
     have h2:=(hi.wat hw).1.rs;unfold iK at h2;cases hve:nZ x.req.expr with
     | false=>rw [hve] at h2;cases h2
     | true=>rw [hve] at h2;exact h2
    have hfa:=(q9.1 hrs a ham.1).2;rw [ham.2,hat] at hfa;refine .inr ?_;rw [h1];by_cases h0:g6 x q.res.name=⟨0,0⟩
    ·rw [h0,ob hfa];refine ⟨fun e=>?_,ld hfa (.inl rfl)⟩;rw [e] at hfa;unfold aH at hfa;simp [bP] at hfa
    ·have hfl:=(hi.stat.hf q.res.name h0).2;rw [hat] at hfl;obtain ⟨j1,j2,_,_⟩:=yR hfl hfa hc;refine ⟨fun e=>?_,j2⟩;rw [e] at j1;unfold aH at j1;simp [bP] at j1
   ·rw [hat] at h1;exact .inl h1
theorem Mc {t:List Qu} {x:Pc} (hv:eV t=true) (hs:PStat t x) {q:Qu} (hq:q∈t) (k:Nat) :
  g6 x q.res.name=aw (x.led.entries.take k) q.res.name\/(g6 x q.res.name≠⟨0,0⟩/\bc q.res (g6 x q.res.name) (aw (x.led.entries.take k) q.res.name)=true):=by
 obtain ⟨hn,hat⟩:=gI hv hq;have hm:=qS hs.led.ents q.res.name k;by_cases h0:g6 x q.res.name=⟨0,0⟩
 ·refine .inl ?_;have h0':aw x.led.entries q.res.name=⟨0,0⟩:=h0;rw [h0'] at hm;rw [h0];rcases hm with h|h|⟨_,h,_⟩
  ·exact h.symm
  ·exact h.symm
  ·exact absurd h (by decide)
 ·have hf:=(hs.hf q.res.name h0).2;rw [hat] at hf;exact .inr ⟨h0,ld hf hm⟩
theorem J3 {t:List Qu} {now:Int} {x:Pc} (hv:eV t=true) (hi:PInv t now x) (k:Nat) {o:Opn} (hop:iT o=true) (hpr:o.proc=x.proc) {N:List ByteArray} (hlow:o.lower=N.map fun n=>⟨n,aw (x.led.entries.take k) n⟩)
  (hN:∀n,n∈N↔n∈bt (x.led.entries.drop k)\/(x.waiting=true/\∃a∈cR x.req.expr,a.name=n)) {q:Qu} (hq:q∈t):af (iZ o q).holds x.proc=aw (x.led.entries.take k) q.res.name:=by
 have hsd:=dc hv hq;have h1:=Mb hv hi hq;have h2:=Mc hv hi.stat hq k;rw [<-hpr];refine J2 hop hsd (fun a ha e=>?_) (fun hno=>?_) ?_
 ·rw [hlow] at ha;obtain ⟨n,_,rfl⟩:=List.mem_map.1 ha;dsimp only at e ⊢;rw [e]
 ·have hnot:q.res.name ∉ N:=fun hm=>hno ⟨q.res.name,aw (x.led.entries.take k) q.res.name⟩ (by rw [hlow];exact List.mem_map.2 ⟨_,hm,rfl⟩) rfl;rw [hN] at hnot;have hnd:q.res.name ∉ bt (x.led.entries.drop k):=fun h=>hnot (.inl h);obtain ⟨hn,hat⟩:=gI hv hq;rw [hpr,<-mr hnd];cases hw:x.waiting with
  | false =>
   have:=((hi.run hw).2.2 _ hn).h;rw [hat] at this;exact this
  | true =>
   have hf:=(hi.wat hw).2 _ hn;unfold FitW at hf;rw [iQ.2 fun a ha e=>hnot (.inr ⟨hw,a,ha,e⟩)] at hf;have:=FitR.h hf;rw [hat] at this;exact this
 ·rw [hpr];rcases h1 with h1|⟨h1,h1c⟩
  ·rw [h1];exact h2
  ·rcases h2 with h2|⟨_,h2c⟩
   ·rw [<-h2];exact .inr ⟨h1,h1c⟩
   ·exact .inr ⟨h1,Ot h1c h2c⟩
theorem wB {t:List Qu} {p:Pr} {f:ByteArray->Am} (h:∀q∈t,af q.holds p=f q.res.name):cI t p=((eZ t).map fun n=>(⟨n,f n⟩:Tm)).filter fun a=>!aJ a.am:=by
 unfold cI eZ;rw [List.map_map];congr 1
 refine List.map_congr_left fun q hq=>?_;rw [h q hq];rfl
theorem GI {c:Cs} (h:dA c=true) {x:Pc} (hx:x∈c.procs) (k:Nat) {o:Opn} (hop:iT o=true) (hpr:o.proc=x.proc) {N:List ByteArray} (hlow:o.lower=N.map fun n=>⟨n,aw (x.led.entries.take k) n⟩)
  (hN:∀n,n∈N↔n∈bt (x.led.entries.drop k)\/(x.waiting=true/\∃a∈cR x.req.expr,a.name=n)) :
  cI (i6 (wG c) o).queues x.proc=((eZ c.queues).map fun n=>(⟨n,aw (x.led.entries.take k) n⟩:Tm)).filter fun a=>!aJ a.am:=by
 have hci:=(cf.1 h).1;have hq:(i6 (wG c) o).queues=c.queues.map (iZ o):=by unfold wG i6;rw [h];rfl
 have hnm:eZ (c.queues.map (iZ o))=eZ c.queues:=by
  unfold eZ;rw [List.map_map];refine List.map_congr_left fun q hq=>?_;show (iZ o q).res.name=_;rw [(jV hop (dc hci.tv hq)).res]
 rw [hq,<-hnm];refine wB fun q' hq'=>?_;obtain ⟨q,hq,rfl⟩:=List.mem_map.1 hq';rw [(jV hop (dc hci.tv hq)).res];exact J3 hci.tv (hci.inv x hx) k hop hpr hlow hN hq
theorem DB {c:Cs} (h:dA c=true) {x:Pc} (hx:x∈c.procs) {s:Sv} (hs:s∈x.led.saves) {k:Cm} (hk:k.kind=6) (hkp:k.proc=x.proc) (hkn:k.n=s.label) :
  (nL c k).2.2=0/\cI (nL c k).1.queues x.proc=((eZ c.queues).map fun n=>(⟨n,aw (bw x.led s.label).entries n⟩:Tm)).filter fun a=>!aJ a.am:=by
 obtain ⟨hci,_⟩:=cf.1 h;obtain ⟨i,hi,ei⟩:=List.mem_iff_getElem.1 hx;have hpc:=bZ (w:=⟨c,[]⟩) hi;have hl:(Wk.pc ⟨c,[]⟩ i).led=x.led:=by rw [hpc];exact congrArg Pc.led ei
 have ed:=(JY hci hi (k:=k) (by rw [ei,hkp])).2.2.1 hk;have hu:(cd x.led s.label).2.2=0:=by
  have hn:¬aO s.label 0 x.led.saves<0:=fun hn=>od.1 hn s hs rfl;unfold cd;rw [fZ.2 (hci.inv x hx).stat.led,qDf hn,Bool.and_false];rfl
 have hr:(cu ⟨c,[]⟩ i k.n).2=0:=by
  unfold cu;rw [hl,hkn,hu];rfl
 obtain ⟨_,_,_,_,y,hy,hyp,hyw,hyl⟩:=mt (w:=⟨c,[]⟩) hci hi hr;have e6:=JX (k:=k) h (by rw [ed];exact hr);have hnm:=MR (k:=k) h (by rw [ed];exact hr);rw [ed] at e6 hnm;have h0:(nL c k).2.2=0:=by rw [e6]
 have hd:=(cf.1 (zc h0).2).1;have hpp:(Wk.pc ⟨c,[]⟩ i).proc=x.proc:=by rw [hpc];exact congrArg Pc.proc ei
 have hy':y∈(nL c k).1.procs:=by rw [e6];exact hy
 refine ⟨h0,?_⟩;have hnm':eZ (nL c k).1.queues=eZ c.queues:=by rw [e6];exact hnm
 rw [<-hnm'];refine wB fun q hq=>?_;obtain ⟨hn,hat⟩:=gI hd.tv hq;have:=((hd.inv y hy').run hyw).2.2 _ hn |>.h
 rw [hat,hyp,hpp] at this;rw [this];show aw y.led.entries q.res.name=_;rw [hyl,hl,hkn]
theorem BY {c:Cs} (h:dA c=true) {x:Pc} (hx:x∈c.procs) {k:Cm} (hk:k.kind=7) (hkp:k.proc=x.proc) :
  (nL c k).2.2=0/\cI (nL c k).1.queues x.proc=((eZ c.queues).map fun n=>(⟨n,aw [] n⟩:Tm)).filter fun a=>!aJ a.am:=by
 obtain ⟨hci,_⟩:=cf.1 h;obtain ⟨i,hi,ei⟩:=List.mem_iff_getElem.1 hx;have ed:=(JY hci hi (k:=k) (by rw [ei,hkp])).2.2.2 hk;have e6:=JX (k:=k) h (by rw [ed]);have hnm:=MR (k:=k) h (by rw [ed]);rw [ed] at e6 hnm;have h0:(nL c k).2.2=0:=by rw [e6]
 have hd:=(cf.1 (zc h0).2).1;obtain ⟨_,_,_,_,g5,_,_⟩:=zb (w:=⟨c,[]⟩) hci hi;have hno:x.proc ∉ aD (nL c k).1.queues:=fun hm=>by
  have h1:=hd.cov _ hm;rw [e6] at h1;have h2:x.proc∈(ib ⟨c,[]⟩ i).c.procs.map (·.proc):=h1;rw [g5] at h2;obtain ⟨y,hy,hyp⟩:=List.mem_map.1 h2;have hy:y∈c.procs.eraseIdx i:=hy;obtain ⟨j,hj,hji⟩:=(List.mem_eraseIdx_iff_getElem).1 hy;obtain ⟨hj1,hj2⟩:=hji;have hne:=pA hci hj hi hj1;rw [hj2,ei] at hne;exact hne hyp
 refine ⟨h0,?_⟩;have hnm':eZ (nL c k).1.queues=eZ c.queues:=by rw [e6];exact hnm
 rw [<-hnm'];refine wB fun q hq=>?_;obtain ⟨hn,hat⟩:=gI hd.tv hq;have:=(Ek hd.tv hno hn).1;rw [hat] at this;rw [this];rfl
theorem E2 {n x:ByteArray}:∀{l:List ByteArray},x∈gh n l↔x=n\/x∈l
 | []=>by simp [gh]
 | y :: l=>by
  unfold gh;cases h1:fT y n with
  | true =>
   rw [qCt,List.mem_cons,E2,List.mem_cons];constructor
   ·rintro (h|h|h) <;> simp [h]
   ·rintro (h|h|h) <;> simp [h]
  | false =>
   rw [qCf];cases h2:aV y n with
   | true =>
    obtain rfl:=aZ.1 h2;rw [qCt,List.mem_cons];constructor
    ·rintro (h|h) <;> simp [h]
    ·rintro (h|h|h) <;> simp [h]
   | false =>
    rw [qCf,List.mem_cons]
theorem wC {x:ByteArray}:∀{l acc:List ByteArray},x∈fm acc l↔x∈acc\/x∈l
 | [],acc=>by simp [fm]
 | n :: l,acc=>by
  show x∈fm (gh n acc) l↔_;rw [wC,E2,List.mem_cons];constructor
  ·rintro ((h|h)|h) <;> simp [h]
  ·rintro (h|h|h) <;> simp [h]
theorem DD {x:Pc} {g:Lg} {n:ByteArray}:n∈je x g↔n∈bt (x.led.entries.drop g.entries.length)\/(x.waiting=true/\∃a∈cR x.req.expr,a.name=n):=by
 unfold je;rw [wC,wC];constructor
 ·rintro ((h|h)|h)
  ·exact absurd h (by simp)
  ·obtain ⟨e,he,hn⟩:=List.mem_map.1 h;exact .inl (cP.2 ⟨e,he,hn⟩)
  ·cases hw:x.waiting with
   | false=>rw [hw] at h;exact absurd h (by simp)
   | true =>
    rw [hw] at h;obtain ⟨a,ha,hn⟩:=List.mem_map.1 h;exact .inr ⟨rfl,a,ha,hn⟩
 ·rintro (h|⟨hw,a,ha,hn⟩)
  ·obtain ⟨e,he,hn⟩:=cP.1 h;exact .inl (.inr (List.mem_map.2 ⟨e,he,hn⟩))
  ·rw [hw];exact .inr (List.mem_map.2 ⟨a,ha,hn⟩)
theorem B8 {c:Cs} (h:dA c=true) {m:Nat} {o:Opn} (ho:o∈nT c m) {k:Cm} (hkp:k.proc=o.proc) (hkn:k.n=o.label) (hk:k.kind=if o.label = -1 then 7 else 6) :
  (nL c k).2.2=0/\cI (nL c k).1.queues o.proc=cI (i6 (wG c) o).queues o.proc:=by
 obtain ⟨x,hx,h1,_⟩:=B7 ho;obtain ⟨f1,f2,n,f3,f4,f5⟩:=yj h1;have hN:∀w,w∈je x ⟨x.led.entries.take n,[]⟩↔w∈bt (x.led.entries.drop n)\/(x.waiting=true/\∃a∈cR x.req.expr,a.name=w):=fun w=>by
  rw [DD];dsimp only;rw [f4]
 have hK:=GI h hx n f1 f2 f3 hN;rw [f2];rw [f2] at hkp;rcases f5 with ⟨s,hs,e1,e2⟩|⟨e1,e2⟩
 ·have hne:o.label≠-1:=by
   have hci:=(cf.1 h).1;have:=((hci.inv x hx).stat.led.svs.lab s hs).1.1;omega
  rw [if_neg hne] at hk;obtain ⟨r1,r2⟩:=DB h hx hs hk hkp (by rw [hkn,e1]);refine ⟨r1,?_⟩;rw [r2,hK,e2]
 ·rw [if_pos e1] at hk;obtain ⟨r1,r2⟩:=BY h hx hk hkp;refine ⟨r1,?_⟩;rw [r2,hK,e2];rfl
theorem GL (l:List Int):FSpec prog 6 [.one (.sl fo l)] [] [] (.b true) []:=by
 refine aS func6 ?_;have kA:=BM;obtain ⟨bl,hbl⟩:∃b,decide (l.length<=300)=b:=⟨_,rfl⟩;have kL:=IJ l hbl;cases bl with
 | false =>
  exact QY
 | true =>
 have hl:=of_decide_eq_true hbl;have kC:=Bd 2 (by decide) l hl;have hcl:=Be l;have hcv:dA (s8 l)=true:=pG (gJ l).2 _ (mv (tX l));generalize s8 l=C at kC hcl hcv;have hw:=rv hcv;obtain ⟨L,hL⟩:=qGe (nT C 12);have kP:=JN 2 C 12 (by decide) hcl hL;have hok:∀o∈L,Dz (wG C) o=(i6 (wG C) o,0)/\∀k:Cm,k.proc=o.proc->k.n=o.label->k.kind=(if o.label = -1 then 7 else 6)->(nL C k).2.2=0/\cI (nL C k).1.queues o.proc=cI (i6 (wG C) o).queues o.proc/\(nL C k).1.queues.length<=100000:=fun o ho=>by
  rw [<-hL] at ho;obtain ⟨h1,h2,h3⟩:=E4 hcv ho;refine ⟨E0 h2 h1 h3,fun k k1 k2 k3=>?_⟩;obtain ⟨r1,r2⟩:=B8 hcv ho k1 k2 k3;refine ⟨r1,r2,?_⟩;have:=(cm (cf.1 (zc r1).2).1.tv).1;omega
 obtain ⟨O,hO⟩:=qGe (wG C);have kO:=Oh 2 C hO;rw [hO] at hw hok;obtain ⟨w1,_,_,_⟩:=dU hw;have hLl:L.length<=12:=by rw [<-hL];unfold nT;simp;omega
 clear hL hO hw hcv hcl hbl;repeat' (first|refine az ?_ ?_|(refine aa 9 rfl ?_;first|(refine cB [] kL ?_)|(refine cC [] kC ?_)|(refine cH (qf [(0,1000)]) kP ?_))|refine ay ?_|exact aA|refine ax fun hb=>?_)
 refine kx 1000 rfl ?_;clear kC kP kL;refine ab (fun i:Nat=>i<=L.length) (fun i=>bC [3] [(3,.c (.ptr 3 0)),(19,.c (.sl vS L)),(20,.i L.length),(21,.i i)] [(3,.box 50 (C.d 2))]) (fun i=>L.length-i) 0 (Nat.zero_le _) aL ?_;intro i hi;by_cases hlt:i<L.length
 case neg =>
  exact QY
 obtain ⟨o,ho⟩:∃o,L[i]? = some o:=⟨_,qGg hlt⟩;obtain ⟨h1,h2⟩:=hok o (List.mem_of_getElem? ho);have kQ:=zB 2 O o h1;have hXl:(i6 O o).queues.length=O.queues.length:=List.length_map ..;have k2:=nj (i6 O o).queues o.proc (by omega);clear hok kA h1;by_cases hlab:o.label = -1
 ·rw [if_pos hlab] at h2;obtain ⟨r1,r2,r3⟩:=h2 ⟨7,o.proc,Rq.zero,⟨#[]⟩,o.label⟩ rfl rfl rfl;obtain ⟨R,hR⟩:=qGe (nL C ⟨7,o.proc,Rq.zero,⟨#[]⟩,o.label⟩);have kD:=Qp 2 C ⟨7,o.proc,Rq.zero,⟨#[]⟩,o.label⟩ hR;rw [hR] at r1 r2 r3;obtain ⟨D,E,e⟩:=R;dsimp only at r1 r2 r3;obtain rfl:e=0:=r1;have k1:=nj D.queues o.proc r3;have kS:=lh (cI D.queues o.proc) (cI (i6 O o).queues o.proc);rw [qDt r2] at kS;generalize i6 O o=X at *
  generalize cI D.queues o.proc=H1 at *
  generalize cI X.queues o.proc=H2 at *
  clear h2 hR r2 r3 hXl;repeat' (first|refine az ?_ ?_|(refine aa 9 rfl ?_;first|(refine cC [] kD ?_)|(refine cC [] kO ?_)|(refine cC [] kQ ?_)|(refine cC [] k1 ?_)|(refine cC [] k2 ?_)|(refine cB [] kS ?_))|refine ay ?_|exact aA|(refine ax fun hb=>?_;first|(first|exact absurd hlab hb|exact absurd rfl hb)|skip))
  refine ⟨i+1,hlt,by omega,?_⟩;exact aL
 ·rw [if_neg hlab] at h2;obtain ⟨r1,r2,r3⟩:=h2 ⟨6,o.proc,Rq.zero,⟨#[]⟩,o.label⟩ rfl rfl rfl;obtain ⟨R,hR⟩:=qGe (nL C ⟨6,o.proc,Rq.zero,⟨#[]⟩,o.label⟩);have kD:=Qp 2 C ⟨6,o.proc,Rq.zero,⟨#[]⟩,o.label⟩ hR;rw [hR] at r1 r2 r3;obtain ⟨D,E,e⟩:=R;dsimp only at r1 r2 r3;obtain rfl:e=0:=r1;have k1:=nj D.queues o.proc r3;have kS:=lh (cI D.queues o.proc) (cI (i6 O o).queues o.proc);rw [qDt r2] at kS;generalize i6 O o=X at *
  generalize cI D.queues o.proc=H1 at *
  generalize cI X.queues o.proc=H2 at *
  clear h2 hR r2 r3 hXl;repeat' (first|refine az ?_ ?_|(refine aa 9 rfl ?_;first|(refine cC [] kD ?_)|(refine cC [] kO ?_)|(refine cC [] kQ ?_)|(refine cC [] k1 ?_)|(refine cC [] k2 ?_)|(refine cB [] kS ?_))|refine ay ?_|exact aA|(refine ax fun hb=>?_;first|(first|exact absurd hb hlab|exact absurd rfl hb)|skip))
  refine ⟨i+1,hlt,by omega,?_⟩;exact aL
end Go.Proofs.YtkkbopkbjacfmaaGreatDoor
