/- Part K30 of a proof of statements of chapter 15 (no condition). -/
import Derived.Test.YthpgjkjgkhjjlaaGreatDoorK25
import Derived.Test.YthpgjkjgkhjjlaaGreatDoorK22
import Derived.Test.YthpgjkjgkhjjlaaGreatDoorK23
set_option linter.unusedVariables false
set_option linter.unusedSimpArgs false
set_option maxRecDepth 100000
set_option maxHeartbeats 64000000
namespace Go.Proofs.YthpgjkjgkhjjlaaGreatDoor
open Go.RowKit Go.Proofs.Tryz
theorem lj (x:Pc):∀l:List Pc,(my x l).Perm (x :: l)
 | []=>List.Perm.refl _
 | y :: l=>by
  show (bif decide (0<cl y.proc x.proc) then x :: y :: l else y :: my x l).Perm _;cases decide (0<cl y.proc x.proc) with
  | true=>exact List.Perm.refl _
  | false=>exact ((lj x l).cons y).trans (List.Perm.swap x y l)
theorem EH {x:Pc}:∀{l:List Pc},(l.map (·.proc)).Pairwise g7->(∀y∈l,y.proc≠x.proc)->((my x l).map (·.proc)).Pairwise g7
 | [],_,_=>by simp [my]
 | y :: l,h,hn=>by
  rw [List.map_cons] at h;obtain ⟨h1,h2⟩:=List.pairwise_cons.1 h;have hyx:=hn y (by simp);show ((bif decide (0<cl y.proc x.proc) then x :: y :: l else y :: my x l).map (·.proc)).Pairwise g7;by_cases hc:0<cl y.proc x.proc
  ·rw [qDt hc,qCt,List.map_cons,List.map_cons];have hlt:g7 x.proc y.proc:=by
    rcases i7 x.proc y.proc with h3|h3|h3
    ·exact h3
    ·exact absurd h3.symm hyx
    ·have:=(i8 _ _).2 h3;omega
   refine List.pairwise_cons.2 ⟨?_,List.pairwise_cons.2 ⟨h1,h2⟩⟩;intro z hz;rcases List.mem_cons.1 hz with rfl|hz
   ·exact hlt
   ·exact dt hlt (h1 z hz)
  ·rw [qDf hc,qCf,List.map_cons];have hlt:g7 y.proc x.proc:=by
    rcases dV y.proc x.proc with ⟨h5,_⟩|⟨h5,_⟩|⟨_,h6⟩
    ·exact h5
    ·exact absurd h5 hyx
    ·omega
   refine List.pairwise_cons.2 ⟨?_,EH h2 fun z hz=>hn z (by simp [hz])⟩;intro z hz;obtain ⟨u,hu,rfl⟩:=List.mem_map.1 hz;rcases List.mem_cons.1 ((lj x l).mem_iff.1 hu) with rfl|hu
   ·exact hlt
   ·exact h1 _ (List.mem_map.2 ⟨u,hu,rfl⟩)
theorem OO {t:List Qu} (hv:di t=true) {p:Pr} (hp:p ∉ aO t) {n:ByteArray} (hn:bd t n=true):ah (bf t n).holds p=⟨0,0⟩/\aj (bf t n) p=none:=by
 obtain ⟨hm,_⟩:=dK hn;have h1:fd (bf t n) p=false:=by
  cases hh:fd (bf t n) p with
  | false=>rfl
  | true =>
   refine absurd ?_ hp;unfold aO;rw [dd,iI];exact ⟨_,hm,(eX (aP (cP hv hm)) p).2 hh⟩
 unfold fd at h1;rw [Bool.or_eq_false_iff,qh,Bool.not_eq_false'] at h1;exact ⟨of_decide_eq_true h1.2,h1.1⟩
theorem OP:Ld Lg.zero:=⟨by simp [Lg.zero],fun k hk=>absurd hk (by simp [Lg.zero]),by simp [Lg.zero,cg,ew],fun x hx=>absurd hx (by simp [Lg.zero]),by simp [Lg.zero],by simp [Lg.zero]⟩
theorem xw {w:Wk} {p:Pr} {cost:Int} (h:CI w.c) (he:(iZ w p cost).2=0) :
  CI (iZ w p cost).1.c/\(iZ w p cost).1.c.queues=w.c.queues/\(iZ w p cost).1.c.now=w.c.now/\(iZ w p cost).1.c.procs=my { FI with proc:=p,cost:=cost } w.c.procs:=by
 unfold iZ at he ⊢;cases hA:jW p && decide (1<=cost) && decide (cost<=1000) with
 | false=>rw [hA] at he;simp at he
 | true =>
  rw [hA] at he;simp only [Bool.not_true,qCf] at he ⊢;simp only [qBa,decide_eq_true_eq] at hA;by_cases hI:0<=bM p 0 w.c.procs
  ·exact VG
  ·rw [qDf hI] at he ⊢;simp only [qCf] at he ⊢;by_cases hL:w.c.procs.length=8
   ·rw [qDt hL] at he;simp at he
   ·rw [qDf hL];simp only [qCf];have hno:=(yQ (k:=0)).1 (show bM p 0 w.c.procs<0 by omega);have hnp:p ∉ aO w.c.queues:=fun hm=>by
     obtain ⟨x,hx,e⟩:=List.mem_map.1 (h.cov p hm);exact hno x hx e
    have hperm:=lj { FI with proc:=p,cost:=cost } w.c.procs;refine ⟨⟨h.now,h.tv,?_,EH h.asc fun y hy=>hno y hy,fun r hr=>?_,fun x hx=>?_⟩,by trivial,by trivial,by trivial⟩
    ·have e1:=hperm.length_eq;rw [List.length_cons] at e1;have e2:=h.len;show (my { FI with proc:=p,cost:=cost } w.c.procs).length<=8;rw [e1];omega
    ·obtain ⟨x,hx,e⟩:=List.mem_map.1 (h.cov r hr);exact List.mem_map.2 ⟨x,hperm.mem_iff.2 (by simp [hx]),e⟩
    ·rcases List.mem_cons.1 (hperm.mem_iff.1 hx) with rfl|hx
     ·refine ⟨⟨hA.1.1,⟨hA.1.2,hA.2⟩,OP,by simp [FI],fun n hn=>absurd rfl hn⟩,fun _=>⟨rfl,rfl,fun n hn=>?_⟩,fun hw=>by cases hw⟩;obtain ⟨k1,k2⟩:=OO h.tv hnp hn;exact ⟨k1,k2⟩
     ·exact h.inv x hx
def Gx (now:Int) (x:Pc):Prop:=x.waiting=true/\x.req.limit≠0/\x.since+x.req.limit<=now
theorem ph (now:Int):∀(l:List Pc) (k:Nat) (b:Int×Int),
  ((gh now k l b).1<0->b.1<0/\∀x∈l,¬Gx now x)/\(0<=(gh now k l b).1->gh now k l b=b\/∃j,∃h:j<l.length,(gh now k l b).1=((k+j:Nat):Int)/\Gx now l[j])
 | [],k,b=>by
  constructor
  ·intro h;exact ⟨h,fun x hx=>absurd hx (by simp)⟩
  ·intro _;exact .inl rfl
 | x :: l,k,b=>by
  have e:gh now k (x :: l) b=gh now (k+1) l (bif x.waiting && !decide (x.req.limit=0) && decide (x.since+x.req.limit<=now) && (decide (b.1<0) || decide (x.since+x.req.limit<b.2)) then ((k:Int),x.since+x.req.limit) else b):=rfl;rw [e];cases hc:x.waiting && !decide (x.req.limit=0) && decide (x.since+x.req.limit<=now) && (decide (b.1<0) || decide (x.since+x.req.limit<b.2)) with
  | true =>
   rw [qCt];obtain ⟨h1,h2⟩:=ph now l (k+1) ((k:Int),x.since+x.req.limit);simp only [qBa,decide_eq_true_eq,Bool.not_eq_true',decide_eq_false_iff_not] at hc;constructor
   ·intro h;have:=(h1 h).1;simp only at this;omega
   ·intro h;rcases h2 h with h3|⟨j,hj,h3,h4⟩
    ·exact .inr ⟨0,by simp,by rw [h3];simp,⟨hc.1.1.1,hc.1.1.2,hc.1.2⟩⟩
    ·exact .inr ⟨j+1,by simpa using hj,by rw [h3];omega,by simpa using h4⟩
  | false =>
   rw [qCf];obtain ⟨h1,h2⟩:=ph now l (k+1) b;constructor
   ·intro h;obtain ⟨h3,h4⟩:=h1 h;refine ⟨h3,fun y hy=>?_⟩;rcases List.mem_cons.1 hy with rfl|hy
    ·rintro ⟨k1,k2,k3⟩;rw [k1,qDf k2,qDt k3,qDt h3] at hc;cases hc
    ·exact h4 y hy
   ·intro h;rcases h2 h with h3|⟨j,hj,h3,h4⟩
    ·exact .inl h3
    ·exact .inr ⟨j+1,by simpa using hj,by rw [h3];omega,by simpa using h4⟩
theorem gF (w:Wk):(cA w<0->∀x∈w.c.procs,¬Gx w.c.now x)/\(0<=cA w->∃h:(cA w).toNat<w.c.procs.length,Gx w.c.now w.c.procs[(cA w).toNat]):=by
 obtain ⟨h1,h2⟩:=ph w.c.now w.c.procs 0 (-1,0);constructor
 ·intro h;exact (h1 h).2
 ·intro h;have h':0<=(gh w.c.now 0 w.c.procs (-1,0)).1:=h;rcases h2 h with h3|⟨j,hj,h3,h4⟩
  ·rw [h3] at h';simp at h'
  ·have e:(cA w).toNat=j:=by unfold cA;rw [h3];omega
   exact ⟨by rw [e];exact hj,by simp only [e];exact h4⟩
theorem Ms {c:Cs} {x:Pc} (h1:¬Gx c.now x) (h2:dU c.queues x=false):Be c x:=fun hw=>by
 refine ⟨?_,h2⟩;by_cases h0:x.req.limit=0
 ·exact .inl h0
 ·right
  refine Classical.byContradiction fun hn=>h1 ⟨hw,h0,by omega⟩
theorem qi:∀(n:Nat) (w:Wk),CI w.c->(∀x∈w.c.procs,dU w.c.queues x=false)->ct w.c.procs<=n->CI (cI n w).c/\(∀x∈(cI n w).c.procs,Be (cI n w).c x)/\(cI n w).c.now=w.c.now/\KW w.c.procs (cI n w).c.procs/\(cI n w).c.procs.map (·.proc)=w.c.procs.map (·.proc)
 | 0,w,h,hs,hn=>by
  refine ⟨h,fun x hx hw=>?_,rfl,KW.refl _,rfl⟩;have hx':x∈w.c.procs:=hx;obtain ⟨i,hi,e⟩:=List.mem_iff_getElem.1 hx';have:0<ct w.c.procs:=jo hi (by rw [e];exact hw);have hn':ct w.c.procs<=0:=hn;omega
 | n+1,w,h,hs,hn=>by
  obtain ⟨s1,s2⟩:=gF w;unfold cI;by_cases he:cA w<0
  ·rw [qDt he];exact ⟨h,fun x hx=>Ms (s1 he x hx) (hs x hx),rfl,KW.refl _,rfl⟩
  ·rw [qDf he,qCf];obtain ⟨hi,hl1,hl2,hl3⟩:=s2 (by omega);generalize (cA w).toNat=i at *
   have hc0:CI (w.note 4 (w.pc i).proc).c:=h;have hw0:((w.note 4 (w.pc i).proc).pc i).waiting=true:=by rw [bh (w:=w.note 4 (w.pc i).proc) hi];exact hl1
   obtain ⟨k1,k2,k3,k4,_⟩:=b9 hc0 hi hw0;have hi2:i<(ai (w.note 4 (w.pc i).proc) i).c.procs.length:=by rw [k3.len];exact hi
   have hrun:((ai (w.note 4 (w.pc i).proc) i).pc i).waiting=false:=by rw [bh hi2];simp [k4]
   obtain ⟨n1,n2,n3⟩:=eL k1 hi2 hrun;obtain ⟨q1,q2,q3,q4,q5,q6,_⟩:=ir n1;have k2':ct (ai (w.note 4 (w.pc i).proc) i).c.procs+1=ct w.c.procs:=k2;obtain ⟨r1,r2,r3,r4,r5⟩:=qi n (bw (aZ (ai (w.note 4 (w.pc i).proc) i) i)) q1 q2 (by omega);refine ⟨r1,r2,?_,?_,?_⟩
   ·exact r3.trans (q4.trans (n2.now.trans k3.now))
   ·exact (k3.kw.trans n2.kw).trans (q6.trans r4)
   ·exact r5.trans (q3.trans (n2.pr.trans k3.pr))
theorem CI.later {c:Cs} (h:CI c) {n:Int} (h0:0<=n) (hm:c.now+n<=1073741824):CI { c with now:=c.now+n } :=
 ⟨by have:=h.now;show 0<=c.now+n/\c.now+n<=1073741824;omega,h.tv,h.len,h.asc,h.cov,fun x hx=>by
  have k:=h.inv x hx;exact ⟨k.stat,k.run,fun hw=>by
   obtain ⟨k1,k2⟩:=k.wat hw;exact ⟨⟨k1.rq,k1.rs,by have:=k1.sn;show 0<=x.since/\x.since<=c.now+n;omega⟩,k2⟩⟩⟩
theorem iv {c:Cs} {x:Pc} (h:Be c x):dU c.queues x=false:=by
 cases hw:x.waiting with
 | true=>exact (h hw).2
 | false=>unfold dU;rw [hw];rfl
theorem Io {w:Wk} {n:Int} (h:CI w.c) (hs:∀x∈w.c.procs,dU w.c.queues x=false) (he:(gi w n).2=0):CI (gi w n).1.c/\(∀x∈(gi w n).1.c.procs,Be (gi w n).1.c x)/\(gi w n).1.c.now=w.c.now+n/\KW w.c.procs (gi w n).1.c.procs/\(gi w n).1.c.procs.map (·.proc)=w.c.procs.map (·.proc):=by
 unfold gi at he ⊢;cases hA:decide (0<=n) && decide (n<=1000) with
 | false=>rw [hA] at he;simp at he
 | true =>
  rw [hA] at he;simp only [Bool.not_true,qCf] at he ⊢;simp only [qBa,decide_eq_true_eq] at hA;by_cases hm:1073741824-n<w.c.now
  ·exact Wj
  ·rw [qDf hm];simp only [qCf];exact qi _ ⟨{ w.c with now:=w.c.now+n },w.ev⟩ (h.later hA.1 (by omega)) hs (gj _)
theorem cF {α:Type} {b:Bool} {x y:α} (h:b=false):(bif b then x else y)=y:=by rw [h];rfl
theorem cT {α:Type} {b:Bool} {x y:α} (h:b=true):(bif b then x else y)=x:=by rw [h];rfl
theorem Sz {c:Cs} {k:Cm} (h:cG c=true) (he:(g8 ⟨c,[]⟩ k).2=0):cG (g8 ⟨c,[]⟩ k).1.c=true:=by
 obtain ⟨hci,hun⟩:=aV.1 h;have fin:∀w:Wk,CI w.c->(∀x∈w.c.procs,dU w.c.queues x=false)->KW c.procs w.c.procs->w.c.now=c.now->cG w.c=true:=by
  intro w h1 h2 h3 h4;refine aV.2 ⟨h1,fun x hx hw=>⟨?_,h2 x hx⟩⟩;have h5:=h3 x hx hw;rw [h4];exact (hun x h5 hw).1
 unfold g8 at he ⊢;cases hA:decide (1<=k.kind) && decide (k.kind<=9) with
 | false=>rw [hA] at he;simp at he
 | true =>
  rw [hA] at he;simp only [Bool.not_true,qCf] at he ⊢;by_cases h1:k.kind=1
  ·rw [qDt h1] at he ⊢;simp only [qCt] at he ⊢;obtain ⟨k1,k2,k3,k4⟩:=xw hci he;have hperm:=lj { FI with proc:=k.proc,cost:=k.n } c.procs;refine aV.2 ⟨k1,fun x hx hw=>?_⟩;rw [k4] at hx;rcases List.mem_cons.1 (hperm.mem_iff.1 hx) with rfl|hx
   ·cases hw
   ·have:=hun x hx hw;rw [k2,k3];exact this
  ·rw [qDf h1] at he ⊢;simp only [qCf] at he ⊢;by_cases h9:k.kind=9
   ·rw [qDt h9] at he ⊢;simp only [qCt] at he ⊢;obtain ⟨k1,k2,_⟩:=Io hci (fun x hx=>iv (hun x hx)) he;exact aV.2 ⟨k1,k2⟩
   ·rw [qDf h9] at he ⊢;simp only [qCf] at he ⊢;by_cases hI:bM k.proc 0 c.procs<0
    ·exact VG
    ·rw [qDf hI] at he ⊢;simp only [qCf] at he ⊢;obtain ⟨i,hi,e,_⟩:=c7 (p:=k.proc) (l:=c.procs) (k:=0) (by omega);have ei:(bM k.proc 0 c.procs).toNat=i:=by rw [e];omega
     rw [ei] at he ⊢;by_cases h2:k.kind=2
     ·rw [qDt h2] at he ⊢;simp only [qCt] at he ⊢;have hrq:m6 k.req=true:=by
       cases hq:m6 k.req with
       | true=>rfl
       | false =>
        exfalso;unfold bX at he;rw [hq] at he;cases hw:(Wk.pc ⟨c,[]⟩ i).waiting <;> rw [hw] at he <;> simp at he
      obtain ⟨k1,k2,k3,_,k5,_⟩:=jD hci hi he;refine aV.2 ⟨k1,fun x hx hw=>⟨?_,k2 x hx⟩⟩;rw [k3];rcases k5 x hx hw with h5|h5
      ·exact (hun x h5 hw).1
      ·rw [h5];unfold m6 at hrq;simp only [qBa,decide_eq_true_eq] at hrq;show k.req.limit=0\/c.now<c.now+k.req.limit;omega
     ·rw [qDf h2] at he ⊢;simp only [qCf] at he ⊢;by_cases h3:k.kind=3
      ·rw [qDt h3] at he ⊢;simp only [qCt] at he ⊢;cases hw:(Wk.pc ⟨c,[]⟩ i).waiting with
       | false=>rw [hw] at he;simp at he
       | true =>
        simp only [Bool.not_true,qCf];obtain ⟨k1,_,k3,k4,_⟩:=b9 hci hi hw;have hi2:i<(ai ⟨c,[]⟩ i).c.procs.length:=by rw [k3.len];exact hi
        obtain ⟨n1,n2,_⟩:=eL k1 hi2 (by rw [bh hi2];simp [k4]);obtain ⟨q1,q2,q3⟩:=gE n1;have hk:=(k3.trans n2).trans q3;exact fin _ q1 q2 hk.kw hk.now
      ·rw [qDf h3] at he ⊢;simp only [qCf] at he ⊢;by_cases h4:k.kind=4
       ·rw [qDt h4] at he ⊢;simp only [qCt] at he ⊢;obtain ⟨q1,q2,hk,_⟩:=lZ hci hi he;exact fin _ q1 q2 hk.kw hk.now
       ·rw [qDf h4] at he ⊢;simp only [qCf] at he ⊢;by_cases h5:k.kind=5
        ·rw [qDt h5] at he ⊢;simp only [qCt] at he ⊢;rcases Bool.eq_false_or_eq_true (Wk.pc ⟨c,[]⟩ i).waiting with hw|hw
         ·rw [cT hw] at he;simp at he
         ·rw [cF hw] at he ⊢;by_cases hs:(da (Wk.pc ⟨c,[]⟩ i).led k.n).2=0
          ·rw [qDt hs];simp only [Bool.not_true,qCf];obtain ⟨hld,hse,hld2⟩:=HY hs;rw [hse];have hpc:=bh (w:=⟨c,[]⟩) hi;have hinv:=hci.inv _ (List.getElem_mem hi);rw [<-hpc] at hinv;obtain ⟨hrq,hsn,hrun⟩:=hinv.run hw;have hpv:PInv c.queues c.now { Wk.pc ⟨c,[]⟩ i with led:=⟨(Wk.pc ⟨c,[]⟩ i).led.entries,(Wk.pc ⟨c,[]⟩ i).led.saves++[⟨k.n,(Wk.pc ⟨c,[]⟩ i).led.entries.length⟩]⟩ } :=
            ⟨⟨hinv.stat.vp,hinv.stat.cost,hld2,hinv.stat.gen,hinv.stat.hf⟩,fun _=>⟨hrq,hsn,fun n hn=>(hrun n hn).led rfl rfl⟩,fun hf=>by
             have:(Wk.pc ⟨c,[]⟩ i).waiting=true:=hf;rw [hw] at this;cases this⟩
           have hci2:=hci.upd (c':=(Wk.setP ⟨c,[]⟩ i { Wk.pc ⟨c,[]⟩ i with led:=⟨(Wk.pc ⟨c,[]⟩ i).led.entries,(Wk.pc ⟨c,[]⟩ i).led.saves++[⟨k.n,(Wk.pc ⟨c,[]⟩ i).led.entries.length⟩]⟩ }).c) hi rfl rfl (by rw [hpc]) (TP.refl hci.tv _) hpv;have hi2:i<(Wk.setP ⟨c,[]⟩ i { Wk.pc ⟨c,[]⟩ i with led:=⟨(Wk.pc ⟨c,[]⟩ i).led.entries,(Wk.pc ⟨c,[]⟩ i).led.saves++[⟨k.n,(Wk.pc ⟨c,[]⟩ i).led.entries.length⟩]⟩ }).c.procs.length:=by
            show i<(c.procs.set i _).length;simpa using hi
           obtain ⟨n1,n2,_⟩:=eL hci2 hi2 (by rw [fa hi];exact hw);have hkw:KW c.procs (Wk.setP ⟨c,[]⟩ i { Wk.pc ⟨c,[]⟩ i with led:=⟨(Wk.pc ⟨c,[]⟩ i).led.entries,(Wk.pc ⟨c,[]⟩ i).led.saves++[⟨k.n,(Wk.pc ⟨c,[]⟩ i).led.entries.length⟩]⟩ }).c.procs:=KW.set hw;refine fin _ n1 (fun x hx=>?_) (hkw.trans n2.kw) n2.now;cases hxw:x.waiting with
           | false=>unfold dU;rw [hxw];rfl
           | true=>exact iv (hun x (hkw.trans n2.kw x hx hxw))
          ·exact V6
        ·rw [qDf h5] at he ⊢;simp only [qCf] at he ⊢;by_cases h6:k.kind=6
         ·rw [qDt h6] at he ⊢;simp only [qCt] at he ⊢;obtain ⟨q1,q2,hk,_⟩:=iN hci hi he;exact fin _ q1 q2 hk.kw hk.now
         ·rw [qDf h6] at he ⊢;simp only [qCf] at he ⊢;cases h8:decide (k.kind=8) && (Wk.pc ⟨c,[]⟩ i).waiting with
          | true=>rw [h8] at he;simp at he
          | false =>
           simp only [qCf];obtain ⟨q1,q2,q3,q4,_⟩:=xu (w:=⟨c,[]⟩) hci hi;exact fin _ q1 q2 q3 q4
theorem fI {c:Cs} {k:Cm} (he:(cy c k).2.2=0):cG c=true/\cG (cy c k).1=true:=by
 unfold cy at he ⊢;cases hc:cG c with
 | false=>rw [hc] at he;simp at he
 | true =>
  rw [hc] at he;simp only [Bool.not_true,qCf] at he ⊢;by_cases h0:(g8 ⟨c,[]⟩ k).2=0
  ·rw [qDt h0];exact ⟨trivial,Sz hc h0⟩
  ·rw [qDf h0] at he;simp only [Bool.not_false,qCt] at he;exact absurd he h0
def ll (n m:Int):Int:=bif decide (m<1) then 0 else bif decide (n.tmod m<0) then n.tmod m+m else n.tmod m
theorem og {n m:Int} (h:1<=m):0<=ll n m/\ll n m<m:=by
 unfold ll;rw [qDf (by omega),qCf];by_cases h2:n.tmod m<0
 ·rw [qDt h2,qCt];have:=Int.lt_tmod_of_pos n (show 0<m by omega);omega
 ·rw [qDf h2,qCf];have:=Int.tmod_lt_of_pos n (show 0<m by omega);omega
structure Tp where
 l:List Int
 at_:Nat
def Tp.v (t:Tp) (m:Int):Int:=bif decide (t.l.length<=t.at_) then 0 else ll (t.l.getD t.at_ 0) m
def Tp.s (t:Tp):Tp:=bif decide (t.l.length<=t.at_) then t else ⟨t.l,t.at_+1⟩
theorem Tp.v_in (t:Tp) {m:Int} (h:1<=m):0<=t.v m/\t.v m<m:=by
 unfold Tp.v;cases decide (t.l.length<=t.at_) with
 | true=>rw [qCt];omega
 | false=>exact og h
theorem Tp.s_l (t:Tp):t.s.l=t.l:=by unfold Tp.s;cases decide (t.l.length<=t.at_) <;> rfl
theorem Tp.s_at (t:Tp) (h:t.at_<=t.l.length):t.s.at_<=t.s.l.length:=by
 rw [Tp.s_l];unfold Tp.s;by_cases h2:t.l.length<=t.at_
 ·rw [qDt h2];exact h
 ·rw [qDf h2];show t.at_+1<=_;omega
theorem Tp.s_le (t:Tp):t.at_<=t.s.at_:=by
 unfold Tp.s;cases decide (t.l.length<=t.at_) with
 | true=>exact Nat.le_refl _
 | false=>exact Nat.le_succ _
theorem Tp.s_lt (t:Tp) (h:t.at_<t.l.length):t.s.at_=t.at_+1:=by
 unfold Tp.s;rw [qDf (by omega)];rfl
def ce (n:Int):Pr:=⟨(ll n 8).tmod 4,1,1+(ll n 8).tdiv 4⟩
def nA:ByteArray:=⟨#[97]⟩
def nB:ByteArray:=⟨#[98]⟩
def nC:ByteArray:=⟨#[99]⟩
def nD:ByteArray:=⟨#[100]⟩
def nP:ByteArray:=⟨#[112]⟩
def nQ:ByteArray:=⟨#[113]⟩
def qj (t:Tp):List Rs×Tp :=
 ([⟨nA,1,1,t.v 4⟩,⟨nB,1,1,t.s.v 4⟩,⟨nC,1,1,t.s.s.v 4⟩,⟨nD,1,1,t.s.s.s.v 4⟩,⟨nP,2,1+t.s.s.s.s.v 8,t.s.s.s.s.s.v 4⟩,⟨nQ,2,1+t.s.s.s.s.s.s.v 3,t.s.s.s.s.s.s.s.v 4⟩],t.s.s.s.s.s.s.s.s)
def vr (n:Int):Int:=[5,5,3,4,2,1,3,5].getD (ll n 8).toNat 0
def KD (r:Rs) (n:Int):Am:=bif decide (r.kind=1) then ⟨vr n,0⟩ else ⟨0,1+ll n r.units⟩
def ln (first:Int):Nat->List Rs->List Tm
 | _,[]=>[]
 | i,r :: l=>⟨r.name,KD r (first.fdiv (2 ^ (3*i)))⟩ :: ln first (i+1) l
def vt (L:List Tm) (n:Int):Tm:=L.getD n.toNat ⟨⟨#[]⟩,Am.zero⟩
def iO (f:Tp->Ex×Tp):Nat->Tp->List Ex×Tp
 | 0,t=>([],t)
 | n+1,t=>((f t).1 :: (iO f n (f t).2).1,(iO f n (f t).2).2)
def fq (L:List Tm):Nat->Tp->Ex×Tp
 | 0,t=>(.mk 0 (vt L (t.v L.length)) [],t.s)
 | d+1,t=>bif decide (t.v 4=0) then (.mk 0 (vt L (t.s.v L.length)) [],t.s.s) else
  (.mk (1+t.s.s.v (1+t.s.v 3)) ⟨⟨#[]⟩,Am.zero⟩ (iO (fq L d) (1+t.s.v 3).toNat t.s.s.s).1,(iO (fq L d) (1+t.s.v 3).toNat t.s.s.s).2)
def mr (t:Tp) (l:List Rs):Ex×Tp:=fq (ln (t.v 1048576) 0 l) 2 t.s
def vF (t:Tp) (l:List Rs):Rq×Tp :=
 bif decide (t.s.v 5=1) then (⟨(mr t.s.s.s l).1,t.v 8,1+t.s.s.v 20⟩,(mr t.s.s.s l).2) else (⟨(mr t.s.s l).1,t.v 8,0⟩,(mr t.s.s l).2)
def vG (t:Tp) (l:List Rs):Cm×Tp :=
 let n:=t.v 16
 let p:=ce (t.s.v 6)
 let u:=t.s.s
 bif decide (n=0) then (⟨1,p,Rq.zero,⟨#[]⟩,1+u.v 9⟩,u.s) else
 bif decide (n<9) then (⟨2,p,(vF u l).1,⟨#[]⟩,0⟩,(vF u l).2) else
 bif decide (n=9) then (⟨3,p,Rq.zero,⟨#[]⟩,0⟩,u) else
 bif decide (n=10) then (⟨4,p,Rq.zero,(l.getD (u.v l.length).toNat ⟨⟨#[]⟩,0,0,0⟩).name,0⟩,u.s) else
 bif decide (n=11) then (⟨5,p,Rq.zero,⟨#[]⟩,1+u.v 4⟩,u.s) else
 bif decide (n=12) then (⟨6,p,Rq.zero,⟨#[]⟩,u.v 5⟩,u.s) else
 bif decide (n=13) then (⟨7,p,Rq.zero,⟨#[]⟩,0⟩,u) else
 bif decide (n=14) then (⟨8,p,Rq.zero,⟨#[]⟩,0⟩,u) else (⟨9,p,Rq.zero,⟨#[]⟩,u.v 12⟩,u.s)
def EI (i:Int) (t:Tp):Cm:=⟨1,ce i,Rq.zero,⟨#[]⟩,1+t.v 9⟩
def qk (cat:List Rs):Nat->Tp->List Cm
 | 0,_=>[]
 | n+1,t=>bif decide (t.at_<t.l.length) then (vG t cat).1 :: qk cat n (vG t cat).2 else []
def fb (l:List Int):List Rs×List Cm :=
 let c:=qj ⟨l,0⟩
 let t:=c.2
 (c.1,[EI 0 t,EI 1 t.s,EI 2 t.s.s,EI 3 t.s.s.s]++qk c.1 l.length t.s.s.s.s)
def gI (r:Rs):Qu:=⟨r,[],[],[],0⟩
structure Adv (t t':Tp):Prop where
 l:t'.l=t.l
 le:t.at_<=t'.at_
 ok:t.at_<=t.l.length->t'.at_<=t'.l.length
theorem Adv.refl (t:Tp):Adv t t:=⟨rfl,Nat.le_refl _,id⟩
theorem Adv.trans {a b c:Tp} (h:Adv a b) (k:Adv b c):Adv a c:=⟨k.l.trans h.l,Nat.le_trans h.le k.le,fun e=>k.ok (h.ok e)⟩
theorem Adv.s (t:Tp):Adv t t.s:=⟨t.s_l,t.s_le,t.s_at⟩
theorem Adv.ss {t u:Tp} (h:Adv t u):Adv t u.s:=h.trans (Adv.s u)
theorem Bf {f:Tp->Ex×Tp} (hf:∀t,Adv t (f t).2):∀(n:Nat) (t:Tp),Adv t (iO f n t).2
 | 0,t=>Adv.refl t
 | n+1,t=>(hf t).trans (Bf hf n (f t).2)
theorem pj (L:List Tm):∀(d:Nat) (t:Tp),Adv t (fq L d t).2
 | 0,t=>Adv.s t
 | d+1,t=>by
  unfold fq;cases decide (t.v 4=0) with
  | true=>exact (Adv.s t).ss
  | false=>exact (Adv.s t).ss.ss.trans (Bf (pj L d) _ _)
theorem Bg (t:Tp) (l:List Rs):Adv t (mr t l).2:=(Adv.s t).trans (pj _ 2 _)
theorem Mt (t:Tp) (l:List Rs):Adv t (vF t l).2:=by
 unfold vF;cases decide (t.s.v 5=1) with
 | true=>exact (Adv.s t).ss.ss.trans (Bg _ _)
 | false=>exact (Adv.s t).ss.trans (Bg _ _)
theorem EJ (t:Tp) (l:List Rs):Adv t.s (vG t l).2:=by
 have h:=Adv.s t.s;have h1:=h.ss;have h2:=h.trans (Mt t.s.s l);unfold vG;dsimp only;generalize decide (t.v 16=0)=b0;generalize decide (t.v 16<9)=b1;generalize decide (t.v 16=9)=b2;generalize decide (t.v 16=10)=b3;generalize decide (t.v 16=11)=b4;generalize decide (t.v 16=12)=b5;generalize decide (t.v 16=13)=b6;generalize decide (t.v 16=14)=b7;cases b0
 case true=>exact h1
 cases b1
 case true=>exact h2
 cases b2
 case true=>exact h
 cases b3
 case true=>exact h1
 cases b4
 case true=>exact h1
 cases b5
 case true=>exact h1
 cases b6
 case true=>exact h
 cases b7
 case true=>exact h
 exact h1
def GV:Option ByteArray->List Rs->Bool
 | _,[]=>true
 | o,r :: l=>iB r && Hf o r.name && GV (some r.name) l
theorem BA (o:Option ByteArray) (r:Rs) (l:List Rs):GV o (r :: l)=(iB r && Hf o r.name && GV (some r.name) l):=rfl
def Rh (l:List Rs):Bool:=decide (l.length<=8) && GV none l
def BB (l:List Rs) (k:Nat):Option ByteArray:=if k=0 then none else (l[k-1]?).map (·.name)
theorem GW (l:List Rs):BB l 0=none:=rfl
theorem zn {l:List Rs} {k:Nat} {x:Rs} (h:k<l.length) (hx:l[k]=x):BB l (k+1)=some x.name:=by
 unfold BB;rw [if_neg (by omega),Nat.add_sub_cancel,qGg h,hx];rfl
theorem Kl {l:List Rs} {k:Nat} {x:Rs} (h0:0<k) (h:k-1<l.length) (hx:l[k-1]=x):BB l k=some x.name:=by
 unfold BB;rw [if_neg (by omega),qGg h,hx];rfl
theorem Fr:∀(l:List Rs) (o:Option ByteArray),GV o l=true↔(∀x∈l,iB x=true)/\(∀i (h:i+1<l.length),jN (l[i]'(by omega)).name l[i+1].name=true)/\∀n,o=some n->∀x,l.head? = some x->jN n x.name=true
 | [],o=>by simp [GV]
 | x :: l,o=>by
  rw [BA,qBa,qBa,Fr l (some x.name)];constructor
  ·rintro ⟨⟨h1,h2⟩,h3,h4,h5⟩;refine ⟨fun y hy=>?_,fun i hi=>?_,fun n hn y hy=>?_⟩
   ·rcases List.mem_cons.1 hy with rfl|hy
    ·exact h1
    ·exact h3 y hy
   ·cases i with
    | zero =>
     cases l with
     | nil=>simp at hi
     | cons z l=>exact h5 x.name rfl z rfl
    | succ i =>
     have:=h4 i (by simpa using hi);simpa using this
   ·subst hn;simp only [List.head?_cons,Option.some.injEq] at hy;subst hy;exact h2
  ·rintro ⟨h1,h2,h3⟩;refine ⟨⟨h1 x (by simp),?_⟩,fun y hy=>h1 y (by simp [hy]),fun i hi=>?_,fun n hn y hy=>?_⟩
   ·cases o with
    | none=>rfl
    | some n=>exact h3 n rfl x rfl
   ·have:=h2 (i+1) (by simpa using hi);simpa using this
   ·injection hn with hn;subst hn;cases l with
    | nil=>cases hy
    | cons z l =>
     simp only [List.head?_cons,Option.some.injEq] at hy;subst hy;have:=h2 0 (by simp);simpa using this
theorem CZ {l:List Rs}:Rh l=true↔CatOk l:=by
 unfold Rh;rw [qBa,decide_eq_true_eq,Fr];exact ⟨fun ⟨h1,h2,h3,_⟩=>⟨h1,h2,h3⟩,fun h=>⟨h.len,h.ok,h.asc,fun _ h=>by cases h⟩⟩
theorem PY (l:List Rs):FSpec prog 74 [.one (.sl dQ l)] [] [] (.b (Rh l)) []:=by
  obtain ⟨v,hv⟩:=qGe (Rh l);rw [hv];unfold Rh at hv;refine a7 func74 ?_;refine aY (fun c ρ a w hr=>bV (t:=0) hr rfl) (fun hl0=>?_);by_cases h8:8<l.length
  · rw [qDf (by omega)] at hv
    obtain rfl:false=v:=hv;exact UG
  rw [qDt (by omega),Bool.true_and] at hv;refine ao ?_;refine ab (fun i=>i<=l.length/\GV (BB l i) (l.drop i)=v) (fun i=>bP [] [(0,.c (.sl dQ l)),(8,.c (.sl dQ l)),(9,.i l.length),(10,.i i)] []) (fun i=>l.length-i) 0 ⟨Nat.zero_le _,hv⟩ aT ?_;rintro i ⟨hi,hs⟩;by_cases hlt:i<l.length
  · rw [qDc hlt,BA] at hs
    rcases Nat.eq_zero_or_pos i with h0|h0
    · subst h0
      rw [GW] at hs;have:=Em l[0];repeat' (first|refine av ?_ ?_|refine gV ?_|refine aq ?_|exact aw|(refine ap fun hb=>?_;first|(simp at hb;done)|skip))
      all_goals first
        | (obtain rfl:false=v
           · (rw [<-hs];simp [*];done)
           refine cc (qf []) ?_;exact af)
        | (refine ⟨1,⟨by omega,by rw [<-hs,zn hlt rfl];simp [*,Hf]⟩,by omega,?_⟩
           exact aT)
    · obtain ⟨m,hm⟩:=qGe (l[i-1])
      have hgm:l[((i:Int)-1).toNat]? = some m:=by rw [show ((i:Int)-1).toNat=i-1 by omega,qGg (by omega),hm]
      rw [Kl h0 (by omega) hm] at hs;have:=Em l[i];repeat' (first|refine av ?_ ?_|refine gV ?_|refine aq ?_|exact aw|(refine ap fun hb=>?_;first|(omega)|skip))
      all_goals first
        | (obtain rfl:false=v
           · (rw [<-hs];simp [*,Hf];done)
           refine cc (qf []) ?_;exact af)
        | (refine ⟨i+1,⟨by omega,by rw [<-hs,zn hlt rfl];simp [*,Hf]⟩,by omega,?_⟩
           exact aT)
  · rw [qDn (by omega)] at hs
    obtain rfl:true=v:=hs;exact UG
theorem SY (l:List Rs) {v:Bool} (hv:Rh l=v):FSpec prog 46 [.one (.sl dQ l)] [] [] (.tup [.one (.sl eh (bif v then l.map gI else [])),iV (bif v then 0 else 1)]) []:=by
 have kV:=PY l;rw [hv] at kV;refine a7 func46 ?_;cases v with
 | false =>
  refine ao ?_
  (refine fE (qf []) ?_;exact af)
 | true =>
  have hc:=CZ.1 hv;have h8:=hc.len;refine ao ?_;refine cj 4 1000 66 eh rfl rfl rfl ?_;refine ab (fun y:Nat×List Qu=>y.1<=l.length/\y.2=(l.take y.1).map gI) (fun y=>bP [1000] [(4,.c (.own 1000)),(12,.c (.sl dQ l)),(13,.i l.length),(14,.i y.1)] [(1000,.arr 66 eh y.2)]) (fun y=>l.length-y.1) (0,[]) ⟨Nat.zero_le _,rfl⟩ aT ?_;rintro ⟨i,T⟩ ⟨hi,hT⟩;dsimp only at *
  have hTl:T.length=i:=by rw [hT];simp;omega
  by_cases hlt:i<l.length
  ·obtain ⟨r,hr⟩:∃r,l[i]? = some r:=⟨_,qGg hlt⟩;have er:=qGs hr;have kN:=Ss r (er▸hc.ok _ (List.getElem_mem hlt));repeat' (first|refine av ?_ ?_|(refine aa 8 rfl ?_;refine sx (ae rfl rfl (aH rfl rfl) (AV [gI r] rfl rfl rfl) rfl aQ aQ) ?_)|refine aa 9 rfl (cC [] kN ?_)|refine aq ?_|exact aw|(refine ap fun hb=>?_;first|(exact absurd hb (by decide))|skip))
   refine ⟨(i+1,T++[gI r]),⟨by dsimp only;omega,?_⟩,by dsimp only;omega,?_⟩
   ·dsimp only;rw [hT,List.take_succ_eq_append_getElem hlt,er];simp
   ·exact bo (qf [(1000,29)])
  ·obtain rfl:T=l.map gI:=by rw [hT,List.take_of_length_le (by omega)]
   refine ao ?_
   (refine fE (qf []) ?_;exact af)
theorem ml (a b:List Tm):FSpec prog 37 [.one (.sl c6 a),.one (.sl c6 b)] [] [] (.b (decide (a=b))) []:=by
 refine a7 func37 ?_;refine aY (fun c ρ a w hr=>bV (t:=0) hr rfl) (fun hl0=>?_);by_cases hl:a.length=b.length
 case neg =>
  have hne:a≠b:=fun e=>hl (by rw [e]);rw [qDf hne];refine ao ?_;exact bg
 refine ao ?_;refine ab (fun i=>i<=a.length/\((a=b)↔a.drop i=b.drop i)) (fun i=>bP [] [(0,.c (.sl c6 a)),(1,.c (.sl c6 b)),(5,.i i)] []) (fun i=>a.length-i) 0 ⟨Nat.zero_le _,Iff.rfl⟩ aT ?_;rintro i ⟨hi,hs⟩;by_cases hlt:i<a.length
 ·have hlt2:i<b.length:=by omega
  rw [qDc hlt,qDc hlt2,List.cons.injEq] at hs;obtain ⟨x,hx⟩:∃x,a[i]? = some x:=⟨_,qGg hlt⟩;obtain ⟨y,hy⟩:∃y,b[i]? = some y:=⟨_,qGg hlt2⟩;have ex:=qGs hx;have ey:=qGs hy;rw [ex,ey] at hs;clear ex ey;by_cases he:x=y
  ·subst he;refine ao ?_;refine ⟨i+1,⟨by omega,?_⟩,by omega,?_⟩
   ·rw [hs];simp
   ·exact aT
  ·rw [qDf (fun e=>he (hs.1 e).1)];exact UG
 ·rw [qDn (by omega),qDn (by omega)] at hs;rw [qDt (hs.2 rfl)];exact UG
theorem T1 (l:List Tm):(((l.length:Nat):Int) == 0)=decide (l=[]):=by
 rw [Bool.eq_iff_iff];cases l with
 | nil=>simp
 | cons x l=>simp;omega
def Cs.d (d:Nat) (c:Cs):List D:=[.sc (.int .i64 c.now),.sl eh c.queues,.sl (fR d) c.procs]
def Cs.a (d:Nat) (c:Cs):V0:=.ag (c.d d)
def Kt (c:Cs) (a:Tm):Bool:=bd c.queues a.name && aS (bf c.queues a.name).res a.am
def Ph (c:Cs) (x:Pc):Bool:=Nw x.req && decide (x.since=0) && decide (dx x.led=db c.queues x.proc) && decide (bW x.proc c.queues=[])
def IX (c:Cs) (x:Pc):Bool:=m6 x.req && decide (fW c.queues x.req.expr=0) && decide (0<=x.since) && decide (x.since<=c.now) && (decide (x.req.limit=0) || decide (c.now<x.since+x.req.limit)) && !cM x.req.expr (bk c.queues x.proc x.req.expr) && c.queues.all (fun q=>cR q x (bJ x.req.expr))
theorem Fu (c:Cs) (x:Pc):oB c x=(jW x.proc && decide (1<=x.cost) && decide (x.cost<=1000) && rT x.led && decide (0<=x.gen) && decide (x.gen<=1073741824) && (dx x.led).all (Kt c) && bif !x.waiting then Ph c x else IX c x):=rfl
theorem M4 (d:Nat) (c:Cs) (x:Pc) (hn:0<=c.now/\c.now<=1073741824) (hV:di c.queues=true) {b:Bool} (hB:oB c x=b):FSpec prog 88 [c.a d,x.a d] [] [] (.b b) []:=by
 refine a7 func88 ?_;have hq8:=(bi hV).1;rw [Fu] at hB;have kV:=im x.proc;have kG:=dq x.led;obtain ⟨v,hv⟩:=qGe (jW x.proc);rw [hv] at kV;cases v with
 | false =>
  obtain rfl:b=false:=by rw [<-hB,hv];rfl
  exact UG
 | true =>
  by_cases h1:1<=x.cost/\x.cost<=1000
  case neg =>
   obtain rfl:b=false:=by rw [<-hB,show decide (1<=x.cost) = !decide (x.cost<1) by by_cases h:x.cost<1 <;> simp [h] <;> omega];by_cases h:x.cost<1 <;> simp [h] <;> omega
   by_cases h2:x.cost<1
   ·exact UG
   ·exact UG
  obtain ⟨h1,h2⟩:=h1;rw [hv,qDt h1,qDt h2] at hB;obtain ⟨g,hg⟩:=qGe (rT x.led);rw [hg] at kG hB;cases g with
  | false =>
   obtain rfl:b=false:=by rw [<-hB];rfl
   exact UG
  | true =>
   by_cases h3:0<=x.gen/\x.gen<=1073741824
   case neg =>
    obtain rfl:b=false:=by rw [<-hB];by_cases h:0<=x.gen <;> simp [h] <;> omega
    by_cases h4:x.gen<0
    ·exact UG
    ·exact UG
   obtain ⟨h3,h4⟩:=h3;rw [qDt h3,qDt h4] at hB;simp only [Bool.true_and] at hB;have kH:=yI x.led (eZ hg).1;obtain ⟨L,hL⟩:=qGe (dx x.led);have hL8:L.length<=8:=by
    rw [<-hL];unfold dx;exact Nat.le_trans (List.length_filter_le _ _) (by rw [List.length_map];exact (eK.1 hg).nms)
   rw [hL] at kH hB;refine ao ?_;refine ab (fun i=>i<=L.length/\(L.all (Kt c)=(L.drop i).all (Kt c))) (fun i=>bP [2,3] [(2,.c (.ptr 2 0)),(3,.c (.ptr 3 0)),(5,.c (.sl c6 L)),(6,.i i)] [(2,.box 32 (c.d d)),(3,.box 82 (x.d d))]) (fun i=>L.length-i) 0 ⟨Nat.zero_le _,rfl⟩ aT ?_;rintro i ⟨hi,hs⟩;by_cases hlt:i<L.length
   ·obtain ⟨a,ha⟩:∃a,L[i]? = some a:=⟨_,qGg hlt⟩;have ea:=qGs ha;rw [qDc hlt,ea,List.all_cons] at hs;by_cases hk:bG a.name 0 c.queues<0
    ·have hf:Kt c a=false:=by unfold Kt bd;rw [qDf (by omega)];rfl
     obtain rfl:b=false:=by rw [<-hB,hs,hf];rfl
     have kF:=sw c.queues a.name;exact UG
    ·obtain ⟨j,hj,hF,hqa,hx⟩:=eC hk;have kF:=dy c.queues a.name hF;obtain ⟨q,hq⟩:∃q,c.queues[j]? = some q:=⟨_,qGg hj⟩;have eq:=qGs hq;have hf:Kt c a=aS q.res a.am:=by
      unfold Kt bd bf;rw [hqa,eq,qDt (by omega)];rfl
     have kR:=jz q.res a.am;obtain ⟨f,hff⟩:=qGe (aS q.res a.am);rw [hff] at kR hf;rw [hf] at hs;clear hF hk hqa hx;cases f with
     | false =>
      obtain rfl:b=false:=by rw [<-hB,hs];rfl
      exact UG
     | true =>
      refine ao ?_;refine ⟨i+1,⟨by omega,?_⟩,by omega,?_⟩
      ·rw [hs,Bool.true_and]
      ·exact aT
   rw [qDn (by omega),List.all_nil] at hs;rw [hs,Bool.true_and] at hB;clear hs;cases hw:x.waiting with
   | false =>
    rw [hw,Bool.not_false,qCt] at hB;rw [<-hB];have kA:=JV d x.req;have kO:=jl c.queues x.proc (by omega);have kS:=ml L (db c.queues x.proc);have kC:=Cq c.queues x.proc (by omega);repeat' (first|refine av ?_ ?_|refine gV ?_|refine aq ?_|exact aw|(refine ap fun hb=>?_;first|(cases hw.symm.trans hb;done)|skip))
    all_goals (refine eU ?_;rw [<-hL] at *;simp [Ph,T1, *])
   | true =>
    rw [hw,Bool.not_true,qCf] at hB;unfold IX at hB;have kQ:=Ey d x.req;have kC:=EA c.queues (by omega);have kR:=SG d c.queues x.req.expr hV;obtain ⟨rq,hrq⟩:=qGe (m6 x.req);rw [hrq] at kQ hB;cases rq with
    | false =>
     obtain rfl:b=false:=by rw [<-hB];rfl
     exact UG
    | true =>
     obtain ⟨e,he⟩:=qGe (fW c.queues x.req.expr);rw [he] at kR hB;by_cases h0:e=0
     case neg =>
      obtain rfl:b=false:=by rw [<-hB,qDf h0];rfl
      exact UG
     subst h0;have hlim:0<=x.req.limit/\x.req.limit<=1000:=by
      unfold m6 at hrq;simp only [qBa,decide_eq_true_eq] at hrq;exact ⟨hrq.1.2,hrq.2⟩
     have hgl:(bk c.queues x.proc x.req.expr).length<=1000:=by have:=cD x.req.expr;simp [bk];omega
     have kGr:=nj d c.queues x.proc x.req.expr;have kHo:=sA d x.req.expr (bk c.queues x.proc x.req.expr) hgl;obtain ⟨T,hT⟩:=qGe (bJ x.req.expr);rw [hT] at hB;have kAt:=lg d x.req.expr hT;by_cases hsn:0<=x.since/\x.since<=c.now
     case neg =>
      obtain rfl:b=false:=by rw [<-hB];by_cases h:0<=x.since <;> simp [h] <;> omega
      by_cases h9:x.since<0
      ·exact UG
      ·exact UG
     obtain ⟨hs1,hs2⟩:=hsn;rw [qDt hs1,qDt hs2] at hB;simp only [decide_true,Bool.true_and] at hB;by_cases hli:x.req.limit=0\/c.now<x.since+x.req.limit
     case neg =>
      obtain rfl:b=false:=by rw [<-hB,qDf (fun h=>hli (.inl h)),qDf (fun h=>hli (.inr h))];rfl
      rw [not_or] at hli;obtain ⟨hl1,hl2⟩:=hli;exact UG
     have hli':(decide (x.req.limit=0) || decide (c.now<x.since+x.req.limit))=true:=by simpa using hli
     rw [hli',Bool.true_and] at hB;obtain ⟨ho,hho⟩:=qGe (cM x.req.expr (bk c.queues x.proc x.req.expr));rw [hho] at kHo hB;cases ho with
     | true =>
      obtain rfl:b=false:=by rw [<-hB];rfl
      rcases hli with hl1|hl1
      ·exact UG
      ·by_cases hl2:x.req.limit=0
       ·repeat' (first|refine av ?_ ?_|refine gV ?_|refine aq ?_|exact aw|(refine ap fun hb=>?_;first|(cases hw.symm.trans hb;done)|(exact absurd hl2 hb)|skip)|exact bg|fail)
       ·exact UG
     | false =>
      rw [Bool.not_false,Bool.true_and] at hB;obtain ⟨F,hF⟩:∃F:Qu->Bool,(fun q=>cR q x T)=F:=⟨_,rfl⟩;have hF':∀q,cR q x T=F q:=fun q=>congrFun hF q;rw [hF] at hB;by_cases hl2:x.req.limit=0
      case' pos =>
       refine ao ?_
      case' neg =>
       refine ao ?_
      all_goals
       refine ab (fun i=>i<=c.queues.length/\(c.queues.all F=(c.queues.drop i).all F)) (fun i=>bP [2,3] [(2,.c (.ptr 2 0)),(3,.c (.ptr 3 0)),(9,.c (.sl c6 T)),(10,.i i)] [(2,.box 32 (c.d d)),(3,.box 82 (x.d d))]) (fun i=>c.queues.length-i) 0 ⟨Nat.zero_le _,rfl⟩ aT ?_;clear kAt kHo kGr kR kC kQ hli';rintro i ⟨hi,hs⟩;by_cases hlt:i<c.queues.length
       ·obtain ⟨q,hq⟩:∃q,c.queues[i]? = some q:=⟨_,qGg hlt⟩;have eq:=qGs hq;rw [qDc hlt,eq,List.all_cons] at hs;have kP:=S9 d q x T;rw [hF'] at kP;obtain ⟨f,hff⟩:=qGe (F q);rw [hff] at kP hs;cases f with
        | false =>
         obtain rfl:b=false:=by rw [<-hB,hs];rfl
         exact UG
        | true =>
         refine ao ?_;refine ⟨i+1,⟨by omega,?_⟩,by omega,?_⟩
         ·rw [hs,Bool.true_and]
         ·exact aT
       ·rw [qDn (by omega),List.all_nil] at hs;obtain rfl:b=true:=by rw [<-hB,hs]
        exact UG
theorem Tc:nA.toList=[97]:=by rw [ByteArray.toList_eq];rfl
theorem Ru:nB.toList=[98]:=by rw [ByteArray.toList_eq];rfl
theorem Rv:nC.toList=[99]:=by rw [ByteArray.toList_eq];rfl
theorem Rw:nD.toList=[100]:=by rw [ByteArray.toList_eq];rfl
theorem Rx:nP.toList=[112]:=by rw [ByteArray.toList_eq];rfl
theorem Td:nQ.toList=[113]:=by rw [ByteArray.toList_eq];rfl
theorem sS {n:ByteArray} {k u h:Int} (hn:dh n.toList=true) (hs:br ⟨n,k,u,h⟩=true) (h0:0<=h) (h1:h<4):iB ⟨n,k,u,h⟩=true:=by
 unfold iB Rs.key;rw [hs,qDt h0,qDt h1];simpa using hn
theorem jV (l:List Int):CatOk (fb l).1:=by
 show CatOk (qj ⟨l,0⟩).1;generalize (⟨l,0⟩:Tp)=t;have b1:=t.v_in (m:=4) (by omega);have b2:=t.s.v_in (m:=4) (by omega);have b3:=t.s.s.v_in (m:=4) (by omega);have b4:=t.s.s.s.v_in (m:=4) (by omega);have b5:=t.s.s.s.s.v_in (m:=8) (by omega);have b6:=t.s.s.s.s.s.v_in (m:=4) (by omega);have b7:=t.s.s.s.s.s.s.v_in (m:=3) (by omega);have b8:=t.s.s.s.s.s.s.s.v_in (m:=4) (by omega);unfold qj;dsimp only;generalize t.s.s.s.s.s.s.s.v 4=v8 at *
 generalize t.s.s.s.s.s.s.v 3=v7 at *
 generalize t.s.s.s.s.s.v 4=v6 at *
 generalize t.s.s.s.s.v 8=v5 at *
 generalize t.s.s.s.v 4=v4 at *
 generalize t.s.s.v 4=v3 at *
 generalize t.s.v 4=v2 at *
 generalize t.v 4=v1 at *
 have hp:∀n v,0<=v->v<8->∀h,br ⟨n,2,1+v,h⟩=true:=fun n v h1 h2 h=>by unfold br;simp;omega
 refine ⟨by simp,fun x hx=>?_,fun i hi=>?_⟩
 ·simp only [List.mem_cons,List.not_mem_nil,or_false] at hx;rcases hx with rfl|rfl|rfl|rfl|rfl|rfl
  ·exact sS (by rw [Tc];decide) rfl (by omega) (by omega)
  ·exact sS (by rw [Ru];decide) rfl (by omega) (by omega)
  ·exact sS (by rw [Rv];decide) rfl (by omega) (by omega)
  ·exact sS (by rw [Rw];decide) rfl (by omega) (by omega)
  ·exact sS (by rw [Rx];decide) (hp _ _ (by omega) (by omega) _) (by omega) (by omega)
  ·exact sS (by rw [Td];decide) (hp _ _ (by omega) (by omega) _) (by omega) (by omega)
 ·simp only [List.length_cons,List.length_nil] at hi;unfold jN;obtain rfl|rfl|rfl|rfl|rfl:i=0\/i=1\/i=2\/i=3\/i=4:=by omega
  ·show Op.bytesLess nA.toList nB.toList=true;rw [Tc,Ru];decide
  ·show Op.bytesLess nB.toList nC.toList=true;rw [Ru,Rv];decide
  ·show Op.bytesLess nC.toList nD.toList=true;rw [Rv,Rw];decide
  ·show Op.bytesLess nD.toList nP.toList=true;rw [Rw,Rx];decide
  ·show Op.bytesLess nP.toList nQ.toList=true;rw [Rx,Td];decide
def T6:Rs:=⟨nA,1,1,0⟩
def Ni:Cs:=⟨0,[gI T6],[]⟩
def Nz (p:Pr):Cm:=⟨1,p,Rq.zero,⟨#[]⟩,5⟩
def Nj (p:Pr):Cm:=⟨2,p,⟨.mk 0 ⟨nA,⟨5,0⟩⟩ [],0,0⟩,⟨#[]⟩,0⟩
def G8:Cs:=(cy Ni (Nz (ce 0))).1
def FA:Cs:=(cy G8 (Nz (ce 1))).1
def G9:Cs:=(cy FA (Nj (ce 0))).1
def sU:Cs:=(cy G9 (Nj (ce 1))).1
theorem UA:(cy Ni (Nz (ce 0))).2.2=0:=by decide +kernel
theorem UB:(cy G8 (Nz (ce 1))).2.2=0:=by decide +kernel
theorem UC:(cy FA (Nj (ce 0))).2.2=0:=by decide +kernel
theorem T7:(cy FA (Nj (ce 0))).2.1.map (·.kind)=[1,2]:=by decide +kernel
theorem Ut:(cy G9 (Nj (ce 1))).2.2=0:=by decide +kernel
theorem Uu:bM (ce 1) 0 sU.procs=1:=by decide +kernel
theorem UD:(sU.procs[1]?).map (fun x=>(x.waiting,(bk sU.queues x.proc x.req.expr).length))=some (true,1):=by decide +kernel
theorem T8:cG sU=true:=(fI Ut).2
theorem xC {c:Cs} {k:Cm} (h:(cy c k).2.2=0):cy c k=((cy c k).1,(cy c k).2.1,0):=by rw [<-h]
theorem Te (l:List Rs) (hc:CatOk l):FSpec prog 47 [.one (.sl dQ l)] [] [] (.tup [.one (.sl eh (l.map gI)),.one (.sc (.int .i64 0))]) []:=by
 refine a7 func47 ?_;have h8:=hc.len;have kV:=od l hc;refine ao ?_;refine cj 4 1000 66 eh rfl rfl rfl ?_;refine ab (fun y:Nat×List Qu=>y.1<=l.length/\y.2=(l.take y.1).map gI) (fun y=>bP [1000] [(0,.c (.sl dQ l)),(4,.c (.own 1000)),(5,.i y.1)] [(1000,.arr 66 eh y.2)]) (fun y=>l.length-y.1) (0,[]) ⟨Nat.zero_le _,rfl⟩ aT ?_;rintro ⟨i,T⟩ ⟨hi,hT⟩;dsimp only at *
 have hTl:T.length=i:=by rw [hT];simp;omega
 by_cases hlt:i<l.length
 ·obtain ⟨r,hr⟩:∃r,l[i]? = some r:=⟨_,qGg hlt⟩;have er:=qGs hr;repeat' (first|refine av ?_ ?_|(refine aa 8 rfl ?_;refine sx (ae rfl rfl (aH rfl rfl) (AV [gI r] rfl rfl rfl) rfl aQ aQ) ?_)|refine aq ?_|exact aw|refine ap fun hb=>?_)
  refine ⟨(i+1,T++[gI r]),⟨by dsimp only;omega,?_⟩,by dsimp only;omega,?_⟩
  ·dsimp only;rw [hT,List.take_succ_eq_append_getElem hlt,er];simp
  ·exact bo (qf [(1000,22)])
 ·obtain rfl:T=l.map gI:=by rw [hT,List.take_of_length_le (by omega)]
  refine ao ?_
  (refine fE (qf []) ?_;exact af)
theorem P9 (d:Nat) (l:List Rs) (hc:CatOk l):FSpec prog 14 [.one (.sl dQ l)] [] [] (.tup [(Cs.mk 0 (l.map gI) []).a d,.one (.sc (.int .i64 0))]) []:=by
 refine a7 func14 ?_;have kT:=Te l hc;refine ao ?_
 (refine fE (qf []) ?_;exact af)
end Go.Proofs.YthpgjkjgkhjjlaaGreatDoor
