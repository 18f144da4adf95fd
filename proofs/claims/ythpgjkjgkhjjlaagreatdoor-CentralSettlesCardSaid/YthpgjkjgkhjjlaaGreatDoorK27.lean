/- Part K27 of a proof of statements of chapter 15 (no condition). -/
import Derived.Test.YthpgjkjgkhjjlaaGreatDoorK24
import Derived.Test.YthpgjkjgkhjjlaaGreatDoorK22
import Derived.Test.YthpgjkjgkhjjlaaGreatDoorK21
set_option linter.unusedVariables false
set_option linter.unusedSimpArgs false
set_option maxRecDepth 100000
set_option maxHeartbeats 64000000
namespace Go.Proofs.YthpgjkjgkhjjlaaGreatDoor
open Go.RowKit Go.Proofs.Tryz
theorem Ma (q:Qu) (p:Pr) {R:Qu×List Ho×Int} (hR:bB q p=R):FSpec prog 316 [q.a,p.a] [] [] (p7 R) []:=by
 refine a7 func316 ?_;cases hS:ay q with
 | false =>
  obtain rfl:R=bR 2:=by rw [<-hR];simp [bB,hS]
  have:=dl q;refine ao ?_
  (refine dP (qf []) ?_;exact af)
 | true =>
  have hs:=aP hS;have h1:=hs.hv.len;have h2:=hs.clen;have h3:=hs.wlen;cases hw:aj q p with
  | none =>
   obtain rfl:R=bR 10:=by rw [<-hR];simp [bB,hS,hw]
   have:=dl q;have:=fG q p (by omega) (by omega) hw;refine ao ?_
   (refine dP (qf []) ?_;exact af)
  | some a =>
   obtain rfl:R=iY (dB { q with convs:=cq q.convs p,waits:=cq q.waits p }):=by rw [<-hR];simp [bB,hS,hw]
   have hd:=hs.drop p;have kF:=QQ q p (by omega) (by omega) rfl hd;repeat' (first|refine av ?_ ?_|(refine aa 0 rfl ?_;refine sx (dH (ks:=[9,3]) rfl rfl) ?_)|(refine aa 9 rfl ?_;first|(refine cB [] (dl q) ?_)|(refine cB [] (fG q p (by omega) (by omega) hw) ?_)|(refine cC [] (oa q (by omega) (by omega) (by omega)) ?_)|(refine cH (qf [(0,9),(1,27),(2,3)]) kF ?_))|refine aq ?_|exact aw|(refine ap fun hb=>?_;first|(simp [hS] at hb;done)|skip)|(refine dP (qf []) ?_;exact af))
theorem TH (q:Qu) (p:Pr) (a:Am) (hl:q.holds.length<=100000):FSpec prog 326 [.one (.ptr 0 0),.one (.ptr 1 0),.one (.ptr 2 0)] [(0,.box 66 q.d),lV 1 p,(2,.box 42 [.sc (.int .i64 a.mode),.sc (.int .i64 a.units)])] [] (.tup []) [(0,some (.box 66 { q with holds:=cw q.holds p a }.d)),(1,some (lV 1 p).2),(2,some (.box 42 [.sc (.int .i64 a.mode),.sc (.int .i64 a.units)]))]:=by
 refine a7 func326 ?_;have:=LX q.holds p a hl;refine ao ?_
 (exact oW (qf []))
theorem QR (q:Qu) (p:Pr) (a:Am) (hc:q.holds.length<=100000) {q2:Qu} (hq:{ q with holds:=cw q.holds p a } = q2) (hs:Sd q2):FSpec prog 265 [.one (.ptr 0 0),.one (.slb 1 1)] [(0,.box 66 q.d),(1,.box 1 [.clo 326 [0,2,3]]),lV 2 p,(3,.box 42 [.sc (.int .i64 a.mode),.sc (.int .i64 a.units)])] [] (p7 (iY (dB q2))) [(0,none),(1,none),(2,none),(3,none)]:=by
 refine a7 func265 ?_;have k1:=TH q p a hc;rw [hq] at k1;repeat' (first|refine av ?_ ?_|(refine aa 7 rfl ?_;refine sx (eP rfl rfl) ?_)|refine aq ?_|exact aw|refine ap fun hb=>?_)
 refine ab (fun x:Nat×Qu=>x.1=0/\x.2=q\/x.1=1/\x.2=q2) (fun x=>bP [0,1,2,3,4] [(0,.c (.ptr 0 0)),(4,.c (.ptr 4 0)),(10,.c (.slb 1 1)),(11,.i 1),(12,.i x.1)] [(0,.box 66 x.2.d),(4,.box 66 Gn),(1,.box 1 [.clo 326 [0,2,3]]),lV 2 p,(3,.box 42 [.sc (.int .i64 a.mode),.sc (.int .i64 a.units)])]) (fun x=>1-x.1) (0,q) (.inl ⟨rfl,rfl⟩) aT ?_;rintro ⟨i,z⟩ hz;dsimp only at *
 rcases hz with ⟨rfl,rfl⟩|⟨rfl,rfl⟩
 ·repeat' (first
   | refine av ?_ ?_
   | (refine aa 6 rfl ?_;refine sx (bK (i:=0) rfl rfl rfl rfl (by decide)) ?_)
   | (refine aa 9 rfl ?_;refine ov 0 [0,1,2] (qf [(0,0),(1,2),(2,3)]) k1 ?_)
   | refine aq ?_
   | exact aw|(refine ap fun hb=>?_;first|(exact absurd hb (by decide))|skip))
  refine ⟨(1,q2),.inr ⟨rfl,rfl⟩,by simp,?_⟩;exact aT
 ·have kA:=ld z hs;unfold dB;obtain ⟨⟨N,G⟩,hN⟩:∃x,mW z=x:=⟨_,rfl⟩;have hg:N.gen=z.gen:=by have:=(eV hs).2.1;rw [hN] at this;exact this
  exact UI
theorem JT {q:Qu} {p:Pr} (hs:Sd q) (hz:ah q.holds p≠⟨0,0⟩):(0<=eH q.convs p)↔(aj q p).isSome=true:=by
 unfold aj;rw [fC];rcases iK p q.convs 0 with ⟨h1,h2⟩|⟨i,h,h1,h2⟩
 ·have hw:iT q.waits p=none:=by
   rcases iK p q.waits 0 with ⟨h3,h4⟩|⟨i,h,h3,h4⟩
   ·exact h4
   ·exfalso;have hf:∃x∈q.waits,x.proc=p:=Classical.byContradiction fun hn=>by
     have:=mV (p:=p) (l:=q.waits) (k:=0) fun x hx e=>hn ⟨x,hx,e⟩;rw [this] at h3;omega
    obtain ⟨x,hx,rfl⟩:=hf;exact hz (hs.wok _ hx).2.2
  unfold eH;rw [h1,h2,hw];simp
 ·unfold eH;rw [h1,h2];simp
theorem Ou (q:Qu) (p:Pr) (a:Am) {R:Qu×List Ho×Int} (hR:bE q p a=R):FSpec prog 269 [q.a,p.a,a.a] [] [] (p7 R) []:=by
 refine a7 func269 ?_;cases hS:ay q with
 | false =>
  obtain rfl:R=bR 2:=by rw [<-hR];simp [bE,hS]
  have:=dl q;refine ao ?_
  (refine dP (qf []) ?_;exact af)
 | true =>
  have hs:=aP hS;have h1:=hs.hv.len;have h2:=hs.clen;have h3:=hs.wlen;cases hz:aR (ah q.holds p) with
  | true =>
   obtain rfl:R=bR 10:=by rw [<-hR];simp [bE,hS,hz]
   have:=dl q;have:=fF q p;have:=i4 (ah q.holds p);refine ao ?_
   (refine dP (qf []) ?_;exact af)
  | false =>
   have hcv:=JT hs (bN.1 hz);obtain ⟨n,hn⟩:=qGe (eH q.convs p);have kF:=sy q.convs p;rw [hn] at hcv kF;cases hw:aj q p with
   | some b =>
    obtain rfl:R=bR 14:=by rw [<-hR];simp [bE,hS,hz,hw]
    have h0:0<=n:=hcv.2 (by rw [hw];rfl);have:=dl q;have:=fF q p;have:=i4 (ah q.holds p);refine ao ?_
    (refine dP (qf []) ?_;exact af)
   | none =>
    have h0:¬0<=n:=fun h=>by have:=hcv.1 h;rw [hw] at this;cases this
    cases hc:bq q.res (ah q.holds p) a with
    | false =>
     obtain rfl:R=bR 12:=by rw [<-hR];simp [bE,hS,hz,hw,hc]
     have:=dl q;have:=fF q p;have:=i4 (ah q.holds p);have:=gX q.res (ah q.holds p) a;refine ao ?_
     (refine dP (qf []) ?_;exact af)
    | true =>
     have hd:=hs.lower hw (bN.1 hz) hc;obtain ⟨R1,hR1⟩:∃R1,R1=(bif decide (ah q.holds p=a) then iY (q,[]) else iY (dB { q with holds:=cw q.holds p a })):=⟨_,rfl⟩;obtain rfl:R=R1:=by rw [<-hR,hR1];simp [bE,hS,hz,hw,hc]
     clear hR;have kL:=QR q p a (by omega) rfl hd;repeat' (first|refine av ?_ ?_|(refine aa 0 rfl ?_;refine sx (dH (ks:=[10,4,5]) rfl rfl) ?_)|(refine aa 9 rfl ?_;first|(refine cB [] (dl q) ?_)|(refine cB [] (fF q p) ?_)|(refine cB [] (i4 (ah q.holds p)) ?_)|(refine cB [] kF ?_)|(refine cB [] (gX q.res (ah q.holds p) a) ?_)|(refine cC [] (oa q (by omega) (by omega) (by omega)) ?_)|(refine cH (qf [(0,10),(1,41),(2,4),(3,5)]) kL ?_))|refine aq ?_|exact aw|(refine ap fun hb=>?_;first|(simp [hS] at hb;done)|(simp [hz] at hb;done)|(simp [hc] at hb;done)|skip))
     ·obtain rfl:R=iY (q,[]):=by rw [hR1];simp [hb]
      refine dP (qf []) ?_;exact af
     ·obtain rfl:R=iY (dB { q with holds:=cw q.holds p a }):=by rw [hR1,qDf (fun h=>hb h.symm)];rfl
      refine dP (qf []) ?_;exact af
theorem TK (q:Qu) (p:Pr) (hl:q.holds.length<=100000):FSpec prog 270 [.one (.ptr 0 0),.one (.ptr 1 0)] [(0,.box 66 q.d),lV 1 p] [] (.tup []) [(0,some (.box 66 { q with holds:=cw q.holds p ⟨0,0⟩ }.d)),(1,some (lV 1 p).2)]:=by
 refine a7 func270 ?_;have:=LX q.holds p ⟨0,0⟩ hl;refine ao ?_
 (exact oW (qf []))
theorem TL (q:Qu) (p:Pr) (hl:q.convs.length<=100000):FSpec prog 272 [.one (.ptr 0 0),.one (.ptr 1 0)] [(0,.box 66 q.d),lV 1 p] [] (.tup []) [(0,some (.box 66 { q with convs:=cq q.convs p }.d)),(1,some (lV 1 p).2)]:=by
 refine a7 func272 ?_;have:=p5 q.convs p hl;refine ao ?_
 (exact oW (qf []))
theorem TM (q:Qu) (p:Pr) (hl:q.waits.length<=100000):FSpec prog 274 [.one (.ptr 0 0),.one (.ptr 1 0)] [(0,.box 66 q.d),lV 1 p] [] (.tup []) [(0,some (.box 66 { q with waits:=cq q.waits p }.d)),(1,some (lV 1 p).2)]:=by
 refine a7 func274 ?_;have:=p5 q.waits p hl;refine ao ?_
 (exact oW (qf []))
theorem QT (q:Qu) (p:Pr) (hh:q.holds.length<=100000) (hc:q.convs.length<=100000) (hw:q.waits.length<=100000) {q3:Qu} (hq:{ q with holds:=cw q.holds p ⟨0,0⟩,convs:=cq q.convs p,waits:=cq q.waits p } = q3) (hs:Sd q3):FSpec prog 265 [.one (.ptr 0 0),.one (.slb 1 3)] [(0,.box 66 q.d),(1,.box 1 [.clo 270 [0,2],.clo 272 [0,2],.clo 274 [0,2]]),lV 2 p] [] (p7 (iY (dB q3))) [(0,none),(1,none),(2,none)]:=by
 refine a7 func265 ?_;obtain ⟨q1,hq1⟩:∃q1,{ q with holds:=cw q.holds p ⟨0,0⟩ } = q1:=⟨_,rfl⟩;obtain ⟨q2,hq2⟩:∃q2,{ q1 with convs:=cq q1.convs p } = q2:=⟨_,rfl⟩;have k1:=TK q p hh;rw [hq1] at k1;have k2:=TL q1 p (by rw [<-hq1];exact hc);rw [hq2] at k2;have k3:=TM q2 p (by rw [<-hq2,<-hq1];exact hw);rw [show ({ q2 with waits:=cq q2.waits p }:Qu)=q3 by rw [<-hq,<-hq2,<-hq1]] at k3;repeat' (first|refine av ?_ ?_|(refine aa 7 rfl ?_;refine sx (eP rfl rfl) ?_)|refine aq ?_|exact aw|refine ap fun hb=>?_)
 refine ab (fun x:Nat×Qu=>x.1=0/\x.2=q\/x.1=1/\x.2=q1\/x.1=2/\x.2=q2\/x.1=3/\x.2=q3) (fun x=>bP [0,1,2,4] [(0,.c (.ptr 0 0)),(4,.c (.ptr 4 0)),(10,.c (.slb 1 3)),(11,.i 3),(12,.i x.1)] [(0,.box 66 x.2.d),(4,.box 66 Gn),(1,.box 1 [.clo 270 [0,2],.clo 272 [0,2],.clo 274 [0,2]]),lV 2 p]) (fun x=>3-x.1) (0,q) (.inl ⟨rfl,rfl⟩) aT ?_;rintro ⟨i,z⟩ hz;dsimp only at *
 rcases hz with ⟨rfl,rfl⟩|⟨rfl,rfl⟩|⟨rfl,rfl⟩|⟨rfl,rfl⟩
 ·repeat' (first
   | refine av ?_ ?_
   | (refine aa 6 rfl ?_;refine sx (bK (i:=0) rfl rfl rfl rfl (by decide)) ?_)
   | (refine aa 9 rfl ?_;refine ov 0 [0,1] (qf [(0,0),(1,2)]) k1 ?_)
   | refine aq ?_
   | exact aw|(refine ap fun hb=>?_;first|(exact absurd hb (by decide))|skip))
  refine ⟨(1,q1),.inr (.inl ⟨rfl,rfl⟩),by simp,?_⟩;exact aT
 ·repeat' (first
   | refine av ?_ ?_
   | (refine aa 6 rfl ?_;refine sx (bK (i:=1) rfl rfl rfl rfl (by decide)) ?_)
   | (refine aa 9 rfl ?_;refine ov 0 [0,1] (qf [(0,0),(1,2)]) k2 ?_)
   | refine aq ?_
   | exact aw|(refine ap fun hb=>?_;first|(exact absurd hb (by decide))|skip))
  refine ⟨(2,q2),.inr (.inr (.inl ⟨rfl,rfl⟩)),by simp,?_⟩;exact aT
 ·repeat' (first
   | refine av ?_ ?_
   | (refine aa 6 rfl ?_;refine sx (bK (i:=2) rfl rfl rfl rfl (by decide)) ?_)
   | (refine aa 9 rfl ?_;refine ov 0 [0,1] (qf [(0,0),(1,2)]) k3 ?_)
   | refine aq ?_
   | exact aw|(refine ap fun hb=>?_;first|(exact absurd hb (by decide))|skip))
  refine ⟨(3,q3),.inr (.inr (.inr ⟨rfl,rfl⟩)),by simp,?_⟩;exact aT
 ·have kA:=ld z hs;unfold dB;obtain ⟨⟨N,G⟩,hN⟩:∃x,mW z=x:=⟨_,rfl⟩;have hg:N.gen=z.gen:=by have:=(eV hs).2.1;rw [hN] at this;exact this
  exact UI
def Cp (p:Pr):Nat->List Pr->Int
 | _,[]=>-1
 | k,x :: l=>bif decide (p=x) then (k:Int) else Cp p (k+1) l
theorem A6 (p x:Pr) (k:Nat) (l:List Pr):Cp p k (x :: l)=bif decide (p=x) then (k:Int) else Cp p (k+1) l:=rfl
theorem Et (p:Pr):∀(l:List Pr) (k:Nat),0<=Cp p k l↔p∈l
 | [],_=>by simp [Cp]
 | x :: l,k=>by
  rw [A6];by_cases h:p=x
  ·rw [qDt h];simp [h] <;> omega
  ·rw [qDf h,qCf,Et p l (k+1)];simp [h]
theorem QU (l:List Pr) (p:Pr):FSpec prog 320 [.one (.sl gK l),p.a] [] [] (.i (Cp p 0 l)) []:=by
 obtain ⟨v,hv⟩:=qGe (Cp p 0 l);rw [hv];refine a7 func320 ?_;refine aY (fun c ρ a w hr=>bV (t:=0) hr rfl) (fun hl0=>?_);refine ao ?_;refine ab (fun i=>i<=l.length/\Cp p i (l.drop i)=v) (fun i=>bP [3] [(0,.c (.sl gK l)),(3,.c (.ptr 3 0)),(7,.i l.length),(8,.i i)] [lV 3 p]) (fun i=>l.length-i) 0 ⟨Nat.zero_le _,hv⟩ aT ?_;rintro i ⟨hi,hs⟩;by_cases hlt:i<l.length
 ·rw [qDc hlt,A6] at hs;repeat' (first|refine av ?_ ?_|refine aq ?_|exact aw|refine ap fun hb=>?_)
  ·exact Vz
  ·refine ⟨i+1,⟨by omega,?_⟩,by omega,?_⟩
   ·rw [<-hs];simp [*]
   ·exact aT
 ·exact U5
theorem Ox (l:List Pr) (p:Pr):FSpec prog 263 [.one (.sl gK l),p.a] [] [] (.b (decide (p∈l))) []:=by
 have h:=Et p l 0;have kI:=QU l p;obtain ⟨n,hn⟩:=qGe (Cp p 0 l);rw [hn] at h kI;refine a7 func263 ?_;refine ao ?_;refine eU ?_;simp [h]
theorem p8 (l:List Pr) (p:Pr):FSpec prog 211 [.one (.sl gK l),p.a] [] [] (.b (decide (p∈l))) []:=by
 refine a7 func211 ?_;have:=Ox l p;refine ao ?_
 (refine eU ?_;rfl)
theorem Mc (q:Qu) (p:Pr) {R:Qu×List Ho×Int} (hR:aU q p=R):FSpec prog 218 [q.a,p.a] [] [] (p7 R) []:=by
 refine a7 func218 ?_;cases hS:ay q with
 | false =>
  obtain rfl:R=bR 2:=by rw [<-hR];simp [aU,hS]
  have:=dl q;refine ao ?_
  (refine dP (qf []) ?_;exact af)
 | true =>
  have hs:=aP hS;have h1:=hs.hv.len;have h2:=hs.clen;have h3:=hs.wlen;have hiff:=eX hs p;have kP:=p8 (gq q) p;cases hh:fd q p with
  | false =>
   obtain rfl:R=bR 10:=by rw [<-hR];simp [aU,hS,hh]
   rw [qDf (fun h=>by rw [hiff.1 h] at hh;cases hh)] at kP;have:=dl q;have:=Cn q h1 (by omega) (by omega);refine ao ?_
   (refine dP (qf []) ?_;exact af)
  | true =>
   obtain rfl:R=iY (dB { q with holds:=cw q.holds p ⟨0,0⟩,convs:=cq q.convs p,waits:=cq q.waits p }):=by rw [<-hR];simp [aU,hS,hh]
   have hd:=hs.gone p;have kF:=QT q p (by omega) (by omega) (by omega) rfl hd;rw [qDt (hiff.2 hh)] at kP;repeat' (first|refine av ?_ ?_|(refine aa 0 rfl ?_;refine sx (dH (ks:=[7,3]) rfl rfl) ?_)|(refine aa 9 rfl ?_;first|(refine cB [] (dl q) ?_)|(refine cC [] (Cn q h1 (by omega) (by omega)) ?_)|(refine cB [] kP ?_)|(refine cC [] (oa q (by omega) (by omega) (by omega)) ?_)|(refine cH (qf [(0,7),(1,23),(2,3)]) kF ?_))|refine aq ?_|exact aw|(refine ap fun hb=>?_;first|(simp [hS] at hb;done)|skip)|(refine dP (qf []) ?_;exact af))
abbrev Nx (k:Nat) (a:Am):Nat×Box:=(k,.box 42 [.sc (.int .i64 a.mode),.sc (.int .i64 a.units)])
theorem Oy {a b:Int} (ha:cL a=true) (hb:cL b=true):(es a b=true->oR a b=a)/\(es b a=true->oR a b=b):=by
 rcases dR ha with rfl|rfl|rfl|rfl|rfl <;> rcases dR hb with rfl|rfl|rfl|rfl|rfl <;> decide
theorem Oz (r:Rs) (a b:Am):cn r a b=bif !bQ r a || !bQ r b then ⟨0,0⟩ else bif aR a then b else bif aR b then a else bif decide (r.kind=1) then ⟨oR a.mode b.mode,0⟩ else ⟨0,max a.units b.units⟩:=by
 unfold cn;cases h1:bQ r a with
 | false=>rfl
 | true =>
  cases h2:bQ r b with
  | false=>rfl
  | true =>
   unfold bq;rw [h1,h2];simp only [Bool.and_self,Bool.true_and,qCt,Bool.not_true,Bool.or_self,qCf];cases z1:aR a with
   | true =>
    have e1:a=⟨0,0⟩:=of_decide_eq_true z1;cases z2:aR b with
    | true=>have e2:b=⟨0,0⟩:=of_decide_eq_true z2;simp [e1,e2]
    | false=>simp
   | false =>
    cases z2:aR b with
    | true=>simp
    | false =>
     have f1:aS r a=true:=by unfold bQ at h1;rw [z1] at h1;simpa using (Bool.and_eq_true_iff.1 h1).2
     have f2:aS r b=true:=by unfold bQ at h2;rw [z2] at h2;simpa using (Bool.and_eq_true_iff.1 h2).2
     unfold aS at f1 f2;by_cases hk:r.kind=1
     ·rw [if_pos hk] at f1 f2;simp only [qBa,decide_eq_true_eq] at f1 f2;obtain ⟨s1,s2⟩:=Oy f1.2.1 f2.2.1;obtain ⟨am,au⟩:=a;obtain ⟨bm,bu⟩:=b;dsimp only at *
      obtain rfl:=f1.2.2;obtain rfl:=f2.2.2;simp only [hk,if_true,decide_true,qCt,Bool.not_false,Bool.true_and,Bool.false_or];cases c1:es am bm with
      | true=>rw [s1 c1];rfl
      | false =>
       cases c2:es bm am with
       | true=>rw [s2 c2];rfl
       | false=>rfl
     ·rw [if_neg hk] at f1 f2;simp only [qBa,decide_eq_true_eq] at f1 f2;obtain ⟨am,au⟩:=a;obtain ⟨bm,bu⟩:=b;dsimp only at *
      obtain rfl:=f1.2.1.1;obtain rfl:=f2.2.1.1;simp only [hk,if_false,decide_false,qCf,Bool.not_false,Bool.true_and,Bool.false_or];by_cases c:bu<=au
      ·rw [qDt c,qCt,Int.max_eq_left c]
      ·rw [qDf c,qCf,qDt (by omega),qCt,Int.max_eq_right (by omega)]
theorem PJ (r:Rs) (a b:Am):FSpec prog 255 [r.a,a.a,b.a] [] [] (.v (cn r a b).a) []:=by
  obtain ⟨v,hv⟩:=qGe (cn r a b);rw [hv];rw [Oz] at hv;refine a7 func255 ?_;repeat' (first|refine av ?_ ?_|(refine aa 9 rfl ?_;first|(refine sx (Ih rfl rfl rfl) ?_)|(refine cB [] (Ib r a) ?_)|(refine cB [] (Ib r b) ?_)|(refine cB [] (i4 a) ?_)|(refine cB [] (i4 b) ?_)|(refine cB [] (Sq a.mode b.mode) ?_))|refine aq ?_|exact aw|refine ap fun hb=>?_)
  all_goals first
    | (obtain rfl:v=⟨0,0⟩
       · (rw [<-hv];simp [*];done)
       refine cc (qf []) ?_;exact af)
    | (obtain rfl:v=b
       · (rw [<-hv];simp [*];done)
       refine cc (qf []) ?_;exact af)
    | (obtain rfl:v=a
       · (rw [<-hv];simp [*];done)
       refine cc (qf []) ?_;exact af)
    | (obtain rfl:v=⟨oR a.mode b.mode,0⟩
       · (rw [<-hv];simp [*];done)
       refine cc (qf []) ?_;exact af)
    | (obtain rfl:v=⟨0,max a.units b.units⟩
       · (rw [<-hv];simp [*];done)
       refine cc (qf []) ?_;exact af)
theorem TN (q:Qu) (h a:Am) (p:Pr) (hl:q.convs.length<=100000):FSpec prog 266 [.one (.ptr 0 0),.one (.ptr 1 0),.one (.ptr 2 0),.one (.ptr 3 0)] [(0,.box 66 (Tl q 5)),Nx 1 h,Nx 2 a,lV 3 p,(5,.arr 173 fK q.convs)] [] (.tup []) [(0,some (.box 66 { q with convs:=q.convs++[(⟨p,cn q.res h a,0,0⟩:Wt)] }.d)),(1,some (Nx 1 h).2),(2,some (Nx 2 a).2),(3,some (lV 3 p).2),(5,none)]:=by
 refine a7 func266 ?_;repeat' (first|refine av ?_ ?_|(refine aa 8 rfl ?_;refine be (ae rfl rfl (aH rfl rfl) (aN [⟨p,cn q.res h a,0,0⟩] rfl rfl rfl rfl) rfl aQ aQ) rfl rfl rfl ?_)|refine aa 9 rfl (cB [] (PJ q.res h a) ?_)|refine aq ?_|exact aw|refine ap fun hb=>?_|(exact oW (qf [])))
theorem QV (q:Qu) (h a:Am) (p:Pr) (hl:q.convs.length<=100000) {q2:Qu} (hq:{ q with convs:=q.convs++[(⟨p,cn q.res h a,0,0⟩:Wt)] } = q2) (hs:Sd q2):FSpec prog 265 [.one (.ptr 0 0),.one (.slb 1 1)] [(0,.box 66 (Tl q 55)),(1,.box 1 [.clo 266 [0,2,3,54]]),Nx 2 h,Nx 3 a,lV 54 p,(55,.arr 173 fK q.convs)] [] (p7 (iY (dB q2))) [(0,none),(1,none),(2,none),(3,none),(54,none),(55,none)]:=by
 refine a7 func265 ?_;have k1:=TN q h a p hl;rw [hq] at k1;repeat' (first|refine av ?_ ?_|(refine aa 7 rfl ?_;refine sx (eP rfl rfl) ?_)|refine aq ?_|exact aw|refine ap fun hb=>?_)
 refine ab (fun x:Option Qu=>x=none\/x=some q2) (fun x=>match x with
  | none=>bP [0,1,2,3,4,54,55] [(0,.c (.ptr 0 0)),(4,.c (.ptr 4 0)),(10,.c (.slb 1 1)),(11,.i 1),(12,.i 0)] [(0,.box 66 (Tl q 55)),(4,.box 66 Gn),(1,.box 1 [.clo 266 [0,2,3,54]]),Nx 2 h,Nx 3 a,lV 54 p,(55,.arr 173 fK q.convs)]
  | some z=>bP [0,1,2,3,4,54,55] [(0,.c (.ptr 0 0)),(4,.c (.ptr 4 0)),(10,.c (.slb 1 1)),(11,.i 1),(12,.i 1)] [(0,.box 66 z.d),(4,.box 66 Gn),(1,.box 1 [.clo 266 [0,2,3,54]]),Nx 2 h,Nx 3 a,lV 54 p]) (fun x=>match x with|none=>1|some _=>0) none (.inl rfl) aT ?_
 rintro z hz;rcases hz with rfl|rfl
 ·dsimp only;repeat' (first|refine av ?_ ?_|(refine aa 6 rfl ?_;refine sx (bK (i:=0) rfl rfl rfl rfl (by decide)) ?_)|(refine aa 9 rfl ?_;refine ov 0 [0,1,2,3] (qf [(0,0),(1,2),(2,3),(3,54),(5,55)]) k1 ?_)|refine aq ?_|exact aw|(refine ap fun hb=>?_;first|(exact absurd hb (by decide))|skip))
  refine ⟨some q2,.inr rfl,by simp,?_⟩;exact aT
 ·dsimp only;have kA:=ld q2 hs;unfold dB;obtain ⟨⟨N,G⟩,hN⟩:∃x,mW q2=x:=⟨_,rfl⟩;have hg:N.gen=q2.gen:=by have:=(eV hs).2.1;rw [hN] at this;exact this
  exact UI
theorem TO (q:Qu) (e:List Wt):FSpec prog 268 [.one (.ptr 0 0),.one (.ptr 1 0)] [(0,.box 64 [.sl fK e]),(1,.box 66 q.d)] [] (.tup []) [(1,some (.box 66 { q with waits:=e }.d)),(0,some (.box 64 [.sl fK e]))]:=by
 refine a7 func268 ?_;refine ao ?_
 (exact oW (qf []))
theorem QW (q:Qu) (e:List Wt) {q2:Qu} (hq:{ q with waits:=e } = q2) (hs:Sd q2):FSpec prog 265 [.one (.ptr 0 0),.one (.slb 1 1)] [(0,.box 66 q.d),(1,.box 1 [.clo 268 [2,0]]),(2,.box 64 [.sl fK e])] [] (p7 (iY (dB q2))) [(0,none),(1,none),(2,none)]:=by
 refine a7 func265 ?_;have k1:=TO q e;rw [hq] at k1;repeat' (first|refine av ?_ ?_|(refine aa 7 rfl ?_;refine sx (eP rfl rfl) ?_)|refine aq ?_|exact aw|refine ap fun hb=>?_)
 refine ab (fun x:Nat×Qu=>x.1=0/\x.2=q\/x.1=1/\x.2=q2) (fun x=>bP [0,1,2,4] [(0,.c (.ptr 0 0)),(4,.c (.ptr 4 0)),(10,.c (.slb 1 1)),(11,.i 1),(12,.i x.1)] [(0,.box 66 x.2.d),(4,.box 66 Gn),(1,.box 1 [.clo 268 [2,0]]),(2,.box 64 [.sl fK e])]) (fun x=>1-x.1) (0,q) (.inl ⟨rfl,rfl⟩) aT ?_;rintro ⟨i,z⟩ hz;dsimp only at *
 rcases hz with ⟨rfl,rfl⟩|⟨rfl,rfl⟩
 ·repeat' (first
   | refine av ?_ ?_
   | (refine aa 6 rfl ?_;refine sx (bK (i:=0) rfl rfl rfl rfl (by decide)) ?_)
   | (refine aa 9 rfl ?_;refine ov 0 [0,1] (qf [(0,2),(1,0)]) k1 ?_)
   | refine aq ?_
   | exact aw|(refine ap fun hb=>?_;first|(exact absurd hb (by decide))|skip))
  refine ⟨(1,q2),.inr ⟨rfl,rfl⟩,by simp,?_⟩;exact aT
 ·have kA:=ld z hs;unfold dB;obtain ⟨⟨N,G⟩,hN⟩:∃x,mW z=x:=⟨_,rfl⟩;have hg:N.gen=z.gen:=by have:=(eV hs).2.1;rw [hN] at this;exact this
  exact UI
theorem OA (q:Qu) (p:Pr) (a:Am) (prio:Int) {R:Qu×List Ho×Int} (hR:bL q p a prio=R):FSpec prog 212 [q.a,p.a,a.a,.one (.sc (.int .i64 prio))] [] [] (p7 R) []:=by
 refine a7 func212 ?_;cases hS:ay q with
 | false =>
  obtain rfl:R=bR 2:=by rw [<-hR];simp [bL,hS]
  have:=dl q;refine ao ?_
  (refine dP (qf []) ?_;exact af)
 | true =>
  have hs:=aP hS;have h1:=hs.hv.len;have h2:=hs.clen;have h3:=hs.wlen;by_cases hA:jW p=true/\0<=prio/\prio<=7
  case neg =>
   obtain rfl:R=bR 1:=by
    rw [<-hR];unfold bL;rw [hS,bF (b:=!true) rfl,bT];cases hv:jW p <;> simp [hv] at hA ⊢
    omega
   have hN:∀b,jW p=b->(b=true->0<=prio->prio<=7->False):=fun b hb x y z=>hA ⟨hb.trans x,y,z⟩;clear hA;have:=dl q;have:=io p;repeat' (first|refine av ?_ ?_|refine gV ?_|refine aq ?_|exact aw|(refine ap fun hb=>?_;first|(exact (hN true (by assumption) rfl (by omega) (by omega)).elim)|(simp [hS] at hb;done)|skip)|(refine dP (qf []) ?_;exact af))
  obtain ⟨hv,hp1,hp2⟩:=hA;cases hf:aS q.res a with
  | false =>
   obtain rfl:R=bR 12:=by rw [<-hR];simp [bL,hS,hv,hp1,hp2,hf]
   have:=dl q;have:=io p;have:=fp q.res a;refine ao ?_
   (refine dP (qf []) ?_;exact af)
  | true =>
   cases hw:aj q p with
   | some b =>
    obtain rfl:R=bR 14:=by rw [<-hR];simp [bL,hS,hv,hp1,hp2,hf,hw]
    have:=dl q;have:=io p;have:=fp q.res a;have:=fG q p (by omega) (by omega) hw;refine ao ?_
    (refine dP (qf []) ?_;exact af)
   | none =>
    cases hc:bq q.res (ah q.holds p) a with
    | true =>
     obtain rfl:R=iY (q,[]):=by rw [<-hR];simp [bL,hS,hv,hp1,hp2,hf,hw,hc]
     have:=dl q;have:=io p;have:=fp q.res a;have:=fG q p (by omega) (by omega) hw;have:=oa q (by omega) (by omega) (by omega);have:=fF q p;have:=gX q.res (ah q.holds p) a;refine ao ?_
     (refine dP (qf []) ?_;exact af)
    | false =>
     cases hz:aR (ah q.holds p) with
     | false =>
      obtain rfl:R=iY (dB { q with convs:=q.convs++[⟨p,cn q.res (ah q.holds p) a,0,0⟩] }):=by rw [jk q p a prio hR hS hv hp1 hp2 hf hw hc,hz];rfl
      have hd:=(hs.cons (bN.1 hz) hw hf hc);have kF:=QV q (ah q.holds p) a p (by omega) rfl hd;repeat' (first|refine av ?_ ?_|(refine aa 0 rfl ?_;refine sx (dH (ks:=[13,14,6,5]) rfl rfl) ?_)|(refine aa 9 rfl ?_;first|(refine cB [] (dl q) ?_)|(refine cB [] (io p) ?_)|(refine cB [] (fp q.res a) ?_)|(refine cB [] (fG q p (by omega) (by omega) hw) ?_)|(refine cH (qf [(0,1000)]) (L9 q (by omega) (by omega) (by omega)) ?_)|(refine cB [1000] (fF q p) ?_)|(refine cB [] (gX q.res (ah q.holds p) a) ?_)|(refine cB [] (i4 (ah q.holds p)) ?_)|(refine cH (qf [(0,13),(1,63),(2,14),(3,6),(54,5),(55,1000)]) kF ?_))|refine aq ?_|exact aw|(refine ap fun hb=>?_;first|(simp [hS] at hb;done)|skip)|(refine dP (qf []) ?_;exact af))
     | true =>
      have hz0:ah q.holds p=⟨0,0⟩:=by simpa [aR] using hz
      by_cases hn:8<=q.holds.length+q.waits.length
      case pos =>
       obtain rfl:R=bR 4:=by rw [jk q p a prio hR hS hv hp1 hp2 hf hw hc,hz];simp [hn]
       have:=dl q;have:=io p;have:=fp q.res a;have:=fG q p (by omega) (by omega) hw;have:=oa q (by omega) (by omega) (by omega);have:=fF q p;have:=gX q.res (ah q.holds p) a;have:=i4 (ah q.holds p);refine ao ?_
       (refine dP (qf []) ?_;exact af)
      obtain ⟨e,he1,he2⟩:∃e,jZ q.waits ⟨p,a,prio,0⟩=(0,e)/\Sd { q with waits:=e }:=by
       have hi:=nZ hs hw hf hv ⟨hp1,hp2⟩ (Nat.lt_of_not_le hn);exact ⟨_,hi.1,hs.ins (w:=⟨p,a,prio,0⟩) hz0 hw hf hi.2 (Nat.lt_of_not_le hn)⟩
      have hI:=LZ q.waits ⟨p,a,prio,0⟩;rw [he1] at hI;obtain rfl:R=iY (dB { q with waits:=e }):=by rw [jk q p a prio hR hS hv hp1 hp2 hf hw hc,hz,he1];simp [hn]
      have kF:=QW q e rfl he2;repeat' (first|refine av ?_ ?_|(refine aa 0 rfl ?_;refine sx (dH (ks:=[15,13]) rfl rfl) ?_)|(refine aa 9 rfl ?_;first|(refine cB [] (dl q) ?_)|(refine cB [] (io p) ?_)|(refine cB [] (fp q.res a) ?_)|(refine cB [] (fG q p (by omega) (by omega) hw) ?_)|(refine cC [] (oa q (by omega) (by omega) (by omega)) ?_)|(refine cB [] (fF q p) ?_)|(refine cB [] (gX q.res (ah q.holds p) a) ?_)|(refine cB [] (i4 (ah q.holds p)) ?_)|(refine cC [] hI ?_)|(refine cH (qf [(0,13),(1,93),(2,15)]) kF ?_))|refine aq ?_|exact aw|(refine ap fun hb=>?_;first|(simp [hS] at hb;done)|skip)|(refine dP (qf []) ?_;exact af))
theorem OB (t:List Qu) (p:Pr) (a:Tm) (prio:Int) {R:List Qu×List Ev×Int} (hR:bt t p a prio=R):FSpec prog 159 [.one (.sl eh t),p.a,a.a,.one (.sc (.int .i64 prio))] [] [] (JU R) []:=by
 refine a7 func159 ?_;cases hV:di t with
 | false =>
  obtain rfl:R=dE 2:=by rw [<-hR];simp [bt,hV]
  have:=eB t;refine ao ?_
  (refine dP (qf []) ?_;exact af)
 | true =>
  have hm:=(bi hV).1;have h8:∀q∈t,fU q:=fun q hq=>df (cP hV hq);by_cases hf:bG a.name 0 t<0
  case pos =>
   obtain rfl:R=dE 10:=by rw [<-hR];simp [bt,hV,hf]
   have:=eB t;have:=sw t a.name;refine ao ?_
   (refine dP (qf []) ?_;exact af)
  obtain ⟨i,hi,hF,hq,hx⟩:=eC hf;by_cases hN:(aO t).length=8/\p ∉ aO t
  case pos =>
   obtain ⟨hN1,hN2⟩:=hN;obtain rfl:R=dE 4:=by rw [<-hR];simp [bt,hV,hf,hN1,hN2]
   have:=eB t;have:=dy t a.name hF;have:=pY t (by omega) h8;have:=Eg (aO t) p;refine ao ?_
   (refine dP (qf []) ?_;exact af)
  have hS:=cP hV (List.getElem_mem hi);obtain ⟨Q,hQ⟩:=qGe (bL t[i] p a.am prio);have hQl:=oZ hS p a.am prio;rw [hQ] at hQl;have hlen:Q.2.1.length<=100000:=by omega
  have hN3:(decide ((aO t).length=8) && !decide (p∈aO t))=false:=by
   rw [Bool.and_eq_false_iff];by_cases h:(aO t).length=8
   ·right
    have:p∈aO t:=Classical.byContradiction fun h2=>hN ⟨h,h2⟩;simp [this]
   ·left;simp [h]
  by_cases he:Q.2.2=0
  ·obtain rfl:R=(t.set i Q.1,aJ a.name Q.2.1,0):=by rw [<-hR];unfold bt;rw [hq,hQ,hx,hN3];simp [hV,hf,he]
   clear hN3;have:=eB t;have:=dy t a.name hF;have:=pY t (by omega) h8;have:=Eg (aO t) p;have:=Ig t[i] p a.am prio hQ;have:=p9 t i Q.1 hi (by omega);have:=ob a.name Q.2.1 hlen;exact VH
  ·obtain rfl:R=dE Q.2.2:=by rw [<-hR];unfold bt;rw [hq,hQ,hx,hN3];simp [hV,hf,he]
   clear hN3;have:=eB t;have:=dy t a.name hF;have:=pY t (by omega) h8;have:=Eg (aO t) p;have:=Ig t[i] p a.am prio hQ;exact VH
theorem Mg (t:List Qu) (p:Pr) {R:List Qu×List Ev} (hR:bS t p=R):FSpec prog 170 [.one (.sl eh t),p.a] [] [] (.tup [.one (.sl eh R.1),.one (.sl fX R.2)]) []:=by
 refine a7 func170 ?_;cases hV:di t with
 | false =>
  obtain rfl:R=([],[]):=by rw [<-hR];simp [bS,hV]
  have:=eB t;refine ao ?_
  (refine fE (qf []) ?_;exact af)
 | true =>
  have hm:=(bi hV).1;have hR2:aM p t=R:=by rw [<-hR];simp [bS,hV]
  have:=eB t;refine ao ?_;refine cj 7 1000 68 fX rfl rfl rfl ?_;refine ab (fun x:Nat×List Qu×List Ev=>x.1<=t.length/\x.2.1.length=x.1/\x.2.2.length<=18*x.1/\x.2.1++(aM p (t.drop x.1)).1=R.1/\x.2.2++(aM p (t.drop x.1)).2=R.2) (fun x=>bP [3,1000,1001] [(3,.c (.ptr 3 0)),(6,.c (.own 1001)),(7,.c (.own 1000)),(8,.i x.1)] [(3,.box 40 [.sc (.int .i64 p.site),.sc (.int .i64 p.inc),.sc (.int .i64 p.num)]),(1001,.arr 66 eh (x.2.1++t.drop x.1)),(1000,.arr 68 fX x.2.2)]) (fun x=>t.length-x.1) (0,[],[]) ⟨Nat.zero_le _,rfl,Nat.le_refl _,by rw [<-hR2];rfl,by rw [<-hR2];rfl⟩ (by exact bo (qf [(1001,17)])) ?_;rintro ⟨i,o,ev⟩ ⟨hi,hol,hel,hs1,hs2⟩;dsimp only at *
  have hlen:(o++t.drop i).length=t.length:=by simp;omega
  by_cases hlt:i<t.length
  ·obtain ⟨q,hq⟩:∃q,q=t[i]:=⟨_,rfl⟩;have eS:(o++t.drop i)[i]? = some q:=by
    rw [List.getElem?_append_right (by omega),hol,Nat.sub_self,List.getElem?_drop];simp [hq,hlt]
   have hS:ay q=true:=cP hV (hq▸List.getElem_mem hlt);rw [qDc hlt,<-hq] at hs1 hs2;have e0:o++t.drop i=(o++[q])++t.drop (i+1):=by rw [qDc hlt,<-hq];simp
   cases hh:fd q p with
   | false =>
    rw [show aM p (q :: t.drop (i+1))=(q :: (aM p (t.drop (i+1))).1,(aM p (t.drop (i+1))).2) by simp [aM,hh]] at hs1 hs2;have:=L8 q p;exact VB
   | true =>
    obtain ⟨Q,hQ⟩:=qGe (aU q p);have hQl:=ng hS p;rw [hQ] at hQl;have hgl:(aJ Q.1.res.name Q.2.1).length<=17:=by unfold aJ;rw [List.length_map];exact hQl
    have hset:(o++t.drop i).set i Q.1=(o++[Q.1])++t.drop (i+1):=by
     have e9:(t.drop i).set 0 Q.1=Q.1 :: t.drop (i+1):=by rw [qDc hlt];rfl
     rw [List.set_append_right _ _ (by omega),hol,Nat.sub_self,e9];simp
    cases hz:aR (ah q.holds p) with
    | true =>
     rw [show aM p (q :: t.drop (i+1))=(Q.1 :: (aM p (t.drop (i+1))).1,aJ Q.1.res.name Q.2.1++(aM p (t.drop (i+1))).2) by simp [aM,hh,hQ,hz]] at hs1 hs2;repeat' (first|refine av ?_ ?_|(refine aa 9 rfl ?_;first|(refine cB [] (L8 q p) ?_)|(refine cB [] (fS q p) ?_)|(refine cB [] (gW (ah q.holds p)) ?_)|(refine cC [] (Er q p hQ) ?_)|(refine cC [] (ob Q.1.res.name Q.2.1 (by omega)) ?_))|refine aq ?_|(refine aa 4 rfl ?_;refine a8 (ak (z:=Q.1) rfl rfl rfl rfl (by first|assumption|exact qGg (by omega)) rfl rfl rfl rfl (qNl rfl) rfl rfl) rfl rfl rfl ?_)|exact aw|refine ap fun hb=>?_)
     refine ⟨(i+1,o++[Q.1],ev++aJ Q.1.res.name Q.2.1),⟨by dsimp only;omega,by simp;omega,by simp;omega,by dsimp only;rw [<-hs1];simp,by dsimp only;rw [<-hs2];simp⟩,by dsimp only;omega,?_⟩;dsimp only;rw [<-hset];exact bo (qf [(1000,70)])
    | false =>
     rw [show aM p (q :: t.drop (i+1))=(Q.1 :: (aM p (t.drop (i+1))).1,[⟨3,p,q.res.name,⟨0,0⟩⟩]++aJ Q.1.res.name Q.2.1++(aM p (t.drop (i+1))).2) by simp [aM,hh,hQ,hz]] at hs1 hs2;repeat' (first|refine av ?_ ?_|(refine aa 8 rfl ?_;refine be (ae rfl rfl (aH rfl rfl) (aN [⟨3,p,q.res.name,⟨0,0⟩⟩] rfl rfl rfl rfl) rfl aQ aQ) rfl rfl rfl ?_)|(refine aa 9 rfl ?_;first|(refine cB [] (L8 q p) ?_)|(refine cB [] (fS q p) ?_)|(refine cB [] (gW (ah q.holds p)) ?_)|(refine cC [] (Er q p hQ) ?_)|(refine cC [] (ob Q.1.res.name Q.2.1 (by omega)) ?_))|refine aq ?_|(refine aa 4 rfl ?_;refine a8 (ak (z:=Q.1) rfl rfl rfl rfl (by first|assumption|exact qGg (by omega)) rfl rfl rfl rfl (qNl rfl) rfl rfl) rfl rfl rfl ?_)|exact aw|refine ap fun hb=>?_)
     refine ⟨(i+1,o++[Q.1],ev++[⟨3,p,q.res.name,⟨0,0⟩⟩]++aJ Q.1.res.name Q.2.1),⟨by dsimp only;omega,by simp;omega,by simp;omega,by dsimp only;rw [<-hs1];simp,by dsimp only;rw [<-hs2];simp⟩,by dsimp only;omega,?_⟩;dsimp only;rw [<-hset];exact bo (qf [(1000,70)])
  ·have e:(o++t.drop i,ev)=R:=by
    rw [qDn (by omega)] at hs1 hs2 ⊢;simp [aM] at hs1 hs2;rw [hs2,List.append_nil,hs1]
   refine ao ?_;rw [<-e];exact VU
end Go.Proofs.YthpgjkjgkhjjlaaGreatDoor
