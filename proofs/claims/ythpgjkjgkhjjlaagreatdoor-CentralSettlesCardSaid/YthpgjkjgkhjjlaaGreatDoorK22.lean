/- Part K22 of a proof of statements of chapter 15 (no condition). -/
import Derived.Test.YthpgjkjgkhjjlaaGreatDoorK19
set_option linter.unusedVariables false
set_option linter.unusedSimpArgs false
set_option maxRecDepth 100000
set_option maxHeartbeats 64000000
namespace Go.Proofs.YthpgjkjgkhjjlaaGreatDoor
open Go.RowKit Go.Proofs.Tryz
theorem Ov (q:Qu) (h1:q.holds.length<=100000) (h2:q.convs.length<=100000) (h3:q.waits.length<=100000):FSpec prog 279 [q.a] [] [0] (.v (.ag [.sc (.string q.res.name),.sc (.int .i64 q.res.kind),.sc (.int .i64 q.res.units),.sc (.int .i64 q.res.home),.sl gM q.holds,.own 0,.sl fK q.waits,.sc (.int .i64 q.gen)])) [(0,some (.arr 173 fK q.convs))]:=by
 refine a7 func279 ?_;refine ao ?_;refine cc (qf [(0,11)]) ?_;exact af
theorem jk (q:Qu) (p:Pr) (a:Am) (prio:Int) {R:Qu×List Ho×Int} (hR:bL q p a prio=R) (hS:ay q=true) (hv:jW p=true) (h1:0<=prio) (h2:prio<=7) (hf:aS q.res a=true) (hw:aj q p=none) (hc:bq q.res (ah q.holds p) a=false) :
  R=(bif !aR (ah q.holds p) then iY (dB { q with convs:=q.convs++[⟨p,cn q.res (ah q.holds p) a,0,0⟩] }) else
 bif decide (8<=q.holds.length+q.waits.length) then bR 4 else
 bif !decide ((jZ q.waits ⟨p,a,prio,0⟩).1=0) then bR (jZ q.waits ⟨p,a,prio,0⟩).1 else
 iY (dB { q with waits:=(jZ q.waits ⟨p,a,prio,0⟩).2 })):=by
 rw [<-hR];simp [bL,hS,hv,h1,h2,hf,hw,hc]
theorem Ig (q:Qu) (p:Pr) (a:Am) (prio:Int) {R:Qu×List Ho×Int} (hR:bL q p a prio=R):FSpec prog 228 [q.a,p.a,a.a,.one (.sc (.int .i64 prio))] [] [] (p7 R) []:=by
 refine a7 func228 ?_;cases hS:ay q with
 | false =>
  obtain rfl:R=bR 2:=by rw [<-hR];simp [bL,hS]
  have:=dj q;refine ao ?_
  (refine dP (qf []) ?_;exact af)
 | true =>
  have hs:=aP hS;have h1:=hs.hv.len;have h2:=hs.clen;have h3:=hs.wlen;by_cases hA:jW p=true/\0<=prio/\prio<=7
  case neg =>
   obtain rfl:R=bR 1:=by
    rw [<-hR];unfold bL;rw [hS,bF (b:=!true) rfl,bT];cases hv:jW p <;> simp [hv] at hA ⊢
    omega
   have hN:∀b,jW p=b->(b=true->0<=prio->prio<=7->False):=fun b hb x y z=>hA ⟨hb.trans x,y,z⟩;clear hA;have:=dj q;have:=im p;repeat' (first|refine av ?_ ?_|refine gV ?_|refine aq ?_|exact aw|(refine ap fun hb=>?_;first|(exact (hN true (by assumption) rfl (by omega) (by omega)).elim)|skip)|(refine dP (qf []) ?_;exact af))
  obtain ⟨hv,hp1,hp2⟩:=hA;cases hf:aS q.res a with
  | false =>
   obtain rfl:R=bR 12:=by rw [<-hR];simp [bL,hS,hv,hp1,hp2,hf]
   have:=dj q;have:=im p;have:=jz q.res a;refine ao ?_
   (refine dP (qf []) ?_;exact af)
  | true =>
   cases hw:aj q p with
   | some b =>
    obtain rfl:R=bR 14:=by rw [<-hR];simp [bL,hS,hv,hp1,hp2,hf,hw]
    have:=dj q;have:=im p;have:=jz q.res a;have:=cX q p hw;refine ao ?_
    (refine dP (qf []) ?_;exact af)
   | none =>
    cases hc:bq q.res (ah q.holds p) a with
    | true =>
     obtain rfl:R=iY (q,[]):=by rw [<-hR];simp [bL,hS,hv,hp1,hp2,hf,hw,hc]
     have:=dj q;have:=im p;have:=jz q.res a;have:=cX q p hw;have:=oY q (by omega) (by omega) (by omega);have:=fS q p;have:=dJ q.res (ah q.holds p) a;refine ao ?_
     (refine dP (qf []) ?_;exact af)
    | false =>
     cases hz:aR (ah q.holds p) with
     | false =>
      obtain rfl:R=iY (dB { q with convs:=q.convs++[⟨p,cn q.res (ah q.holds p) a,0,0⟩] }):=by rw [jk q p a prio hR hS hv hp1 hp2 hf hw hc,hz];rfl
      have hd:=(hs.cons (bN.1 hz) hw hf hc);repeat' (first|refine av ?_ ?_|(refine aa 8 rfl ?_;refine be (ae rfl rfl (aH rfl rfl) (aN [⟨p,cn q.res (ah q.holds p) a,0,0⟩] rfl rfl rfl rfl) rfl aQ aQ) rfl rfl rfl ?_)|(refine aa 9 rfl ?_;first|(refine cB [] (dj q) ?_)|(refine cB [] (im p) ?_)|(refine cB [] (jz q.res a) ?_)|(refine cB [] (cX q p hw) ?_)|(refine cH (qf [(0,1000)]) (Ov q (by omega) (by omega) (by omega)) ?_)|(refine cB [1000] (fS q p) ?_)|(refine cB [] (dJ q.res (ah q.holds p) a) ?_)|(refine cB [] (gW (ah q.holds p)) ?_)|(refine cB [] (LM q.res (ah q.holds p) a) ?_)|(refine cC [71] (na { q with convs:=q.convs++[⟨p,cn q.res (ah q.holds p) a,0,0⟩] } hd) ?_))|refine aq ?_|exact aw|refine ap fun hb=>?_|(refine dP (qf []) ?_;exact af))
     | true =>
      have hz0:ah q.holds p=⟨0,0⟩:=by simpa [aR] using hz
      by_cases hn:8<=q.holds.length+q.waits.length
      case pos =>
       obtain rfl:R=bR 4:=by rw [jk q p a prio hR hS hv hp1 hp2 hf hw hc,hz];simp [hn]
       have:=dj q;have:=im p;have:=jz q.res a;have:=cX q p hw;have:=oY q (by omega) (by omega) (by omega);have:=fS q p;have:=dJ q.res (ah q.holds p) a;have:=gW (ah q.holds p);refine ao ?_
       (refine dP (qf []) ?_;exact af)
      obtain ⟨e,he1,he2⟩:∃e,jZ q.waits ⟨p,a,prio,0⟩=(0,e)/\Sd { q with waits:=e }:=by
       have hi:=nZ hs hw hf hv ⟨hp1,hp2⟩ (Nat.lt_of_not_le hn);exact ⟨_,hi.1,hs.ins (w:=⟨p,a,prio,0⟩) hz0 hw hf hi.2 (Nat.lt_of_not_le hn)⟩
      have hI:=LP q.waits ⟨p,a,prio,0⟩;rw [he1] at hI;obtain rfl:R=iY (dB { q with waits:=e }):=by rw [jk q p a prio hR hS hv hp1 hp2 hf hw hc,hz,he1];simp [hn]
      have:=dj q;have:=im p;have:=jz q.res a;have:=cX q p hw;have:=oY q (by omega) (by omega) (by omega);have:=fS q p;have:=dJ q.res (ah q.holds p) a;have:=gW (ah q.holds p);have:=na { q with waits:=e } he2;refine ao ?_
      (refine dP (qf []) ?_;exact af)
theorem vC (q:Qu) (x:Pc) (a:Tm) (l:List Tm):cR q x (a :: l)=bif !bC a.name q.res.name || bq q.res (aC x.led.entries q.res.name) a.am then cR q x l else
  bif !(aj q x.proc).isSome then decide (ah q.holds x.proc=cn q.res (aC x.led.entries q.res.name) a.am) else
  bif q.waits.any (fun y=>decide (y.proc=x.proc) && !decide (y.prio=x.req.prio)) then false else
  decide (ah q.holds x.proc=aC x.led.entries q.res.name) && decide (aj q x.proc=some (cn q.res (aC x.led.entries q.res.name) a.am)):=rfl
theorem S9 (d:Nat) (q:Qu) (x:Pc) (L:List Tm):FSpec prog 156 [q.a,x.a d,.one (.sl c6 L)] [] [] (.b (cR q x L)) []:=by
 refine a7 func156 ?_;refine aY (fun c ρ a w hr=>bV (t:=2) hr rfl) (fun hl2=>?_);refine aY (fun c ρ a w hr=>d7 (t:=0) (i:=6) hr rfl rfl) (fun hl0_6=>?_);obtain ⟨b,hB⟩:=qGe (cR q x L);rw [hB];obtain ⟨l,hl⟩:=qGe (aC x.led.entries q.res.name);obtain ⟨h,hh⟩:=qGe (ah q.holds x.proc);have kH:=fS q x.proc;have kL:=j5 x.led.entries q.res.name;rw [hh] at kH;rw [hl] at kL;obtain ⟨o,hw⟩:=qGe (aj q x.proc);have kW:=cX q x.proc hw;obtain ⟨iw,hiw⟩:=qGe o.isSome;rw [hiw] at kW;cases iw with
 | false =>
  obtain rfl:o=none:=by cases o with
   | none=>rfl
   | some=>cases hiw
  refine ao ?_;refine ab (fun i=>i<=L.length/\cR q x (L.drop i)=b) (fun i=>bP [3,4,7,8,9] [(2,.c (.sl c6 L)),(3,.c (.ptr 3 0)),(4,.c (.ptr 4 0)),(7,.c (.ptr 7 0)),(8,.c (.ptr 8 0)),(9,.c (.ptr 9 0)),(10,.b false),(11,.i i)] [(3,.box 66 q.d),(4,.box 82 (x.d d)),(7,.box 42 [.sc (.int .i64 l.mode),.sc (.int .i64 l.units)]),(8,.box 42 [.sc (.int .i64 h.mode),.sc (.int .i64 h.units)]),(9,.box 42 [.any,.any])]) (fun i=>L.length-i) 0 ⟨Nat.zero_le _,hB⟩ aT ?_;rintro i ⟨hi,hs⟩;by_cases hlt:i<L.length
  ·obtain ⟨a,ha⟩:=qGe (L[i]);have hga:L[i]? = some a:=by rw [qGg hlt,ha]
   rw [qDc hlt,ha,vC,hl,hh,hw] at hs;by_cases hnm:a.name.toList=q.res.name.toList
   ·rw [show bC a.name q.res.name=true by simp [bC,hnm]] at hs;cases hcv:bq q.res l a.am with
    | true =>
     rw [hcv] at hs;have:=dJ q.res l a.am;refine ao ?_;exact UT
    | false =>
     rw [hcv] at hs;simp at hs;rw [<-hs];have:=dJ q.res l a.am;have:=LM q.res l a.am;exact UG
   ·rw [show bC a.name q.res.name=false by simp [bC,hnm]] at hs;have:=dJ q.res l a.am;refine ao ?_;exact UT
  ·rw [qDn (by omega),show cR q x []=(decide (ah q.holds x.proc=aC x.led.entries q.res.name) && !(aj q x.proc).isSome) from rfl,hh,hl,hw] at hs;simp at hs;rw [<-hs];repeat' (first|refine av ?_ ?_|refine aq ?_|exact aw|refine ap fun hb=>?_)
   all_goals (refine eU ?_;simp [*])
 | true =>
  obtain ⟨m,rfl⟩:∃m,o=some m:=by cases o with
   | none=>cases hiw
   | some m=>exact ⟨m,rfl⟩
  refine ao ?_;refine ab (fun i=>i<=L.length/\cR q x (L.drop i)=b) (fun i=>bP [3,4,7,8,9] [(2,.c (.sl c6 L)),(3,.c (.ptr 3 0)),(4,.c (.ptr 4 0)),(7,.c (.ptr 7 0)),(8,.c (.ptr 8 0)),(9,.c (.ptr 9 0)),(10,.b true),(11,.i i)] [(3,.box 66 q.d),(4,.box 82 (x.d d)),(7,.box 42 [.sc (.int .i64 l.mode),.sc (.int .i64 l.units)]),(8,.box 42 [.sc (.int .i64 h.mode),.sc (.int .i64 h.units)]),(9,.box 42 [.sc (.int .i64 m.mode),.sc (.int .i64 m.units)])]) (fun i=>L.length-i) 0 ⟨Nat.zero_le _,hB⟩ aT ?_;rintro i ⟨hi,hs⟩;by_cases hlt:i<L.length
  case neg =>
   rw [qDn (by omega),show cR q x []=(decide (ah q.holds x.proc=aC x.led.entries q.res.name) && !(aj q x.proc).isSome) from rfl,hh,hl,hw] at hs;simp at hs;subst hs;repeat' (first|refine av ?_ ?_|refine aq ?_|exact aw|refine ap fun hb=>?_)
   all_goals (refine eU ?_;simp [*])
  obtain ⟨a,ha⟩:=qGe (L[i]);have hga:L[i]? = some a:=by rw [qGg hlt,ha]
  rw [qDc hlt,ha,vC,hl,hh,hw] at hs;by_cases hnm:a.name.toList=q.res.name.toList
  case neg =>
   rw [show bC a.name q.res.name=false by simp [bC,hnm]] at hs;have:=dJ q.res l a.am;refine ao ?_;exact UT
  rw [show bC a.name q.res.name=true by simp [bC,hnm]] at hs;cases hcv:bq q.res l a.am with
  | true =>
   rw [hcv] at hs;have:=dJ q.res l a.am;refine ao ?_;exact UT
  | false =>
   rw [hcv] at hs;obtain ⟨f,hf⟩:∃f:Wt->Bool,f=fun y=>decide (y.proc=x.proc) && !decide (y.prio=x.req.prio):=⟨_,rfl⟩;rw [<-hf] at hs;obtain ⟨j,hj⟩:=qGe (cn q.res l a.am);have kJ:=LM q.res l a.am;rw [hj] at hs kJ;simp only [Bool.not_true,Bool.or_self,qCf,Option.isSome_some] at hs;have:=dJ q.res l a.am;refine ao ?_;refine ab (fun k=>k<=q.waits.length/\q.waits.any f=(q.waits.drop k).any f) (fun k=>bP [3,4,7,8,9,13] [(3,.c (.ptr 3 0)),(4,.c (.ptr 4 0)),(7,.c (.ptr 7 0)),(8,.c (.ptr 8 0)),(9,.c (.ptr 9 0)),(13,.c (.ptr 13 0)),(14,.i k)] [(3,.box 66 q.d),(4,.box 82 (x.d d)),(7,.box 42 [.sc (.int .i64 l.mode),.sc (.int .i64 l.units)]),(8,.box 42 [.sc (.int .i64 h.mode),.sc (.int .i64 h.units)]),(9,.box 42 [.sc (.int .i64 m.mode),.sc (.int .i64 m.units)]),(13,.box 42 [.sc (.int .i64 j.mode),.sc (.int .i64 j.units)])]) (fun k=>q.waits.length-k) 0 ⟨Nat.zero_le _,rfl⟩ aT ?_;rintro k ⟨hk,hany⟩;by_cases hkl:k<q.waits.length
   case neg =>
    rw [qDn (by omega),List.any_nil] at hany;rw [hany] at hs;rw [<-hs];repeat' (first|refine av ?_ ?_|refine aq ?_|exact aw|refine ap fun hb=>?_)
    all_goals (refine eU ?_;simp [*])
   obtain ⟨y,hy⟩:=qGe (q.waits[k]);have hgy:q.waits[k]? = some y:=by rw [qGg hkl,hy]
   rw [qDc hkl,hy,List.any_cons] at hany;by_cases hfy:y.proc=x.proc/\y.prio≠x.req.prio
   ·obtain ⟨hf1,hf2⟩:=hfy;rw [show f y=true by rw [hf];simp [hf1,hf2],Bool.true_or] at hany;rw [hany] at hs;rw [<-hs];refine ao ?_;all_goals (refine eU ?_;rfl)
   ·rw [show f y=false by rw [hf];simp;intro h1;exact Classical.byContradiction fun h2=>hfy ⟨h1,h2⟩,Bool.false_or] at hany;repeat' (first|refine av ?_ ?_|refine aq ?_|exact aw|(refine ap fun hb=>?_;first|(exact (hfy ⟨by assumption,hb⟩).elim)|skip))
    all_goals (refine ⟨k+1,⟨by omega,hany⟩,by omega,?_⟩;exact aT)
end Go.Proofs.YthpgjkjgkhjjlaaGreatDoor
