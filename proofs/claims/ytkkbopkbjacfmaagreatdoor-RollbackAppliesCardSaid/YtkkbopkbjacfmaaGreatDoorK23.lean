/- Part K23 of a proof of statements of chapter 15 (no condition). -/
import Derived.Test.YtkkbopkbjacfmaaGreatDoorK18
import Derived.Test.YtkkbopkbjacfmaaGreatDoorK19
set_option linter.unusedVariables false
set_option linter.unusedSimpArgs false
set_option maxRecDepth 100000
set_option maxHeartbeats 64000000
namespace Go.Proofs.YtkkbopkbjacfmaaGreatDoor
open Go.RowKit Go.Proofs.Tryz
theorem MP (r:Rs):FSpec prog 329 [r.a] [] [] (.b (ly r)) [] :=
 bD (fun b W=>by kernel_rfl) rfl fun w S ρ vs _ h=>by
  match vs,h with
  | [_],⟨h1,_⟩=>rw [Rs.open h1];exact (yp _ w).mono fun _ _=>jb
theorem JP (q:Qu):FSpec prog 282 [q.a] [] [] (.tup [(nM q).a,.one (.sc (.bool (dv q).isSome))]) []:=by
 obtain ⟨r,hs,cs,ws,gn⟩:=q;refine aS func282 ?_;refine aP (fun c ρ a w hr=>cG (t:=0) (i:=5) hr rfl rfl) (fun hl0_5=>?_);refine aP (fun c ρ a w hr=>cG (t:=0) (i:=6) hr rfl rfl) (fun hl0_6=>?_);cases cs with
 | cons x cs =>
  have e0:(x :: cs)[(0:Int).toNat]? = some x:=rfl;have e1:(x :: cs)[0]? = some x:=rfl;exact Q8
 | nil =>
  cases ws with
  | cons x ws =>
   have e0:(x :: ws)[(0:Int).toNat]? = some x:=rfl;have e1:(x :: ws)[0]? = some x:=rfl;exact Q8
  | nil =>
   refine ao ?_
   (refine gG (qf []) ?_;exact ak)
theorem oI (q:Qu) (p:Pr):FSpec prog 161 [q.a,p.a] [] [] (.v (af q.holds p).a) []:=by
 refine aS func161 ?_;have:=Qr q.holds p;exact QY
theorem JQ (q:Qu) (h2:q.convs.length<=8) (h3:q.waits.length<=8):FSpec prog 109 [q.a] [] [] (.c (.sl gc (q.convs++q.waits))) [] :=
 bD (fun b W=>by kernel_rfl) rfl fun w S ρ vs hS h=>by
  match vs,h with
  | [_],⟨h1,_⟩ =>
   obtain ⟨A1,A2,A3,c1,c2,c3,rfl,hq,k1,k2,k3⟩:=Qu.open h1;exact (Fi q A1 A2 A3 c1 c2 c3 w w.heap.size (hq.qf hS)  h2 h3).mono fun _ _=>gT
theorem BS (q:Qu) (p:Pr) (h2:q.convs.length<=8) (h3:q.waits.length<=8) {v:Option Am} (hv:ah q p=v):FSpec prog 120 [q.a,p.a] [] [] (.tup [(CP v).a,.one (.sc (.bool v.isSome))]) []:=by
 unfold ah at hv;have kO:=JQ q h2 h3;obtain ⟨L,hL⟩:=qGe (q.convs++q.waits);have hl:L.length<=16:=by rw [<-hL];simp;omega
 rw [hL] at hv kO;refine aS func120 ?_;refine ao ?_;refine ab (fun i=>i<=L.length/\go (L.drop i) p=v) (fun i=>bC [3,4] [(3,.c (.ptr 3 0)),(4,.c (.ptr 4 0)),(9,.c (.sl gc L)),(10,.i L.length),(11,.i i)] [Eb 3 p,(4,.box 61 [.sc (.int .i64 0),.sc (.int .i64 0)])]) (fun i=>L.length-i) 0 ⟨Nat.zero_le _,hv⟩ aL ?_;rintro i ⟨hi,hs⟩;by_cases hlt:i<L.length
 ·rw [qDc hlt,cr] at hs;obtain ⟨x,hx⟩:=qGe (L[i]);have hgx:L[i]? = some x:=by rw [qGg hlt,hx]
  rw [hx] at hs;repeat' (first|refine az ?_ ?_|refine ay ?_|exact aA|refine ax fun hb=>?_)
  ·obtain rfl:some x.am=v:=by rw [<-hs];simp [*]
   refine gG (qf []) ?_;exact ak
  ·exact Rb
 ·rw [qDn (by omega)] at hs;obtain rfl:none=v:=hs;refine ao ?_
  (refine gG (qf []) ?_;exact ak)
theorem JR (q:Qu):FSpec prog 330 [q.a] [] [] (.b (Fg q)) []:=by
  obtain ⟨v,hv⟩:=qGe (Fg q);rw [hv];unfold Fg at hv;refine aS func330 ?_;refine aP (fun c ρ a w hr=>cG (t:=0) (i:=5) hr rfl rfl) (fun hl0_5=>?_);by_cases h8:8<q.convs.length
  · rw [qDf (by omega)] at hv
    obtain rfl:false=v:=hv;exact QY
  rw [qDt (by omega),Bool.true_and] at hv;refine ao ?_;refine ab (fun i=>i<=q.convs.length/\ui q i (q.convs.drop i)=v) (fun i=>bC [1] [(1,.c (.ptr 1 0)),(11,.c (.sl gc q.convs)),(12,.i q.convs.length),(13,.i i)] [(1,.box 78 q.d)]) (fun i=>q.convs.length-i) 0 ⟨Nat.zero_le _,hv⟩ aL ?_;rintro i ⟨hi,hs⟩;by_cases hlt:i<q.convs.length
  · rw [qDc hlt,jx] at hs
    obtain ⟨x,hx⟩:=qGe (q.convs[i]);have hgx:q.convs[i]? = some x:=by rw [qGg hlt,hx]
    rw [hx] at hs;obtain ⟨h,hh⟩:=qGe (af q.holds x.proc);have kG:=oI q x.proc;unfold Ff at hs;rw [hh] at hs kG;clear hv hx hh;have:=mx h;have:=jl q.res x.am;have:=pP q.res x.am h;have:=Dr q.convs x.proc;repeat' (first|refine az ?_ ?_|refine fV ?_|refine ay ?_|exact aA|refine ax fun hb=>?_)
    all_goals first
      | (obtain rfl:false=v:=by rw [<-hs];simp [*]
         refine cn (qf []) ?_;exact ak)
      | (refine ⟨i+1,⟨by omega,by rw [<-hs];simp [*]⟩,by omega,?_⟩
         exact aL)
  · rw [qDn (by omega)] at hs
    obtain rfl:true=v:=hs;exact QY
theorem JS (q:Qu) (hh:q.holds.length<=8):FSpec prog 331 [q.a] [] [] (.b (Fh q)) []:=by
  obtain ⟨v,hv⟩:=qGe (Fh q);rw [hv];unfold Fh at hv;refine aS func331 ?_;refine aP (fun c ρ a w hr=>cG (t:=0) (i:=6) hr rfl rfl) (fun hl0_6=>?_);cases hP:fe q.waits && decide (q.holds.length+q.waits.length<=8) with
  | false =>
    rw [hP] at hv;obtain rfl:false=v:=hv;cases h1:fe q.waits with
    | false =>
      have:=JO q.waits;exact QY
    | true =>
      rw [h1,Bool.true_and,decide_eq_false_iff_not] at hP;have w8:q.waits.length<=8:=by have:=h1;simp [fe] at this;omega
      have:=JO q.waits;exact QY
  | true =>
    rw [hP,Bool.true_and] at hv;obtain ⟨h1,h2⟩:fe q.waits=true/\q.holds.length+q.waits.length<=8:=by simpa using hP
    have:=JO q.waits;refine ao ?_;refine ab (fun i=>i<=q.waits.length/\tk q (q.waits.drop i)=v) (fun i=>bC [1] [(1,.c (.ptr 1 0)),(20,.c (.sl gc q.waits)),(21,.i q.waits.length),(22,.i i)] [(1,.box 78 q.d)]) (fun i=>q.waits.length-i) 0 ⟨Nat.zero_le _,hv⟩ aL ?_;rintro i ⟨hi,hs⟩;by_cases hlt:i<q.waits.length
    · rw [qDc hlt,jy] at hs
      have:=jl q.res q.waits[i].am;have:=oI q q.waits[i].proc;have:=mx (af q.holds q.waits[i].proc);repeat' (first|refine az ?_ ?_|refine fV ?_|refine ay ?_|exact aA|refine ax fun hb=>?_)
      all_goals first
        | (obtain rfl:false=v:=by rw [<-hs];simp [*]
           refine cn (qf []) ?_;exact ak)
        | (refine ⟨i+1,⟨by omega,by rw [<-hs];simp [*]⟩,by omega,?_⟩
           exact aL)
    · rw [qDn (by omega)] at hs
      obtain rfl:true=v:=hs;exact QY
theorem EW (q:Qu):FSpec prog 281 [q.a] [] [] (.b (eD q)) []:=by
 have hb8:qD q.res q.holds=true->q.holds.length<=8:=fun h=>by simp [qD] at h;omega
 unfold eD;refine aS func281 ?_;cases hP:qD q.res q.holds with
 | false =>
  have:=MP q.res;have:=tZ q.res q.holds;repeat' (first|refine az ?_ ?_|refine fV ?_|refine ay ?_|exact aA|(refine ax fun hb=>?_;first|(simp [hP] at hb;done)|skip))
  all_goals (refine eR ?_;simp [*])
 | true =>
  have:=MP q.res;have:=tZ q.res q.holds;have:=JR q;have:=JS q (hb8 hP);repeat' (first|refine az ?_ ?_|refine fV ?_|refine ay ?_|exact aA|(refine ax fun hb=>?_;first|(simp [hP] at hb;done)|skip))
  all_goals (refine eR ?_;simp [*])
theorem GC (q:Qu):FSpec prog 193 [q.a] [] [] (.b (ai q)) []:=by
 obtain ⟨v,hv⟩:=qGe (ai q);rw [hv];unfold ai at hv;have kH:=JP q;obtain ⟨x,hx⟩:=qGe (nM q);rw [hx] at kH;unfold nM at hx;refine aS func193 ?_;cases hq:dv q with
 | none =>
  rw [hq] at hv kH;have:=EW q;repeat' (first|refine az ?_ ?_|refine fV ?_|refine ay ?_|exact aA|refine ax fun hb=>?_)
  all_goals (refine eR ?_;rw [<-hv];simp [*])
 | some y =>
  rw [hq] at hv kH hx;obtain rfl:y=x:=hx;have:=EW q;have:=Jb q.res q.holds y.proc y.am;repeat' (first|refine az ?_ ?_|refine fV ?_|refine ay ?_|exact aA|refine ax fun hb=>?_)
  all_goals (refine eR ?_;rw [<-hv];simp [*])
theorem io (q:Qu):FSpec prog 106 [q.a] [] [] (.b (ai q)) []:=by
 refine aS func106 ?_;have:=GC q;refine ao ?_
 (refine eR ?_;rfl)
theorem Dt (l:List Pr) (hl:l.length<=1000000):FSpec prog 113 [.one (.sl eh l)] [] [] (.c (.sl eh (dw l))) [] :=
 bD (fun b W=>by kernel_rfl) rfl fun w S ρ vs hS h=>by
  match vs,h with
  | [_],⟨⟨A,c,rfl,_,r⟩,_⟩=>exact (wM A c l w (by omega) (r.lo hS)).mono fun _ _=>gT
theorem JT (l:List Ho) (hl:l.length<=100000):FSpec prog 287 [.one (.sl g8 l)] [] [0] (.c (.own 0)) [(0,some (.arr 42 eh (cL l)))]:=by
 refine aS func287 ?_;refine ao ?_;refine bK 3 1000 42 eh rfl rfl rfl ?_;refine ab (fun i=>i<=l.length) (fun i=>bC [1000] [(3,.c (.own 1000)),(6,.c (.sl g8 l)),(7,.i l.length),(8,.i i)] [(1000,.arr 42 eh (cL (l.take i)))]) (fun i=>l.length-i) 0 (Nat.zero_le _) aL ?_;intro i hi;have hlen:(cL (l.take i)).length=i:=by simp [cL];omega
 by_cases hlt:i<l.length
 ·have e:cL (l.take (i+1))=cL (l.take i)++[l[i].proc]:=by unfold cL;rw [List.take_succ_eq_append_getElem hlt,List.map_append];rfl
  repeat' (first|refine az ?_ ?_|(refine aa 8 rfl ?_;refine aK (ae rfl rfl (av rfl rfl) (aB [l[i].proc] rfl rfl rfl rfl) rfl aE aE) rfl rfl rfl ?_)|refine ay ?_|exact aA|refine ax fun hb=>?_)
  refine ⟨i+1,by omega,by omega,?_⟩;rw [e];exact a8 (qf [(1000,16)])
 ·rw [List.take_of_length_le (by omega)];refine ao ?_
  (refine cn (qf [(0,1000)]) ?_;exact ak)
theorem LY (q:Qu) (h2:q.convs.length<=8) (h3:q.waits.length<=8):FSpec prog 43 [q.a] [] [] (.c (.sl eh (nu q))) []:=by
 have kO:=JQ q h2 h3;unfold nu;obtain ⟨L,hL⟩:=qGe (q.convs++q.waits);have hl:L.length<=16:=by rw [<-hL];simp;omega
 rw [hL] at kO ⊢;refine aS func43 ?_;refine ao ?_;refine bK 3 1000 42 eh rfl rfl rfl ?_;refine ab (fun i=>i<=L.length) (fun i=>bC [1000] [(3,.c (.own 1000)),(7,.c (.sl gc L)),(8,.i L.length),(9,.i i)] [(1000,.arr 42 eh (bR (L.take i)))]) (fun i=>L.length-i) 0 (Nat.zero_le _) aL ?_;intro i hi;have hlen:(bR (L.take i)).length=i:=by simp [bR];omega
 by_cases hlt:i<L.length
 ·have e:bR (L.take (i+1))=bR (L.take i)++[L[i].proc]:=by unfold bR;rw [List.take_succ_eq_append_getElem hlt,List.map_append];rfl
  repeat' (first|refine az ?_ ?_|(refine aa 8 rfl ?_;refine aK (ae rfl rfl (av rfl rfl) (aB [L[i].proc] rfl rfl rfl rfl) rfl aE aE) rfl rfl rfl ?_)|refine ay ?_|exact aA|refine ax fun hb=>?_)
  refine ⟨i+1,by omega,by omega,?_⟩;rw [e];exact a8 (qf [(1000,17)])
 ·rw [List.take_of_length_le (by omega)];exact QY
theorem LZ (q:Qu) (h1:q.holds.length<=8) (h2:q.convs.length<=8) (h3:q.waits.length<=8):FSpec prog 199 [q.a] [] [] (.c (.sl eh (dW q))) []:=by
 unfold dW;have e1:(cL q.holds).length=q.holds.length:=by simp [cL]
 have e2:(nu q).length=q.convs.length+q.waits.length:=by simp [nu]
 refine aS func199 ?_;repeat' (first|refine az ?_ ?_|(refine aa 9 rfl ?_;first|(refine cH (qf [(0,1000)]) (JT q.holds (by omega)) ?_)|(refine cC [] (LY q h2 h3) ?_)|(refine cC [8] (Dt (cL q.holds++nu q) (by simp;omega)) ?_))|refine ay ?_|exact aA|refine ax fun hb=>?_|exact aT|fail)
theorem L3 (l:List Qu) (hm:l.length<=12) (h8:∀q∈l,fq q):FSpec prog 112 [.one (.sl ic l)] [] [] (.c (.sl eh (aD l))) []:=by
 obtain ⟨R,hR⟩:=qGe (iD l);have hRl:R.length<=288:=by rw [<-hR];have:=oS l h8;omega
 unfold aD;rw [hR];refine aS func112 ?_;refine ao ?_;refine bK 3 1000 42 eh rfl rfl rfl ?_;refine ab (fun x:Nat×List Pr=>x.1<=l.length/\x.2++iD (l.drop x.1)=R) (fun x=>bC [1000] [(3,.c (.own 1000)),(6,.c (.sl ic l)),(7,.i l.length),(8,.i x.1)] [(1000,.arr 42 eh x.2)]) (fun x=>l.length-x.1) (0,[]) ⟨Nat.zero_le _,hR⟩ aL ?_;rintro ⟨i,out⟩ ⟨hi,hs⟩;dsimp only at *
 have hol:out.length<=288:=by have:=congrArg List.length hs;simp at this;omega
 by_cases hlt:i<l.length
 ·rw [qDc hlt,vl,<-List.append_assoc] at hs;have hq:=h8 _ (List.getElem_mem hlt);have hql:=nW hq;have kP:=LZ l[i] hq.1 hq.2.1 hq.2.2;clear h8;refine ao ?_;refine ⟨(i+1,out++dW l[i]),⟨by dsimp only;omega,hs⟩,by dsimp only;omega,?_⟩;exact a8 (qf [(1000,15)])
 ·rw [qDn (by omega)] at hs;obtain rfl:out=R:=by rw [<-hs];simp [iD]
  repeat' (first|refine az ?_ ?_|((fail_if_success (first|refine po 7 ?_|refine pp 7 ?_));refine ay ?_)|exact aA|refine ax fun hb=>?_)
  refine kx 1000 rfl ?_;have:=Dt out (by omega);exact QY
end Go.Proofs.YtkkbopkbjacfmaaGreatDoor
