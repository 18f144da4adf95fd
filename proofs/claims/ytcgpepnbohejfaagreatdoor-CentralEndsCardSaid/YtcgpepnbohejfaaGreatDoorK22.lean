/- Part 22 of 56 of the proof of both_hold (no condition). -/
import Derived.Test.YtcgpepnbohejfaaGreatDoorK17
import Derived.Test.YtcgpepnbohejfaaGreatDoorK18
import Derived.Test.YtcgpepnbohejfaaGreatDoorK19
set_option linter.unusedVariables false
set_option linter.unusedSimpArgs false
set_option maxRecDepth 100000
set_option maxHeartbeats 64000000
namespace Go.Proofs.YtcgpepnbohejfaaGreatDoor
open Go.RowKit Go.Proofs.Tryz
theorem wh (r:Rs):FSpec prog 74 [r.a] [] [] (.b (jQ r)) [] :=
 cP (fun b W=>by kernel_rfl) rfl fun w S ρ vs _ h=>by
  match vs,h with
  | [_],⟨h1,_⟩=>rw [Rs.open h1];exact (tH _ w).mono fun _ _=>jF
theorem Ce (q:Qu):FSpec prog 148 [q.a] [] [] (.tup [(pD q).a,.one (.sc (.bool (dm q).isSome))]) []:=by
 obtain ⟨r,hs,cs,ws,gn⟩:=q;refine aT func148 ?_;refine bd (fun c ρ a w hr=>ip (t:=0) (i:=5) hr rfl rfl) (fun hl0_5=>?_);refine bd (fun c ρ a w hr=>ip (t:=0) (i:=6) hr rfl rfl) (fun hl0_6=>?_);cases cs with
 | cons x cs =>
  have e0:(x :: cs)[(0:Int).toNat]? = some x:=rfl;have e1:(x :: cs)[0]? = some x:=rfl;repeat' (first|refine af ?_ ?_|refine ae ?_|exact ah|(refine ab fun hb=>?_;first|(simp at hb;done)|skip)|(refine gC (qf []) ?_;exact aw))
 | nil =>
  cases ws with
  | cons x ws =>
   have e0:(x :: ws)[(0:Int).toNat]? = some x:=rfl;have e1:(x :: ws)[0]? = some x:=rfl;repeat' (first|refine af ?_ ?_|refine ae ?_|exact ah|(refine ab fun hb=>?_;first|(simp at hb;done)|skip)|(refine gC (qf []) ?_;exact aw))
  | nil =>
   repeat' (first|refine af ?_ ?_|refine ae ?_|exact ah|(refine ab fun hb=>?_;first|(simp at hb;done)|skip)|(refine gC (qf []) ?_;exact aw))
theorem dK (q:Qu) (p:Pr):FSpec prog 61 [q.a,p.a] [] [] (.v (ao q.holds p).a) []:=by
 refine aT func61 ?_;repeat' (first|refine af ?_ ?_|refine aa 9 rfl (cB [] (I8 q.holds p) ?_)|refine ae ?_|exact ah|refine ab fun hb=>?_|exact bB|fail)
theorem Cf (q:Qu) (h2:q.convs.length≤8) (h3:q.waits.length≤8):FSpec prog 161 [q.a] [] [] (.c (.sl fJ (q.convs++q.waits))) [] :=
 cP (fun b W=>by kernel_rfl) rfl fun w S ρ vs hS h=>by
  match vs,h with
  | [_],⟨h1,_⟩ =>
   obtain ⟨A1,A2,A3,c1,c2,c3,rfl,hq,k1,k2,k3⟩:=Qu.open h1;exact (zL q A1 A2 A3 c1 c2 c3 w w.heap.size (hq.qf hS)  h2 h3).mono fun _ _=>vX
theorem dL (q:Qu) (p:Pr) (h2:q.convs.length≤8) (h3:q.waits.length≤8) {v:Option Am} (hv:ai q p=v):FSpec prog 157 [q.a,p.a] [] [] (.tup [(Gk v).a,.one (.sc (.bool v.isSome))]) []:=by
 unfold ai at hv;have kO:=Cf q h2 h3;obtain ⟨L,hL⟩:∃L,q.convs++q.waits=L:=⟨_,rfl⟩;have hl:L.length≤16:=by rw [←hL];simp;omega
 rw [hL] at hv kO;refine aT func157 ?_;repeat' (first|refine af ?_ ?_|refine aa 9 rfl (cC [] (kO) ?_)|refine ae ?_|exact ah|refine ab fun hb=>?_)
 refine ak (fun i=>i≤L.length∧fx (L.drop i) p=v) (fun i=>cq [3,4] [(3,.c (.ptr 3 0)),(4,.c (.ptr 4 0)),(9,.c (.sl fJ L)),(10,.i L.length),(11,.i i)] [iK 3 p,(4,.box 42 [.sc (.int .i64 0),.sc (.int .i64 0)])]) (fun i=>L.length-i) 0 ⟨Nat.zero_le _,hv⟩ a7 ?_;rintro i ⟨hi,hs⟩;by_cases hlt:i<L.length
 ·rw [List.drop_eq_getElem_cons hlt,cd] at hs;obtain ⟨x,hx⟩:∃x,L[i]=x:=⟨_,rfl⟩;have hgx:L[i]? = some x:=by rw [List.getElem?_eq_getElem hlt,hx]
  rw [hx] at hs;repeat' (first|refine af ?_ ?_|refine ae ?_|exact ah|refine ab fun hb=>?_)
  ·obtain rfl:some x.am=v:=by rw [←hs];simp [*]
   refine gC (qf []) ?_;exact aw
  ·refine ⟨i+1,⟨by omega,by rw [←hs];simp [*]⟩,by omega,?_⟩;exact a7
 ·rw [List.drop_eq_nil_of_le (by omega)] at hs;obtain rfl:none=v:=hs;repeat' (first|refine af ?_ ?_|refine ae ?_|exact ah|refine ab fun hb=>?_|(refine gC (qf []) ?_;exact aw))
theorem Cg (q:Qu):FSpec prog 186 [q.a] [] [] (.b (Hi q)) []:=by
  obtain ⟨v,hv⟩:∃v,Hi q=v:=⟨_,rfl⟩;rw [hv];unfold Hi at hv;refine aT func186 ?_;refine bd (fun c ρ a w hr=>ip (t:=0) (i:=5) hr rfl rfl) (fun hl0_5=>?_);by_cases h8:8<q.convs.length
  · rw [decide_eq_false (by omega)] at hv
    obtain rfl:false=v:=hv;repeat' (first|refine af ?_ ?_|refine ae ?_|exact ah|refine ab fun hb=>?_|exact bB|fail)
  rw [decide_eq_true (by omega),Bool.true_and] at hv;repeat' (first|refine af ?_ ?_|refine ae ?_|exact ah|refine ab fun hb=>?_)
  refine ak (fun i=>i≤q.convs.length∧xc q i (q.convs.drop i)=v) (fun i=>cq [1] [(1,.c (.ptr 1 0)),(11,.c (.sl fJ q.convs)),(12,.i q.convs.length),(13,.i i)] [(1,.box 58 q.d)]) (fun i=>q.convs.length-i) 0 ⟨Nat.zero_le _,hv⟩ a7 ?_;rintro i ⟨hi,hs⟩;by_cases hlt:i<q.convs.length
  · rw [List.drop_eq_getElem_cons hlt,sj] at hs
    obtain ⟨x,hx⟩:∃x,q.convs[i]=x:=⟨_,rfl⟩;have hgx:q.convs[i]? = some x:=by rw [List.getElem?_eq_getElem hlt,hx]
    rw [hx] at hs;obtain ⟨h,hh⟩:∃h,ao q.holds x.proc=h:=⟨_,rfl⟩;have kG:=dK q x.proc;unfold Bl at hs;rw [hh] at hs kG;clear hv hx hh;repeat' (first|refine af ?_ ?_|(refine aa 9 rfl ?_;first|(refine cB [] (kG) ?_)|(refine cB [] (fH h) ?_)|(refine cB [] (dy q.res x.am) ?_)|(refine cB [] (eL q.res x.am h) ?_)|(refine cB [] (mE q.convs x.proc) ?_))|refine ae ?_|exact ah|refine ab fun hb=>?_)
    all_goals first
      | (obtain rfl:false=v:=by rw [←hs];simp [*]
         refine ct (qf []) ?_;exact aw)
      | (refine ⟨i+1,⟨by omega,by rw [←hs];simp [*]⟩,by omega,?_⟩
         exact a7)
  · rw [List.drop_eq_nil_of_le (by omega)] at hs
    obtain rfl:true=v:=hs;repeat' (first|refine af ?_ ?_|refine ae ?_|exact ah|refine ab fun hb=>?_|exact bB|fail)
theorem Ch (q:Qu) (hh:q.holds.length≤8):FSpec prog 187 [q.a] [] [] (.b (Hj q)) []:=by
  obtain ⟨v,hv⟩:∃v,Hj q=v:=⟨_,rfl⟩;rw [hv];unfold Hj at hv;refine aT func187 ?_;refine bd (fun c ρ a w hr=>ip (t:=0) (i:=6) hr rfl rfl) (fun hl0_6=>?_);cases hP:fD q.waits && decide (q.holds.length+q.waits.length≤8) with
  | false =>
    rw [hP] at hv;obtain rfl:false=v:=hv;cases h1:fD q.waits with
    | false =>
      repeat' (first|refine af ?_ ?_|refine aa 9 rfl (cB [] (nE q.waits) ?_)|refine ae ?_|exact ah|(refine ab fun hb=>?_;first|(simp [h1] at hb;done)|skip)|exact bB|fail)
    | true =>
      rw [h1,Bool.true_and,decide_eq_false_iff_not] at hP;have w8:q.waits.length≤8:=by have:=h1;simp [fD] at this;omega
      repeat' (first|refine af ?_ ?_|refine aa 9 rfl (cB [] (nE q.waits) ?_)|refine ae ?_|exact ah|(refine ab fun hb=>?_;first|(simp [h1] at hb;done)|skip)|exact bB|fail)
  | true =>
    rw [hP,Bool.true_and] at hv;obtain ⟨h1,h2⟩:fD q.waits=true∧q.holds.length+q.waits.length≤8:=by simpa using hP
    repeat' (first|refine af ?_ ?_|refine aa 9 rfl (cB [] (nE q.waits) ?_)|refine ae ?_|exact ah|(refine ab fun hb=>?_;first|(simp [h1] at hb;done)|skip))
    refine ak (fun i=>i≤q.waits.length∧xd q (q.waits.drop i)=v) (fun i=>cq [1] [(1,.c (.ptr 1 0)),(20,.c (.sl fJ q.waits)),(21,.i q.waits.length),(22,.i i)] [(1,.box 58 q.d)]) (fun i=>q.waits.length-i) 0 ⟨Nat.zero_le _,hv⟩ a7 ?_;rintro i ⟨hi,hs⟩;by_cases hlt:i<q.waits.length
    · rw [List.drop_eq_getElem_cons hlt,sk] at hs
      repeat' (first|refine af ?_ ?_|(refine aa 9 rfl ?_;first|(refine cB [] (dy q.res q.waits[i].am) ?_)|(refine cB [] (dK q q.waits[i].proc) ?_)|(refine cB [] (fH (ao q.holds q.waits[i].proc)) ?_))|refine ae ?_|exact ah|refine ab fun hb=>?_)
      all_goals first
        | (obtain rfl:false=v:=by rw [←hs];simp [*]
           refine ct (qf []) ?_;exact aw)
        | (refine ⟨i+1,⟨by omega,by rw [←hs];simp [*]⟩,by omega,?_⟩
           exact a7)
    · rw [List.drop_eq_nil_of_le (by omega)] at hs
      obtain rfl:true=v:=hs;repeat' (first|refine af ?_ ?_|refine ae ?_|exact ah|refine ab fun hb=>?_|exact bB|fail)
theorem yV (q:Qu):FSpec prog 147 [q.a] [] [] (.b (mm q)) []:=by
 have hb8:yq q.res q.holds=true→q.holds.length≤8:=fun h=>by simp [yq] at h;omega
 unfold mm;refine aT func147 ?_;cases hP:yq q.res q.holds with
 | false =>
  repeat' (first|refine af ?_ ?_|(refine aa 9 rfl ?_;first|(refine cB [] (wh q.res) ?_)|(refine cB [] (oh q.res q.holds) ?_))|refine ae ?_|exact ah|(refine ab fun hb=>?_;first|(simp [hP] at hb;done)|skip))
  all_goals (refine fm ?_;simp [*])
 | true =>
  repeat' (first|refine af ?_ ?_|(refine aa 9 rfl ?_;first|(refine cB [] (wh q.res) ?_)|(refine cB [] (oh q.res q.holds) ?_)|(refine cB [] (Cg q) ?_)|(refine cB [] (Ch q (hb8 hP)) ?_))|refine ae ?_|exact ah|(refine ab fun hb=>?_;first|(simp [hP] at hb;done)|skip))
  all_goals (refine fm ?_;simp [*])
theorem Ax (q:Qu):FSpec prog 101 [q.a] [] [] (.b (av q)) []:=by
 obtain ⟨v,hv⟩:∃v,av q=v:=⟨_,rfl⟩;rw [hv];unfold av at hv;have kH:=Ce q;obtain ⟨x,hx⟩:∃x,pD q=x:=⟨_,rfl⟩;rw [hx] at kH;unfold pD at hx;refine aT func101 ?_;cases hq:dm q with
 | none =>
  rw [hq] at hv kH;repeat' (first|refine af ?_ ?_|(refine aa 9 rfl ?_;first|(refine cB [] (yV q) ?_)|(refine cB [] (kH) ?_))|refine ae ?_|exact ah|refine ab fun hb=>?_)
  all_goals (refine fm ?_;rw [←hv];simp [*])
 | some y =>
  rw [hq] at hv kH hx;obtain rfl:y=x:=hx;repeat' (first|refine af ?_ ?_|(refine aa 9 rfl ?_;first|(refine cB [] (yV q) ?_)|(refine cB [] (kH) ?_)|(refine cB [] (Ca q.res q.holds y.proc y.am) ?_))|refine ae ?_|exact ah|refine ab fun hb=>?_)
  all_goals (refine fm ?_;rw [←hv];simp [*])
theorem cc (q:Qu):FSpec prog 62 [q.a] [] [] (.b (av q)) []:=by
 refine aT func62 ?_;repeat' (first|refine af ?_ ?_|refine aa 9 rfl (cB [] (Ax q) ?_)|refine ae ?_|exact ah|refine ab fun hb=>?_|(refine fm ?_;rfl))
theorem Ci (l:List Pr) (hl:l.length≤1000000):FSpec prog 71 [.one (.sl jx l)] [] [] (.c (.sl jx (gL l))) [] :=
 cP (fun b W=>by kernel_rfl) rfl fun w S ρ vs hS h=>by
  match vs,h with
  | [_],⟨⟨A,c,rfl,_,r⟩,_⟩=>exact (rn A c l w (by omega) (r.lo hS)).mono fun _ _=>vX
theorem Cj (l:List Ho) (hl:l.length≤100000):FSpec prog 117 [.one (.sl jR l)] [] [0] (.c (.own 0)) [(0,some (.arr 40 jx (c8 l)))]:=by
 refine aT func117 ?_;repeat' (first|refine af ?_ ?_|refine ae ?_|exact ah|refine ab fun hb=>?_)
 refine cZ 3 1000 40 jx rfl rfl rfl ?_;refine ak (fun i=>i≤l.length) (fun i=>cq [1000] [(3,.c (.own 1000)),(6,.c (.sl jR l)),(7,.i l.length),(8,.i i)] [(1000,.arr 40 jx (c8 (l.take i)))]) (fun i=>l.length-i) 0 (Nat.zero_le _) a7 ?_;intro i hi;have hlen:(c8 (l.take i)).length=i:=by simp [c8];omega
 by_cases hlt:i<l.length
 ·have e:c8 (l.take (i+1))=c8 (l.take i)++[l[i].proc]:=by unfold c8;rw [List.take_succ_eq_append_getElem hlt,List.map_append];rfl
  repeat' (first|refine af ?_ ?_|(refine aa 8 rfl ?_;refine bh (ap rfl rfl (aH rfl rfl) (aL [l[i].proc] rfl rfl rfl rfl) rfl aK aK) rfl rfl rfl ?_)|refine ae ?_|exact ah|refine ab fun hb=>?_)
  refine ⟨i+1,by omega,by omega,?_⟩;rw [e];exact bw (qf [(1000,16)])
 ·rw [List.take_of_length_le (by omega)];repeat' (first|refine af ?_ ?_|refine ae ?_|exact ah|refine ab fun hb=>?_|(refine ct (qf [(0,1000)]) ?_;exact aw))
theorem EA (q:Qu) (h2:q.convs.length≤8) (h3:q.waits.length≤8):FSpec prog 118 [q.a] [] [] (.c (.sl jx (rm q))) []:=by
 have kO:=Cf q h2 h3;unfold rm;obtain ⟨L,hL⟩:∃L,q.convs++q.waits=L:=⟨_,rfl⟩;have hl:L.length≤16:=by rw [←hL];simp;omega
 rw [hL] at kO ⊢;refine aT func118 ?_;repeat' (first|refine af ?_ ?_|refine aa 9 rfl (cC [] (kO) ?_)|refine ae ?_|exact ah|refine ab fun hb=>?_)
 refine cZ 3 1000 40 jx rfl rfl rfl ?_;refine ak (fun i=>i≤L.length) (fun i=>cq [1000] [(3,.c (.own 1000)),(7,.c (.sl fJ L)),(8,.i L.length),(9,.i i)] [(1000,.arr 40 jx (bZ (L.take i)))]) (fun i=>L.length-i) 0 (Nat.zero_le _) a7 ?_;intro i hi;have hlen:(bZ (L.take i)).length=i:=by simp [bZ];omega
 by_cases hlt:i<L.length
 ·have e:bZ (L.take (i+1))=bZ (L.take i)++[L[i].proc]:=by unfold bZ;rw [List.take_succ_eq_append_getElem hlt,List.map_append];rfl
  repeat' (first|refine af ?_ ?_|(refine aa 8 rfl ?_;refine bh (ap rfl rfl (aH rfl rfl) (aL [L[i].proc] rfl rfl rfl rfl) rfl aK aK) rfl rfl rfl ?_)|refine ae ?_|exact ah|refine ab fun hb=>?_)
  refine ⟨i+1,by omega,by omega,?_⟩;rw [e];exact bw (qf [(1000,17)])
 ·rw [List.take_of_length_le (by omega)];repeat' (first|refine af ?_ ?_|refine ae ?_|exact ah|refine ab fun hb=>?_|exact bB|fail)
theorem ul (q:Qu) (h1:q.holds.length≤8) (h2:q.convs.length≤8) (h3:q.waits.length≤8):FSpec prog 70 [q.a] [] [] (.c (.sl jx (ef q))) []:=by
 unfold ef;have e1:(c8 q.holds).length=q.holds.length:=by simp [c8]
 have e2:(rm q).length=q.convs.length+q.waits.length:=by simp [rm]
 refine aT func70 ?_;repeat' (first|refine af ?_ ?_|(refine aa 9 rfl ?_;first|(refine cH (qf [(0,1000)]) (Cj q.holds (by omega)) ?_)|(refine cC [] (EA q h2 h3) ?_)|(refine cC [8] (Ci (c8 q.holds++rm q) (by simp;omega)) ?_))|refine ae ?_|exact ah|refine ab fun hb=>?_|exact bB|fail)
theorem H7 (r:Rs) (h:jQ r=true):FSpec prog 42 [r.a] [] [] (.tup [(⟨r,[],[],[],0⟩:Qu).a,iV 0]) []:=by
 refine aT func42 ?_;repeat' (first|refine af ?_ ?_|refine aa 9 rfl (cB [] (wh r) ?_)|refine ae ?_|exact ah|(refine ab fun hb=>?_;first|(simp [h] at hb;done)|skip)|(refine gC (qf []) ?_;exact aw))
theorem jG (q:Qu) (h1:q.holds.length≤100000) (h2:q.convs.length≤100000) (h3:q.waits.length≤100000):FSpec prog 170 [q.a] [] [] (.v q.a) []:=by
 refine aT func170 ?_;repeat' (first|refine af ?_ ?_|refine ae ?_|exact ah|refine ab fun hb=>?_|exact bB|fail)
def II (q:Qu) (k:Nat):List D:=[.sc (.string q.res.name),.sc (.int .i64 q.res.kind),.sc (.int .i64 q.res.units),.sc (.int .i64 q.res.home),.sl jR q.holds,.own k,.sl fJ q.waits,.sc (.int .i64 q.gen)]
theorem Ck (q:Qu) (h1:q.holds.length≤100000) (h2:q.convs.length≤100000) (h3:q.waits.length≤100000):FSpec prog 170 [q.a] [] [0] (.v (.ag (II q 0))) [(0,some (.arr 211 fJ q.convs))]:=by
 refine aT func170 ?_;repeat' (first|refine af ?_ ?_|refine ae ?_|exact ah|refine ab fun hb=>?_)
 refine ct (qf [(0,9)]) ?_;exact aw
theorem g5 (q:Qu) (hs:Sd q):FSpec prog 218 [.one (.ptr 0 0)] [(0,.box 58 q.d)] [] (.c (.sl jR (lC q).2)) [(0,some (.box 58 (lC q).1.d))]:=by
 have hh:=hs.hv.len;have h1:=hs.clen;have h2:=hs.wlen;have hm:fF q≤16:=by unfold fF;omega
 refine aT func218 ?_;repeat' (first|refine af ?_ ?_|((with_reducible refine B1 ?_);refine BL ?_)|((with_reducible refine B1 ?_);refine BK ?_)|refine ae ?_|exact ah|refine ab fun hb=>?_)
 refine cZ 3 1000 98 jR rfl rfl rfl ?_;refine ak (fun x:Nat×Qu×List Ho=>Sd x.2.1∧fF x.2.1≤x.1∧d5 x.1 x.2.1 x.2.2=lC q∧x.2.2.length+x.1≤16) (fun x=>cq [0,1000] [(0,.c (.ptr 0 0)),(3,.c (.own 1000))] [(0,.box 58 x.2.1.d),(1000,.arr 98 jR x.2.2)]) (fun x=>x.1) (fF q,q,[]) ⟨hs,Nat.le_refl _,rfl,by simpa using hm⟩ a7 ?_;rintro ⟨n,q1,acc⟩ ⟨hs1,hn,hadv,hlen⟩;dsimp only at *
 have kH:=Ce q1;cases hset:av q1 with
 | true =>
  rw [Cd hs1 hset] at hadv;rw [←hadv];have hroom:=(cr.1 hset).2;cases hq:dm q1 with
  | none =>
   rw [hq,Option.isSome_none] at kH;repeat' (first|refine af ?_ ?_|refine aa 9 rfl (cB [] (kH) ?_)|refine ae ?_|exact ah|refine ab fun hb=>?_|(refine ⟨fun _ h=>(by cases h),?_⟩;refine ct (qf []) ?_;exact aw))
  | some x =>
   have hr:=hroom x hq;obtain ⟨z,hz⟩:∃z,pD q1=z:=⟨_,rfl⟩;rw [hq,hz,Option.isSome_some] at kH;obtain rfl:x=z:=by rw [←hz];unfold pD;rw [hq];rfl
   have kR:=Ca q1.res q1.holds x.proc x.am;rw [hr] at kR;repeat' (first|refine af ?_ ?_|(refine aa 9 rfl ?_;first|(refine cB [] (kH) ?_)|(refine cB [] (kR) ?_))|refine ae ?_|exact ah|refine ab fun hb=>?_|(refine ⟨fun _ h=>(by cases h),?_⟩;refine ct (qf []) ?_;exact aw))
 | false =>
  obtain ⟨x,hx,hs2,hn2,hpos,hgo⟩:=Av (acc:=acc) hs1 hset hn;rw [hgo] at hadv;have hh1:=hs1.hv.len;have kR:=Ca q1.res q1.holds x.proc x.am;rw [show f5 q1.res q1.holds x.proc x.am=true by have:=hset;simpa [av,ph.2 hs1,hx] using this] at kR;obtain ⟨z,hz⟩:∃z,pD q1=z:=⟨_,rfl⟩;rw [hx,hz,Option.isSome_some] at kH;obtain rfl:x=z:=by rw [←hz];unfold pD;rw [hx];rfl
  clear hz;obtain ⟨r,hs',cs,ws,gn⟩:=q1;cases cs with
  | cons y cs =>
   obtain rfl:y=x:=by simpa [dm] using hx
   repeat' (first|refine af ?_ ?_|(refine aa 8 rfl ?_;refine bh (ap rfl rfl (aH rfl rfl) (aL [⟨y.proc,y.am⟩] rfl rfl rfl rfl) rfl aK aK) rfl rfl rfl ?_)|(refine aa 9 rfl ?_;first|(refine cB [] (kH) ?_)|(refine cB [] (kR) ?_)|(refine cC [] (B9 hs' y.proc y.am (by dsimp only at hh1;omega)) ?_))|refine ae ?_|exact ah|(refine ab fun hb=>?_;first|(simp at hb;done)|skip))
   refine ⟨(n-1,gc ⟨r,hs',y :: cs,ws,gn⟩ y,acc++[⟨y.proc,y.am⟩]),⟨hs2,by dsimp only;omega,hadv,by simp;omega⟩,by dsimp only;omega,?_⟩;exact bw (qf [(1000,74)])
  | nil =>
   obtain ⟨ws2,rfl⟩:∃m,ws=x :: m:=by
    cases ws with
    | nil=>simp [dm] at hx
    | cons z m=>exact ⟨m,by rw [show z=x by simpa [dm] using hx]⟩
   repeat' (first|refine af ?_ ?_|(refine aa 8 rfl ?_;refine bh (ap rfl rfl (aH rfl rfl) (aL [⟨x.proc,x.am⟩] rfl rfl rfl rfl) rfl aK aK) rfl rfl rfl ?_)|(refine aa 9 rfl ?_;first|(refine cB [] (kH) ?_)|(refine cB [] (kR) ?_)|(refine cC [] (B9 hs' x.proc x.am (by dsimp only at hh1;omega)) ?_))|refine ae ?_|exact ah|(refine ab fun hb=>?_;first|(simp at hb;done)|skip))
   refine ⟨(n-1,gc ⟨r,hs',[],x :: ws2,gn⟩ x,acc++[⟨x.proc,x.am⟩]),⟨hs2,by dsimp only;omega,hadv,by simp;omega⟩,by dsimp only;omega,?_⟩;exact bw (qf [(1000,74)])
theorem g6 (n:Int):FSpec prog 79 [iV n] [] [] (.i (aJ n)) []:=by
 obtain ⟨v,hv⟩:∃v,aJ n=v:=⟨_,rfl⟩;rw [hv];unfold aJ at hv;refine aT func79 ?_;by_cases h:n<0∨1073741824≤n
 ·rw [if_pos h] at hv;obtain rfl:=hv;repeat' (first|refine af ?_ ?_|refine ae ?_|exact ah|refine ab fun hb=>?_|exact bB|fail)
 ·rw [if_neg h] at hv;obtain rfl:=hv;repeat' (first|refine af ?_ ?_|refine ae ?_|exact ah|refine ab fun hb=>?_|exact bB|fail)
theorem I9 (q:Qu) (p:Pr) (hl:q.convs.length≤100000):FSpec prog 235 [.one (.ptr 0 0),.one (.ptr 1 0)] [(0,.box 58 q.d),iK 1 p] [] (.tup []) [(0,some (.box 58 { q with convs:=bV q.convs p }.d)),(1,some (iK 1 p).2)]:=by
 refine aT func235 ?_;repeat' (first|refine af ?_ ?_|refine aa 9 rfl (cC [] (lS q.convs p hl) ?_)|refine ae ?_|exact ah|refine ab fun hb=>?_|(exact sX (qf [])))
theorem Ja (q:Qu) (p:Pr) (hl:q.waits.length≤100000):FSpec prog 236 [.one (.ptr 0 0),.one (.ptr 1 0)] [(0,.box 58 q.d),iK 1 p] [] (.tup []) [(0,some (.box 58 { q with waits:=bV q.waits p }.d)),(1,some (iK 1 p).2)]:=by
 refine aT func236 ?_;repeat' (first|refine af ?_ ?_|refine aa 9 rfl (cC [] (lS q.waits p hl) ?_)|refine ae ?_|exact ah|refine ab fun hb=>?_|(exact sX (qf [])))
theorem Gs (q:Qu) (p:Pr) (hc:q.convs.length≤100000) (hw:q.waits.length≤100000) {q2:Qu} (hq:{ q with convs:=bV q.convs p,waits:=bV q.waits p } = q2) (hs:Sd q2):FSpec prog 171 [.one (.ptr 0 0),.one (.slb 1 2)] [(0,.box 58 q.d),(1,.box 1 [.clo 235 [0,2],.clo 236 [0,2]]),iK 2 p] [] (um (ic (dn q2))) [(0,none),(1,none),(2,none)]:=by
 refine aT func171 ?_;obtain ⟨q1,hq1⟩:∃q1,{ q with convs:=bV q.convs p } = q1:=⟨_,rfl⟩;have k1:=I9 q p hc;rw [hq1] at k1;have k2:=Ja q1 p (by rw [←hq1];exact hw);rw [show ({ q1 with waits:=bV q1.waits p }:Qu)=q2 by rw [←hq,←hq1]] at k2;repeat' (first|refine af ?_ ?_|(refine aa 7 rfl ?_;refine sx (c5 rfl rfl) ?_)|refine ae ?_|exact ah|refine ab fun hb=>?_)
 refine ak (fun x:Nat×Qu=>x.1=0∧x.2=q∨x.1=1∧x.2=q1∨x.1=2∧x.2=q2) (fun x=>cq [0,1,2,4] [(0,.c (.ptr 0 0)),(4,.c (.ptr 4 0)),(10,.c (.slb 1 2)),(11,.i 2),(12,.i x.1)] [(0,.box 58 x.2.d),(4,.box 58 Aw),(1,.box 1 [.clo 235 [0,2],.clo 236 [0,2]]),iK 2 p]) (fun x=>2-x.1) (0,q) (.inl ⟨rfl,rfl⟩) a7 ?_;rintro ⟨i,z⟩ hz;dsimp only at *
 rcases hz with ⟨rfl,rfl⟩|⟨rfl,rfl⟩|⟨rfl,rfl⟩
 ·repeat' (first
   | refine af ?_ ?_
   | (refine aa 6 rfl ?_;refine sx (aR (i:=0) rfl rfl rfl rfl (by decide)) ?_)
   | (refine aa 9 rfl ?_;refine jW 0 [0,1] (qf [(0,0),(1,2)]) (k1) ?_)
   | refine ae ?_
   | exact ah|(refine ab fun hb=>?_;first|(exact absurd hb (by decide))|skip))
  refine ⟨(1,q1),.inr (.inl ⟨rfl,rfl⟩),by simp,?_⟩;exact a7
 ·repeat' (first
   | refine af ?_ ?_
   | (refine aa 6 rfl ?_;refine sx (aR (i:=1) rfl rfl rfl rfl (by decide)) ?_)
   | (refine aa 9 rfl ?_;refine jW 0 [0,1] (qf [(0,0),(1,2)]) (k2) ?_)
   | refine ae ?_
   | exact ah|(refine ab fun hb=>?_;first|(exact absurd hb (by decide))|skip))
  refine ⟨(2,q2),.inr (.inr ⟨rfl,rfl⟩),by simp,?_⟩;exact a7
 ·have kA:=g5 z hs;unfold dn;obtain ⟨⟨N,G⟩,hN⟩:∃x,lC z=x:=⟨_,rfl⟩;have hg:N.gen=z.gen:=by have:=(dg hs).2.1;rw [hN] at this;exact this
  rw [hN] at kA ⊢;dsimp only;rw [←hg];repeat' (first|refine af ?_ ?_|(refine aa 9 rfl ?_;first|(refine cH (qf [(0,0)]) (kA) ?_)|(refine cB [] (g6 N.gen) ?_))|refine ae ?_|exact ah|(refine ab fun hb=>?_;first|(exact absurd hb (by decide))|skip)|(refine fB (qf []) ?_;exact aw))
theorem Cl (q:Qu) (p:Pr) {R:Qu×List Ho×Int} (hR:be q p=R):FSpec prog 213 [q.a,p.a] [] [] (um R) []:=by
 refine aT func213 ?_;cases hS:av q with
 | false =>
  obtain rfl:R=bP 2:=by rw [←hR];simp [be,hS]
  repeat' (first|refine af ?_ ?_|refine aa 9 rfl (cB [] (cc q) ?_)|refine ae ?_|exact ah|(refine ab fun hb=>?_;first|(simp [hS] at hb;done)|skip)|(refine fB (qf []) ?_;exact aw))
 | true =>
  have hs:=aF hS;have h1:=hs.hv.len;have h2:=hs.clen;have h3:=hs.wlen;cases hw:ai q p with
  | none =>
   obtain rfl:R=bP 10:=by rw [←hR];simp [be,hS,hw]
   repeat' (first|refine af ?_ ?_|(refine aa 9 rfl ?_;first|(refine cB [] (cc q) ?_)|(refine cB [] (dL q p (by omega) (by omega) hw) ?_))|refine ae ?_|exact ah|(refine ab fun hb=>?_;first|(simp [hS] at hb;done)|skip)|(refine fB (qf []) ?_;exact aw))
  | some a =>
   obtain rfl:R=ic (dn { q with convs:=bV q.convs p,waits:=bV q.waits p }):=by rw [←hR];simp [be,hS,hw]
   have hd:=hs.drop p;have kF:=Gs q p (by omega) (by omega) rfl hd;repeat' (first|refine af ?_ ?_|(refine aa 0 rfl ?_;refine sx (cl (ks:=[9,3]) rfl rfl) ?_)|(refine aa 9 rfl ?_;first|(refine cB [] (cc q) ?_)|(refine cB [] (dL q p (by omega) (by omega) hw) ?_)|(refine cC [] (jG q (by omega) (by omega) (by omega)) ?_)|(refine cH (qf [(0,9),(1,27),(2,3)]) (kF) ?_))|refine ae ?_|exact ah|(refine ab fun hb=>?_;first|(simp [hS] at hb;done)|skip)|(refine fB (qf []) ?_;exact aw))
theorem Jb (q:Qu) (p:Pr) (a:Am) (hl:q.holds.length≤100000):FSpec prog 223 [.one (.ptr 0 0),.one (.ptr 1 0),.one (.ptr 2 0)] [(0,.box 58 q.d),iK 1 p,(2,.box 42 [.sc (.int .i64 a.mode),.sc (.int .i64 a.units)])] [] (.tup []) [(0,some (.box 58 { q with holds:=cm q.holds p a }.d)),(1,some (iK 1 p).2),(2,some (.box 42 [.sc (.int .i64 a.mode),.sc (.int .i64 a.units)]))]:=by
 refine aT func223 ?_;repeat' (first|refine af ?_ ?_|refine aa 9 rfl (cC [] (B9 q.holds p a hl) ?_)|refine ae ?_|exact ah|refine ab fun hb=>?_|(exact sX (qf [])))
theorem Gt (q:Qu) (p:Pr) (a:Am) (hc:q.holds.length≤100000) {q2:Qu} (hq:{ q with holds:=cm q.holds p a } = q2) (hs:Sd q2):FSpec prog 171 [.one (.ptr 0 0),.one (.slb 1 1)] [(0,.box 58 q.d),(1,.box 1 [.clo 223 [0,2,3]]),iK 2 p,(3,.box 42 [.sc (.int .i64 a.mode),.sc (.int .i64 a.units)])] [] (um (ic (dn q2))) [(0,none),(1,none),(2,none),(3,none)]:=by
 refine aT func171 ?_;have k1:=Jb q p a hc;rw [hq] at k1;repeat' (first|refine af ?_ ?_|(refine aa 7 rfl ?_;refine sx (c5 rfl rfl) ?_)|refine ae ?_|exact ah|refine ab fun hb=>?_)
 refine ak (fun x:Nat×Qu=>x.1=0∧x.2=q∨x.1=1∧x.2=q2) (fun x=>cq [0,1,2,3,4] [(0,.c (.ptr 0 0)),(4,.c (.ptr 4 0)),(10,.c (.slb 1 1)),(11,.i 1),(12,.i x.1)] [(0,.box 58 x.2.d),(4,.box 58 Aw),(1,.box 1 [.clo 223 [0,2,3]]),iK 2 p,(3,.box 42 [.sc (.int .i64 a.mode),.sc (.int .i64 a.units)])]) (fun x=>1-x.1) (0,q) (.inl ⟨rfl,rfl⟩) a7 ?_;rintro ⟨i,z⟩ hz;dsimp only at *
 rcases hz with ⟨rfl,rfl⟩|⟨rfl,rfl⟩
 ·repeat' (first
   | refine af ?_ ?_
   | (refine aa 6 rfl ?_;refine sx (aR (i:=0) rfl rfl rfl rfl (by decide)) ?_)
   | (refine aa 9 rfl ?_;refine jW 0 [0,1,2] (qf [(0,0),(1,2),(2,3)]) (k1) ?_)
   | refine ae ?_
   | exact ah|(refine ab fun hb=>?_;first|(exact absurd hb (by decide))|skip))
  refine ⟨(1,q2),.inr ⟨rfl,rfl⟩,by simp,?_⟩;exact a7
 ·have kA:=g5 z hs;unfold dn;obtain ⟨⟨N,G⟩,hN⟩:∃x,lC z=x:=⟨_,rfl⟩;have hg:N.gen=z.gen:=by have:=(dg hs).2.1;rw [hN] at this;exact this
  rw [hN] at kA ⊢;dsimp only;rw [←hg];repeat' (first|refine af ?_ ?_|(refine aa 9 rfl ?_;first|(refine cH (qf [(0,0)]) (kA) ?_)|(refine cB [] (g6 N.gen) ?_))|refine ae ?_|exact ah|(refine ab fun hb=>?_;first|(exact absurd hb (by decide))|skip)|(refine fB (qf []) ?_;exact aw))
theorem Az {q:Qu} {p:Pr} (hs:Sd q) (hz:ao q.holds p≠⟨0,0⟩):(0≤dB q.convs p)↔(ai q p).isSome=true:=by
 unfold ai;rw [d7];rcases jl p q.convs 0 with ⟨h1,h2⟩|⟨i,h,h1,h2⟩
 ·have hw:fx q.waits p=none:=by
   rcases jl p q.waits 0 with ⟨h3,h4⟩|⟨i,h,h3,h4⟩
   ·exact h4
   ·exfalso;have hf:∃x∈q.waits,x.proc=p:=Classical.byContradiction fun hn=>by
     have:=jd (p:=p) (l:=q.waits) (k:=0) fun x hx e=>hn ⟨x,hx,e⟩;rw [this] at h3;omega
    obtain ⟨x,hx,rfl⟩:=hf;exact hz (hs.wok _ hx).2.2
  unfold dB;rw [h1,h2,hw];simp
 ·unfold dB;rw [h1,h2];simp
theorem EB (q:Qu) (p:Pr) (a:Am) {R:Qu×List Ho×Int} (hR:bk q p a=R):FSpec prog 175 [q.a,p.a,a.a] [] [] (um R) []:=by
 refine aT func175 ?_;cases hS:av q with
 | false =>
  obtain rfl:R=bP 2:=by rw [←hR];simp [bk,hS]
  repeat' (first|refine af ?_ ?_|refine aa 9 rfl (cB [] (cc q) ?_)|refine ae ?_|exact ah|(refine ab fun hb=>?_;first|(simp [hS] at hb;done)|skip)|(refine fB (qf []) ?_;exact aw))
 | true =>
  have hs:=aF hS;have h1:=hs.hv.len;have h2:=hs.clen;have h3:=hs.wlen;cases hz:aG (ao q.holds p) with
  | true =>
   obtain rfl:R=bP 10:=by rw [←hR];simp [bk,hS,hz]
   repeat' (first|refine af ?_ ?_|(refine aa 9 rfl ?_;first|(refine cB [] (cc q) ?_)|(refine cB [] (dK q p) ?_)|(refine cB [] (fH (ao q.holds p)) ?_))|refine ae ?_|exact ah|(refine ab fun hb=>?_;first|(simp [hS] at hb;done)|(simp [hz] at hb;done)|skip)|(refine fB (qf []) ?_;exact aw))
  | false =>
   have hcv:=Az hs (bb.1 hz);obtain ⟨n,hn⟩:∃n,dB q.convs p=n:=⟨_,rfl⟩;have kF:=mE q.convs p;rw [hn] at hcv kF;cases hw:ai q p with
   | some b =>
    obtain rfl:R=bP 14:=by rw [←hR];simp [bk,hS,hz,hw]
    have h0:0≤n:=hcv.2 (by rw [hw];rfl);repeat' (first|refine af ?_ ?_|(refine aa 9 rfl ?_;first|(refine cB [] (cc q) ?_)|(refine cB [] (dK q p) ?_)|(refine cB [] (fH (ao q.holds p)) ?_)|(refine cB [] (kF) ?_))|refine ae ?_|exact ah|(refine ab fun hb=>?_;first|(simp [hS] at hb;done)|(simp [hz] at hb;done)|skip)|(refine fB (qf []) ?_;exact aw))
   | none =>
    have h0:¬0≤n:=fun h=>by have:=hcv.1 h;rw [hw] at this;cases this
    cases hc:a8 q.res (ao q.holds p) a with
    | false =>
     obtain rfl:R=bP 12:=by rw [←hR];simp [bk,hS,hz,hw,hc]
     repeat' (first|refine af ?_ ?_|(refine aa 9 rfl ?_;first|(refine cB [] (cc q) ?_)|(refine cB [] (dK q p) ?_)|(refine cB [] (fH (ao q.holds p)) ?_)|(refine cB [] (kF) ?_)|(refine cB [] (eL q.res (ao q.holds p) a) ?_))|refine ae ?_|exact ah|(refine ab fun hb=>?_;first|(simp [hS] at hb;done)|(simp [hz] at hb;done)|(simp [hc] at hb;done)|skip)|(refine fB (qf []) ?_;exact aw))
    | true =>
     have hd:=hs.lower hw (bb.1 hz) hc;obtain ⟨R1,hR1⟩:∃R1,R1=(bif decide (ao q.holds p=a) then ic (q,[]) else ic (dn { q with holds:=cm q.holds p a })):=⟨_,rfl⟩;obtain rfl:R=R1:=by rw [←hR,hR1];simp [bk,hS,hz,hw,hc]
     clear hR;have kL:=Gt q p a (by omega) rfl hd;repeat' (first|refine af ?_ ?_|(refine aa 0 rfl ?_;refine sx (cl (ks:=[10,4,5]) rfl rfl) ?_)|(refine aa 9 rfl ?_;first|(refine cB [] (cc q) ?_)|(refine cB [] (dK q p) ?_)|(refine cB [] (fH (ao q.holds p)) ?_)|(refine cB [] (kF) ?_)|(refine cB [] (eL q.res (ao q.holds p) a) ?_)|(refine cC [] (jG q (by omega) (by omega) (by omega)) ?_)|(refine cH (qf [(0,10),(1,41),(2,4),(3,5)]) (kL) ?_))|refine ae ?_|exact ah|(refine ab fun hb=>?_;first|(simp [hS] at hb;done)|(simp [hz] at hb;done)|(simp [hc] at hb;done)|skip))
     ·obtain rfl:R=ic (q,[]):=by rw [hR1];simp [hb]
      refine fB (qf []) ?_;exact aw
     ·obtain rfl:R=ic (dn { q with holds:=cm q.holds p a }):=by rw [hR1,decide_eq_false (fun h=>hb h.symm)];rfl
      refine fB (qf []) ?_;exact aw
theorem Jd (q:Qu) (p:Pr) (hl:q.holds.length≤100000):FSpec prog 176 [.one (.ptr 0 0),.one (.ptr 1 0)] [(0,.box 58 q.d),iK 1 p] [] (.tup []) [(0,some (.box 58 { q with holds:=cm q.holds p ⟨0,0⟩ }.d)),(1,some (iK 1 p).2)]:=by
 refine aT func176 ?_;repeat' (first|refine af ?_ ?_|refine aa 9 rfl (cC [] (B9 q.holds p ⟨0,0⟩ hl) ?_)|refine ae ?_|exact ah|refine ab fun hb=>?_|(exact sX (qf [])))
theorem Je (q:Qu) (p:Pr) (hl:q.convs.length≤100000):FSpec prog 178 [.one (.ptr 0 0),.one (.ptr 1 0)] [(0,.box 58 q.d),iK 1 p] [] (.tup []) [(0,some (.box 58 { q with convs:=bV q.convs p }.d)),(1,some (iK 1 p).2)]:=by
 refine aT func178 ?_;repeat' (first|refine af ?_ ?_|refine aa 9 rfl (cC [] (lS q.convs p hl) ?_)|refine ae ?_|exact ah|refine ab fun hb=>?_|(exact sX (qf [])))
theorem Jf (q:Qu) (p:Pr) (hl:q.waits.length≤100000):FSpec prog 180 [.one (.ptr 0 0),.one (.ptr 1 0)] [(0,.box 58 q.d),iK 1 p] [] (.tup []) [(0,some (.box 58 { q with waits:=bV q.waits p }.d)),(1,some (iK 1 p).2)]:=by
 refine aT func180 ?_;repeat' (first|refine af ?_ ?_|refine aa 9 rfl (cC [] (lS q.waits p hl) ?_)|refine ae ?_|exact ah|refine ab fun hb=>?_|(exact sX (qf [])))
theorem Gu (q:Qu) (p:Pr) (hh:q.holds.length≤100000) (hc:q.convs.length≤100000) (hw:q.waits.length≤100000) {q3:Qu} (hq:{ q with holds:=cm q.holds p ⟨0,0⟩,convs:=bV q.convs p,waits:=bV q.waits p } = q3) (hs:Sd q3):FSpec prog 171 [.one (.ptr 0 0),.one (.slb 1 3)] [(0,.box 58 q.d),(1,.box 1 [.clo 176 [0,2],.clo 178 [0,2],.clo 180 [0,2]]),iK 2 p] [] (um (ic (dn q3))) [(0,none),(1,none),(2,none)]:=by
 refine aT func171 ?_;obtain ⟨q1,hq1⟩:∃q1,{ q with holds:=cm q.holds p ⟨0,0⟩ } = q1:=⟨_,rfl⟩;obtain ⟨q2,hq2⟩:∃q2,{ q1 with convs:=bV q1.convs p } = q2:=⟨_,rfl⟩;have k1:=Jd q p hh;rw [hq1] at k1;have k2:=Je q1 p (by rw [←hq1];exact hc);rw [hq2] at k2;have k3:=Jf q2 p (by rw [←hq2,←hq1];exact hw);rw [show ({ q2 with waits:=bV q2.waits p }:Qu)=q3 by rw [←hq,←hq2,←hq1]] at k3;repeat' (first|refine af ?_ ?_|(refine aa 7 rfl ?_;refine sx (c5 rfl rfl) ?_)|refine ae ?_|exact ah|refine ab fun hb=>?_)
 refine ak (fun x:Nat×Qu=>x.1=0∧x.2=q∨x.1=1∧x.2=q1∨x.1=2∧x.2=q2∨x.1=3∧x.2=q3) (fun x=>cq [0,1,2,4] [(0,.c (.ptr 0 0)),(4,.c (.ptr 4 0)),(10,.c (.slb 1 3)),(11,.i 3),(12,.i x.1)] [(0,.box 58 x.2.d),(4,.box 58 Aw),(1,.box 1 [.clo 176 [0,2],.clo 178 [0,2],.clo 180 [0,2]]),iK 2 p]) (fun x=>3-x.1) (0,q) (.inl ⟨rfl,rfl⟩) a7 ?_;rintro ⟨i,z⟩ hz;dsimp only at *
 rcases hz with ⟨rfl,rfl⟩|⟨rfl,rfl⟩|⟨rfl,rfl⟩|⟨rfl,rfl⟩
 ·repeat' (first
   | refine af ?_ ?_
   | (refine aa 6 rfl ?_;refine sx (aR (i:=0) rfl rfl rfl rfl (by decide)) ?_)
   | (refine aa 9 rfl ?_;refine jW 0 [0,1] (qf [(0,0),(1,2)]) (k1) ?_)
   | refine ae ?_
   | exact ah|(refine ab fun hb=>?_;first|(exact absurd hb (by decide))|skip))
  refine ⟨(1,q1),.inr (.inl ⟨rfl,rfl⟩),by simp,?_⟩;exact a7
 ·repeat' (first
   | refine af ?_ ?_
   | (refine aa 6 rfl ?_;refine sx (aR (i:=1) rfl rfl rfl rfl (by decide)) ?_)
   | (refine aa 9 rfl ?_;refine jW 0 [0,1] (qf [(0,0),(1,2)]) (k2) ?_)
   | refine ae ?_
   | exact ah|(refine ab fun hb=>?_;first|(exact absurd hb (by decide))|skip))
  refine ⟨(2,q2),.inr (.inr (.inl ⟨rfl,rfl⟩)),by simp,?_⟩;exact a7
 ·repeat' (first
   | refine af ?_ ?_
   | (refine aa 6 rfl ?_;refine sx (aR (i:=2) rfl rfl rfl rfl (by decide)) ?_)
   | (refine aa 9 rfl ?_;refine jW 0 [0,1] (qf [(0,0),(1,2)]) (k3) ?_)
   | refine ae ?_
   | exact ah|(refine ab fun hb=>?_;first|(exact absurd hb (by decide))|skip))
  refine ⟨(3,q3),.inr (.inr (.inr ⟨rfl,rfl⟩)),by simp,?_⟩;exact a7
 ·have kA:=g5 z hs;unfold dn;obtain ⟨⟨N,G⟩,hN⟩:∃x,lC z=x:=⟨_,rfl⟩;have hg:N.gen=z.gen:=by have:=(dg hs).2.1;rw [hN] at this;exact this
  rw [hN] at kA ⊢;dsimp only;rw [←hg];repeat' (first|refine af ?_ ?_|(refine aa 9 rfl ?_;first|(refine cH (qf [(0,0)]) (kA) ?_)|(refine cB [] (g6 N.gen) ?_))|refine ae ?_|exact ah|(refine ab fun hb=>?_;first|(exact absurd hb (by decide))|skip)|(refine fB (qf []) ?_;exact aw))
def uo (p:Pr):Nat→List Pr→Int
 | _,[]=>-1
 | k,x :: l=>bif decide (p=x) then (k:Int) else uo p (k+1) l
theorem s7 (p x:Pr) (k:Nat) (l:List Pr):uo p k (x :: l)=bif decide (p=x) then (k:Int) else uo p (k+1) l:=rfl
theorem wk (p:Pr):∀(l:List Pr) (k:Nat),0≤uo p k l↔p∈l
 | [],_=>by simp [uo]
 | x :: l,k=>by
  rw [s7];by_cases h:p=x
  ·rw [decide_eq_true h];simp [h] <;> omega
  ·rw [decide_eq_false h,cond_false,wk p l (k+1)];simp [h]
theorem Gv (l:List Pr) (p:Pr):FSpec prog 217 [.one (.sl jx l),p.a] [] [] (.i (uo p 0 l)) []:=by
 obtain ⟨v,hv⟩:∃v,uo p 0 l=v:=⟨_,rfl⟩;rw [hv];refine aT func217 ?_;refine bd (fun c ρ a w hr=>cV (t:=0) hr rfl) (fun hl0=>?_);repeat' (first|refine af ?_ ?_|refine ae ?_|exact ah|refine ab fun hb=>?_)
 refine ak (fun i=>i≤l.length∧uo p i (l.drop i)=v) (fun i=>cq [3] [(0,.c (.sl jx l)),(3,.c (.ptr 3 0)),(7,.i l.length),(8,.i i)] [iK 3 p]) (fun i=>l.length-i) 0 ⟨Nat.zero_le _,hv⟩ a7 ?_;rintro i ⟨hi,hs⟩;by_cases hlt:i<l.length
 ·rw [List.drop_eq_getElem_cons hlt,s7] at hs;repeat' (first|refine af ?_ ?_|refine ae ?_|exact ah|refine ab fun hb=>?_)
  ·refine fm ?_;rw [←hs];simp [*]
  ·refine ⟨i+1,⟨by omega,?_⟩,by omega,?_⟩
   ·rw [←hs];simp [*]
   ·exact a7
 ·rw [List.drop_eq_nil_of_le (by omega)] at hs;repeat' (first|refine af ?_ ?_|refine ae ?_|exact ah|refine ab fun hb=>?_)
  refine fm ?_;rw [←hs];rfl
theorem ED (l:List Pr) (p:Pr):FSpec prog 169 [.one (.sl jx l),p.a] [] [] (.b (decide (p∈l))) []:=by
 have h:=wk p l 0;have kI:=Gv l p;obtain ⟨n,hn⟩:∃n,uo p 0 l=n:=⟨_,rfl⟩;rw [hn] at h kI;refine aT func169 ?_;repeat' (first|refine af ?_ ?_|refine aa 9 rfl (cB [] (kI) ?_)|refine ae ?_|exact ah|refine ab fun hb=>?_)
 refine fm ?_;simp [h]
theorem lT (l:List Pr) (p:Pr):FSpec prog 131 [.one (.sl jx l),p.a] [] [] (.b (decide (p∈l))) []:=by
 refine aT func131 ?_;repeat' (first|refine af ?_ ?_|refine aa 9 rfl (cB [] (ED l p) ?_)|refine ae ?_|exact ah|refine ab fun hb=>?_|(refine fm ?_;rfl))
theorem Co (q:Qu) (p:Pr) {R:Qu×List Ho×Int} (hR:aV q p=R):FSpec prog 138 [q.a,p.a] [] [] (um R) []:=by
 refine aT func138 ?_;cases hS:av q with
 | false =>
  obtain rfl:R=bP 2:=by rw [←hR];simp [aV,hS]
  repeat' (first|refine af ?_ ?_|refine aa 9 rfl (cB [] (cc q) ?_)|refine ae ?_|exact ah|(refine ab fun hb=>?_;first|(simp [hS] at hb;done)|skip)|(refine fB (qf []) ?_;exact aw))
 | true =>
  have hs:=aF hS;have h1:=hs.hv.len;have h2:=hs.clen;have h3:=hs.wlen;have hiff:=dh hs p;have kP:=lT (ef q) p;cases hh:eQ q p with
  | false =>
   obtain rfl:R=bP 10:=by rw [←hR];simp [aV,hS,hh]
   rw [decide_eq_false (fun h=>by rw [hiff.1 h] at hh;cases hh)] at kP;repeat' (first|refine af ?_ ?_|(refine aa 9 rfl ?_;first|(refine cB [] (cc q) ?_)|(refine cC [] (ul q h1 (by omega) (by omega)) ?_)|(refine cB [] (kP) ?_))|refine ae ?_|exact ah|(refine ab fun hb=>?_;first|(simp [hS] at hb;done)|skip)|(refine fB (qf []) ?_;exact aw))
  | true =>
   obtain rfl:R=ic (dn { q with holds:=cm q.holds p ⟨0,0⟩,convs:=bV q.convs p,waits:=bV q.waits p }):=by rw [←hR];simp [aV,hS,hh]
   have hd:=hs.gone p;have kF:=Gu q p (by omega) (by omega) (by omega) rfl hd;rw [decide_eq_true (hiff.2 hh)] at kP;repeat' (first|refine af ?_ ?_|(refine aa 0 rfl ?_;refine sx (cl (ks:=[7,3]) rfl rfl) ?_)|(refine aa 9 rfl ?_;first|(refine cB [] (cc q) ?_)|(refine cC [] (ul q h1 (by omega) (by omega)) ?_)|(refine cB [] (kP) ?_)|(refine cC [] (jG q (by omega) (by omega) (by omega)) ?_)|(refine cH (qf [(0,7),(1,23),(2,3)]) (kF) ?_))|refine ae ?_|exact ah|(refine ab fun hb=>?_;first|(simp [hS] at hb;done)|skip)|(refine fB (qf []) ?_;exact aw))
abbrev DB (k:Nat) (a:Am):Nat×Box:=(k,.box 42 [.sc (.int .i64 a.mode),.sc (.int .i64 a.units)])
theorem EE {a b:Int} (ha:bM a=true) (hb:bM b=true):(cS a b=true→mA a b=a)∧(cS b a=true→mA a b=b):=by
 rcases cu ha with rfl|rfl|rfl|rfl|rfl <;> rcases cu hb with rfl|rfl|rfl|rfl|rfl <;> decide
theorem EF (r:Rs) (a b:Am):bN r a b=bif !aX r a || !aX r b then ⟨0,0⟩ else bif aG a then b else bif aG b then a else bif decide (r.kind=1) then ⟨mA a.mode b.mode,0⟩ else ⟨0,max a.units b.units⟩:=by
 unfold bN;cases h1:aX r a with
 | false=>rfl
 | true =>
  cases h2:aX r b with
  | false=>rfl
  | true =>
   unfold a8;rw [h1,h2];simp only [Bool.and_self,Bool.true_and,cond_true,Bool.not_true,Bool.or_self,cond_false];cases z1:aG a with
   | true =>
    have e1:a=⟨0,0⟩:=of_decide_eq_true z1;cases z2:aG b with
    | true=>have e2:b=⟨0,0⟩:=of_decide_eq_true z2;simp [e1,e2]
    | false=>simp
   | false =>
    cases z2:aG b with
    | true=>simp
    | false =>
     have f1:aC r a=true:=by unfold aX at h1;rw [z1] at h1;simpa using (Bool.and_eq_true_iff.1 h1).2
     have f2:aC r b=true:=by unfold aX at h2;rw [z2] at h2;simpa using (Bool.and_eq_true_iff.1 h2).2
     unfold aC at f1 f2;by_cases hk:r.kind=1
     ·rw [if_pos hk] at f1 f2;simp only [Bool.and_eq_true,decide_eq_true_eq] at f1 f2;obtain ⟨s1,s2⟩:=EE f1.2.1 f2.2.1;obtain ⟨am,au⟩:=a;obtain ⟨bm,bu⟩:=b;dsimp only at *
      obtain rfl:=f1.2.2;obtain rfl:=f2.2.2;simp only [hk,if_true,decide_true,cond_true,Bool.not_false,Bool.true_and,Bool.false_or];cases c1:cS am bm with
      | true=>rw [s1 c1];rfl
      | false =>
       cases c2:cS bm am with
       | true=>rw [s2 c2];rfl
       | false=>rfl
     ·rw [if_neg hk] at f1 f2;simp only [Bool.and_eq_true,decide_eq_true_eq] at f1 f2;obtain ⟨am,au⟩:=a;obtain ⟨bm,bu⟩:=b;dsimp only at *
      obtain rfl:=f1.2.1.1;obtain rfl:=f2.2.1.1;simp only [hk,if_false,decide_false,cond_false,Bool.not_false,Bool.true_and,Bool.false_or];by_cases c:bu≤au
      ·rw [decide_eq_true c,cond_true,Int.max_eq_left c]
      ·rw [decide_eq_false c,cond_false,decide_eq_true (by omega),cond_true,Int.max_eq_right (by omega)]
theorem Fs (r:Rs) (a b:Am):FSpec prog 160 [r.a,a.a,b.a] [] [] (.v (bN r a b).a) []:=by
  obtain ⟨v,hv⟩:∃v,bN r a b=v:=⟨_,rfl⟩;rw [hv];rw [EF] at hv;refine aT func160 ?_;repeat' (first|refine af ?_ ?_|(refine aa 9 rfl ?_;first|(refine sx (yW rfl rfl rfl) ?_)|(refine cB [] (yR r a) ?_)|(refine cB [] (yR r b) ?_)|(refine cB [] (fH a) ?_)|(refine cB [] (fH b) ?_)|(refine cB [] (H5 a.mode b.mode) ?_))|refine ae ?_|exact ah|refine ab fun hb=>?_)
  all_goals first
    | (obtain rfl:v=⟨0,0⟩
       · (rw [←hv];simp [*];done)
       refine ct (qf []) ?_;exact aw)
    | (obtain rfl:v=b
       · (rw [←hv];simp [*];done)
       refine ct (qf []) ?_;exact aw)
    | (obtain rfl:v=a
       · (rw [←hv];simp [*];done)
       refine ct (qf []) ?_;exact aw)
    | (obtain rfl:v=⟨mA a.mode b.mode,0⟩
       · (rw [←hv];simp [*];done)
       refine ct (qf []) ?_;exact aw)
    | (obtain rfl:v=⟨0,max a.units b.units⟩
       · (rw [←hv];simp [*];done)
       refine ct (qf []) ?_;exact aw)
theorem Jg (q:Qu) (h a:Am) (p:Pr) (hl:q.convs.length≤100000):FSpec prog 172 [.one (.ptr 0 0),.one (.ptr 1 0),.one (.ptr 2 0),.one (.ptr 3 0)] [(0,.box 58 (II q 5)),DB 1 h,DB 2 a,iK 3 p,(5,.arr 211 fJ q.convs)] [] (.tup []) [(0,some (.box 58 { q with convs:=q.convs++[(⟨p,bN q.res h a,0,0⟩:Wt)] }.d)),(1,some (DB 1 h).2),(2,some (DB 2 a).2),(3,some (iK 3 p).2),(5,none)]:=by
 refine aT func172 ?_;repeat' (first|refine af ?_ ?_|(refine aa 8 rfl ?_;refine bh (ap rfl rfl (aH rfl rfl) (aL [⟨p,bN q.res h a,0,0⟩] rfl rfl rfl rfl) rfl aK aK) rfl rfl rfl ?_)|refine aa 9 rfl (cB [] (Fs q.res h a) ?_)|refine ae ?_|exact ah|refine ab fun hb=>?_|(exact sX (qf [])))
theorem Gw (q:Qu) (h a:Am) (p:Pr) (hl:q.convs.length≤100000) {q2:Qu} (hq:{ q with convs:=q.convs++[(⟨p,bN q.res h a,0,0⟩:Wt)] } = q2) (hs:Sd q2):FSpec prog 171 [.one (.ptr 0 0),.one (.slb 1 1)] [(0,.box 58 (II q 55)),(1,.box 1 [.clo 172 [0,2,3,54]]),DB 2 h,DB 3 a,iK 54 p,(55,.arr 211 fJ q.convs)] [] (um (ic (dn q2))) [(0,none),(1,none),(2,none),(3,none),(54,none),(55,none)]:=by
 refine aT func171 ?_;have k1:=Jg q h a p hl;rw [hq] at k1;repeat' (first|refine af ?_ ?_|(refine aa 7 rfl ?_;refine sx (c5 rfl rfl) ?_)|refine ae ?_|exact ah|refine ab fun hb=>?_)
 refine ak (fun x:Option Qu=>x=none∨x=some q2) (fun x=>match x with
  | none=>cq [0,1,2,3,4,54,55] [(0,.c (.ptr 0 0)),(4,.c (.ptr 4 0)),(10,.c (.slb 1 1)),(11,.i 1),(12,.i 0)] [(0,.box 58 (II q 55)),(4,.box 58 Aw),(1,.box 1 [.clo 172 [0,2,3,54]]),DB 2 h,DB 3 a,iK 54 p,(55,.arr 211 fJ q.convs)]
  | some z=>cq [0,1,2,3,4,54,55] [(0,.c (.ptr 0 0)),(4,.c (.ptr 4 0)),(10,.c (.slb 1 1)),(11,.i 1),(12,.i 1)] [(0,.box 58 z.d),(4,.box 58 Aw),(1,.box 1 [.clo 172 [0,2,3,54]]),DB 2 h,DB 3 a,iK 54 p]) (fun x=>match x with|none=>1|some _=>0) none (.inl rfl) a7 ?_
 rintro z hz;rcases hz with rfl|rfl
 ·dsimp only;repeat' (first|refine af ?_ ?_|(refine aa 6 rfl ?_;refine sx (aR (i:=0) rfl rfl rfl rfl (by decide)) ?_)|(refine aa 9 rfl ?_;refine jW 0 [0,1,2,3] (qf [(0,0),(1,2),(2,3),(3,54),(5,55)]) (k1) ?_)|refine ae ?_|exact ah|(refine ab fun hb=>?_;first|(exact absurd hb (by decide))|skip))
  refine ⟨some q2,.inr rfl,by simp,?_⟩;exact a7
 ·dsimp only;have kA:=g5 q2 hs;unfold dn;obtain ⟨⟨N,G⟩,hN⟩:∃x,lC q2=x:=⟨_,rfl⟩;have hg:N.gen=q2.gen:=by have:=(dg hs).2.1;rw [hN] at this;exact this
  rw [hN] at kA ⊢;dsimp only;rw [←hg];repeat' (first|refine af ?_ ?_|(refine aa 9 rfl ?_;first|(refine cH (qf [(0,0)]) (kA) ?_)|(refine cB [] (g6 N.gen) ?_))|refine ae ?_|exact ah|(refine ab fun hb=>?_;first|(exact absurd hb (by decide))|skip)|(refine fB (qf []) ?_;exact aw))
theorem Jh (q:Qu) (e:List Wt):FSpec prog 174 [.one (.ptr 0 0),.one (.ptr 1 0)] [(0,.box 56 [.sl fJ e]),(1,.box 58 q.d)] [] (.tup []) [(1,some (.box 58 { q with waits:=e }.d)),(0,some (.box 56 [.sl fJ e]))]:=by
 refine aT func174 ?_;repeat' (first|refine af ?_ ?_|refine ae ?_|exact ah|refine ab fun hb=>?_|(exact sX (qf [])))
theorem Gx (q:Qu) (e:List Wt) {q2:Qu} (hq:{ q with waits:=e } = q2) (hs:Sd q2):FSpec prog 171 [.one (.ptr 0 0),.one (.slb 1 1)] [(0,.box 58 q.d),(1,.box 1 [.clo 174 [2,0]]),(2,.box 56 [.sl fJ e])] [] (um (ic (dn q2))) [(0,none),(1,none),(2,none)]:=by
 refine aT func171 ?_;have k1:=Jh q e;rw [hq] at k1;repeat' (first|refine af ?_ ?_|(refine aa 7 rfl ?_;refine sx (c5 rfl rfl) ?_)|refine ae ?_|exact ah|refine ab fun hb=>?_)
 refine ak (fun x:Nat×Qu=>x.1=0∧x.2=q∨x.1=1∧x.2=q2) (fun x=>cq [0,1,2,4] [(0,.c (.ptr 0 0)),(4,.c (.ptr 4 0)),(10,.c (.slb 1 1)),(11,.i 1),(12,.i x.1)] [(0,.box 58 x.2.d),(4,.box 58 Aw),(1,.box 1 [.clo 174 [2,0]]),(2,.box 56 [.sl fJ e])]) (fun x=>1-x.1) (0,q) (.inl ⟨rfl,rfl⟩) a7 ?_;rintro ⟨i,z⟩ hz;dsimp only at *
 rcases hz with ⟨rfl,rfl⟩|⟨rfl,rfl⟩
 ·repeat' (first
   | refine af ?_ ?_
   | (refine aa 6 rfl ?_;refine sx (aR (i:=0) rfl rfl rfl rfl (by decide)) ?_)
   | (refine aa 9 rfl ?_;refine jW 0 [0,1] (qf [(0,2),(1,0)]) (k1) ?_)
   | refine ae ?_
   | exact ah|(refine ab fun hb=>?_;first|(exact absurd hb (by decide))|skip))
  refine ⟨(1,q2),.inr ⟨rfl,rfl⟩,by simp,?_⟩;exact a7
 ·have kA:=g5 z hs;unfold dn;obtain ⟨⟨N,G⟩,hN⟩:∃x,lC z=x:=⟨_,rfl⟩;have hg:N.gen=z.gen:=by have:=(dg hs).2.1;rw [hN] at this;exact this
  rw [hN] at kA ⊢;dsimp only;rw [←hg];repeat' (first|refine af ?_ ?_|(refine aa 9 rfl ?_;first|(refine cH (qf [(0,0)]) (kA) ?_)|(refine cB [] (g6 N.gen) ?_))|refine ae ?_|exact ah|(refine ab fun hb=>?_;first|(exact absurd hb (by decide))|skip)|(refine fB (qf []) ?_;exact aw))
theorem EG (q:Qu) (p:Pr) (a:Am) (prio:Int) {R:Qu×List Ho×Int} (hR:bv q p a prio=R):FSpec prog 132 [q.a,p.a,a.a,.one (.sc (.int .i64 prio))] [] [] (um R) []:=by
 refine aT func132 ?_;cases hS:av q with
 | false =>
  obtain rfl:R=bP 2:=by rw [←hR];simp [bv,hS]
  repeat' (first|refine af ?_ ?_|refine aa 9 rfl (cB [] (cc q) ?_)|refine ae ?_|exact ah|(refine ab fun hb=>?_;first|(simp [hS] at hb;done)|skip)|(refine fB (qf []) ?_;exact aw))
 | true =>
  have hs:=aF hS;have h1:=hs.hv.len;have h2:=hs.clen;have h3:=hs.wlen;by_cases hA:j8 p=true∧0≤prio∧prio≤7
  case neg =>
   obtain rfl:R=bP 1:=by
    rw [←hR];unfold bv;rw [hS,bF (b:=!true) rfl,bT];cases hv:j8 p <;> simp [hv] at hA ⊢
    omega
   have hN:∀b,j8 p=b→(b=true→0≤prio→prio≤7→False):=fun b hb x y z=>hA ⟨hb.trans x,y,z⟩;clear hA;repeat' (first|refine af ?_ ?_|(refine aa 9 rfl ?_;first|(refine cB [] (cc q) ?_)|(refine cB [] (eZ p) ?_))|refine ae ?_|exact ah|(refine ab fun hb=>?_;first|(exact (hN true (by assumption) rfl (by omega) (by omega)).elim)|(simp [hS] at hb;done)|skip)|(refine fB (qf []) ?_;exact aw))
  obtain ⟨hv,hp1,hp2⟩:=hA;cases hf:aC q.res a with
  | false =>
   obtain rfl:R=bP 12:=by rw [←hR];simp [bv,hS,hv,hp1,hp2,hf]
   repeat' (first|refine af ?_ ?_|(refine aa 9 rfl ?_;first|(refine cB [] (cc q) ?_)|(refine cB [] (eZ p) ?_)|(refine cB [] (dy q.res a) ?_))|refine ae ?_|exact ah|(refine ab fun hb=>?_;first|(simp [hS] at hb;done)|skip)|(refine fB (qf []) ?_;exact aw))
  | true =>
   cases hw:ai q p with
   | some b =>
    obtain rfl:R=bP 14:=by rw [←hR];simp [bv,hS,hv,hp1,hp2,hf,hw]
    repeat' (first|refine af ?_ ?_|(refine aa 9 rfl ?_;first|(refine cB [] (cc q) ?_)|(refine cB [] (eZ p) ?_)|(refine cB [] (dy q.res a) ?_)|(refine cB [] (dL q p (by omega) (by omega) hw) ?_))|refine ae ?_|exact ah|(refine ab fun hb=>?_;first|(simp [hS] at hb;done)|skip)|(refine fB (qf []) ?_;exact aw))
   | none =>
    cases hc:a8 q.res (ao q.holds p) a with
    | true =>
     obtain rfl:R=ic (q,[]):=by rw [←hR];simp [bv,hS,hv,hp1,hp2,hf,hw,hc]
     repeat' (first|refine af ?_ ?_|(refine aa 9 rfl ?_;first|(refine cB [] (cc q) ?_)|(refine cB [] (eZ p) ?_)|(refine cB [] (dy q.res a) ?_)|(refine cB [] (dL q p (by omega) (by omega) hw) ?_)|(refine cC [] (jG q (by omega) (by omega) (by omega)) ?_)|(refine cB [] (dK q p) ?_)|(refine cB [] (eL q.res (ao q.holds p) a) ?_))|refine ae ?_|exact ah|(refine ab fun hb=>?_;first|(simp [hS] at hb;done)|skip)|(refine fB (qf []) ?_;exact aw))
    | false =>
     cases hz:aG (ao q.holds p) with
     | false =>
      obtain rfl:R=ic (dn { q with convs:=q.convs++[⟨p,bN q.res (ao q.holds p) a,0,0⟩] }):=by rw [mF q p a prio hR hS hv hp1 hp2 hf hw hc,hz];rfl
      have hd:=(hs.cons (bb.1 hz) hw hf hc);have kF:=Gw q (ao q.holds p) a p (by omega) rfl hd;repeat' (first|refine af ?_ ?_|(refine aa 0 rfl ?_;refine sx (cl (ks:=[13,14,6,5]) rfl rfl) ?_)|(refine aa 9 rfl ?_;first|(refine cB [] (cc q) ?_)|(refine cB [] (eZ p) ?_)|(refine cB [] (dy q.res a) ?_)|(refine cB [] (dL q p (by omega) (by omega) hw) ?_)|(refine cH (qf [(0,1000)]) (Ck q (by omega) (by omega) (by omega)) ?_)|(refine cB [1000] (dK q p) ?_)|(refine cB [] (eL q.res (ao q.holds p) a) ?_)|(refine cB [] (fH (ao q.holds p)) ?_)|(refine cH (qf [(0,13),(1,63),(2,14),(3,6),(54,5),(55,1000)]) (kF) ?_))|refine ae ?_|exact ah|(refine ab fun hb=>?_;first|(simp [hS] at hb;done)|skip)|(refine fB (qf []) ?_;exact aw))
     | true =>
      have hz0:ao q.holds p=⟨0,0⟩:=by simpa [aG] using hz
      by_cases hn:8≤q.holds.length+q.waits.length
      case pos =>
       obtain rfl:R=bP 4:=by rw [mF q p a prio hR hS hv hp1 hp2 hf hw hc,hz];simp [hn]
       repeat' (first|refine af ?_ ?_|(refine aa 9 rfl ?_;first|(refine cB [] (cc q) ?_)|(refine cB [] (eZ p) ?_)|(refine cB [] (dy q.res a) ?_)|(refine cB [] (dL q p (by omega) (by omega) hw) ?_)|(refine cC [] (jG q (by omega) (by omega) (by omega)) ?_)|(refine cB [] (dK q p) ?_)|(refine cB [] (eL q.res (ao q.holds p) a) ?_)|(refine cB [] (fH (ao q.holds p)) ?_))|refine ae ?_|exact ah|(refine ab fun hb=>?_;first|(simp [hS] at hb;done)|skip)|(refine fB (qf []) ?_;exact aw))
      obtain ⟨e,he1,he2⟩:∃e,jU q.waits ⟨p,a,prio,0⟩=(0,e)∧Sd { q with waits:=e }:=by
       have hi:=ob hs hw hf hv ⟨hp1,hp2⟩ (Nat.lt_of_not_le hn);exact ⟨_,hi.1,hs.ins (w:=⟨p,a,prio,0⟩) hz0 hw hf hi.2 (Nat.lt_of_not_le hn)⟩
      have hI:=Cb q.waits ⟨p,a,prio,0⟩;rw [he1] at hI;obtain rfl:R=ic (dn { q with waits:=e }):=by rw [mF q p a prio hR hS hv hp1 hp2 hf hw hc,hz,he1];simp [hn]
      have kF:=Gx q e rfl he2;repeat' (first|refine af ?_ ?_|(refine aa 0 rfl ?_;refine sx (cl (ks:=[15,13]) rfl rfl) ?_)|(refine aa 9 rfl ?_;first|(refine cB [] (cc q) ?_)|(refine cB [] (eZ p) ?_)|(refine cB [] (dy q.res a) ?_)|(refine cB [] (dL q p (by omega) (by omega) hw) ?_)|(refine cC [] (jG q (by omega) (by omega) (by omega)) ?_)|(refine cB [] (dK q p) ?_)|(refine cB [] (eL q.res (ao q.holds p) a) ?_)|(refine cB [] (fH (ao q.holds p)) ?_)|(refine cC [] (hI) ?_)|(refine cH (qf [(0,13),(1,93),(2,15)]) (kF) ?_))|refine ae ?_|exact ah|(refine ab fun hb=>?_;first|(simp [hS] at hb;done)|skip)|(refine fB (qf []) ?_;exact aw))
theorem gj (l:List Qu) (n:ByteArray) {k:Int} (hk:bR n 0 l=k):FSpec prog 59 [.one (.sl eX l),.one (.sc (.string n))] [] [] (.i k) []:=by
 refine aT func59 ?_;refine bd (fun c ρ a w hr=>cV (t:=0) hr rfl) (fun hl0=>?_);repeat' (first|refine af ?_ ?_|refine ae ?_|exact ah|refine ab fun hb=>?_)
 refine ak (fun i=>i≤l.length∧bR n i (l.drop i)=k) (fun i=>cq [] [(1,.c (.sc (.string n))),(7,.c (.sl eX l)),(8,.i l.length),(9,.i i)] []) (fun i=>l.length-i) 0 ⟨Nat.zero_le _,hk⟩ a7 ?_;rintro i ⟨hi,hs⟩;by_cases hlt:i<l.length
 ·rw [List.drop_eq_getElem_cons hlt,eR] at hs;repeat' (first|refine af ?_ ?_|refine ae ?_|exact ah|refine ab fun hb=>?_)
  ·refine fm ?_;rw [←hs];simp [*]
  ·refine ⟨i+1,⟨by omega,by rw [←hs,beq_false_of_ne hb];rfl⟩,by omega,?_⟩;exact a7
 ·rw [List.drop_eq_nil_of_le (by omega)] at hs;repeat' (first|refine af ?_ ?_|refine ae ?_|exact ah|refine ab fun hb=>?_)
  refine fm ?_;rw [←hs];rfl
theorem uq (l:List Qu) (hm:l.length≤12) (h8:∀q∈l,fy q):FSpec prog 38 [.one (.sl eX l)] [] [] (.c (.sl jx (aB l))) []:=by
 obtain ⟨R,hR⟩:∃R,jS l=R:=⟨_,rfl⟩;have hRl:R.length≤288:=by rw [←hR];have:=vg l h8;omega
 unfold aB;rw [hR];refine aT func38 ?_;repeat' (first|refine af ?_ ?_|refine ae ?_|exact ah|refine ab fun hb=>?_)
 refine cZ 3 1000 40 jx rfl rfl rfl ?_;refine ak (fun x:Nat×List Pr=>x.1≤l.length∧x.2++jS (l.drop x.1)=R) (fun x=>cq [1000] [(3,.c (.own 1000)),(6,.c (.sl eX l)),(7,.i l.length),(8,.i x.1)] [(1000,.arr 40 jx x.2)]) (fun x=>l.length-x.1) (0,[]) ⟨Nat.zero_le _,hR⟩ a7 ?_;rintro ⟨i,out⟩ ⟨hi,hs⟩;dsimp only at *
 have hol:out.length≤288:=by have:=congrArg List.length hs;simp at this;omega
 by_cases hlt:i<l.length
 ·rw [List.drop_eq_getElem_cons hlt,xI,←List.append_assoc] at hs;have hq:=h8 _ (List.getElem_mem hlt);have hql:=oE hq;have kP:=ul l[i] hq.1 hq.2.1 hq.2.2;clear h8;repeat' (first|refine af ?_ ?_|refine aa 9 rfl (cC [] (kP) ?_)|refine ae ?_|exact ah|refine ab fun hb=>?_)
  refine ⟨(i+1,out++ef l[i]),⟨by dsimp only;omega,hs⟩,by dsimp only;omega,?_⟩;exact bw (qf [(1000,15)])
 ·rw [List.drop_eq_nil_of_le (by omega)] at hs;obtain rfl:out=R:=by rw [←hs];simp [jS]
  repeat' (first|refine af ?_ ?_|((fail_if_success (first|refine lP 7 ?_|refine lQ 7 ?_));refine ae ?_)|exact ah|refine ab fun hb=>?_)
  refine gB 1000 rfl ?_;repeat' (first|refine af ?_ ?_|refine aa 9 rfl (cC [] (Ci out (by omega)) ?_)|refine ae ?_|exact ah|refine ab fun hb=>?_|exact bB|fail)
theorem ol (l:List Qu):FSpec prog 35 [.one (.sl eX l)] [] [] (.b (dl l)) []:=by
  obtain ⟨v,hv⟩:∃v,dl l=v:=⟨_,rfl⟩;rw [hv];have hparts:f7 l=true→l.length≤8∧∀q∈l,av q=true:=Cq;unfold dl f7 at hv;unfold f7 at hparts;refine aT func35 ?_;refine bd (fun c ρ a w hr=>cV (t:=0) hr rfl) (fun hl0=>?_);by_cases h8:8<l.length
  · rw [decide_eq_false (by omega)] at hv
    obtain rfl:false=v:=hv;repeat' (first|refine af ?_ ?_|refine ae ?_|exact ah|refine ab fun hb=>?_|exact bB|fail)
  rw [decide_eq_true (by omega),Bool.true_and] at hv hparts;repeat' (first|refine af ?_ ?_|refine ae ?_|exact ah|refine ab fun hb=>?_)
  refine ak (fun i=>i≤l.length∧jT (sq l i) (l.drop i)=jT none l) (fun i=>cq [] [(0,.c (.sl eX l)),(8,.c (.sl eX l)),(9,.i l.length),(10,.i i)] []) (fun i=>l.length-i) 0 ⟨Nat.zero_le _,rfl⟩ a7 ?_;rintro i ⟨hi,hs⟩;have fin:jT none l=false→false=v:=fun h=>by rw [←hv,h];rfl
  by_cases hlt:i<l.length
  · rw [List.drop_eq_getElem_cons hlt,du] at hs
    rcases Nat.eq_zero_or_pos i with h0|h0
    · subst h0
      rw [xh] at hs;repeat' (first|refine af ?_ ?_|refine aa 9 rfl (cB [] (cc l[0]) ?_)|refine ae ?_|exact ah|(refine ab fun hb=>?_;first|(simp at hb;done)|skip))
      all_goals first
        | (obtain rfl:=fin (by rw [←hs];simp [*])
           refine ct (qf []) ?_;exact aw)
        | (refine ⟨1,⟨by omega,by rw [←hs,oF hlt rfl];simp [*,Bq]⟩,by omega,?_⟩
           exact a7)
    · obtain ⟨m,hm⟩:∃m,l[i-1]=m:=⟨_,rfl⟩
      have hgm:l[((i:Int)-1).toNat]? = some m:=by rw [show ((i:Int)-1).toNat=i-1 by omega,List.getElem?_eq_getElem (by omega),hm]
      rw [zO h0 (by omega) hm] at hs;repeat' (first|refine af ?_ ?_|refine aa 9 rfl (cB [] (cc l[i]) ?_)|refine ae ?_|exact ah|(refine ab fun hb=>?_;first|(omega)|skip))
      all_goals first
        | (obtain rfl:=fin (by rw [←hs];simp [*,Bq])
           refine ct (qf []) ?_;exact aw)
        | (refine ⟨i+1,⟨by omega,by rw [←hs,oF hlt rfl];simp [*,Bq]⟩,by omega,?_⟩
           exact a7)
  · rw [List.drop_eq_nil_of_le (by omega)] at hs
    have hs:true=jT none l:=hs;rw [←hs] at hv hparts;obtain ⟨_,hq⟩:=hparts rfl;have kP:=uq l (by omega) (fun q h=>cR (hq q h));clear fin hparts hq;repeat' (first|refine af ?_ ?_|refine aa 9 rfl (cC [] (kP) ?_)|refine ae ?_|exact ah|refine ab fun hb=>?_)
    refine fm ?_;rw [←hv];simp;try omega
theorem GA (t:List Qu) (p:Pr) (hl:t.length≤100000):FSpec prog 116 [.one (.sl eX t),p.a] [] [] (.c (.sl c7 (eI t p))) []:=by
 refine aT func116 ?_;repeat' (first|refine af ?_ ?_|refine ae ?_|exact ah|refine ab fun hb=>?_)
 refine cZ 5 1000 44 c7 rfl rfl rfl ?_;refine ak (fun x:Nat×List Tm=>x.1≤t.length∧x.2.length≤x.1∧x.2++eI (t.drop x.1) p=eI t p) (fun x=>cq [3,1000] [(3,.c (.ptr 3 0)),(5,.c (.own 1000)),(9,.c (.sl eX t)),(10,.i t.length),(11,.i x.1)] [iK 3 p,(1000,.arr 44 c7 x.2)]) (fun x=>t.length-x.1) (0,[]) ⟨Nat.zero_le _,Nat.le_refl _,rfl⟩ a7 ?_;rintro ⟨i,acc⟩ ⟨hi,hal,hs⟩;dsimp only at *
 by_cases hlt:i<t.length
 ·have e:eI (t.drop i) p=(bif aG (ao t[i].holds p) then [] else [⟨t[i].res.name,ao t[i].holds p⟩])++eI (t.drop (i+1)) p:=by
   rw [List.drop_eq_getElem_cons hlt];unfold eI;rw [List.map_cons,List.filter_cons];cases aG (ao t[i].holds p) <;> rfl
  rw [e] at hs;obtain ⟨h,hh⟩:∃h,ao t[i].holds p=h:=⟨_,rfl⟩;have kH:=dK t[i] p;rw [hh] at hs kH;repeat' (first|refine af ?_ ?_|(refine aa 8 rfl ?_;refine bh (ap rfl rfl (aH rfl rfl) (aL [⟨t[i].res.name,h⟩] rfl rfl rfl rfl) rfl aK aK) rfl rfl rfl ?_)|refine aa 9 rfl (cB [] (kH) ?_)|refine ae ?_|exact ah|refine ab fun hb=>?_)
  ·refine ⟨(i+1,acc++[⟨t[i].res.name,h⟩]),⟨by dsimp only;omega,by simp;omega,?_⟩,by dsimp only;omega,?_⟩
   ·rw [←hs];simp [aG,hb]
   ·exact bw (qf [(1000,28)])
  ·refine ⟨(i+1,acc),⟨by dsimp only;omega,by dsimp only;omega,?_⟩,by dsimp only;omega,?_⟩
   ·rw [←hs];simp [aG,hb]
   ·exact a7
 ·have e:acc=eI t p:=by rw [←hs,List.drop_eq_nil_of_le (by omega)];simp [eI]
  repeat' (first|refine af ?_ ?_|refine ae ?_|exact ah|refine ab fun hb=>?_)
  rw [←e];refine ct (qf []) ?_;exact aw
theorem Cu (t:List Qu) (p:Pr) (hl:t.length≤100000) (h8:∀q∈t,fy q):FSpec prog 114 [.one (.sl eX t),p.a] [] [] (.c (.sl c7 (cn p t))) []:=by
 refine aT func114 ?_;repeat' (first|refine af ?_ ?_|refine ae ?_|exact ah|refine ab fun hb=>?_)
 refine cZ 5 1000 44 c7 rfl rfl rfl ?_;refine ak (fun x:Nat×List Tm=>x.1≤t.length∧x.2.length≤x.1∧x.2++cn p (t.drop x.1)=cn p t) (fun x=>cq [3,1000] [(3,.c (.ptr 3 0)),(5,.c (.own 1000)),(10,.c (.sl eX t)),(11,.i t.length),(12,.i x.1)] [iK 3 p,(1000,.arr 44 c7 x.2)]) (fun x=>t.length-x.1) (0,[]) ⟨Nat.zero_le _,Nat.le_refl _,rfl⟩ a7 ?_;rintro ⟨i,acc⟩ ⟨hi,hal,hs⟩;dsimp only at *
 by_cases hlt:i<t.length
 ·rw [List.drop_eq_getElem_cons hlt] at hs;have hq:=h8 _ (List.getElem_mem hlt);cases hw:ai t[i] p with
  | some a =>
   rw [show cn p (t[i] :: t.drop (i+1))=⟨t[i].res.name,a⟩ :: cn p (t.drop (i+1)) by simp [cn,hw]] at hs;have kW:=dL t[i] p hq.2.1 hq.2.2 hw;clear h8;repeat' (first|refine af ?_ ?_|(refine aa 8 rfl ?_;refine bh (ap rfl rfl (aH rfl rfl) (aL [⟨t[i].res.name,a⟩] rfl rfl rfl rfl) rfl aK aK) rfl rfl rfl ?_)|refine aa 9 rfl (cB [] (kW) ?_)|refine ae ?_|exact ah|refine ab fun hb=>?_)
   refine ⟨(i+1,acc++[⟨t[i].res.name,a⟩]),⟨by dsimp only;omega,by simp;omega,?_⟩,by dsimp only;omega,?_⟩
   ·rw [←hs];simp
   ·exact bw (qf [(1000,30)])
  | none =>
   rw [show cn p (t[i] :: t.drop (i+1))=cn p (t.drop (i+1)) by simp [cn,hw]] at hs;have kW:=dL t[i] p hq.2.1 hq.2.2 hw;clear h8;repeat' (first|refine af ?_ ?_|refine aa 9 rfl (cB [] (kW) ?_)|refine ae ?_|exact ah|refine ab fun hb=>?_)
   refine ⟨(i+1,acc),⟨by dsimp only;omega,by dsimp only;omega,?_⟩,by dsimp only;omega,?_⟩
   ·rw [←hs]
   ·exact a7
 ·have e:acc=cn p t:=by rw [←hs,List.drop_eq_nil_of_le (by omega)];simp [cn]
  repeat' (first|refine af ?_ ?_|refine ae ?_|exact ah|refine ab fun hb=>?_)
  rw [←e];refine ct (qf []) ?_;exact aw
theorem GB (t:List Qu) (n:ByteArray):FSpec prog 130 [.one (.sl eX t),.one (.sc (.string n))] [] [] (.tup [iV (bif dl t && decide (0≤bR n 0 t) then bR n 0 t else 0),iV (bif !dl t then 2 else bif decide (bR n 0 t<0) then 10 else 0)]) []:=by
 obtain ⟨k,hk⟩:∃k,bR n 0 t=k:=⟨_,rfl⟩;rw [hk];obtain ⟨r1,h1⟩:∃r1,(bif dl t && decide (0≤k) then k else 0)=r1:=⟨_,rfl⟩;obtain ⟨r2,h2⟩:∃r2:Int,(bif !dl t then 2 else bif decide (k<0) then 10 else 0)=r2:=⟨_,rfl⟩;rw [h1,h2];refine aT func130 ?_;repeat' (first|refine af ?_ ?_|(refine aa 9 rfl ?_;first|(refine cB [] (ol t) ?_)|(refine cB [] (gj t n hk) ?_))|refine ae ?_|exact ah|refine ab fun hb=>?_)
 ·obtain rfl:0=r1:=by rw [←h1];simp [*]
  obtain rfl:2=r2:=by rw [←h2];simp [*]
  refine gC (qf []) ?_;exact aw
 ·obtain rfl:0=r1:=by rw [←h1,decide_eq_false (show ¬0≤k by omega),Bool.and_false];rfl
  obtain rfl:10=r2:=by rw [←h2];simp [*]
  refine gC (qf []) ?_;exact aw
 ·have ht:dl t=true:=by assumption
  obtain rfl:k=r1:=by rw [←h1,ht,decide_eq_true (show 0≤k by omega)];rfl
  obtain rfl:0=r2:=by rw [←h2,ht,decide_eq_false (show ¬k<0 by omega)];rfl
  refine gC (qf []) ?_;exact aw
end Go.Proofs.YtcgpepnbohejfaaGreatDoor
