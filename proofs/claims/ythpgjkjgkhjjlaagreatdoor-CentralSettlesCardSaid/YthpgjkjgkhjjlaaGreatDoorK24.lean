/- Part K24 of a proof of statements of chapter 15 (no condition). -/
import Derived.Test.YthpgjkjgkhjjlaaGreatDoorK18
import Derived.Test.YthpgjkjgkhjjlaaGreatDoorK19
import Derived.Laws.Cover1
import Derived.Shelf.Small.Bits
import Derived.Shelf.Small.Strs
import Derived.Shelf.Strconv.Itoa0
set_option linter.unusedVariables false
set_option linter.unusedSimpArgs false
set_option maxRecDepth 100000
set_option maxHeartbeats 64000000
namespace Go.Proofs.YthpgjkjgkhjjlaaGreatDoor
open Go.RowKit Go.Proofs.Tryz
theorem Em (r:Rs):FSpec prog 128 [r.a] [] [] (.b (iB r)) [] :=
 de (fun b W=>by kernel_rfl) rfl fun w S ρ vs _ h=>by
  match vs,h with
  | [_],⟨h1,_⟩=>rw [Rs.open h1];exact (BK _ w).mono fun _ _=>jc
theorem L1 (q:Qu):FSpec prog 243 [q.a] [] [] (.tup [(oC q).a,.one (.sc (.bool (dD q).isSome))]) []:=by
 obtain ⟨r,hs,cs,ws,gn⟩:=q;refine a7 func243 ?_;refine aY (fun c ρ a w hr=>d7 (t:=0) (i:=5) hr rfl rfl) (fun hl0_5=>?_);refine aY (fun c ρ a w hr=>d7 (t:=0) (i:=6) hr rfl rfl) (fun hl0_6=>?_);cases cs with
 | cons x cs =>
  have e0:(x :: cs)[(0:Int).toNat]? = some x:=rfl;have e1:(x :: cs)[0]? = some x:=rfl;exact U8
 | nil =>
  cases ws with
  | cons x ws =>
   have e0:(x :: ws)[(0:Int).toNat]? = some x:=rfl;have e1:(x :: ws)[0]? = some x:=rfl;exact U8
  | nil =>
   refine ao ?_
   (refine fE (qf []) ?_;exact af)
theorem fF (q:Qu) (p:Pr):FSpec prog 116 [q.a,p.a] [] [] (.v (ah q.holds p).a) []:=by
 refine a7 func116 ?_;have:=TE q.holds p;exact UG
theorem L3 (q:Qu) (h2:q.convs.length<=8) (h3:q.waits.length<=8):FSpec prog 256 [q.a] [] [] (.c (.sl fK (q.convs++q.waits))) [] :=
 de (fun b W=>by kernel_rfl) rfl fun w S ρ vs hS h=>by
  match vs,h with
  | [_],⟨h1,_⟩ =>
   obtain ⟨A1,A2,A3,c1,c2,c3,rfl,hq,k1,k2,k3⟩:=Qu.open h1;exact (Jf q A1 A2 A3 c1 c2 c3 w w.heap.size (hq.qf hS)  h2 h3).mono fun _ _=>D9
theorem fG (q:Qu) (p:Pr) (h2:q.convs.length<=8) (h3:q.waits.length<=8) {v:Option Am} (hv:aj q p=v):FSpec prog 252 [q.a,p.a] [] [] (.tup [(Gk v).a,.one (.sc (.bool v.isSome))]) []:=by
 unfold aj at hv;have kO:=L3 q h2 h3;obtain ⟨L,hL⟩:=qGe (q.convs++q.waits);have hl:L.length<=16:=by rw [<-hL];simp;omega
 rw [hL] at hv kO;refine a7 func252 ?_;refine ao ?_;refine ab (fun i=>i<=L.length/\iT (L.drop i) p=v) (fun i=>bP [3,4] [(3,.c (.ptr 3 0)),(4,.c (.ptr 4 0)),(9,.c (.sl fK L)),(10,.i L.length),(11,.i i)] [lV 3 p,(4,.box 42 [.sc (.int .i64 0),.sc (.int .i64 0)])]) (fun i=>L.length-i) 0 ⟨Nat.zero_le _,hv⟩ aT ?_;rintro i ⟨hi,hs⟩;by_cases hlt:i<L.length
 ·rw [qDc hlt,du] at hs;obtain ⟨x,hx⟩:=qGe (L[i]);have hgx:L[i]? = some x:=by rw [qGg hlt,hx]
  rw [hx] at hs;repeat' (first|refine av ?_ ?_|refine aq ?_|exact aw|refine ap fun hb=>?_)
  ·obtain rfl:some x.am=v:=by rw [<-hs];simp [*]
   exact VU
  ·exact Vc
 ·rw [qDn (by omega)] at hs;obtain rfl:none=v:=hs;refine ao ?_
  (refine fE (qf []) ?_;exact af)
theorem L4 (q:Qu):FSpec prog 289 [q.a] [] [] (.b (RJ q)) []:=by
  obtain ⟨v,hv⟩:=qGe (RJ q);rw [hv];unfold RJ at hv;refine a7 func289 ?_;refine aY (fun c ρ a w hr=>d7 (t:=0) (i:=5) hr rfl rfl) (fun hl0_5=>?_);by_cases h8:8<q.convs.length
  · rw [qDf (by omega)] at hv
    obtain rfl:false=v:=hv;exact UG
  rw [qDt (by omega),Bool.true_and] at hv;refine ao ?_;refine ab (fun i=>i<=q.convs.length/\BN q i (q.convs.drop i)=v) (fun i=>bP [1] [(1,.c (.ptr 1 0)),(11,.c (.sl fK q.convs)),(12,.i q.convs.length),(13,.i i)] [(1,.box 66 q.d)]) (fun i=>q.convs.length-i) 0 ⟨Nat.zero_le _,hv⟩ aT ?_;rintro i ⟨hi,hs⟩;by_cases hlt:i<q.convs.length
  · rw [qDc hlt,rW] at hs
    obtain ⟨x,hx⟩:=qGe (q.convs[i]);have hgx:q.convs[i]? = some x:=by rw [qGg hlt,hx]
    rw [hx] at hs;obtain ⟨h,hh⟩:=qGe (ah q.holds x.proc);have kG:=fF q x.proc;unfold Je at hs;rw [hh] at hs kG;clear hv hx hh;have:=i4 h;have:=fp q.res x.am;have:=gX q.res x.am h;have:=sy q.convs x.proc;repeat' (first|refine av ?_ ?_|refine gV ?_|refine aq ?_|exact aw|refine ap fun hb=>?_)
    all_goals first
      | (obtain rfl:false=v:=by rw [<-hs];simp [*]
         refine cc (qf []) ?_;exact af)
      | (refine ⟨i+1,⟨by omega,by rw [<-hs];simp [*]⟩,by omega,?_⟩
         exact aT)
  · rw [qDn (by omega)] at hs
    obtain rfl:true=v:=hs;exact UG
theorem L5 (q:Qu) (hh:q.holds.length<=8):FSpec prog 290 [q.a] [] [] (.b (RK q)) []:=by
  obtain ⟨v,hv⟩:=qGe (RK q);rw [hv];unfold RK at hv;refine a7 func290 ?_;refine aY (fun c ρ a w hr=>d7 (t:=0) (i:=6) hr rfl rfl) (fun hl0_6=>?_);cases hP:fc q.waits && decide (q.holds.length+q.waits.length<=8) with
  | false =>
    rw [hP] at hv;obtain rfl:false=v:=hv;cases h1:fc q.waits with
    | false =>
      have:=vm q.waits;exact UG
    | true =>
      rw [h1,Bool.true_and,decide_eq_false_iff_not] at hP;have w8:q.waits.length<=8:=by have:=h1;simp [fc] at this;omega
      have:=vm q.waits;exact UG
  | true =>
    rw [hP,Bool.true_and] at hv;obtain ⟨h1,h2⟩:fc q.waits=true/\q.holds.length+q.waits.length<=8:=by simpa using hP
    have:=vm q.waits;refine ao ?_;refine ab (fun i=>i<=q.waits.length/\Aa q (q.waits.drop i)=v) (fun i=>bP [1] [(1,.c (.ptr 1 0)),(20,.c (.sl fK q.waits)),(21,.i q.waits.length),(22,.i i)] [(1,.box 66 q.d)]) (fun i=>q.waits.length-i) 0 ⟨Nat.zero_le _,hv⟩ aT ?_;rintro i ⟨hi,hs⟩;by_cases hlt:i<q.waits.length
    · rw [qDc hlt,rX] at hs
      have:=fp q.res q.waits[i].am;have:=fF q q.waits[i].proc;have:=i4 (ah q.holds q.waits[i].proc);repeat' (first|refine av ?_ ?_|refine gV ?_|refine aq ?_|exact aw|refine ap fun hb=>?_)
      all_goals first
        | (obtain rfl:false=v:=by rw [<-hs];simp [*]
           refine cc (qf []) ?_;exact af)
        | (refine ⟨i+1,⟨by omega,by rw [<-hs];simp [*]⟩,by omega,?_⟩
           exact aT)
    · rw [qDn (by omega)] at hs
      obtain rfl:true=v:=hs;exact UG
theorem If (q:Qu):FSpec prog 242 [q.a] [] [] (.b (jt q)) []:=by
 have hb8:zX q.res q.holds=true->q.holds.length<=8:=fun h=>by simp [zX] at h;omega
 unfold jt;refine a7 func242 ?_;cases hP:zX q.res q.holds with
 | false =>
  have:=Em q.res;have:=xp q.res q.holds;repeat' (first|refine av ?_ ?_|refine gV ?_|refine aq ?_|exact aw|(refine ap fun hb=>?_;first|(simp [hP] at hb;done)|skip))
  all_goals (refine eU ?_;simp [*])
 | true =>
  have:=Em q.res;have:=xp q.res q.holds;have:=L4 q;have:=L5 q (hb8 hP);repeat' (first|refine av ?_ ?_|refine gV ?_|refine aq ?_|exact aw|(refine ap fun hb=>?_;first|(simp [hP] at hb;done)|skip))
  all_goals (refine eU ?_;simp [*])
theorem JR (q:Qu):FSpec prog 183 [q.a] [] [] (.b (ay q)) []:=by
 obtain ⟨v,hv⟩:=qGe (ay q);rw [hv];unfold ay at hv;have kH:=L1 q;obtain ⟨x,hx⟩:=qGe (oC q);rw [hx] at kH;unfold oC at hx;refine a7 func183 ?_;cases hq:dD q with
 | none =>
  rw [hq] at hv kH;have:=If q;repeat' (first|refine av ?_ ?_|refine gV ?_|refine aq ?_|exact aw|refine ap fun hb=>?_)
  all_goals (refine eU ?_;rw [<-hv];simp [*])
 | some y =>
  rw [hq] at hv kH hx;obtain rfl:y=x:=hx;have:=If q;have:=LY q.res q.holds y.proc y.am;repeat' (first|refine av ?_ ?_|refine gV ?_|refine aq ?_|exact aw|refine ap fun hb=>?_)
  all_goals (refine eU ?_;rw [<-hv];simp [*])
theorem dl (q:Qu):FSpec prog 118 [q.a] [] [] (.b (ay q)) []:=by
 refine a7 func118 ?_;have:=JR q;refine ao ?_
 (refine eU ?_;rfl)
theorem L6 (l:List Pr) (hl:l.length<=1000000):FSpec prog 127 [.one (.sl gK l)] [] [] (.c (.sl gK (eu l))) [] :=
 de (fun b W=>by kernel_rfl) rfl fun w S ρ vs hS h=>by
  match vs,h with
  | [_],⟨⟨A,c,rfl,_,r⟩,_⟩=>exact (Ab A c l w (by omega) (r.lo hS)).mono fun _ _=>D9
theorem L7 (l:List Ho) (hl:l.length<=100000):FSpec prog 199 [.one (.sl gM l)] [] [0] (.c (.own 0)) [(0,some (.arr 40 gK (dA l)))]:=by
 refine a7 func199 ?_;refine ao ?_;refine cj 3 1000 40 gK rfl rfl rfl ?_;refine ab (fun i=>i<=l.length) (fun i=>bP [1000] [(3,.c (.own 1000)),(6,.c (.sl gM l)),(7,.i l.length),(8,.i i)] [(1000,.arr 40 gK (dA (l.take i)))]) (fun i=>l.length-i) 0 (Nat.zero_le _) aT ?_;intro i hi;have hlen:(dA (l.take i)).length=i:=by simp [dA];omega
 by_cases hlt:i<l.length
 ·have e:dA (l.take (i+1))=dA (l.take i)++[l[i].proc]:=by unfold dA;rw [List.take_succ_eq_append_getElem hlt,List.map_append];rfl
  repeat' (first|refine av ?_ ?_|(refine aa 8 rfl ?_;refine be (ae rfl rfl (aH rfl rfl) (aN [l[i].proc] rfl rfl rfl rfl) rfl aQ aQ) rfl rfl rfl ?_)|refine aq ?_|exact aw|refine ap fun hb=>?_)
  refine ⟨i+1,by omega,by omega,?_⟩;rw [e];exact bo (qf [(1000,16)])
 ·rw [List.take_of_length_le (by omega)];refine ao ?_
  (refine cc (qf [(0,1000)]) ?_;exact af)
theorem Ot (q:Qu) (h2:q.convs.length<=8) (h3:q.waits.length<=8):FSpec prog 200 [q.a] [] [] (.c (.sl gK (oH q))) []:=by
 have kO:=L3 q h2 h3;unfold oH;obtain ⟨L,hL⟩:=qGe (q.convs++q.waits);have hl:L.length<=16:=by rw [<-hL];simp;omega
 rw [hL] at kO ⊢;refine a7 func200 ?_;refine ao ?_;refine cj 3 1000 40 gK rfl rfl rfl ?_;refine ab (fun i=>i<=L.length) (fun i=>bP [1000] [(3,.c (.own 1000)),(7,.c (.sl fK L)),(8,.i L.length),(9,.i i)] [(1000,.arr 40 gK (cK (L.take i)))]) (fun i=>L.length-i) 0 (Nat.zero_le _) aT ?_;intro i hi;have hlen:(cK (L.take i)).length=i:=by simp [cK];omega
 by_cases hlt:i<L.length
 ·have e:cK (L.take (i+1))=cK (L.take i)++[L[i].proc]:=by unfold cK;rw [List.take_succ_eq_append_getElem hlt,List.map_append];rfl
  repeat' (first|refine av ?_ ?_|(refine aa 8 rfl ?_;refine be (ae rfl rfl (aH rfl rfl) (aN [L[i].proc] rfl rfl rfl rfl) rfl aQ aQ) rfl rfl rfl ?_)|refine aq ?_|exact aw|refine ap fun hb=>?_)
  refine ⟨i+1,by omega,by omega,?_⟩;rw [e];exact bo (qf [(1000,17)])
 ·rw [List.take_of_length_le (by omega)];exact UG
theorem Cn (q:Qu) (h1:q.holds.length<=8) (h2:q.convs.length<=8) (h3:q.waits.length<=8):FSpec prog 126 [q.a] [] [] (.c (.sl gK (gq q))) []:=by
 unfold gq;have e1:(dA q.holds).length=q.holds.length:=by simp [dA]
 have e2:(oH q).length=q.convs.length+q.waits.length:=by simp [oH]
 refine a7 func126 ?_;repeat' (first|refine av ?_ ?_|(refine aa 9 rfl ?_;first|(refine cH (qf [(0,1000)]) (L7 q.holds (by omega)) ?_)|(refine cC [] (Ot q h2 h3) ?_)|(refine cC [8] (L6 (dA q.holds++oH q) (by simp;omega)) ?_))|refine aq ?_|exact aw|refine ap fun hb=>?_|exact bg|fail)
theorem Ss (r:Rs) (h:iB r=true):FSpec prog 75 [r.a] [] [] (.tup [(⟨r,[],[],[],0⟩:Qu).a,iV 0]) []:=by
 refine a7 func75 ?_;have:=Em r;refine ao ?_
 (refine fE (qf []) ?_;exact af)
section
variable {P:Program} {o:Oper} {s:Mst}
def QP:Option Box->Bool
 | some (.box ..)=>true
 | _=>false
theorem Eo {α:Type _} {β:Type _} {R:α->β->Prop}:∀{l:List α} {m:List β} {l':List α} {m':List β},All2 R l m->All2 R l' m'->All2 R (l++l') (m++m')
 | [],[],_,_,_,k=>k
 | _ :: _,_ :: _,_,_,h,k=>⟨h.1,Eo h.2 k⟩
 | [],_ :: _,_,_,h,_=>h.elim
 | _ :: _,[],_,_,h,_=>h.elim
theorem JS {y:Operand} {f:FuncId} {xs:Array Operand} {ts:Array TypeId} {ar:List V0} {n:Nat} {kc:List Nat} {hin:List (Nat×Box)} {us:List Nat} {res:TV} {hout:List (Nat×Option Box)} (hs:FSpec P f ar hin us res hout) (q:Nat->Nat) (ho:o.op = .call { callee:=.value y,args:=xs,argTypes:=ts })
  (hy:s.ev y = .c (.clo f (kc.map q))) (hA:ar.drop n=kc.map fun k=>.one (.ptr k 0)) (hk:kc.all (fun k=>QP (eS hin k))=true)
  (ha:All2 (fun x d=>s.ev x = .v (V0.ren q d)) xs.toList (ar.take n)) (hn:fB ((ax hin++us).map q)=true) (hh:AF s q hin):LOp P o s ((ax hin).map q) ⟨res.ren q,fo q hout,us.map q⟩:=by
 intro c st ρ a w hr h1 h2 h3 h4;have hin':∀k b,eS hin k=some b->st.h (q k)=some (b.ren q):=fun k b hk=>by
  rw [h2 (q k) (by rw [ck];exact List.mem_map.2 ⟨k,ck.1 (dv hk).1,rfl⟩)];exact sk hh k b (dv hk).2
 have hargs:All2 (fun d v=>(V0.ren q d).rep w (Fz c st.h ρ w) ρ v) (ar.take n) (xs.toList.map a.eval):=by
  have key:∀(l:List Operand) (m:List V0),(∀x∈l,st.ev x=s.ev x)->All2 (fun x d=>s.ev x = .v (V0.ren q d)) l m->All2 (fun d v=>(V0.ren q d).rep w (Fz c st.h ρ w) ρ v) m (l.map a.eval):=by
   intro l;induction l with
   | nil=>intro m _ h;cases m with
    | nil=>trivial
    | cons=>exact h.elim
   | cons x l ih =>
    intro m hl h;cases m with
    | nil=>exact h.elim
    | cons d m =>
     refine ⟨?_,ih m (fun y hy=>hl y (by simp [hy])) h.2⟩;have:=hr.ev x;rw [hl x (by simp),h.1] at this;exact this
  exact key _ _ (fun x hx=>h1 x (by simp [ho,Op.operands,Call.operands];exact .inr (by simpa using hx))) ha
 have hv:=hr.ev y;rw [h1 y (by simp [ho,Op.operands,Call.operands]),hy] at hv;obtain ⟨vs,hv,hvs⟩:=hv;have hcap:All2 (fun d v=>(V0.ren q d).rep w (Fz c st.h ρ w) ρ v) (ar.drop n) vs:=by
  rw [hA];have key:∀(l:List Nat) (m:List Value),l.all (fun k=>QP (eS hin k))=true->All2 (fun k u=>u=ρ k) (l.map q) m->All2 (fun d v=>(V0.ren q d).rep w (Fz c st.h ρ w) ρ v) (l.map fun k=>V0.one (.ptr k 0)) m:=by
   intro l;induction l with
   | nil=>intro m _ h;cases m with
    | nil=>trivial
    | cons=>exact h.elim
   | cons k l ih =>
    intro m hb h;cases m with
    | nil=>exact h.elim
    | cons u m =>
     rw [List.all_cons,qBa] at hb;refine ⟨?_,ih m hb.2 h.2⟩;have hu:u=ρ (q k):=h.1;cases h9:eS hin k with
     | none=>rw [h9] at hb;cases hb.1
     | some b =>
      rw [h9] at hb;have h8:=hr.hp _ _ (hin' k b h9);cases b with
      | box t cs =>
       obtain ⟨g,_,e,_⟩:=h8;exact ⟨g,e,hu.trans e⟩
      | arr=>cases hb.1
      | mp=>cases hb.1
      | it=>cases hb.1
  exact key kc vs hk hvs
 have hall:All2 (fun d v=>(V0.ren q d).rep w (Fz c st.h ρ w) ρ v) ar (xs.toList.map a.eval++vs):=by
  have:=Eo hargs hcap
  rwa [List.take_append_drop] at this
 have hc:=hs.ca q c st ρ a w (xs.toList.map a.eval++vs) hr (fun k k' hk hk' e=>ky hn k k' hk hk' e) hall hin' fun k hk=>h3 _ (by show aX (us.map q) (q k)=true;rw [ck];exact List.mem_map.2 ⟨k,ck.1 hk,rfl⟩);have he:(xs.toList.map a.eval++vs).toArray=xs.map a.eval++vs.toArray:=by apply Array.toList_inj.1;simp
 rw [he] at hc;unfold Oper.wp execOp;simp only [ho,resolve,hv,Deferred.ofValue,invoke,Sem.run_bind,Sem.run_pure,Result.andThen_ok,Array.append_empty,Array.empty_append];rw [hs.en];refine hc.mono fun e w' ⟨v,hv,hk⟩=>?_;subst hv;exact hk o.dst h4
end
section
variable {P:Program} {nt:Nat} {Ks:List Nat} {s:Mst} {K:Mst->Prop} {ops:Array Oper} {draw:Bool} {o:Oper} {l:List Oper} {acc:List (List Nat×List Nat)} {t:Nat}
theorem ov {y:Operand} {f:FuncId} {xs:Array Operand} {ts:Array TypeId} {ar:List V0} {ot:Option Nat} {res:TV} {hin:List (Nat×Box)} {us:List Nat} {hout:List (Nat×Option Box)} (n:Nat) (kc:List Nat) (q:Nat->Nat) (hs:FSpec P f ar hin us res hout) (h:DA P ops draw l (((ax hin).map q,ax (fo q hout)) :: acc) (s.app ot ⟨res.ren q,fo q hout,us.map q⟩) K) (ho:o.op = .call { callee:=.value y,args:=xs,argTypes:=ts }:=by rfl) (hy:s.ev y = .c (.clo f (kc.map q)):=by rfl) (hA:ar.drop n=kc.map (fun k=>.one (.ptr k 0)):=by rfl) (hk:kc.all (fun k=>QP (eS hin k))=true:=by rfl) (ha:All2 (fun x d=>s.ev x = .v (V0.ren q d)) xs.toList (ar.take n):=by (repeat' (first|exact trivial|refine ⟨rfl,?_⟩));first|done|fail) (hn:fB ((ax hin++us).map q)=true:=by rfl) (hh:AF s q hin:=by (repeat' (first|exact trivial|refine ⟨rfl,?_⟩));first|done|fail) (hd:o.dst=ot:=by first|exact (rfl:_=some _)|exact (rfl:_=none)) (hg:s.gd ops o=some true:=by rfl) (hf:(us.map q).all s.f=true:=by rfl):DA P ops draw (o :: l) acc s K:=Cf (JS hs q ho hy hA hk ha hn hh) hd hg hf h
end
theorem oa (q:Qu) (h1:q.holds.length<=100000) (h2:q.convs.length<=100000) (h3:q.waits.length<=100000):FSpec prog 264 [q.a] [] [] (.v q.a) []:=by
 refine a7 func264 ?_;exact UG
def Tl (q:Qu) (k:Nat):List D:=[.sc (.string q.res.name),.sc (.int .i64 q.res.kind),.sc (.int .i64 q.res.units),.sc (.int .i64 q.res.home),.sl gM q.holds,.own k,.sl fK q.waits,.sc (.int .i64 q.gen)]
theorem L9 (q:Qu) (h1:q.holds.length<=100000) (h2:q.convs.length<=100000) (h3:q.waits.length<=100000):FSpec prog 264 [q.a] [] [0] (.v (.ag (Tl q 0))) [(0,some (.arr 173 fK q.convs))]:=by
 refine a7 func264 ?_;refine ao ?_;refine cc (qf [(0,9)]) ?_;exact af
theorem ld (q:Qu) (hs:Sd q):FSpec prog 321 [.one (.ptr 0 0)] [(0,.box 66 q.d)] [] (.c (.sl gM (mW q).2)) [(0,some (.box 66 (mW q).1.d))]:=by
 have hh:=hs.hv.len;have h1:=hs.clen;have h2:=hs.wlen;have hm:fQ q<=16:=by unfold fQ;omega
 refine a7 func321 ?_;repeat' (first|refine av ?_ ?_|((with_reducible refine H3 ?_);refine Ll ?_)|((with_reducible refine H3 ?_);refine Lj ?_)|refine aq ?_|exact aw|refine ap fun hb=>?_)
 refine cj 3 1000 121 gM rfl rfl rfl ?_;refine ab (fun x:Nat×Qu×List Ho=>Sd x.2.1/\fQ x.2.1<=x.1/\eO x.1 x.2.1 x.2.2=mW q/\x.2.2.length+x.1<=16) (fun x=>bP [0,1000] [(0,.c (.ptr 0 0)),(3,.c (.own 1000))] [(0,.box 66 x.2.1.d),(1000,.arr 121 gM x.2.2)]) (fun x=>x.1) (fQ q,q,[]) ⟨hs,Nat.le_refl _,rfl,by simpa using hm⟩ aT ?_;rintro ⟨n,q1,acc⟩ ⟨hs1,hn,hadv,hlen⟩;dsimp only at *
 have kH:=L1 q1;cases hset:ay q1 with
 | true =>
  rw [Ek hs1 hset] at hadv;rw [<-hadv];have hroom:=(dN.1 hset).2;cases hq:dD q1 with
  | none =>
   rw [hq,Option.isSome_none] at kH;refine ao ?_
   (refine ⟨fun _ h=>(by cases h),?_⟩;refine cc (qf []) ?_;exact af)
  | some x =>
   have hr:=hroom x hq;obtain ⟨z,hz⟩:=qGe (oC q1);rw [hq,hz,Option.isSome_some] at kH;obtain rfl:x=z:=by rw [<-hz];unfold oC;rw [hq];rfl
   have kR:=LY q1.res q1.holds x.proc x.am;rw [hr] at kR;refine ao ?_
   (refine ⟨fun _ h=>(by cases h),?_⟩;refine cc (qf []) ?_;exact af)
 | false =>
  obtain ⟨x,hx,hs2,hn2,hpos,hgo⟩:=A5 (acc:=acc) hs1 hset hn;rw [hgo] at hadv;have hh1:=hs1.hv.len;have kR:=LY q1.res q1.holds x.proc x.am;rw [show gO q1.res q1.holds x.proc x.am=true by have:=hset;simpa [ay,oQ.2 hs1,hx] using this] at kR;obtain ⟨z,hz⟩:=qGe (oC q1);rw [hx,hz,Option.isSome_some] at kH;obtain rfl:x=z:=by rw [<-hz];unfold oC;rw [hx];rfl
  clear hz;obtain ⟨r,hs',cs,ws,gn⟩:=q1;cases cs with
  | cons y cs =>
   obtain rfl:y=x:=by simpa [dD] using hx
   repeat' (first|refine av ?_ ?_|(refine aa 8 rfl ?_;refine be (ae rfl rfl (aH rfl rfl) (aN [⟨y.proc,y.am⟩] rfl rfl rfl rfl) rfl aQ aQ) rfl rfl rfl ?_)|(refine aa 9 rfl ?_;first|(refine cB [] kH ?_)|(refine cB [] kR ?_)|(refine cC [] (LX hs' y.proc y.am (by dsimp only at hh1;omega)) ?_))|refine aq ?_|exact aw|(refine ap fun hb=>?_;first|(simp at hb;done)|skip))
   refine ⟨(n-1,g9 ⟨r,hs',y :: cs,ws,gn⟩ y,acc++[⟨y.proc,y.am⟩]),⟨hs2,by dsimp only;omega,hadv,by simp;omega⟩,by dsimp only;omega,?_⟩;exact bo (qf [(1000,74)])
  | nil =>
   obtain ⟨ws2,rfl⟩:∃m,ws=x :: m:=by
    cases ws with
    | nil=>simp [dD] at hx
    | cons z m=>exact ⟨m,by rw [show z=x by simpa [dD] using hx]⟩
   repeat' (first|refine av ?_ ?_|(refine aa 8 rfl ?_;refine be (ae rfl rfl (aH rfl rfl) (aN [⟨x.proc,x.am⟩] rfl rfl rfl rfl) rfl aQ aQ) rfl rfl rfl ?_)|(refine aa 9 rfl ?_;first|(refine cB [] kH ?_)|(refine cB [] kR ?_)|(refine cC [] (LX hs' x.proc x.am (by dsimp only at hh1;omega)) ?_))|refine aq ?_|exact aw|(refine ap fun hb=>?_;first|(simp at hb;done)|skip))
   refine ⟨(n-1,g9 ⟨r,hs',[],x :: ws2,gn⟩ x,acc++[⟨x.proc,x.am⟩]),⟨hs2,by dsimp only;omega,hadv,by simp;omega⟩,by dsimp only;omega,?_⟩;exact bo (qf [(1000,74)])
theorem lf (n:Int):FSpec prog 134 [iV n] [] [] (.i (bc n)) []:=by
 obtain ⟨v,hv⟩:=qGe (bc n);rw [hv];unfold bc at hv;refine a7 func134 ?_;by_cases h:n<0\/1073741824<=n
 ·rw [if_pos h] at hv;obtain rfl:=hv;repeat' (first|refine av ?_ ?_|refine aq ?_|exact aw|refine ap fun hb=>?_|exact bg|fail)
 ·rw [if_neg h] at hv;obtain rfl:=hv;exact UG
theorem TF (q:Qu) (p:Pr) (hl:q.convs.length<=100000):FSpec prog 344 [.one (.ptr 0 0),.one (.ptr 1 0)] [(0,.box 66 q.d),lV 1 p] [] (.tup []) [(0,some (.box 66 { q with convs:=cq q.convs p }.d)),(1,some (lV 1 p).2)]:=by
 refine a7 func344 ?_;have:=p5 q.convs p hl;refine ao ?_
 (exact oW (qf []))
theorem TG (q:Qu) (p:Pr) (hl:q.waits.length<=100000):FSpec prog 345 [.one (.ptr 0 0),.one (.ptr 1 0)] [(0,.box 66 q.d),lV 1 p] [] (.tup []) [(0,some (.box 66 { q with waits:=cq q.waits p }.d)),(1,some (lV 1 p).2)]:=by
 refine a7 func345 ?_;have:=p5 q.waits p hl;refine ao ?_
 (exact oW (qf []))
theorem QQ (q:Qu) (p:Pr) (hc:q.convs.length<=100000) (hw:q.waits.length<=100000) {q2:Qu} (hq:{ q with convs:=cq q.convs p,waits:=cq q.waits p } = q2) (hs:Sd q2):FSpec prog 265 [.one (.ptr 0 0),.one (.slb 1 2)] [(0,.box 66 q.d),(1,.box 1 [.clo 344 [0,2],.clo 345 [0,2]]),lV 2 p] [] (p7 (iY (dB q2))) [(0,none),(1,none),(2,none)]:=by
 refine a7 func265 ?_;obtain ⟨q1,hq1⟩:∃q1,{ q with convs:=cq q.convs p } = q1:=⟨_,rfl⟩;have k1:=TF q p hc;rw [hq1] at k1;have k2:=TG q1 p (by rw [<-hq1];exact hw);rw [show ({ q1 with waits:=cq q1.waits p }:Qu)=q2 by rw [<-hq,<-hq1]] at k2;repeat' (first|refine av ?_ ?_|(refine aa 7 rfl ?_;refine sx (eP rfl rfl) ?_)|refine aq ?_|exact aw|refine ap fun hb=>?_)
 refine ab (fun x:Nat×Qu=>x.1=0/\x.2=q\/x.1=1/\x.2=q1\/x.1=2/\x.2=q2) (fun x=>bP [0,1,2,4] [(0,.c (.ptr 0 0)),(4,.c (.ptr 4 0)),(10,.c (.slb 1 2)),(11,.i 2),(12,.i x.1)] [(0,.box 66 x.2.d),(4,.box 66 Gn),(1,.box 1 [.clo 344 [0,2],.clo 345 [0,2]]),lV 2 p]) (fun x=>2-x.1) (0,q) (.inl ⟨rfl,rfl⟩) aT ?_;rintro ⟨i,z⟩ hz;dsimp only at *
 rcases hz with ⟨rfl,rfl⟩|⟨rfl,rfl⟩|⟨rfl,rfl⟩
 ·repeat' (first
   | refine av ?_ ?_
   | (refine aa 6 rfl ?_;refine sx (bK (i:=0) rfl rfl rfl rfl (by decide)) ?_)
   | (refine aa 9 rfl ?_;refine ov 0 [0,1] (qf [(0,0),(1,2)]) k1 ?_)
   | refine aq ?_
   | exact aw|(refine ap fun hb=>?_;first|(exact absurd hb (by decide))|skip))
  refine ⟨(1,q1),.inr (.inl ⟨rfl,rfl⟩),by simp,?_⟩;exact aT
 ·repeat' (first
   | refine av ?_ ?_
   | (refine aa 6 rfl ?_;refine sx (bK (i:=1) rfl rfl rfl rfl (by decide)) ?_)
   | (refine aa 9 rfl ?_;refine ov 0 [0,1] (qf [(0,0),(1,2)]) k2 ?_)
   | refine aq ?_
   | exact aw|(refine ap fun hb=>?_;first|(exact absurd hb (by decide))|skip))
  refine ⟨(2,q2),.inr (.inr ⟨rfl,rfl⟩),by simp,?_⟩;exact aT
 ·have kA:=ld z hs;unfold dB;obtain ⟨⟨N,G⟩,hN⟩:∃x,mW z=x:=⟨_,rfl⟩;have hg:N.gen=z.gen:=by have:=(eV hs).2.1;rw [hN] at this;exact this
  exact UI
theorem jl (t:List Qu) (p:Pr) (hl:t.length<=100000):FSpec prog 38 [.one (.sl eh t),p.a] [] [] (.c (.sl c6 (db t p))) []:=by
 refine a7 func38 ?_;refine ao ?_;refine cj 5 1000 44 c6 rfl rfl rfl ?_;refine ab (fun x:Nat×List Tm=>x.1<=t.length/\x.2.length<=x.1/\x.2++db (t.drop x.1) p=db t p) (fun x=>bP [3,1000] [(0,.c (.sl eh t)),(3,.c (.ptr 3 0)),(5,.c (.own 1000)),(6,.i x.1)] [(3,.box 40 [.sc (.int .i64 p.site),.sc (.int .i64 p.inc),.sc (.int .i64 p.num)]),(1000,.arr 44 c6 x.2)]) (fun x=>t.length-x.1) (0,[]) ⟨Nat.zero_le _,Nat.le_refl _,rfl⟩ aT ?_;rintro ⟨i,acc⟩ ⟨hi,hal,hs⟩;dsimp only at *
 by_cases hlt:i<t.length
 ·have e:db (t.drop i) p=(bif aR (ah t[i].holds p) then [] else [⟨t[i].res.name,ah t[i].holds p⟩])++db (t.drop (i+1)) p:=by
   rw [qDc hlt];unfold db;rw [List.map_cons,List.filter_cons];cases aR (ah t[i].holds p) <;> rfl
  rw [e] at hs;repeat' (first|refine av ?_ ?_|(refine aa 8 rfl ?_;refine be (ae rfl rfl (aH rfl rfl) (aN [⟨t[i].res.name,ah t[i].holds p⟩] rfl rfl rfl rfl) rfl aQ aQ) rfl rfl rfl ?_)|(refine aa 9 rfl ?_;first|(refine cB [] (fS t[i] p) ?_)|(refine cB [] (gW (ah t[i].holds p)) ?_))|refine aq ?_|exact aw|refine ap fun hb=>?_)
  ·refine ⟨(i+1,acc++[⟨t[i].res.name,ah t[i].holds p⟩]),⟨by dsimp only;omega,by simp;omega,?_⟩,by dsimp only;omega,?_⟩
   ·rw [hb] at hs;rw [<-hs];simp
   ·exact bo (qf [(1000,33)])
  ·refine ⟨(i+1,acc),⟨by dsimp only;omega,by dsimp only;omega,?_⟩,by dsimp only;omega,?_⟩
   ·rw [hb] at hs;rw [<-hs];simp
   ·exact aT
 ·have e:acc=db t p:=by rw [<-hs,qDn (by omega)];simp [db]
  refine ao ?_;rw [<-e];exact U4
theorem Cq (t:List Qu) (p:Pr) (hl:t.length<=100000):FSpec prog 36 [.one (.sl eh t),p.a] [] [] (.c (.sl c6 (bW p t))) []:=by
 refine a7 func36 ?_;refine ao ?_;refine cj 5 1000 44 c6 rfl rfl rfl ?_;refine ab (fun x:Nat×List Tm=>x.1<=t.length/\x.2.length<=x.1/\x.2++bW p (t.drop x.1)=bW p t) (fun x=>bP [3,1000] [(0,.c (.sl eh t)),(3,.c (.ptr 3 0)),(5,.c (.own 1000)),(6,.i x.1)] [(3,.box 40 [.sc (.int .i64 p.site),.sc (.int .i64 p.inc),.sc (.int .i64 p.num)]),(1000,.arr 44 c6 x.2)]) (fun x=>t.length-x.1) (0,[]) ⟨Nat.zero_le _,Nat.le_refl _,rfl⟩ aT ?_;rintro ⟨i,acc⟩ ⟨hi,hal,hs⟩;dsimp only at *
 by_cases hlt:i<t.length
 ·rw [qDc hlt] at hs;cases hw:aj t[i] p with
  | some a =>
   rw [show bW p (t[i] :: t.drop (i+1))=⟨t[i].res.name,a⟩ :: bW p (t.drop (i+1)) by simp [bW,hw]] at hs;repeat' (first|refine av ?_ ?_|(refine aa 8 rfl ?_;refine be (ae rfl rfl (aH rfl rfl) (aN [⟨t[i].res.name,a⟩] rfl rfl rfl rfl) rfl aQ aQ) rfl rfl rfl ?_)|refine aa 9 rfl (cB [] (cX t[i] p hw) ?_)|refine aq ?_|exact aw|refine ap fun hb=>?_)
   refine ⟨(i+1,acc++[⟨t[i].res.name,a⟩]),⟨by dsimp only;omega,by simp;omega,?_⟩,by dsimp only;omega,?_⟩
   ·rw [<-hs];simp
   ·exact bo (qf [(1000,35)])
  | none =>
   rw [show bW p (t[i] :: t.drop (i+1))=bW p (t.drop (i+1)) by simp [bW,hw]] at hs;have:=cX t[i] p hw;refine ao ?_;refine ⟨(i+1,acc),⟨by dsimp only;omega,by dsimp only;omega,?_⟩,by dsimp only;omega,?_⟩
   ·rw [<-hs]
   ·exact aT
 ·have e:acc=bW p t:=by rw [<-hs,qDn (by omega)];simp [bW]
  refine ao ?_;rw [<-e];exact U4
theorem ni (n:ByteArray):∀{t t':List Qu} (k:Nat),ef t=ef t'->bG n k t=bG n k t'
 | [],[],_,_=>rfl
 | [],_ :: _,_,h=>by simp [ef] at h
 | _ :: _,[],_,h=>by simp [ef] at h
 | q :: t,q' :: t',k,h=>by
  have h':q.res.name :: ef t=q'.res.name :: ef t':=h;injection h' with h1 h2;rw [gt,gt,h1,ni n (k+1) h2]
theorem eo {t t':List Qu} (h:ef t=ef t') (n:ByteArray):bd t n=bd t' n/\gR t n=gR t' n:=by
 unfold bd gR;rw [ni n 0 h];exact ⟨rfl,rfl⟩
theorem j6 {t:List Qu} {n:ByteArray} (h:bd t n=true):∃i,∃hi:i<t.length,gR t n=i/\t[i].res.name=n/\bf t n=t[i]:=by
 unfold bd at h;obtain ⟨i,hi,e1,e2⟩:=lO (of_decide_eq_true h);have e3:gR t n=i:=by unfold gR;rw [e1];omega
 refine ⟨i,hi,e3,e2,?_⟩;unfold bf;rw [e3];simp [hi]
theorem dK {t:List Qu} {n:ByteArray} (h:bd t n=true):bf t n∈t/\(bf t n).res.name=n:=by
 obtain ⟨i,hi,_,e2,e3⟩:=j6 h;rw [e3];exact ⟨List.getElem_mem hi,e2⟩
theorem gY {t:List Qu} (hv:di t=true) {q:Qu} (hq:q∈t):bd t q.res.name=true/\bf t q.res.name=q:=by
 obtain ⟨i,hi,rfl⟩:=List.mem_iff_getElem.1 hq;have h:=DV (k:=0) hi (mZ hv);unfold bd bf gR;rw [h];refine ⟨qDt (by omega),?_⟩;have:((0+i:Nat):Int).toNat=i:=by omega
 rw [this];simp [hi]
structure TStep (t t':List Qu) (p:Pr) (n:ByteArray):Prop where
 v:di t'=true
 nm:ef t'=ef t
 has:bd t n=true
 oth:∀m,m≠n->bd t m=true->bf t' m=bf t m
 out:Out (bf t n) (bf t' n) p
 sub:∀r∈aO t',r=p\/r∈aO t
theorem TOut.step {t t':List Qu} {i:Nat} {p:Pr} {n:ByteArray} (h:TOut t t' i p) (hv:di t=true) (hn:(t[i]'h.lt).res.name=n) (hp:(aO t).length<=7\/p∈aO t\/p ∉ aO t'):TStep t t' p n:=by
 have hm:=h.names;have hmem:=gY hv (List.getElem_mem h.lt);rw [hn] at hmem;have hix:gR t n=i:=by
  obtain ⟨j,hj,e1,e2,e3⟩:=j6 hmem.1;rw [e1];have hnd:=mZ hv;unfold ef at hnd;rcases Nat.lt_trichotomy j i with hlt|he|hgt
  ·have:=List.pairwise_iff_getElem.1 hnd j i (by simpa using hj) (by simpa using h.lt) hlt;simp only [List.getElem_map] at this;exact absurd (e2.trans hn.symm) this
  ·exact he
  ·have:=List.pairwise_iff_getElem.1 hnd i j (by simpa using h.lt) (by simpa using hj) hgt;simp only [List.getElem_map] at this;exact absurd (hn.trans e2.symm) this
 refine ⟨h.valid hv hp,hm,hmem.1,fun m hne hh=>?_,?_,AN hv h⟩
 ·unfold bf;rw [(eo hm m).2];obtain ⟨j,hj,e1,e2,_⟩:=j6 hh;rw [e1];have hji:j≠i:=fun e=>by subst e;exact hne (e2.symm.trans hn)
  have:=h.other hji;simp only [List.getD_eq_getElem?_getD,this]
 ·obtain ⟨q,e,ho⟩:=h.at;have e2:bf t' n=q:=by
   unfold bf;rw [(eo hm n).2,hix];simp only [List.getD_eq_getElem?_getD,e];rfl
  rw [e2,hmem.2];exact ho
theorem TStep.hasE {t t':List Qu} {p:Pr} {n:ByteArray} (h:TStep t t' p n) (m:ByteArray):bd t' m=bd t m:=(eo h.nm m).1
structure TP (t t':List Qu) (p:Pr):Prop where
 v:di t'=true
 nm:ef t'=ef t
 out:∀n,bd t n=true->Out (bf t n) (bf t' n) p
 sub:∀r∈aO t',r=p\/r∈aO t
theorem TStep.tp {t t':List Qu} {p:Pr} {n:ByteArray} (hv:di t=true) (h:TStep t t' p n):TP t t' p:=by
 refine ⟨h.v,h.nm,fun m hm=>?_,h.sub⟩;by_cases e:m=n
 ·subst e;exact h.out
 ·rw [h.oth m e hm];exact Out.same p (cP hv (dK hm).1)
theorem TP.hasE {t t':List Qu} {p:Pr} (h:TP t t' p) (m:ByteArray):bd t' m=bd t m:=(eo h.nm m).1
abbrev fO (x:Pc) (n:ByteArray):Am:=aC x.led.entries n
structure FitR (t:List Qu) (n:ByteArray) (x:Pc):Prop where
 h:ah (bf t n).holds x.proc=fO x n
 w:aj (bf t n) x.proc=none
abbrev jn (t:List Qu) (n:ByteArray) (x:Pc) (a:Am):Am:=cn (bf t n).res (fO x n) a
def FitA (t:List Qu) (n:ByteArray) (x:Pc) (a:Am):Prop :=
  (bq (bf t n).res (fO x n) a=true/\FitR t n x)\/(bq (bf t n).res (fO x n) a=false/\
    ((ah (bf t n).holds x.proc=jn t n x a/\aj (bf t n) x.proc=none)\/
     (ah (bf t n).holds x.proc=fO x n/\aj (bf t n) x.proc=some (jn t n x a)/\∀y∈(bf t n).waits,y.proc=x.proc->y.prio=x.req.prio)))
def cY (l:List Tm) (n:ByteArray):Option Tm:=l.find? fun a=>bC a.name n
def FitW (t:List Qu) (n:ByteArray) (x:Pc) (l:List Tm):Prop:=match cY l n with
 | none=>FitR t n x
 | some a=>FitA t n x a.am
theorem FitR.tp {t t':List Qu} {p:Pr} {m:ByteArray} {x:Pc} (hs:TP t t' p) (hp:x.proc≠p) (hm:bd t m=true) (h:FitR t m x):FitR t' m x:=by
 rcases (hs.out m hm).eff x.proc hp with ⟨h1,h2⟩|⟨a,h1,_⟩
 ·exact ⟨h1.trans h.h,h2.trans h.w⟩
 ·rw [h.w] at h1;cases h1
theorem FitA.tp {t t':List Qu} {p:Pr} {m:ByteArray} {x:Pc} {a:Am} (hs:TP t t' p) (hp:x.proc≠p) (hm:bd t m=true) (h:FitA t m x a):FitA t' m x a:=by
 have hr:=(hs.out m hm).res;unfold FitA jn at *
 rw [hr];rcases h with ⟨h1,h2⟩|⟨h1,h2⟩
 ·exact .inl ⟨h1,h2.tp hs hp hm⟩
 ·refine .inr ⟨h1,?_⟩;rcases h2 with ⟨h3,h4⟩|⟨h3,h4,h5⟩
  ·rcases (hs.out m hm).eff x.proc hp with ⟨k1,k2⟩|⟨b,k1,_⟩
   ·exact .inl ⟨k1.trans h3,k2.trans h4⟩
   ·rw [h4] at k1;cases k1
  ·rcases (hs.out m hm).eff x.proc hp with ⟨k1,k2⟩|⟨b,k1,k2,k3⟩
   ·refine .inr ⟨k1.trans h3,k2.trans h4,fun y hy hyp=>?_⟩;obtain ⟨z,hz,e1,e2⟩:=(hs.out m hm).prio y hy (by rw [hyp];exact hp);rw [<-e2];exact h5 z hz (e1.trans hyp)
   ·rw [h4] at k1;injection k1 with k1;exact .inl ⟨k2.trans k1.symm,k3⟩
theorem FitW.tp {t t':List Qu} {p:Pr} {m:ByteArray} {x:Pc} {l:List Tm} (hs:TP t t' p) (hp:x.proc≠p) (hm:bd t m=true) (h:FitW t m x l):FitW t' m x l:=by
 unfold FitW at *
 cases hf:cY l m with
 | none=>rw [hf] at h;exact h.tp hs hp hm
 | some a=>rw [hf] at h;exact h.tp hs hp hm
structure PStat (t:List Qu) (x:Pc):Prop where
 vp:jW x.proc=true
 cost:1<=x.cost/\x.cost<=1000
 led:Ld x.led
 gen:0<=x.gen/\x.gen<=1073741824
 hf:∀n,fO x n≠⟨0,0⟩->bd t n=true/\aS (bf t n).res (fO x n)=true
theorem Ez {t t':List Qu} {p:Pr} (hs:TP t t' p):∀l:List Tm,gg t' l=gg t l
 | []=>rfl
 | a :: l=>by
  unfold gg;rw [hs.hasE,Ez hs l];cases hh:bd t a.name with
  | false=>rfl
  | true=>rw [(hs.out _ hh).res]
theorem Ii {t t':List Qu} {p:Pr} (hs:TP t t' p) (x:Ex):fW t' x=fW t x:=by
 unfold fW;rw [Ez hs]
structure PWait (t:List Qu) (now:Int) (x:Pc):Prop where
 rq:m6 x.req=true
 rs:fW t x.req.expr=0
 sn:0<=x.since/\x.since<=now
structure PInv (t:List Qu) (now:Int) (x:Pc):Prop where
 stat:PStat t x
 run:x.waiting=false->x.req=Rq.zero/\x.since=0/\∀n,bd t n=true->FitR t n x
 wat:x.waiting=true->PWait t now x/\∀n,bd t n=true->FitW t n x (bJ x.req.expr)
theorem PStat.tp {t t':List Qu} {p:Pr} {x:Pc} (hs:TP t t' p) (h:PStat t x):PStat t' x :=
 ⟨h.vp,h.cost,h.led,h.gen,fun m hm=>by
  obtain ⟨h1,h2⟩:=h.hf m hm;exact ⟨by rw [hs.hasE];exact h1,by rw [(hs.out m h1).res];exact h2⟩⟩
theorem PWait.tp {t t':List Qu} {p:Pr} {now:Int} {x:Pc} (hs:TP t t' p) (h:PWait t now x):PWait t' now x:=⟨h.rq,by rw [Ii hs];exact h.rs,h.sn⟩
theorem PInv.tp {t t':List Qu} {p:Pr} {now:Int} {x:Pc} (hs:TP t t' p) (hp:x.proc≠p) (h:PInv t now x):PInv t' now x:=by
 refine ⟨h.stat.tp hs,fun hw=>?_,fun hw=>?_⟩
 ·obtain ⟨h1,h2,h3⟩:=h.run hw;exact ⟨h1,h2,fun m hm=>by rw [hs.hasE] at hm;exact (h3 m hm).tp hs hp hm⟩
 ·obtain ⟨h1,h2⟩:=h.wat hw;exact ⟨h1.tp hs,fun m hm=>by rw [hs.hasE] at hm;exact (h2 m hm).tp hs hp hm⟩
theorem Cu {t:List Qu} {n:ByteArray} {p:Pr} {q':Qu} (h:bd t n=true) (ho:Out (bf t n) q' p):∃i,∃hi:i<t.length,gR t n=i/\t[i].res.name=n/\TOut t (t.set (gR t n) q') i p:=by
 obtain ⟨i,hi,e1,e2,e3⟩:=j6 h;refine ⟨i,hi,e1,e2,hi,q',by rw [e1],?_⟩;rw [e3] at ho;exact ho
theorem xt {t:List Qu} {n:ByteArray} {q':Qu} (h:bd t n=true) (hn:ef (t.set (gR t n) q')=ef t):bf (t.set (gR t n) q') n=q':=by
 obtain ⟨i,hi,e1,e2,e3⟩:=j6 h;unfold bf;rw [(eo hn n).2,e1];simp [hi]
theorem o8 {t:List Qu} {p:Pr} {n:ByteArray} (hv:di t=true) (h:bd t n=true) (hw:(aj (bf t n) p).isSome=true) :
  bv t p n=(t.set (gR t n) (bB (bf t n) p).1,aJ n (bB (bf t n) p).2.1,0)/\TStep t (bv t p n).1 p n/\ah (bf (bv t p n).1 n).holds p=ah (bf t n).holds p/\aj (bf (bv t p n).1 n) p=none:=by
 have hq:=dK h;have hs:=B9 (cP hv hq.1) hw;obtain ⟨ho,h1,h2⟩:=DY hs;have e:bv t p n=(t.set (gR t n) (bB (bf t n) p).1,aJ n (bB (bf t n) p).2.1,0):=by
  unfold bd at h;have hf:=of_decide_eq_true h;unfold bv;rw [hv,qDf (show ¬bG n 0 t<0 by omega)];simp only [Bool.not_true,qCf];rw [show t.getD (gR t n) jj=bf t n from rfl,qDt hs];rfl
 obtain ⟨i,hi,e1,e2,hto⟩:=Cu h ho;have hp:p∈aO t:=by
  unfold aO;rw [dd,iI];exact ⟨_,hq.1,(eX (aP (cP hv hq.1)) p).2 (by unfold fd;rw [hw];rfl)⟩
 have hst:TStep t (bv t p n).1 p n:=by rw [e];exact hto.step hv e2 (.inr (.inl hp))
 have hq2:bf (bv t p n).1 n=(bB (bf t n) p).1:=by
  have:=hst.nm;rw [e] at this ⊢;exact xt h this
 exact ⟨e,hst,by rw [hq2];exact h1,by rw [hq2];exact h2⟩
theorem sB {t:List Qu} {p:Pr} {a:Tm} (hv:di t=true) (h:bd t a.name=true) (h0:ah (bf t a.name).holds p≠⟨0,0⟩) (hw:aj (bf t a.name) p=none) (hc:bq (bf t a.name).res (ah (bf t a.name).holds p) a.am=true) :
  bD t p a=(t.set (gR t a.name) (bE (bf t a.name) p a.am).1,(bif decide (ah (bf t a.name).holds p=a.am) then [] else [⟨3,p,a.name,a.am⟩])++aJ a.name (bE (bf t a.name) p a.am).2.1,0)/\TStep t (bD t p a).1 p a.name/\ah (bf (bD t p a).1 a.name).holds p=a.am/\aj (bf (bD t p a).1 a.name) p=none:=by
 have hq:=dK h;have hs:=DZ (cP hv hq.1) h0 hw hc;obtain ⟨ho,h1,h2⟩:=Ge hs;have e:bD t p a=(t.set (gR t a.name) (bE (bf t a.name) p a.am).1,(bif decide (ah (bf t a.name).holds p=a.am) then [] else [⟨3,p,a.name,a.am⟩])++aJ a.name (bE (bf t a.name) p a.am).2.1,0):=by
  unfold bd at h;have hf:=of_decide_eq_true h;unfold bD;rw [hv,qDf (show ¬bG a.name 0 t<0 by omega)];simp only [Bool.not_true,qCf];rw [show t.getD (gR t a.name) jj=bf t a.name from rfl,qDt hs];rfl
 obtain ⟨i,hi,e1,e2,hto⟩:=Cu h ho;have hp:p∈aO t:=by
  unfold aO;rw [dd,iI];exact ⟨_,hq.1,(eX (aP (cP hv hq.1)) p).2 (by unfold fd;rw [bN.2 h0];simp)⟩
 have hst:TStep t (bD t p a).1 p a.name:=by rw [e];exact hto.step hv e2 (.inr (.inl hp))
 have hq2:bf (bD t p a).1 a.name=(bE (bf t a.name) p a.am).1:=by
  have:=hst.nm;rw [e] at this ⊢;exact xt h this
 exact ⟨e,hst,by rw [hq2];exact h1,by rw [hq2];exact h2⟩
theorem JX {t:List Qu} {p:Pr} {a:Tm} {prio:Int} (hv:di t=true) (h:bd t a.name=true) (hvp:jW p=true) (hr:0<=prio/\prio<=7) (hf:aS (bf t a.name).res a.am=true) (hw:aj (bf t a.name) p=none)
  (hl:ah (bf t a.name).holds p≠⟨0,0⟩\/(bf t a.name).holds.length+(bf t a.name).waits.length<8) (hp:(aO t).length<=7\/p∈aO t) :
  bt t p a prio=(t.set (gR t a.name) (bL (bf t a.name) p a.am prio).1,aJ a.name (bL (bf t a.name) p a.am prio).2.1,0)/\TStep t (bt t p a prio).1 p a.name/\ClOut (bf t a.name) (bf (bt t p a prio).1 a.name) p a.am prio:=by
 have hq:=dK h;have hs:=DX (cP hv hq.1) hvp hr hf hw hl;have ho:=Gd hs;have e:bt t p a prio=(t.set (gR t a.name) (bL (bf t a.name) p a.am prio).1,aJ a.name (bL (bf t a.name) p a.am prio).2.1,0):=by
  unfold bd at h;have hf:=of_decide_eq_true h;have hc:(decide ((aO t).length=8) && !decide (p∈aO t))=false:=by
   rcases hp with hp|hp
   ·rw [qDf (by omega)];rfl
   ·rw [qDt hp];simp
  unfold bt;rw [hv,qDf (show ¬bG a.name 0 t<0 by omega),hc];simp only [Bool.not_true,qCf];rw [show t.getD (gR t a.name) jj=bf t a.name from rfl,qDt hs];rfl
 obtain ⟨i,hi,e1,e2,hto⟩:=Cu h ho.out;have hst:TStep t (bt t p a prio).1 p a.name:=by
  rw [e];refine hto.step hv e2 ?_;rcases hp with hp|hp
  ·exact .inl hp
  ·exact .inr (.inl hp)
 have hq2:bf (bt t p a prio).1 a.name=(bL (bf t a.name) p a.am prio).1:=by
  have:=hst.nm;rw [e] at this ⊢;exact xt h this
 exact ⟨e,hst,by rw [hq2];exact ho⟩
theorem Eff.trans {a b c:Qu} {p:Pr} (h:Eff a b p) (k:Eff b c p):Eff a c p:=by
 rcases h with ⟨h1,h2⟩|⟨x,h1,h2,h3⟩
 ·rcases k with ⟨k1,k2⟩|⟨x,k1,k2,k3⟩
  ·exact .inl ⟨k1.trans h1,k2.trans h2⟩
  ·exact .inr ⟨x,h2.symm.trans k1,k2,k3⟩
 ·rcases k with ⟨k1,k2⟩|⟨y,k1,_⟩
  ·exact .inr ⟨x,h1,k1.trans h2,k2.trans h3⟩
  ·rw [h3] at k1;cases k1
theorem Out.trans {a b c:Qu} {p:Pr} (h:Out a b p) (k:Out b c p):Out a c p :=
 ⟨k.ok,k.res.trans h.res,fun r hr=>(h.eff r hr).trans (k.eff r hr),fun x hx hp=>by
  obtain ⟨y,hy,e1,e2⟩:=k.prio x hx hp;obtain ⟨z,hz,e3,e4⟩:=h.prio y hy (by rw [e1];exact hp);exact ⟨z,hz,e3.trans e1,e4.trans e2⟩⟩
theorem TP.refl {t:List Qu} (hv:di t=true) (p:Pr):TP t t p:=⟨hv,rfl,fun _ hn=>Out.same p (cP hv (dK hn).1),fun _ hr=>.inr hr⟩
theorem TP.trans {a b c:List Qu} {p:Pr} (h:TP a b p) (k:TP b c p):TP a c p :=
 ⟨k.v,k.nm.trans h.nm,fun n hn=>(h.out n hn).trans (k.out n (by rw [h.hasE];exact hn)),fun r hr=>by
  rcases k.sub r hr with e|e
  ·exact .inl e
  ·exact h.sub r e⟩
structure WS (w w':Wk) (p:Pr) (N:ByteArray->Prop):Prop where
 tp:TP w.c.queues w'.c.queues p
 oth:∀m,¬N m->bd w.c.queues m=true->bf w'.c.queues m=bf w.c.queues m
 procs:w'.c.procs=w.c.procs
 now:w'.c.now=w.c.now
theorem WS.refl {w:Wk} (hv:di w.c.queues=true) (p:Pr) (N:ByteArray->Prop):WS w w p N:=⟨TP.refl hv p,fun _ _ _=>rfl,rfl,rfl⟩
theorem WS.trans {a b c:Wk} {p:Pr} {N:ByteArray->Prop} (h:WS a b p N) (k:WS b c p N):WS a c p N :=
 ⟨h.tp.trans k.tp,fun m hm hh=>(k.oth m hm (by rw [h.tp.hasE];exact hh)).trans (h.oth m hm hh),k.procs.trans h.procs,k.now.trans h.now⟩
theorem WS.mono {a b:Wk} {p:Pr} {N M:ByteArray->Prop} (h:WS a b p N) (hm:∀m,N m->M m):WS a b p M:=⟨h.tp,fun m hM hh=>h.oth m (fun e=>hM (hm m e)) hh,h.procs,h.now⟩
theorem WS.take {w:Wk} {t:List Qu} {ev:List Ev} {p:Pr} {n:ByteArray} (hv:di w.c.queues=true) (h:TStep w.c.queues t p n):WS w (w.take t ev) p (· = n):=⟨h.tp hv,fun m hm hh=>h.oth m hm hh,rfl,rfl⟩
theorem Mj {r:Rs} {l a:Am} (hs:br r=true) (ha:aS r a=true) (hc:bq r l a=false) (hl:l=⟨0,0⟩\/aS r l=true) :
  aS r (cn r l a)=true/\bq r (cn r l a) l=true/\bq r (cn r l a) a=true/\cn r l a≠l:=by
 rcases hl with rfl|hl
 ·rw [yt ha];have p0:bQ r ⟨0,0⟩=true:=by unfold bQ aR;rw [hs];rfl
  refine ⟨ha,?_,yl ha,?_⟩
  ·unfold bq;rw [dw ha,p0];rfl
  ·exact bN.1 (eW ha)
 ·exact Hz hl ha hc
theorem nk {t:List Qu} {x:Pc} (h:PStat t x) (n:ByteArray):fO x n=⟨0,0⟩\/aS (bf t n).res (fO x n)=true:=by
 by_cases e:fO x n=⟨0,0⟩
 ·exact .inl e
 ·exact .inr (h.hf n e).2
theorem oc {t:List Qu} (hv:di t=true) {n:ByteArray} (h:bd t n=true):br (bf t n).res=true:=(aP (cP hv (dK h).1)).hv.shp
theorem qb {w:Wk} {x:Pc} {n:ByteArray} {a:Am} (hv:di w.c.queues=true) (hn:bd w.c.queues n=true) (hs:PStat w.c.queues x) (ha:aS (bf w.c.queues n).res a=true) (hf:FitA w.c.queues n x a) :
  WS w (bH w x n) x.proc (· = n)/\FitR (bH w x n).c.queues n x:=by
 have same:FitR w.c.queues n x->WS w (bH w x n) x.proc (· = n)/\FitR (bH w x n).c.queues n x:=by
  intro h;have e1:eT w x.proc n=w:=by unfold eT;rw [h.w];rfl
  have e2:bH w x n=w:=by
   unfold bH bZ;rw [e1,qDt h.h];rfl
  rw [e2];exact ⟨WS.refl hv _ _,h⟩
 rcases hf with ⟨_,h⟩|⟨hc,⟨h1,h2⟩|⟨h1,h2,_⟩⟩
 ·exact same h
 ·obtain ⟨j1,j2,_,j4⟩:=Mj (oc hv hn) ha hc (nk hs n);have e1:eT w x.proc n=w:=by unfold eT;rw [h2];rfl
  have hne:ah (bf w.c.queues n).holds x.proc≠aC x.led.entries n:=by rw [h1];exact j4
  have h0:ah (bf w.c.queues n).holds x.proc≠⟨0,0⟩:=by rw [h1];exact bN.1 (eW j1)
  obtain ⟨e,hst,k1,k2⟩:=sB (a:=⟨n,aC x.led.entries n⟩) hv hn h0 h2 (by rw [h1];exact j2);have e2:bH w x n=dI w x.proc ⟨n,aC x.led.entries n⟩:=by
   unfold bH bZ;rw [e1,qDf hne];rfl
  rw [e2];exact ⟨WS.take hv hst,⟨k1,k2⟩⟩
 ·obtain ⟨e,hst,k1,k2⟩:=o8 (p:=x.proc) hv hn (by rw [h2];rfl);have e1:eT w x.proc n=fv w x.proc n:=by unfold eT;rw [h2];rfl
  have hq:ah (bf (fv w x.proc n).c.queues n).holds x.proc=aC x.led.entries n:=k1.trans h1;have e2:bH w x n=fv w x.proc n:=by
   unfold bH bZ;rw [e1,qDt hq];rfl
  rw [e2];exact ⟨WS.take hv hst,⟨hq,k2⟩⟩
theorem Gv {l:List Tm} {n:ByteArray} {a:Tm} (h:cY l n=some a):a∈l/\a.name=n:=by
 unfold cY at h;exact ⟨List.mem_of_find?_eq_some h,bj.1 (by have:=List.find?_some h;simpa using this)⟩
theorem iq {l:List Tm} {n:ByteArray}:cY l n=none↔∀a∈l,a.name≠n:=by
 unfold cY;rw [List.find?_eq_none];constructor
 ·intro h a ha e;exact h a ha (bj.2 e)
 ·intro h a ha e;exact h a ha (bj.1 e)
theorem dg (a:Tm) (l:List Tm) (n:ByteArray):cY (a :: l) n=bif bC a.name n then some a else cY l n:=by
 unfold cY;rw [List.find?_cons];cases bC a.name n <;> rfl
def JY (l:List Tm):Prop:=l.Pairwise fun a b=>a.name≠b.name
def Rsl (t:List Qu) (l:List Tm):Prop:=∀a∈l,bd t a.name=true/\aS (bf t a.name).res a.am=true
theorem sC {t:List Qu}:∀{l:List Tm},gg t l=0↔Rsl t l
 | []=>by simp [gg,Rsl]
 | a :: l=>by
  unfold gg;cases h1:bd t a.name with
  | false =>
   simp only [Bool.not_false,qCt];constructor
   ·intro h;cases h
   ·intro h;have:=(h a (by simp)).1;rw [h1] at this;cases this
  | true =>
   simp only [Bool.not_true,qCf];cases h2:aS (bf t a.name).res a.am with
   | false =>
    simp only [Bool.not_false,qCt];constructor
    ·intro h;cases h
    ·intro h;have:=(h a (by simp)).2;rw [h2] at this;cases this
   | true =>
    simp only [Bool.not_true,qCf];rw [sC];constructor
    ·intro h b hb;rcases List.mem_cons.1 hb with rfl|hb
     ·exact ⟨h1,h2⟩
     ·exact h b hb
    ·intro h b hb;exact h b (by simp [hb])
theorem Rsl.tp {t t':List Qu} {p:Pr} {l:List Tm} (hs:TP t t' p) (h:Rsl t l):Rsl t' l:=fun a ha=>by
 obtain ⟨h1,h2⟩:=h a ha;exact ⟨by rw [hs.hasE];exact h1,by rw [(hs.out _ h1).res];exact h2⟩
theorem FitR.eq {t t':List Qu} {n:ByteArray} {x:Pc} (h:FitR t n x) (e:bf t' n=bf t n):FitR t' n x:=⟨by rw [e];exact h.h,by rw [e];exact h.w⟩
theorem FitA.eq {t t':List Qu} {n:ByteArray} {x:Pc} {a:Am} (h:FitA t n x a) (e:bf t' n=bf t n):FitA t' n x a:=by
 unfold FitA jn at *
 rw [e];rcases h with ⟨h1,h2⟩|h
 ·exact .inl ⟨h1,h2.eq e⟩
 ·exact .inr h
theorem FitW.eq {t t':List Qu} {n:ByteArray} {x:Pc} {l:List Tm} (h:FitW t n x l) (e:bf t' n=bf t n):FitW t' n x l:=by
 unfold FitW at *
 cases hf:cY l n with
 | none=>rw [hf] at h;exact h.eq e
 | some a=>rw [hf] at h;exact h.eq e
def DrT (x:Pc):List Tm->Wk->Prop
 | [],_=>True
 | a :: l,w=>di w.c.queues=true/\bd w.c.queues a.name=true/\DrT x l (bH w x a.name)
theorem yJ:∀(l:List Tm) (w:Wk) (x:Pc),di w.c.queues=true->PStat w.c.queues x->JY l->Rsl w.c.queues l->(∀n,bd w.c.queues n=true->FitW w.c.queues n x l)->
  WS w (cS x l w) x.proc (fun _=>True)/\(∀n,bd w.c.queues n=true->FitR (cS x l w).c.queues n x)/\DrT x l w
 | [],w,x,hv,_,_,_,hf=>⟨WS.refl hv _ _,fun n hn=>hf n hn,trivial⟩
 | a :: l,w,x,hv,hs,hnd,hr,hf=>by
  obtain ⟨h1,h2⟩:=List.pairwise_cons.1 hnd;obtain ⟨ha1,ha2⟩:=hr a (by simp);have hfa:FitA w.c.queues a.name x a.am:=by
   have:=hf a.name ha1;unfold FitW at this;rw [dg,bj.2 rfl] at this;exact this
  obtain ⟨k1,k2⟩:=qb hv ha1 hs ha2 hfa;have ih:=yJ l (bH w x a.name) x k1.tp.v (hs.tp k1.tp) h2 ((show Rsl w.c.queues l from fun b hb=>hr b (by simp [hb])).tp k1.tp) (fun n hn=>by
   rw [k1.tp.hasE] at hn;by_cases e:n=a.name
   ·subst e;unfold FitW;rw [iq.2 (fun b hb e=>h1 b hb e.symm)];exact k2
   ·have e1:=k1.oth n e hn;have h3:=hf n hn;unfold FitW at h3;rw [dg,cd.2 (fun h=>e h.symm)] at h3;exact FitW.eq (l:=l) h3 e1)
  exact ⟨(k1.mono fun _ _=>trivial).trans ih.1,fun n hn=>ih.2.1 n (by rw [k1.tp.hasE];exact hn),hv,ha1,ih.2.2⟩
theorem Mo {t:List Qu} {L:List Pr} (hc:∀r∈aO t,r∈L) (hl:L.length<=8) {p:Pr} (hp:p∈L):(aO t).length<=7\/p∈aO t:=by
 by_cases h:p∈aO t
 ·exact .inr h
 ·left
  have:=jy (l:=p :: aO t) (m:=L) (List.nodup_cons.2 ⟨h,gQ t⟩) fun r hr=>by
   rcases List.mem_cons.1 hr with rfl|hr
   ·exact hp
   ·exact hc r hr
  rw [List.length_cons] at this;omega
theorem Mp {t:List Qu} {L:List Pr} (hv:di t=true) (hc:∀r∈aO t,r∈L) (hl:L.length<=8) {p:Pr} (hp:p∈L) {n:ByteArray} (hn:bd t n=true) (hw:aj (bf t n) p=none) :
  ah (bf t n).holds p≠⟨0,0⟩\/(bf t n).holds.length+(bf t n).waits.length<8:=by
 by_cases h0:ah (bf t n).holds p=⟨0,0⟩
 ·right
  have hq:=dK hn;have hd:=aP (cP hv hq.1);have hno:=fh.1 hw;have hnd:(dA (bf t n).holds++cK (bf t n).waits).Nodup:=by
   rw [List.nodup_append];refine ⟨hd.hv.asc.imp fun {a b} (hab:g7 a b) (e:a=b)=>by rw [e] at hab;exact co b hab,hd.wnd,?_⟩;intro u hu v hv2 e;obtain ⟨x,hx,rfl⟩:=List.mem_map.1 hu;obtain ⟨y,hy,rfl⟩:=List.mem_map.1 hv2;have h1:=jM hd.hv.asc hx;rw [e,(hd.wok y hy).2.2] at h1;exact bN.1 (eW (hd.hv.fit x hx).2) h1.symm
  have hpn:p ∉ dA (bf t n).holds++cK (bf t n).waits:=by
   intro hm;rcases List.mem_append.1 hm with hm|hm
   ·obtain ⟨x,hx,rfl⟩:=List.mem_map.1 hm;have h1:=jM hd.hv.asc hx;rw [h0] at h1;exact bN.1 (eW (hd.hv.fit x hx).2) h1.symm
   ·obtain ⟨y,hy,e⟩:=List.mem_map.1 hm;exact hno y (by simp [hy]) e
  have hsub:∀r∈p :: (dA (bf t n).holds++cK (bf t n).waits),r∈L:=by
   intro r hr;rcases List.mem_cons.1 hr with rfl|hr
   ·exact hp
   ·refine hc r ?_;unfold aO;rw [dd,iI];refine ⟨_,hq.1,?_⟩;unfold gq;rw [dd];rcases List.mem_append.1 hr with hr|hr
    ·exact List.mem_append.2 (.inl hr)
    ·refine List.mem_append.2 (.inr ?_);show r∈cK ((bf t n).convs++(bf t n).waits);unfold cK at hr ⊢;rw [List.map_append];exact List.mem_append.2 (.inr hr)
  have:=jy (List.nodup_cons.2 ⟨hpn,hnd⟩) hsub;rw [List.length_cons,List.length_append] at this;unfold dA cK at this;rw [List.length_map,List.length_map] at this;omega
 ·exact .inl h0
theorem Ba (L:List Pr) (hl:L.length<=8):∀(l pre:List Tm) (w:Wk) (x:Pc),di w.c.queues=true->PStat w.c.queues x->x.proc∈L->(∀r∈aO w.c.queues,r∈L)->(0<=x.req.prio/\x.req.prio<=7)->JY (pre++l)->Rsl w.c.queues l->
  (∀n,bd w.c.queues n=true->(cY l n=none->FitW w.c.queues n x (pre++l))/\(∀a,cY l n=some a->FitR w.c.queues n x))->
  WS w (cO x.proc x.req.prio l w) x.proc (fun _=>True)/\(∀n,bd w.c.queues n=true->FitW (cO x.proc x.req.prio l w).c.queues n x (pre++l))/\∀r∈aO (cO x.proc x.req.prio l w).c.queues,r∈L
 | [],pre,w,x,hv,_,_,hc,_,_,_,hf=>⟨WS.refl hv _ _,fun n hn=>(hf n hn).1 rfl,hc⟩
 | a :: l,pre,w,x,hv,hs,hpL,hc,hpr,hnd,hr,hf=>by
  have hnd2:JY (a :: l):=(List.pairwise_append.1 hnd).2.1;obtain ⟨h1,h2⟩:=List.pairwise_cons.1 hnd2;obtain ⟨ha1,ha2⟩:=hr a (by simp);have hfr:FitR w.c.queues a.name x:=(hf a.name ha1).2 a (by rw [dg,bj.2 rfl];rfl);obtain ⟨e,hst,ho⟩:=JX (a:=a) (prio:=x.req.prio) hv ha1 hs.vp hpr ha2 hfr.w (Mp hv hc hl hpL ha1 hfr.w) (Mo hc hl hpL);have hws:=WS.take (ev:=(bt w.c.queues x.proc a x.req.prio).2.1) hv hst;have hc2:∀r∈aO (bt w.c.queues x.proc a x.req.prio).1,r∈L:=fun r hr2=>by
   rcases hst.sub r hr2 with e|e
   ·rw [e];exact hpL
   ·exact hc r e
  have hres:=hst.out.res;have hfa:FitA (bt w.c.queues x.proc a x.req.prio).1 a.name x a.am:=by
   unfold FitA jn;rw [hres];have hh:=hfr.h;rcases ho.own with ⟨k1,k2⟩|⟨k1,k2⟩
   ·rw [hh] at k1;exact .inl ⟨k1,hfr.eq k2⟩
   ·rw [hh] at k1 k2;rcases k2 with ⟨k3,k4⟩|⟨k3,k4⟩
    ·exact .inr ⟨k1,.inr ⟨k3,k4,fun y hy hyp=>ho.pr y hy hyp⟩⟩
    ·exact .inr ⟨k1,.inl ⟨k3,k4⟩⟩
  have happ:pre++a :: l=(pre++[a])++l:=by simp
  have hat:∀n,cY (pre++a :: l) n=some a\/n≠a.name:=by
   intro n;by_cases e:n=a.name
   ·left
    subst e;unfold cY;rw [List.find?_append];have hpre:List.find? (fun b:Tm=>bC b.name a.name) pre=none:=by
     rw [List.find?_eq_none];intro b hb e2;exact (List.pairwise_append.1 hnd).2.2 b hb a (by simp) (bj.1 e2)
    rw [hpre,List.find?_cons,bj.2 rfl];rfl
   ·exact .inr e
  have ih:=Ba L hl l (pre++[a]) (w.take (bt w.c.queues x.proc a x.req.prio).1 (bt w.c.queues x.proc a x.req.prio).2.1) x hws.tp.v (hs.tp hws.tp) hpL hc2 hpr (by rw [<-happ];exact hnd) ((show Rsl w.c.queues l from fun b hb=>hr b (by simp [hb])).tp hws.tp) (fun n hn=>by
   rw [hws.tp.hasE] at hn;rw [<-happ];by_cases e:n=a.name
   ·subst e;refine ⟨fun _=>?_,fun b hb=>?_⟩
    ·unfold FitW;rcases hat a.name with h3|h3
     ·rw [h3];exact hfa
     ·exact absurd rfl h3
    ·have:=Gv hb;exact absurd this.2.symm (h1 b this.1)
   ·have e1:=hws.oth n e hn;have h3:=hf n hn;rw [dg,cd.2 (fun h=>e h.symm),qCf] at h3;exact ⟨fun h4=>FitW.eq (h3.1 h4) e1,fun b hb=>(h3.2 b hb).eq e1⟩)
  rw [<-happ] at ih;exact ⟨(hws.mono fun _ _=>trivial).trans ih.1,fun n hn=>ih.2.1 n (by rw [hws.tp.hasE];exact hn),ih.2.2⟩
theorem ED {r:Rs} {l j:Am} (hj:aS r j=true) (hc:bq r j l=true) (hne:j≠l) (hl:l=⟨0,0⟩\/aS r l=true):dX l j=true:=by
 unfold dX;rw [mX hj,qDf (fun e=>hne e.symm)];rcases hl with rfl|hl
 ·rfl
 ·rw [mX hl];have z:=eW hl;have zj:=eW hj;have hs:br r=true:=by unfold aS at hj;rw [qBa] at hj;exact hj.1
  unfold bq at hc;rw [dw hj,dw hl,z,zj] at hc;unfold aS at hl hj;simp only [Bool.true_and,Bool.false_or,Bool.not_false] at hc ⊢;rw [z,Bool.false_or];rcases cW hs with ⟨hk,_⟩|⟨hk,_⟩
  ·rw [if_pos hk] at hc hl;simp only [qBa,ik] at hl;rw [qDf (show ¬l.mode=0 by omega)];exact hc
  ·rw [if_neg (by omega)] at hc hl hj;simp only [qBa,decide_eq_true_eq] at hl hj hc;rw [qDt hl.2.1.1];simp only [Bool.not_true,qCf,decide_eq_true_eq];rcases Int.lt_or_eq_of_le hc with h|h
   ·exact h
   ·exfalso;apply hne
    obtain ⟨lm,lu⟩:=l;obtain ⟨jm,ju⟩:=j;dsimp only at *
    rw [hl.2.1.1,hj.2.1.1,h]
theorem Ik {l:List En} (h:Ents l):∀e∈l,aC l e.name≠⟨0,0⟩:=by
 refine pQ (P:=fun l=>∀e∈l,aC l e.name≠⟨0,0⟩) (fun e he=>absurd he (by simp)) ?_ l h;intro l e _ he ih f hf;have hu:∀a:Am,cr a=true->a≠⟨0,0⟩:=fun a ha e=>by rw [e] at ha;exact absurd ha (by decide)
 rw [lQ];rcases List.mem_append.1 hf with hf|hf
 ·cases bC e.name f.name with
  | true=>exact hu _ (pS he.gr).1
  | false=>exact ih f hf
 ·rw [List.mem_singleton] at hf;subst hf;rw [bj.2 rfl];exact hu _ (pS he.gr).1
theorem Bb {t:List Qu} {x:Pc} (hs:PStat t x):∀e∈x.led.entries,e.name∈ef t:=fun e he=>by
 obtain ⟨h1,_⟩:=hs.hf e.name (Ik hs.led.ents e he);obtain ⟨h2,h3⟩:=dK h1;exact List.mem_map.2 ⟨_,h2,h3⟩
theorem Il {t:List Qu} (hv:di t=true) {n:ByteArray} (hn:bd t n=true):dh n.toList=true:=by
 obtain ⟨h2,h3⟩:=dK hn;have h4:=(aP (cP hv h2)).res;unfold iB Rs.key at h4;rw [h3] at h4;simp only [qBa] at h4;exact h4.1.1.1
structure GrP (x y:Pc):Prop where
 proc:y.proc=x.proc
 ents:∃m,y.led.entries=x.led.entries++m
 svs:y.led.saves=x.led.saves
theorem GrP.refl (x:Pc):GrP x x:=⟨rfl,⟨[],by simp⟩,rfl⟩
theorem GrP.trans {x y z:Pc} (h:GrP x y) (k:GrP y z):GrP x z:=by
 obtain ⟨h1,⟨m,h2⟩,h3⟩:=h;obtain ⟨k1,⟨m',k2⟩,k3⟩:=k;exact ⟨k1.trans h1,⟨m++m',by rw [k2,h2,List.append_assoc]⟩,k3.trans h3⟩
structure LedOf (t:List Qu) (x y:Pc):Prop where
 eq:y = { x with led:=y.led }
 stat:PStat t y
 gr:GrP x y
theorem LedOf.proc {t:List Qu} {x y:Pc} (h:LedOf t x y):y.proc=x.proc:=by rw [h.eq]
theorem Gw {w:Wk} {i:Nat} {x y:Pc} {n:ByteArray} {a:Am} (hv:di w.c.queues=true) (hn:bd w.c.queues n=true) (hy:w.pc i=y) (hi:i<w.c.procs.length) (hl:LedOf w.c.queues x y) (hlh:fO y n=fO x n) (ha:aS (bf w.c.queues n).res a=true) (hf:FitA w.c.queues n x a)
  (hc:bq (bf w.c.queues n).res (ah (bf w.c.queues n).holds x.proc) a=true) :
  ∃y',gy w i x.proc n=w.setP i y'/\LedOf w.c.queues x y'/\FitR w.c.queues n y'/\∀m,m≠n->fO y' m=fO y m:=by
 have same:FitR w.c.queues n x->∃y',gy w i x.proc n=w.setP i y'/\LedOf w.c.queues x y'/\FitR w.c.queues n y'/\∀m,m≠n->fO y' m=fO y m:=by
  intro h;have h1:ah (bf w.c.queues n).holds x.proc=aC (w.pc i).led.entries n:=by rw [hy];exact h.h.trans hlh.symm
  refine ⟨y,?_,hl,⟨?_,?_⟩,fun _ _=>rfl⟩
  ·unfold gy;rw [qDt h1,qCt];unfold Wk.setP;have:w.c.procs.set i y=w.c.procs:=by
    apply List.ext_getElem
    ·simp
    ·intro j h1 h2;rw [List.getElem_set];split
     ·next e =>
      subst e;unfold Wk.pc at hy;rw [<-hy];simp [hi]
     ·rfl
   rw [this]
  ·rw [hl.proc];exact h.h.trans hlh.symm
  ·rw [hl.proc];exact h.w
 rcases hf with ⟨_,h⟩|⟨hc2,⟨h1,h2⟩|⟨h1,h2,_⟩⟩
 ·exact same h
 ·obtain ⟨j1,j2,_,j4⟩:=Mj (oc hv hn) ha hc2 (by rw [<-hlh];exact nk hl.stat n);have hne:ah (bf w.c.queues n).holds x.proc≠aC (w.pc i).led.entries n:=by rw [hy,h1,show aC y.led.entries n=fO x n from hlh];exact j4
  have hgr:dX (fO x n) (jn w.c.queues n x a)=true:=ED j1 j2 j4 (by rw [<-hlh];exact nk hl.stat n);obtain ⟨e1,e2⟩:=AT (g:=y.led) hl.stat.led (e:=⟨n,fO x n,jn w.c.queues n x a⟩) (Il hv hn) (by show fO x n=aC y.led.entries n;exact hlh.symm) hgr (ns:=ef w.c.queues) (by unfold ef;rw [List.length_map];exact (bi hv).1) (Bb hl.stat) (by obtain ⟨h3,h4⟩:=dK hn;exact List.mem_map.2 ⟨_,h3,h4⟩);have hlhn:∀m,aC (y.led.entries++[(⟨n,fO x n,jn w.c.queues n x a⟩:En)]) m=bif bC n m then jn w.c.queues n x a else fO y m:=fun m=>lQ _ _ _;refine ⟨{ y with led:=⟨y.led.entries++[⟨n,fO x n,jn w.c.queues n x a⟩],y.led.saves⟩ },?_,⟨?_,?_,hl.gr.trans ⟨rfl,⟨_,rfl⟩,rfl⟩⟩,⟨?_,?_⟩,fun m hm=>?_⟩
  ·unfold gy;rw [qDf hne,qCf,hy,h1,show aC y.led.entries n=fO x n from hlh,e1]
  ·have:=hl.eq;generalize y.led=g at *
   subst this;rfl
  ·have hst:=hl.stat;refine ⟨hst.vp,hst.cost,e2,hst.gen,fun m hm=>?_⟩;have h5:fO { y with led:=⟨y.led.entries++[⟨n,fO x n,jn w.c.queues n x a⟩],y.led.saves⟩ } m=bif bC n m then jn w.c.queues n x a else fO y m:=hlhn m;rw [h5] at hm ⊢;cases he:bC n m with
   | true =>
    have:=bj.1 he;subst this;exact ⟨hn,j1⟩
   | false =>
    rw [he] at hm;exact hst.hf m hm
  ·show ah (bf w.c.queues n).holds y.proc=aC _ n;rw [hl.proc,h1,hlhn,bj.2 rfl];rfl
  ·show aj (bf w.c.queues n) y.proc=none;rw [hl.proc];exact h2
  ·show aC _ m=_;rw [hlhn,cd.2 (fun e=>hm e.symm)];rfl
 ·rw [h1,hc2] at hc;cases hc
theorem fa {w:Wk} {i:Nat} (hi:i<w.c.procs.length) (x:Pc):(w.setP i x).pc i=x:=by
 unfold Wk.setP Wk.pc;simp [hi]
theorem fP (w:Wk) (i:Nat) (x y:Pc):(w.setP i x).setP i y=w.setP i y:=by
 unfold Wk.setP;simp
theorem LedOf.refl {t:List Qu} {x:Pc} (h:PStat t x):LedOf t x x:=⟨rfl,h,GrP.refl x⟩
theorem FitR.led {t:List Qu} {n:ByteArray} {x y:Pc} (h:FitR t n x) (hp:y.proc=x.proc) (hl:fO y n=fO x n):FitR t n y:=⟨by rw [hp,hl];exact h.h,by rw [hp];exact h.w⟩
def FinT (x:Pc) (i:Nat):List Tm->List Bool->Wk->Prop
 | a :: l,b :: bs,w=>di w.c.queues=true/\bd w.c.queues a.name=true/\i<w.c.procs.length/\FinT x i l bs (bif b then gy w i x.proc a.name else bH w x a.name)
 | _,_,_=>True
theorem qc:∀(l:List Tm) (bs:List Bool) (w:Wk) (i:Nat) (x y:Pc),l.length=bs.length->di w.c.queues=true->w.pc i=y->i<w.c.procs.length->PStat w.c.queues x->LedOf w.c.queues x y->(∀a∈l,fO y a.name=fO x a.name)->JY l->Rsl w.c.queues l->
  (∀n,bd w.c.queues n=true->(∀a,cY l n=some a->FitA w.c.queues n x a.am)/\(cY l n=none->FitR w.c.queues n y))->
  (∀k (h:k<l.length),bs.getD k false=true->bq (bf w.c.queues l[k].name).res (ah (bf w.c.queues l[k].name).holds x.proc) l[k].am=true)->
  ∃y',TP w.c.queues (bO x i l bs w).c.queues x.proc/\(bO x i l bs w).c.procs=w.c.procs.set i y'/\(bO x i l bs w).c.now=w.c.now/\LedOf (bO x i l bs w).c.queues x y'/\(∀n,bd w.c.queues n=true->FitR (bO x i l bs w).c.queues n y')/\FinT x i l bs w
 | [],bs,w,i,x,y,_,hv,hy,hi,_,hl,_,_,_,hf,_=>by
  have e:bO x i [] bs w=w:=by cases bs <;> rfl
  rw [e];refine ⟨y,TP.refl hv _,?_,rfl,hl,fun n hn=>(hf n hn).2 rfl,by cases bs <;> trivial⟩;apply List.ext_getElem
  ·simp
  ·intro j h1 h2;rw [List.getElem_set];split
   ·next e =>
    subst e;unfold Wk.pc at hy;rw [<-hy];simp [hi]
   ·rfl
 | a :: l,[],w,i,x,y,hlen,_,_,_,_,_,_,_,_,_,_=>by simp at hlen
 | a :: l,b :: bs,w,i,x,y,hlen,hv,hy,hi,hsx,hl,hlh,hnd,hr,hf,hc=>by
  obtain ⟨h1,h2⟩:=List.pairwise_cons.1 hnd;obtain ⟨ha1,ha2⟩:=hr a (by simp);have hfa:FitA w.c.queues a.name x a.am:=(hf a.name ha1).1 a (by rw [dg,bj.2 rfl];rfl);have hr2:Rsl w.c.queues l:=fun b hb=>hr b (by simp [hb]);have hat:∀n,n≠a.name->cY (a :: l) n=cY l n:=fun n hn=>by rw [dg,cd.2 (fun h=>hn h.symm)];rfl
  have hnone:cY l a.name=none:=iq.2 fun b hb e=>h1 b hb e.symm;cases b with
  | true =>
   obtain ⟨y1,e1,k1,k2,k3⟩:=Gw hv ha1 hy hi hl (hlh a (by simp)) ha2 hfa (by have:=hc 0 (by simp) (by simp);simpa using this);have e:bO x i (a :: l) (true :: bs) w=bO x i l bs (w.setP i y1):=by
    show bO x i l bs (bif true then gy w i x.proc a.name else bH w x a.name)=_;rw [qCt,e1]
   rw [e];have ih:=qc l bs (w.setP i y1) i x y1 (by simpa using hlen) hv (fa hi y1) (by show i<(w.c.procs.set i y1).length;simpa using hi) hsx k1 (fun b hb=>by rw [k3 _ (fun e=>h1 b hb e.symm)];exact hlh b (by simp [hb])) h2 hr2
    (fun n hn=>by
     by_cases en:n=a.name
     ·exact V9
     ·have h3:=hf n hn;rw [hat n en] at h3;exact ⟨h3.1,fun h4=>(h3.2 h4).led (by rw [k1.proc,hl.proc]) (k3 n en)⟩)
    (fun k hk hb=>by
     have h5:=hc (k+1) (by simpa using hk) (by simpa using hb);simp only [List.getElem_cons_succ] at h5;exact h5)
   obtain ⟨y',q1,q2,q3,q4,q5,q6⟩:=ih;refine ⟨y',q1,?_,q3,q4,q5,hv,ha1,hi,by rw [qCt,e1];exact q6⟩;rw [q2];show (w.c.procs.set i y1).set i y'=_;simp
  | false =>
   obtain ⟨k1,k2⟩:=qb hv ha1 hsx ha2 hfa;have e:bO x i (a :: l) (false :: bs) w=bO x i l bs (bH w x a.name):=rfl;rw [e];have ih:=qc l bs (bH w x a.name) i x y (by simpa using hlen) k1.tp.v (by unfold Wk.pc at hy ⊢;rw [k1.procs];exact hy) (by rw [k1.procs];exact hi) (hsx.tp k1.tp) ⟨hl.eq,hl.stat.tp k1.tp,hl.gr⟩ (fun b hb=>hlh b (by simp [hb])) h2 (hr2.tp k1.tp)
    (fun n hn=>by
     rw [k1.tp.hasE] at hn;by_cases en:n=a.name
     ·exact VA
     ·have h3:=hf n hn;rw [hat n en] at h3;have e1:=k1.oth n en hn;exact ⟨fun b hb=>(h3.1 b hb).eq e1,fun h4=>(h3.2 h4).eq e1⟩)
    (fun k hk hb=>by
     have h5:=hc (k+1) (by simpa using hk) (by simpa using hb);simp only [List.getElem_cons_succ] at h5;have hm:l[k]∈l:=List.getElem_mem hk;rw [k1.oth l[k].name (fun e=>h1 _ hm e.symm) (hr2 _ hm).1];exact h5)
   obtain ⟨y',q1,q2,q3,q4,q5,q6⟩:=ih;exact ⟨y',k1.tp.trans q1,by rw [q2,k1.procs],q3.trans k1.now,q4,fun n hn=>q5 n (by rw [k1.tp.hasE];exact hn),hv,ha1,hi,q6⟩
theorem pd (x:Ex) (L:List Tm):∀(n:Nat) (out:List Bool) (k:Nat),(c9 x L n out).getD k false=true->out.getD k false=true
 | 0,_,_,h=>h
 | n+1,out,k,h=>by
  have h1:=pd x L n _ k h;cases hb:out.getD n false with
  | false=>rw [hb] at h1;exact h1
  | true =>
   rw [hb,qCt] at h1;by_cases hk:k=n
   ·subst hk;exact hb
   ·rw [List.getD_eq_getElem?_getD,List.getElem?_set_ne (fun e=>hk e.symm),<-List.getD_eq_getElem?_getD] at h1;exact h1
theorem pe (x:Ex) (L:List Tm):∀(n:Nat) (out:List Bool),(c9 x L n out).length=out.length
 | 0,_=>rfl
 | n+1,out=>by
  unfold c9;rw [pe x L n];cases out.getD n false <;> simp
theorem gD (x:Ex) (set:List Bool):(bz x set).length=(bJ x).length:=by
 unfold bz;cases cM x set with
 | true=>rw [qCt,pe];simp
 | false=>simp
theorem oe {x:Ex} {set:List Bool} {k:Nat} (h:(bz x set).getD k false=true):set.getD k false=true:=by
 unfold bz at h;cases hh:cM x set with
 | true =>
  rw [hh,qCt] at h;have h1:=pd x (bJ x) _ _ k h;rw [List.getD_eq_getElem?_getD,List.getElem?_map] at h1;by_cases hk:k<(bJ x).length
  ·rw [List.getElem?_range hk] at h1;exact h1
  ·rw [List.getElem?_eq_none (by simpa using hk)] at h1;cases h1
 | false =>
  rw [hh,qCf,List.getD_eq_getElem?_getD] at h;by_cases hk:k<(bJ x).length
  ·rw [List.getElem?_replicate,if_pos hk] at h;cases h
  ·rw [List.getElem?_replicate,if_neg hk] at h;cases h
theorem Mq {x:Ex} (h:kv x=true):JY (bJ x):=by
 have h1:=(oK h).2.2;unfold bJ;rw [h,qCt];unfold kv at h;simp only [qBa,decide_eq_true_eq] at h;exact h.2.2.2
theorem j7 (x:Ex):JY (bJ x):=by
 cases h:kv x with
 | true=>exact Mq h
 | false=>rw [sd h];exact List.Pairwise.nil
structure CI (c:Cs):Prop where
 now:0<=c.now/\c.now<=1073741824
 tv:di c.queues=true
 len:c.procs.length<=8
 asc:(c.procs.map (·.proc)).Pairwise g7
 cov:∀r∈aO c.queues,r∈c.procs.map (·.proc)
 inv:∀x∈c.procs,PInv c.queues c.now x
theorem bh {w:Wk} {i:Nat} (hi:i<w.c.procs.length):w.pc i=w.c.procs[i]:=by unfold Wk.pc;simp [hi]
theorem np {c:Cs} (h:CI c) {i j:Nat} (hi:i<c.procs.length) (hj:j<c.procs.length) (hij:i≠j):c.procs[i].proc≠c.procs[j].proc:=by
 intro e;have hp:=List.pairwise_iff_getElem.1 h.asc;rcases Nat.lt_or_gt_of_ne hij with hlt|hlt
 ·have:=hp i j (by simpa using hi) (by simpa using hj) hlt;simp only [List.getElem_map] at this;rw [e] at this;exact co _ this
 ·have:=hp j i (by simpa using hj) (by simpa using hi) hlt;simp only [List.getElem_map] at this;rw [e] at this;exact co _ this
theorem CI.upd {c c':Cs} (h:CI c) {i:Nat} (hi:i<c.procs.length) {y:Pc} (hp:c'.procs=c.procs.set i y) (hn:c'.now=c.now) (hyp:y.proc=c.procs[i].proc) (ht:TP c.queues c'.queues y.proc) (hy:PInv c'.queues c'.now y):CI c':=by
 have hm:c'.procs.map (·.proc)=c.procs.map (·.proc):=by
  rw [hp,List.map_set,hyp];apply List.ext_getElem
  ·simp
  ·intro j h1 h2;rw [List.getElem_set];split
   ·next e=>subst e;simp
   ·rfl
 refine ⟨by rw [hn];exact h.now,ht.v,by rw [hp];simpa using h.len,by rw [hm];exact h.asc,fun r hr=>?_,fun x hx=>?_⟩
 ·rw [hm];rcases ht.sub r hr with e|e
  ·rw [e,hyp];exact List.mem_map.2 ⟨_,List.getElem_mem hi,rfl⟩
  ·exact h.cov r e
 ·rw [hp] at hx;obtain ⟨j,hj,e⟩:=List.mem_iff_getElem.1 hx;rw [List.getElem_set] at e;have hj2:j<c.procs.length:=by simpa using hj
  split at e
  ·subst e;exact hy
  ·next hij =>
   subst e;have h1:=h.inv _ (List.getElem_mem hj2);rw [<-hn] at h1;exact h1.tp ht (by rw [hyp];exact np h hj2 hi (fun e=>hij e.symm))
def ct (l:List Pc):Nat:=(l.filter (·.waiting)).length
theorem Bc {l:List Pc} {i:Nat} (hi:i<l.length) {y:Pc} (h1:l[i].waiting=true) (h2:y.waiting=false):ct (l.set i y)+1=ct l:=by
 unfold ct;induction l generalizing i with
 | nil=>simp at hi
 | cons x l ih =>
  cases i with
  | zero =>
   have h1':x.waiting=true:=h1;rw [List.set_cons_zero,List.filter_cons,List.filter_cons,if_neg (by rw [h2];simp),if_pos h1'];rfl
  | succ i =>
   have:=ih (i:=i) (by simpa using hi) (by simpa using h1);rw [List.set_cons_succ,List.filter_cons,List.filter_cons];cases x.waiting with
   | true=>rw [if_pos rfl,if_pos rfl,List.length_cons,List.length_cons];omega
   | false=>rw [if_neg (by simp),if_neg (by simp)];exact this
theorem gj (l:List Pc):ct l<=l.length:=List.length_filter_le _ _
theorem EE {t:List Qu} {now:Int} {y:Pc} (hs:PStat t y) (hf:∀n,bd t n=true->FitR t n y):PInv t now { y with waiting:=false,req:=Rq.zero,since:=0 } :=
 ⟨⟨hs.vp,hs.cost,hs.led,hs.gen,hs.hf⟩,fun _=>⟨rfl,rfl,fun n hn=>⟨(hf n hn).h,(hf n hn).w⟩⟩,fun h=>by cases h⟩
theorem PInv.regen {t:List Qu} {now:Int} {y:Pc} (h:PInv t now y) (g:Int):PInv t now { y with gen:=bc g } :=
 ⟨⟨h.stat.vp,h.stat.cost,h.stat.led,by have:=pK (n:=g);show 0<=bc g/\bc g<=1073741824;omega,h.stat.hf⟩,fun hw=>by
  obtain ⟨h1,h2,h3⟩:=h.run hw;exact ⟨h1,h2,fun n hn=>⟨(h3 n hn).h,(h3 n hn).w⟩⟩,fun hw=>by
  obtain ⟨h1,h2⟩:=h.wat hw;refine ⟨⟨h1.rq,h1.rs,h1.sn⟩,fun n hn=>?_⟩;have:=h2 n hn;unfold FitW at this ⊢;cases ha:cY (bJ y.req.expr) n with
  | none=>rw [ha] at this;exact ⟨this.h,this.w⟩
  | some a =>
   rw [ha] at this;rcases this with ⟨k1,k2⟩|k
   ·exact .inl ⟨k1,k2.h,k2.w⟩
   ·exact .inr k⟩
theorem nr {t:List Qu} {x:Ex} (h:fW t x=0):kv x=true/\Rsl t (bJ x):=by
 unfold fW at h;cases hv:kv x with
 | false=>rw [hv] at h;cases h
 | true =>
  rw [hv] at h;exact ⟨rfl,sC.1 h⟩
def KW (l l':List Pc):Prop:=∀x∈l',x.waiting=true->x∈l
theorem KW.refl (l:List Pc):KW l l:=fun _ h _=>h
theorem KW.trans {a b c:List Pc} (h:KW a b) (k:KW b c):KW a c:=fun x hx hw=>h x (k x hx hw) hw
theorem KW.set {l:List Pc} {i:Nat} {y:Pc} (hy:y.waiting=false):KW l (l.set i y):=fun x hx hw=>by
 rcases List.mem_or_eq_of_mem_set hx with h|rfl
 ·exact h
 ·rw [hy] at hw;cases hw
def KG (l l':List Pc):Prop:=∀x∈l,∃x'∈l',GrP x x'
theorem KG.refl (l:List Pc):KG l l:=fun x h=>⟨x,h,GrP.refl x⟩
theorem KG.trans {a b c:List Pc} (h:KG a b) (k:KG b c):KG a c:=fun x hx=>by
 obtain ⟨y,hy,h1⟩:=h x hx;obtain ⟨z,hz,h2⟩:=k y hy;exact ⟨z,hz,h1.trans h2⟩
theorem KG.set {l:List Pc} {i:Nat} (hi:i<l.length) {y:Pc} (hy:GrP l[i] y):KG l (l.set i y):=fun x hx=>by
 obtain ⟨j,hj,e⟩:=List.mem_iff_getElem.1 hx;by_cases hji:j=i
 ·subst hji;exact ⟨y,List.mem_iff_getElem.2 ⟨j,by simpa using hj,by simp⟩,by rw [<-e];exact hy⟩
 ·exact Wc
structure KN (l l':List Pc):Prop where
 nw:∀x∈l,x.waiting=false->x∈l'
 gr:KG l l'
theorem KN.refl (l:List Pc):KN l l:=⟨fun _ h _=>h,KG.refl l⟩
theorem KN.trans {a b c:List Pc} (h:KN a b) (k:KN b c):KN a c:=⟨fun x hx hw=>k.nw x (h.nw x hx hw) hw,h.gr.trans k.gr⟩
theorem KN.set {l:List Pc} {i:Nat} (hi:i<l.length) (hw:l[i].waiting=true) {y:Pc} (hy:GrP l[i] y):KN l (l.set i y):=⟨fun x hx hxw=>by
 obtain ⟨j,hj,e⟩:=List.mem_iff_getElem.1 hx;have hji:j≠i:=fun e2=>by subst e2;rw [e,hxw] at hw;cases hw
 refine List.mem_iff_getElem.2 ⟨j,by simpa using hj,?_⟩;rw [List.getElem_set_ne (fun e2=>hji e2.symm)];exact e,KG.set hi hy⟩
theorem Cv {w:Wk} {i:Nat} (h:CI w.c) (hi:i<w.c.procs.length) (hw:(w.pc i).waiting=true) :
  CI (eJ w i).c/\ct (eJ w i).c.procs+1=ct w.c.procs/\(eJ w i).c.procs.length=w.c.procs.length/\(eJ w i).c.now=w.c.now/\KW w.c.procs (eJ w i).c.procs/\(eJ w i).c.procs.map (·.proc)=w.c.procs.map (·.proc)/\KN w.c.procs (eJ w i).c.procs/\ef (eJ w i).c.queues=ef w.c.queues/\FinT (w.pc i) i (bJ (w.pc i).req.expr) (bz (w.pc i).req.expr (bk w.c.queues (w.pc i).proc (w.pc i).req.expr)) (w.note 2 (w.pc i).proc):=by
 have hpc:=bh hi;have hinv:=h.inv _ (List.getElem_mem hi);rw [<-hpc] at hinv;obtain ⟨hwt,hfit⟩:=hinv.wat hw;obtain ⟨hve,hrsl⟩:=nr hwt.rs;obtain ⟨y',q1,q2,q3,q4,q5,q6⟩:=qc (bJ (w.pc i).req.expr) (bz (w.pc i).req.expr (bk w.c.queues (w.pc i).proc (w.pc i).req.expr)) (w.note 2 (w.pc i).proc) i (w.pc i) (w.pc i) (gD _ _).symm h.tv rfl hi hinv.stat (LedOf.refl hinv.stat) (fun _ _=>rfl) (j7 _) hrsl
  (fun n hn=>by
   have:=hfit n hn;unfold FitW at this;exact ⟨fun a ha=>by rw [ha] at this;exact this,fun ha=>by rw [ha] at this;exact this⟩)
  (fun k hk hb=>by
   have h1:=oe hb;unfold bk at h1;rw [List.getD_eq_getElem?_getD,List.getElem?_map,qGg hk] at h1;have h2:(bd w.c.queues (bJ (w.pc i).req.expr)[k].name && bq (bf w.c.queues (bJ (w.pc i).req.expr)[k].name).res (ah (bf w.c.queues (bJ (w.pc i).req.expr)[k].name).holds (w.pc i).proc) (bJ (w.pc i).req.expr)[k].am)=true:=h1;rw [qBa] at h2;exact h2.2)
 have e:∀g:Wk,bO (w.pc i) i (bJ (w.pc i).req.expr) (bz (w.pc i).req.expr (bk w.c.queues (w.pc i).proc (w.pc i).req.expr)) (w.note 2 (w.pc i).proc)=g->eJ w i=aZ (dO g i) i:=fun g hg=>by unfold eJ;rw [hg]
 generalize hg:bO (w.pc i) i (bJ (w.pc i).req.expr) (bz (w.pc i).req.expr (bk w.c.queues (w.pc i).proc (w.pc i).req.expr)) (w.note 2 (w.pc i).proc)=g at *
 rw [e g rfl];have q2':g.c.procs=w.c.procs.set i y':=q2;have hgi:i<g.c.procs.length:=by rw [q2'];simpa using hi
 have hgp:g.pc i=y':=by rw [bh hgi];simp [q2']
 have hproc:y'.proc=w.c.procs[i].proc:=by rw [q4.proc,hpc]
 have e2:aZ (dO g i) i=g.setP i { y' with waiting:=false,req:=Rq.zero,since:=0,gen:=bc y'.gen }:=by
  unfold aZ dO;rw [hgp,fa hgi,fP]
 rw [e2];have hfin:PInv g.c.queues g.c.now { y' with waiting:=false,req:=Rq.zero,since:=0,gen:=bc y'.gen } :=
  (EE q4.stat (fun n hn=>q5 n (by have:=q1.hasE n;rw [this] at hn;exact hn)):PInv g.c.queues g.c.now { y' with waiting:=false,req:=Rq.zero,since:=0 }).regen y'.gen
 have hps:(g.setP i { y' with waiting:=false,req:=Rq.zero,since:=0,gen:=bc y'.gen }).c.procs=w.c.procs.set i { y' with waiting:=false,req:=Rq.zero,since:=0,gen:=bc y'.gen }:=by
  show g.c.procs.set i _=_;rw [q2',List.set_set]
 have hn:g.c.now=w.c.now:=q3;have hmap:(w.c.procs.set i { y' with waiting:=false,req:=Rq.zero,since:=0,gen:=bc y'.gen }).map (·.proc)=w.c.procs.map (·.proc):=by
  rw [List.map_set];apply List.ext_getElem
  ·simp
  ·intro j h1 h2;rw [List.getElem_set];split
   ·next e=>subst e;simp [hproc]
   ·rfl
 refine ⟨h.upd hi hps hn hproc ?_ hfin,?_,by rw [hps];simp,hn,by rw [hps];exact KW.set rfl,by rw [hps];exact hmap,by rw [hps];exact KN.set hi (by rw [<-hpc];exact hw) (by rw [<-hpc];exact ⟨q4.gr.proc,q4.gr.ents,q4.gr.svs⟩),q1.nm,q6⟩
 ·have:y'.proc=(w.pc i).proc:=q4.proc;show TP w.c.queues g.c.queues y'.proc;rw [this];exact q1
 ·rw [hps];exact Bc hi (by rw [<-hpc];exact hw) rfl
theorem gA {t:List Qu}:∀{l:List Pc} {k i:Nat},dF t k l=some i->∃j,∃h:j<l.length,i=k+j/\dU t l[j]=true
 | [],_,_,h=>by cases h
 | x :: l,k,i,h=>by
  unfold dF at h;cases hs:dU t x with
  | true =>
   rw [hs,qCt] at h;injection h with h;exact ⟨0,by simp,by omega,hs⟩
  | false =>
   rw [hs,qCf] at h;obtain ⟨j,hj,e,h2⟩:=gA h;exact ⟨j+1,by simpa using hj,by omega,by simpa using h2⟩
theorem yM {t:List Qu}:∀{l:List Pc} {k:Nat},dF t k l=none->∀x∈l,dU t x=false
 | [],_,_,x,hx=>absurd hx (by simp)
 | y :: l,k,h,x,hx=>by
  unfold dF at h;cases hs:dU t y with
  | true=>rw [hs] at h;cases h
  | false =>
   rw [hs,qCf] at h;rcases List.mem_cons.1 hx with rfl|hx
   ·exact hs
   ·exact yM h x hx
theorem jo {l:List Pc} {i:Nat} (hi:i<l.length) (h:l[i].waiting=true):0<ct l:=by
 unfold ct;exact List.length_pos_of_mem (List.mem_filter.2 ⟨List.getElem_mem hi,h⟩)
theorem yN:∀(n:Nat) (w:Wk),CI w.c->ct w.c.procs<=n->CI (aK n w).c/\(∀x∈(aK n w).c.procs,dU (aK n w).c.queues x=false)/\(aK n w).c.procs.map (·.proc)=w.c.procs.map (·.proc)/\(aK n w).c.now=w.c.now/\ct (aK n w).c.procs<=ct w.c.procs/\KW w.c.procs (aK n w).c.procs/\KN w.c.procs (aK n w).c.procs/\ef (aK n w).c.queues=ef w.c.queues
 | 0,w,h,hn=>by
  refine ⟨h,fun x hx=>?_,rfl,rfl,Nat.le_refl _,KW.refl _,KN.refl _,rfl⟩;cases hw:x.waiting with
  | false=>unfold dU;rw [hw];rfl
  | true =>
   obtain ⟨i,hi,e⟩:=List.mem_iff_getElem.1 hx;have:=jo hi (by rw [e];exact hw);have hn':ct w.c.procs<=0:=hn;have this':0<ct w.c.procs:=this;omega
 | n+1,w,h,hn=>by
  unfold aK;cases hs:dF w.c.queues 0 w.c.procs with
  | none=>exact ⟨h,yM hs,rfl,rfl,Nat.le_refl _,KW.refl _,KN.refl _,rfl⟩
  | some i =>
   obtain ⟨j,hj,e,h2⟩:=gA hs;have e':i=j:=by omega
   subst e';have hwt:(w.pc i).waiting=true:=by
    rw [bh hj];unfold dU at h2;rw [qBa] at h2;exact h2.1
   obtain ⟨k1,k2,k3,k4,k5,k6,k7,k8,_⟩:=Cv h hj hwt;obtain ⟨l1,l2,l3,l4,l5,l6,l7,l8⟩:=yN n (eJ w i) k1 (by omega);exact ⟨l1,l2,l3.trans k6,l4.trans k4,Nat.le_trans l5 (by omega),k5.trans l6,k7.trans l7,l8.trans k8⟩
theorem ir {w:Wk} (h:CI w.c):CI (bw w).c/\(∀x∈(bw w).c.procs,dU (bw w).c.queues x=false)/\(bw w).c.procs.map (·.proc)=w.c.procs.map (·.proc)/\(bw w).c.now=w.c.now/\ct (bw w).c.procs<=ct w.c.procs/\KW w.c.procs (bw w).c.procs/\KN w.c.procs (bw w).c.procs/\ef (bw w).c.queues=ef w.c.queues :=
 yN _ w h (gj _)
structure Kp (w w':Wk):Prop where
 kw:KW w.c.procs w'.c.procs
 now:w'.c.now=w.c.now
 pr:w'.c.procs.map (·.proc)=w.c.procs.map (·.proc)
 nm:ef w'.c.queues=ef w.c.queues
theorem Kp.trans {a b c:Wk} (h:Kp a b) (k:Kp b c):Kp a c:=⟨h.kw.trans k.kw,k.now.trans h.now,k.pr.trans h.pr,k.nm.trans h.nm⟩
theorem Kp.len {a b:Wk} (h:Kp a b):b.c.procs.length=a.c.procs.length:=by have:=congrArg List.length h.pr;simpa using this
theorem gE {w:Wk} (h:CI w.c):CI (bw w).c/\(∀x∈(bw w).c.procs,dU (bw w).c.queues x=false)/\Kp w (bw w):=by
 obtain ⟨h1,h2,h3,h4,_,h6,_,h8⟩:=ir h;exact ⟨h1,h2,h6,h4,h3,h8⟩
theorem jp {w:Wk} (h:CI w.c):KN w.c.procs (bw w).c.procs:=(ir h).2.2.2.2.2.2.1
def KO (p:Pr) (l l':List Pc):Prop:=∀x∈l,x.proc≠p->∃x'∈l',GrP x x'
theorem KO.then {p:Pr} {a b c:List Pc} (h:KO p a b) (k:KG b c):KO p a c:=fun x hx hp=>by
 obtain ⟨y,hy,h1⟩:=h x hx hp;obtain ⟨z,hz,h2⟩:=k y hy;exact ⟨z,hz,h1.trans h2⟩
theorem KO.pre {p:Pr} {a b c:List Pc} (h:KG a b) (k:KO p b c):KO p a c:=fun x hx hp=>by
 obtain ⟨y,hy,h1⟩:=h x hx;obtain ⟨z,hz,h2⟩:=k y hy (by rw [h1.proc];exact hp);exact ⟨z,hz,h1.trans h2⟩
theorem KO.set {p:Pr} {l:List Pc} {i:Nat} (hi:i<l.length) (hp:l[i].proc=p) (y:Pc):KO p l (l.set i y):=fun x hx hxp=>by
 obtain ⟨j,hj,e⟩:=List.mem_iff_getElem.1 hx;have hji:j≠i:=fun e2=>by subst e2;rw [e] at hp;exact hxp hp
 exact Wc
theorem GrP.led {x y:Pc} (hp:y.proc=x.proc) (hl:y.led=x.led):GrP x y:=⟨hp,⟨[],by rw [hl];simp⟩,by rw [hl]⟩
theorem Cw {w:Wk} {i:Nat} (hi:i<w.c.procs.length):KG w.c.procs (aZ w i).c.procs:=by
 have hps:(aZ w i).c.procs=w.c.procs.set i { w.pc i with gen:=bc (w.pc i).gen }:=rfl;rw [hps];exact KG.set hi (GrP.led (by rw [bh hi]) (by rw [bh hi]))
theorem gZ {l:List Pc} {i:Nat} (hi:i<l.length) {y:Pc} (hp:y.proc=l[i].proc):(l.set i y).map (·.proc)=l.map (·.proc):=by
 rw [List.map_set];apply List.ext_getElem
 ·simp
 ·intro j h1 h2;rw [List.getElem_set];split
  ·next e=>subst e;simp [hp]
  ·rfl
theorem b9 {w:Wk} {i:Nat} (h:CI w.c) (hi:i<w.c.procs.length) (hw:(w.pc i).waiting=true) :
  CI (ai w i).c/\ct (ai w i).c.procs+1=ct w.c.procs/\Kp w (ai w i)/\(ai w i).c.procs=w.c.procs.set i { w.pc i with waiting:=false,req:=Rq.zero,since:=0 }/\∀n,bd (ai w i).c.queues n=true->FitR (ai w i).c.queues n (w.pc i):=by
 have hpc:=bh hi;have hinv:=h.inv _ (List.getElem_mem hi);rw [<-hpc] at hinv;obtain ⟨hwt,hfit⟩:=hinv.wat hw;obtain ⟨hve,hrsl⟩:=nr hwt.rs;obtain ⟨hws,hfr,hdt⟩:=yJ (bJ (w.pc i).req.expr) w (w.pc i) h.tv hinv.stat (j7 _) hrsl hfit;have e:ai w i=dO (cS (w.pc i) (bJ (w.pc i).req.expr) w) i:=rfl;generalize hg:cS (w.pc i) (bJ (w.pc i).req.expr) w=g at *
 rw [e];have hgi:i<g.c.procs.length:=by rw [hws.procs];exact hi
 have hgp:g.pc i=w.pc i:=by unfold Wk.pc;rw [hws.procs]
 have hps:(dO g i).c.procs=w.c.procs.set i { w.pc i with waiting:=false,req:=Rq.zero,since:=0 }:=by
  unfold dO Wk.setP;rw [hgp];show g.c.procs.set i _=_;rw [hws.procs]
 have hfin:PInv g.c.queues g.c.now { w.pc i with waiting:=false,req:=Rq.zero,since:=0 }:=EE (hinv.stat.tp hws.tp) fun n hn=>hfr n (by rw [hws.tp.hasE] at hn;exact hn);refine ⟨h.upd (c':=(dO g i).c) hi hps hws.now (by rw [hpc]) hws.tp hfin,?_,⟨by rw [hps];exact KW.set rfl,hws.now,by rw [hps];exact gZ hi (by rw [hpc]),hws.tp.nm⟩,hps,fun n hn=>hfr n (by
  have h5:bd g.c.queues n=true:=hn;rw [hws.tp.hasE] at h5;exact h5)⟩
 rw [hps];exact Bc hi (by rw [<-hpc];exact hw) rfl
theorem eL {w:Wk} {i:Nat} (h:CI w.c) (hi:i<w.c.procs.length) (hw:(w.pc i).waiting=false):CI (aZ w i).c/\Kp w (aZ w i)/\ct (aZ w i).c.procs=ct w.c.procs:=by
 have hpc:=bh hi;have hinv:=h.inv _ (List.getElem_mem hi);rw [<-hpc] at hinv;have hps:(aZ w i).c.procs=w.c.procs.set i { w.pc i with gen:=bc (w.pc i).gen }:=rfl;refine ⟨h.upd (c':=(aZ w i).c) hi hps rfl (by rw [hpc]) (TP.refl h.tv _) (hinv.regen _),⟨by rw [hps];exact KW.set hw,rfl,by rw [hps];exact gZ hi (by rw [hpc]),rfl⟩,?_⟩;rw [hps];unfold ct;have gen:∀(l:List Pc) (i:Nat) (y:Pc),(∀h:i<l.length,l[i].waiting=y.waiting)->((l.set i y).filter (·.waiting)).length=(l.filter (·.waiting)).length:=by
  intro l;induction l with
  | nil=>intro i y _;rfl
  | cons x l ih =>
   intro i y hxy;cases i with
   | zero =>
    have:x.waiting=y.waiting:=hxy (by simp);rw [List.set_cons_zero,List.filter_cons,List.filter_cons,this];cases y.waiting <;> rfl
   | succ i =>
    have:=ih i y (fun h=>by have:=hxy (by simpa using h);simpa using this);rw [List.set_cons_succ,List.filter_cons,List.filter_cons];cases x.waiting with
    | true=>rw [if_pos rfl,if_pos rfl,List.length_cons,List.length_cons,this]
    | false=>rw [if_neg (by simp),if_neg (by simp),this]
 exact gen _ _ _ fun h=>by rw [<-hpc]
theorem lY {w:Wk} {i:Nat} (h:CI w.c) (hi:i<w.c.procs.length) (hw:(w.pc i).waiting=true):DrT (w.pc i) (bJ (w.pc i).req.expr) w:=by
 have hpc:=bh hi;have hinv:=h.inv _ (List.getElem_mem hi);rw [<-hpc] at hinv;obtain ⟨hwt,hfit⟩:=hinv.wat hw;obtain ⟨hve,hrsl⟩:=nr hwt.rs;exact (yJ (bJ (w.pc i).req.expr) w (w.pc i) h.tv hinv.stat (j7 _) hrsl hfit).2.2
def KC (w:Wk) (i:Nat) (r:Rq):Wk:=aZ (w.setP i { w.pc i with waiting:=true,req:=r,since:=w.c.now }) i
def zY (w:Wk) (i:Nat) (r:Rq):Wk:=cO (w.pc i).proc r.prio (bJ r.expr) (KC w i r)
theorem iM {w:Wk} {i:Nat} {r:Rq} (h:CI w.c) (hi:i<w.c.procs.length) (hw:(w.pc i).waiting=false) (hq:m6 r=true) (hr:fW w.c.queues r.expr=0) :
  CI (zY w i r).c/\(zY w i r).c.procs=w.c.procs.set i { w.pc i with waiting:=true,req:=r,since:=w.c.now,gen:=bc (w.pc i).gen }/\(zY w i r).c.now=w.c.now/\ef (zY w i r).c.queues=ef w.c.queues:=by
 have hpc:=bh hi;unfold zY KC;have hinv:=h.inv _ (List.getElem_mem hi);rw [<-hpc] at hinv;obtain ⟨_,_,hrun⟩:=hinv.run hw;obtain ⟨hve,hrsl⟩:=nr hr;have hx:aZ (w.setP i { w.pc i with waiting:=true,req:=r,since:=w.c.now }) i=w.setP i { w.pc i with waiting:=true,req:=r,since:=w.c.now,gen:=bc (w.pc i).gen }:=by
  unfold aZ;rw [fa hi,fP]
 rw [hx];have hst:PStat w.c.queues { w.pc i with waiting:=true,req:=r,since:=w.c.now,gen:=bc (w.pc i).gen }:=⟨hinv.stat.vp,hinv.stat.cost,hinv.stat.led,by have:=pK (n:=(w.pc i).gen);show 0<=bc (w.pc i).gen/\bc (w.pc i).gen<=1073741824;omega,hinv.stat.hf⟩;have hprio:0<=r.prio/\r.prio<=7:=by unfold m6 at hq;simp only [qBa,decide_eq_true_eq] at hq;exact ⟨hq.1.1.1.2,hq.1.1.2⟩
 obtain ⟨hws,hfw,_⟩:=Ba (w.c.procs.map (fun x:Pc=>x.proc)) (by simpa using h.len) (bJ r.expr) [] (w.setP i { w.pc i with waiting:=true,req:=r,since:=w.c.now,gen:=bc (w.pc i).gen }) { w.pc i with waiting:=true,req:=r,since:=w.c.now,gen:=bc (w.pc i).gen } h.tv hst (List.mem_map.2 ⟨_,List.getElem_mem hi,by rw [<-hpc]⟩) h.cov hprio (j7 _) hrsl
  (fun n hn=>by
   have h1:FitR w.c.queues n { w.pc i with waiting:=true,req:=r,since:=w.c.now,gen:=bc (w.pc i).gen }:=(hrun n hn).led rfl rfl;refine ⟨fun h2=>?_,fun a _=>h1⟩;unfold FitW;rw [List.nil_append,h2];exact h1)
 rw [List.nil_append] at hfw;have e:cO (w.pc i).proc r.prio (bJ r.expr) (w.setP i { w.pc i with waiting:=true,req:=r,since:=w.c.now,gen:=bc (w.pc i).gen })=cO ({ w.pc i with waiting:=true,req:=r,since:=w.c.now,gen:=bc (w.pc i).gen }:Pc).proc ({ w.pc i with waiting:=true,req:=r,since:=w.c.now,gen:=bc (w.pc i).gen }:Pc).req.prio (bJ r.expr) (w.setP i { w.pc i with waiting:=true,req:=r,since:=w.c.now,gen:=bc (w.pc i).gen }):=rfl;rw [e];generalize cO ({ w.pc i with waiting:=true,req:=r,since:=w.c.now,gen:=bc (w.pc i).gen }:Pc).proc ({ w.pc i with waiting:=true,req:=r,since:=w.c.now,gen:=bc (w.pc i).gen }:Pc).req.prio (bJ r.expr) (w.setP i { w.pc i with waiting:=true,req:=r,since:=w.c.now,gen:=bc (w.pc i).gen })=g at *
 have hps:g.c.procs=w.c.procs.set i { w.pc i with waiting:=true,req:=r,since:=w.c.now,gen:=bc (w.pc i).gen }:=hws.procs;have hnow:g.c.now=w.c.now:=hws.now;have hpv:PInv g.c.queues g.c.now { w.pc i with waiting:=true,req:=r,since:=w.c.now,gen:=bc (w.pc i).gen }:=by
  refine ⟨hst.tp hws.tp,fun hf=>(by cases hf),fun _=>⟨⟨hq,?_,?_⟩,fun n hn=>?_⟩⟩
  ·rw [Ii hws.tp];exact hr
  ·rw [hnow];exact ⟨h.now.1,Int.le_refl _⟩
  ·exact hfw n (by rw [hws.tp.hasE] at hn;exact hn)
 have hci:=h.upd (c':=g.c) hi hps hnow (by rw [hpc]) hws.tp hpv;exact ⟨hci,hps,hnow,hws.tp.nm⟩
theorem jD {w:Wk} {i:Nat} {r:Rq} (h:CI w.c) (hi:i<w.c.procs.length) (he:(bX w i r).2=0) :
  CI (bX w i r).1.c/\(∀x∈(bX w i r).1.c.procs,dU (bX w i r).1.c.queues x=false)/\(bX w i r).1.c.now=w.c.now/\(bX w i r).1.c.procs.map (·.proc)=w.c.procs.map (·.proc)/\(∀x∈(bX w i r).1.c.procs,x.waiting=true->x∈w.c.procs\/(x = { w.pc i with waiting:=true,req:=r,since:=w.c.now,gen:=bc (w.pc i).gen }))/\KG w.c.procs (bX w i r).1.c.procs/\ef (bX w i r).1.c.queues=ef w.c.queues:=by
 unfold bX at he ⊢;cases hw:(w.pc i).waiting with
 | true=>rw [hw] at he;simp at he
 | false =>
  rw [hw] at he;simp only [qCf] at he ⊢;cases hq:m6 r with
  | false=>rw [hq] at he;simp at he
  | true =>
   rw [hq] at he;simp only [Bool.not_true,qCf] at he ⊢;by_cases hr:fW w.c.queues r.expr=0
   ·rw [qDt hr];simp only [Bool.not_true,qCf];have hpc:=bh hi;obtain ⟨hci,hps,hnow,hnm⟩:=iM h hi hw hq hr;have e:cO (w.pc i).proc r.prio (bJ r.expr) (aZ (w.setP i { w.pc i with waiting:=true,req:=r,since:=w.c.now }) i)=zY w i r:=rfl;rw [e];generalize zY w i r=g at *
    obtain ⟨k1,k2,k3⟩:=gE hci;refine ⟨k1,k2,k3.now.trans hnow,k3.pr.trans (by rw [hps];exact gZ hi (by rw [hpc])),fun x hx hxw=>?_,KG.trans (by rw [hps];exact KG.set hi (GrP.led (by rw [hpc]) (by rw [hpc]))) (jp hci).gr,k3.nm.trans hnm⟩;have h5:=k3.kw x hx hxw;rw [hps] at h5;rcases List.mem_or_eq_of_mem_set h5 with h6|rfl
    ·exact .inl h6
    ·exact .inr rfl
   ·rw [qDf hr] at he;simp only [Bool.not_false,qCt] at he;exact absurd he hr
theorem JZ {g:Lg} (h:Ld g) {n:ByteArray} (hn:aC g.entries n≠⟨0,0⟩):(ic g n).1=gS g n:=by
 have hne:(gS g n).entries.length≠g.entries.length:=by
  intro e;have h1:g.entries.filter (oth n)=g.entries:=List.Sublist.eq_of_length List.filter_sublist e;have h2:=jb n n g.entries;rw [h1,if_pos rfl] at h2;exact hn h2
 unfold ic;rw [eK.2 h,qDf hne];rfl
def qd (w:Wk) (i:Nat) (n:ByteArray):Wk:=aZ ((dI w (w.pc i).proc ⟨n,⟨0,0⟩⟩).setP i { w.pc i with led:=(ic (w.pc i).led n).1 }) i
theorem jQ {w:Wk} {i:Nat} {n:ByteArray} (h:CI w.c) (hi:i<w.c.procs.length) (hw:(w.pc i).waiting=false) (h0:aC (w.pc i).led.entries n≠⟨0,0⟩) :
  CI (qd w i n).c/\(qd w i n).c.procs=w.c.procs.set i { w.pc i with led:=gS (w.pc i).led n,gen:=bc (w.pc i).gen }/\(qd w i n).c.now=w.c.now/\ef (qd w i n).c.queues=ef w.c.queues:=by
 have hpc:=bh hi;unfold qd;have hinv:=h.inv _ (List.getElem_mem hi);rw [<-hpc] at hinv;obtain ⟨hrq,hsn,hrun⟩:=hinv.run hw;obtain ⟨hn,hfit⟩:=hinv.stat.hf n h0;have hfr:=hrun n hn;have hcov:bq (bf w.c.queues n).res (ah (bf w.c.queues n).holds (w.pc i).proc) ⟨0,0⟩=true:=by
  rw [hfr.h];have p0:bQ (bf w.c.queues n).res ⟨0,0⟩=true:=by unfold bQ aR;rw [oc h.tv hn];rfl
  unfold bq;rw [dw hfit,p0];rfl
 obtain ⟨_,hst,k1,k2⟩:=sB (p:=(w.pc i).proc) (a:=⟨n,⟨0,0⟩⟩) h.tv hn (by rw [hfr.h];exact h0) hfr.w hcov;have hws:WS w (dI w (w.pc i).proc ⟨n,⟨0,0⟩⟩) (w.pc i).proc (· = n):=WS.take h.tv hst;generalize hg:dI w (w.pc i).proc ⟨n,⟨0,0⟩⟩=g at *
 have hgq:g.c.queues=(bD w.c.queues (w.pc i).proc ⟨n,⟨0,0⟩⟩).1:=by rw [<-hg];rfl
 rw [<-hgq] at k1 k2;have hgi:i<g.c.procs.length:=by rw [hws.procs];exact hi
 have hgp:g.pc i=w.pc i:=by unfold Wk.pc;rw [hws.procs]
 have hdr:=JZ hinv.stat.led h0;have hx:aZ (g.setP i { w.pc i with led:=(ic (w.pc i).led n).1 }) i=g.setP i { w.pc i with led:=gS (w.pc i).led n,gen:=bc (w.pc i).gen }:=by
  unfold aZ;rw [fa hgi,fP,hdr]
 rw [hx];have hlh:∀m,fO { w.pc i with led:=gS (w.pc i).led n,gen:=bc (w.pc i).gen } m=if m=n then ⟨0,0⟩ else fO (w.pc i) m:=fun m=>jb n m _
 have hps:(g.setP i { w.pc i with led:=gS (w.pc i).led n,gen:=bc (w.pc i).gen }).c.procs=w.c.procs.set i { w.pc i with led:=gS (w.pc i).led n,gen:=bc (w.pc i).gen }:=by
  show g.c.procs.set i _=_;rw [hws.procs]
 have hpv:PInv g.c.queues g.c.now { w.pc i with led:=gS (w.pc i).led n,gen:=bc (w.pc i).gen }:=by
  refine ⟨⟨hinv.stat.vp,hinv.stat.cost,Od hinv.stat.led n,by have:=pK (n:=(w.pc i).gen);show 0<=bc (w.pc i).gen/\bc (w.pc i).gen<=1073741824;omega,fun m hm=>?_⟩,fun _=>⟨hrq,hsn,fun m hm=>?_⟩,fun hf=>by
   have:(w.pc i).waiting=true:=hf;rw [hw] at this;cases this⟩
  ·rw [hlh] at hm ⊢;by_cases e:m=n
   ·rw [if_pos e] at hm;exact absurd rfl hm
   ·rw [if_neg e] at hm ⊢;exact (hinv.stat.tp hws.tp).hf m hm
  ·rw [hws.tp.hasE] at hm;by_cases e:m=n
   ·subst e;exact ⟨by rw [hlh,if_pos rfl];exact k1,k2⟩
   ·have e1:=hws.oth m e hm;exact ((hrun m hm).eq e1).led rfl (by rw [hlh,if_neg e])
 have hci:=h.upd (c':=(g.setP i { w.pc i with led:=gS (w.pc i).led n,gen:=bc (w.pc i).gen }).c) hi hps hws.now (by rw [hpc]) hws.tp hpv;exact ⟨hci,hps,hws.now,hws.tp.nm⟩
theorem lZ {w:Wk} {i:Nat} {n:ByteArray} (h:CI w.c) (hi:i<w.c.procs.length) (he:(dG w i n).2=0) :
  CI (dG w i n).1.c/\(∀x∈(dG w i n).1.c.procs,dU (dG w i n).1.c.queues x=false)/\Kp w (dG w i n).1/\KO (w.pc i).proc w.c.procs (dG w i n).1.c.procs:=by
 unfold dG at he ⊢;cases hw:(w.pc i).waiting with
 | true=>rw [hw] at he;simp at he
 | false =>
  rw [hw] at he;simp only [qCf] at he ⊢;by_cases h0:aC (w.pc i).led.entries n=⟨0,0⟩
  ·rw [qDt h0] at he;simp at he
  ·rw [qDf h0];simp only [qCf];have hpc:=bh hi;obtain ⟨hci,hps,hnow,hnm⟩:=jQ h hi hw h0;have e:aZ ((dI w (w.pc i).proc ⟨n,⟨0,0⟩⟩).setP i { (dI w (w.pc i).proc ⟨n,⟨0,0⟩⟩).pc i with led:=(ic ((dI w (w.pc i).proc ⟨n,⟨0,0⟩⟩).pc i).led n).1 }) i=qd w i n:=rfl;rw [e];generalize qd w i n=g at *
   obtain ⟨q1,q2,q3⟩:=gE hci;have hk:Kp w g:=⟨by rw [hps];exact KW.set hw,hnow,by rw [hps];exact gZ hi (by rw [hpc]),hnm⟩;exact ⟨q1,q2,hk.trans q3,KO.then (by rw [hps];exact KO.set hi (by rw [hpc]) _) (jp hci).gr⟩
theorem yO {r:Rs} {b a:Am} (hb:aS r b=true) (h:a=⟨0,0⟩\/PE b a):bq r b a=true:=by
 have hs:br r=true:=by unfold aS at hb;rw [qBa] at hb;exact hb.1
 rcases h with rfl|h
 ·have p0:bQ r ⟨0,0⟩=true:=by unfold bQ aR;rw [hs];rfl
  unfold bq;rw [dw hb,p0];rfl
 ·rcases h with rfl|⟨h1,h2,h3⟩
  ·exact yl hb
  ·have hfb:=hb;unfold aS at hfb;have key:aS r a=true/\(if r.kind=1 then es b.mode a.mode else decide (a.units<=b.units))=true:=by
    rcases cW hs with ⟨hk,_⟩|⟨hk,_⟩
    ·rw [if_pos hk] at hfb ⊢;simp only [qBa,decide_eq_true_eq,ik] at hfb;rcases h3 with ⟨h4,h5⟩|⟨_,h4,_⟩
     ·refine ⟨?_,h5⟩;unfold aS;rw [if_pos hk,hs];rcases ez h1 with ⟨h6,h7⟩|⟨h6,_⟩
      ·rw [h6,h7];rfl
      ·exact absurd h6 h4
     ·omega
    ·have hk1:¬r.kind=1:=by omega
     rw [if_neg hk1] at hfb ⊢;simp only [qBa,decide_eq_true_eq] at hfb;rcases h3 with ⟨_,h5⟩|⟨h4,_,h5⟩
     ·rw [pR] at h5;omega
     ·refine ⟨?_,by rw [decide_eq_true_eq];omega⟩;unfold aS;rw [if_neg hk1,hs];simp only [qBa,decide_eq_true_eq,Bool.true_and];rcases ez h1 with ⟨h6,_⟩|⟨_,h6,_⟩
      ·rw [ik] at h6;omega
      ·omega
   unfold bq;rw [dw hb,dw key.1,eW hb,key.2];simp
def LwT (p:Pr):List Tm->Wk->Prop
 | [],_=>True
 | a :: l,w=>bd w.c.queues a.name=true/\LwT p l (bZ w p a.name a.am)
theorem Bd:∀(l:List Tm) (w:Wk) (x y:Pc),di w.c.queues=true->PStat w.c.queues x->y.proc=x.proc->JY l->
  (∀a∈l,a.am=fO y a.name/\fO x a.name≠⟨0,0⟩/\(a.am=⟨0,0⟩\/PE (fO x a.name) a.am))->
  (∀n,bd w.c.queues n=true->(∀a,cY l n=some a->FitR w.c.queues n x)/\(cY l n=none->FitR w.c.queues n y))->
  WS w (bU x.proc l w) x.proc (fun _=>True)/\(∀n,bd w.c.queues n=true->FitR (bU x.proc l w).c.queues n y)/\LwT x.proc l w
 | [],w,x,y,hv,_,_,_,_,hf=>⟨WS.refl hv _ _,fun n hn=>(hf n hn).2 rfl,trivial⟩
 | a :: l,w,x,y,hv,hs,hp,hnd,hl,hf=>by
  obtain ⟨h1,h2⟩:=List.pairwise_cons.1 hnd;obtain ⟨e1,e2,e3⟩:=hl a (by simp);obtain ⟨hn,hfit⟩:=hs.hf a.name e2;have hfr:FitR w.c.queues a.name x:=(hf a.name hn).1 a (by rw [dg,bj.2 rfl];rfl);have hnone:cY l a.name=none:=iq.2 fun b hb e=>h1 b hb e.symm;have hat:∀n,n≠a.name->cY (a :: l) n=cY l n:=fun n hn=>by rw [dg,cd.2 (fun h=>hn h.symm)];rfl
  have step:∃g,bZ w x.proc a.name a.am=g/\WS w g x.proc (· = a.name)/\FitR g.c.queues a.name y:=by
   unfold bZ;by_cases hd:ah (bf w.c.queues a.name).holds x.proc=a.am
   ·rw [qDt hd];exact ⟨w,rfl,WS.refl hv _ _,by rw [hp,hd,e1],by rw [hp];exact hfr.w⟩
   ·rw [qDf hd];obtain ⟨_,hst,k1,k2⟩:=sB (p:=x.proc) (a:=⟨a.name,a.am⟩) hv hn (by rw [hfr.h];exact e2) hfr.w (by rw [hfr.h];exact yO hfit e3);exact ⟨_,rfl,WS.take hv hst,by rw [hp,<-e1];exact k1,by rw [hp];exact k2⟩
  obtain ⟨g,hg,hws,hfy⟩:=step;have e:bU x.proc (a :: l) w=bU x.proc l g:=by
   show bU x.proc l (bZ w x.proc a.name a.am)=_;rw [hg]
  rw [e];have ih:=Bd l g x y hws.tp.v (hs.tp hws.tp) hp h2 (fun b hb=>hl b (by simp [hb])) (fun n hn2=>by
   rw [hws.tp.hasE] at hn2;by_cases en:n=a.name
   ·subst en;exact ⟨fun b hb=>(by rw [hnone] at hb;cases hb),fun _=>hfy⟩
   ·have h3:=hf n hn2;rw [hat n en] at h3;have e4:=hws.oth n en hn2;exact ⟨fun b hb=>(h3.1 b hb).eq e4,fun h4=>(h3.2 h4).eq e4⟩)
  exact ⟨(hws.mono fun _ _=>trivial).trans ih.1,fun n hn2=>ih.2.1 n (by rw [hws.tp.hasE];exact hn2),hn,by rw [hg];exact ih.2.2⟩
theorem iu (n:ByteArray):∀(m:List En) (a:Am),(∀e∈m,e.name≠n)->eF n a m=a
 | [],_,_=>rfl
 | e :: m,a,h=>by
  show eF n (bif bC e.name n then e.after else a) m=a;rw [cd.2 (h e (by simp))];exact iu n m a fun f hf=>h f (by simp [hf])
theorem yP {l:List En} {k:Nat} {n:ByteArray} (h:n ∉ cg (l.drop k)):aC l n=aC (l.take k) n:=by
 conv=>lhs;rw [<-List.take_append_drop k l]
 unfold aC;rw [oT,iu n (l.drop k) _ fun e he e2=>h (dY.2 ⟨e,he,e2⟩)]
structure Rest (w w1:Wk) (i:Nat):Prop where
 ci:CI w1.c
 hi:i<w1.c.procs.length
 kp:Kp w w1
 led:(w1.pc i).led=(w.pc i).led
 proc:(w1.pc i).proc=(w.pc i).proc
 run:(w1.pc i).waiting=false
 kg:KG w.c.procs w1.c.procs
theorem Im {w:Wk} {i:Nat} (h:CI w.c) (hi:i<w.c.procs.length):Rest w (bif (w.pc i).waiting then ai w i else w) i:=by
 cases hw:(w.pc i).waiting with
 | false=>exact ⟨h,hi,⟨KW.refl _,rfl,rfl,rfl⟩,rfl,rfl,hw,KG.refl _⟩
 | true =>
  obtain ⟨k1,_,k3,k4,_⟩:=b9 h hi hw;have hlen:i<(ai w i).c.procs.length:=by rw [k3.len];exact hi
  have hp:(ai w i).pc i = { w.pc i with waiting:=false,req:=Rq.zero,since:=0 }:=by rw [bh hlen];simp [k4]
  exact ⟨k1,hlen,k3,by rw [qCt,hp],by rw [qCt,hp],by rw [qCt,hp],by rw [qCt,k4];exact KG.set hi (GrP.led (by rw [bh hi]) (by rw [bh hi]))⟩
def jI (w:Wk) (i:Nat):Wk:=bif (w.pc i).waiting then ai w i else w
def pf (w:Wk) (i:Nat) (n:Int):Wk:=(jI w i).setP i { (jI w i).pc i with led:=(cQ (w.pc i).led n).1 }
def nu (w:Wk) (i:Nat) (n:Int):Wk:=aZ (bU (w.pc i).proc (cQ (w.pc i).led n).2.1 (pf w i n)) i
theorem je {w:Wk} {i:Nat} {n:Int} (h:CI w.c) (hi:i<w.c.procs.length) (hu:(cQ (w.pc i).led n).2.2=0) :
  LwT (w.pc i).proc (cQ (w.pc i).led n).2.1 (pf w i n)/\CI (nu w i n).c/\Kp w (nu w i n)/\KO (w.pc i).proc w.c.procs (nu w i n).c.procs/\∃y∈(nu w i n).c.procs,y.proc=(w.pc i).proc/\y.waiting=false/\y.led=cN (w.pc i).led n:=by
 obtain ⟨hld,hld2,hue,htk⟩:=Oc hu;have hr:Rest w (jI w i) i:=Im h hi;unfold nu pf;generalize jI w i=w1 at *
 have hpc:=bh hr.hi;have hinv:=hr.ci.inv _ (List.getElem_mem hr.hi);rw [<-hpc] at hinv;obtain ⟨hrq,hsn,hrun⟩:=hinv.run hr.run;rw [hue];dsimp only;have hst:=hinv.stat;have hlt:∀m,fO { w1.pc i with led:=cN (w.pc i).led n } m=aC ((w1.pc i).led.entries.take (cN (w.pc i).led n).entries.length) m:=by
  intro m;show aC (cN (w.pc i).led n).entries m=_;rw [hr.led];exact congrArg (aC · m) htk
 have hst2:PStat w1.c.queues { w1.pc i with led:=cN (w.pc i).led n }:=by
  refine ⟨hst.vp,hst.cost,hld2,hst.gen,fun m hm=>?_⟩;rw [hlt] at hm ⊢;rcases AP hst.led.ents m (cN (w.pc i).led n).entries.length with h1|h1
  ·exact absurd h1 hm
  ·have hne:fO (w1.pc i) m≠⟨0,0⟩:=by
    intro e0;have e0':aC (w1.pc i).led.entries m=⟨0,0⟩:=e0;rw [e0'] at h1;rcases h1 with h1|⟨_,h2,_⟩
    ·exact hm h1
    ·exact absurd h2 (by decide)
   obtain ⟨k1,k2⟩:=hst.hf m hne;refine ⟨k1,?_⟩;have hc:=yO k2 (.inr h1);unfold bq bQ at hc;simp only [qBa,Bool.or_eq_true] at hc;rcases hc.1.2.2 with h3|h3
   ·exact absurd (of_decide_eq_true h3) hm
   ·exact h3
 have hw2:(w1.setP i { w1.pc i with led:=cN (w.pc i).led n }).c.queues=w1.c.queues:=rfl;obtain ⟨hws,hfy,hlw⟩:=Bd ((cg ((w.pc i).led.entries.drop (cN (w.pc i).led n).entries.length)).map fun m=>(⟨m,aC (cN (w.pc i).led n).entries m⟩:Tm)) (w1.setP i { w1.pc i with led:=cN (w.pc i).led n }) (w1.pc i) { w1.pc i with led:=cN (w.pc i).led n } hr.ci.tv hst rfl
  (by
   have h1:=lR (gx ((w.pc i).led.entries.drop (cN (w.pc i).led n).entries.length));unfold JY;rw [List.pairwise_map];exact h1.imp fun {a b} (hab:a≠b)=>hab)
  (fun a ha=>by
   obtain ⟨m,hm,rfl⟩:=List.mem_map.1 ha;refine ⟨rfl,?_,?_⟩
   ·obtain ⟨e,he2,hen⟩:=dY.1 hm;have:=Ik hld.ents e (List.mem_of_mem_drop he2);rw [hen,<-hr.led] at this;exact this
   ·have h1:=AP hst.led.ents m (cN (w.pc i).led n).entries.length;rw [<-hlt m] at h1;exact h1)
  (fun m hm=>by
   have hm':bd w1.c.queues m=true:=hm;refine ⟨fun a _=>hrun m hm',fun hno=>(hrun m hm').led rfl ?_⟩;rw [hlt];have h1:m ∉ cg ((w1.pc i).led.entries.drop (cN (w.pc i).led n).entries.length):=by
    rw [hr.led];intro hmem;exact iq.1 hno ⟨m,aC (cN (w.pc i).led n).entries m⟩ (List.mem_map.2 ⟨m,hmem,rfl⟩) rfl
   exact (yP h1).symm)
 rw [<-hr.proc];refine ⟨hlw,?_⟩;clear hlw;generalize bU (w1.pc i).proc ((cg ((w.pc i).led.entries.drop (cN (w.pc i).led n).entries.length)).map fun m=>(⟨m,aC (cN (w.pc i).led n).entries m⟩:Tm)) (w1.setP i { w1.pc i with led:=cN (w.pc i).led n })=g at *
 have hps:g.c.procs=w1.c.procs.set i { w1.pc i with led:=cN (w.pc i).led n }:=hws.procs;have hpv:PInv g.c.queues g.c.now { w1.pc i with led:=cN (w.pc i).led n } :=
  ⟨hst2.tp hws.tp,fun _=>⟨hrq,hsn,fun m hm=>hfy m (by
   rw [hws.tp.hasE] at hm;exact hm)⟩,fun hf=>by
   have:(w1.pc i).waiting=true:=hf;rw [hr.run] at this;cases this⟩
 have hci:=hr.ci.upd (c':=g.c) hr.hi hps hws.now (by rw [hpc]) hws.tp hpv;have hgi:i<g.c.procs.length:=by rw [hps];simpa using hr.hi
 have hgp:g.pc i = { w1.pc i with led:=cN (w.pc i).led n }:=by rw [bh hgi];simp [hps]
 obtain ⟨n1,n2,_⟩:=eL hci hgi (by rw [hgp];exact hr.run);have hk:Kp w1 g:=⟨by rw [hps];exact KW.set hr.run,hws.now,by rw [hps];exact gZ hr.hi (by rw [hpc]),hws.tp.nm⟩;refine ⟨n1,(hr.kp.trans hk).trans n2,?_,?_⟩
 ·refine KO.then (KO.pre hr.kg ?_) (Cw hgi);rw [hps];exact KO.set hr.hi (by rw [<-hpc]) _
 ·refine ⟨{ g.pc i with gen:=bc (g.pc i).gen },List.mem_iff_getElem.2 ⟨i,by show i<(g.c.procs.set i _).length;simpa using hgi,by show (g.c.procs.set i _)[i]'_=_;simp⟩,?_,?_,?_⟩
  ·show (g.pc i).proc=_;rw [hgp]
  ·show (g.pc i).waiting=false;rw [hgp];exact hr.run
  ·show (g.pc i).led=_;rw [hgp]
theorem iN {w:Wk} {i:Nat} {n:Int} (h:CI w.c) (hi:i<w.c.procs.length) (he:(cu w i n).2=0) :
  CI (cu w i n).1.c/\(∀x∈(cu w i n).1.c.procs,dU (cu w i n).1.c.queues x=false)/\Kp w (cu w i n).1/\KO (w.pc i).proc w.c.procs (cu w i n).1.c.procs/\∃y∈(cu w i n).1.c.procs,y.proc=(w.pc i).proc/\y.waiting=false/\y.led=cN (w.pc i).led n:=by
 unfold cu at he ⊢;by_cases hu:(cQ (w.pc i).led n).2.2=0
 ·rw [qDt hu];simp only [Bool.not_true,qCf];obtain ⟨_,n1,n2,hko,y,hy,hy1,hy2,hy3⟩:=je h hi hu;have e:aZ (bU (w.pc i).proc (cQ (w.pc i).led n).2.1 ((bif (w.pc i).waiting then ai w i else w).setP i { (bif (w.pc i).waiting then ai w i else w).pc i with led:=(cQ (w.pc i).led n).1 })) i=nu w i n:=rfl;rw [e];generalize nu w i n=g at *
  obtain ⟨q1,q2,q3⟩:=gE n1;have hkn:=jp n1;exact ⟨q1,q2,n2.trans q3,hko.then hkn.gr,y,hkn.nw _ hy hy2,hy1,hy2,hy3⟩
 ·rw [qDf hu] at he;simp only [Bool.not_false,qCt] at he;exact absurd he hu
def mz (p:Pr) (q:Qu):Qu:=bif !fd q p then q else (aU q p).1
theorem jR (p:Pr):∀t:List Qu,(aM p t).1=t.map (mz p)
 | []=>rfl
 | q :: t=>by
  rw [List.map_cons,<-jR p t];have e:aM p (q :: t)=bif !fd q p then (q :: (aM p t).1,(aM p t).2) else
   ((aU q p).1 :: (aM p t).1,(bif aR (ah q.holds p) then [] else [⟨3,p,q.res.name,⟨0,0⟩⟩])++aJ (aU q p).1.res.name (aU q p).2.1++(aM p t).2):=rfl
  rw [e];unfold mz;cases fd q p <;> rfl
theorem l9 {p:Pr} {q:Qu} (h:ay q=true):Out q (mz p q) p/\fd (mz p q) p=false:=by
 unfold mz;cases hh:fd q p with
 | false=>exact ⟨Out.same p h,hh⟩
 | true =>
  obtain ⟨h1,h2,h3⟩:=D4 (Cb h hh);refine ⟨h1,?_⟩;show fd (aU q p).1 p=false;unfold fd;rw [h2,h3];rfl
theorem EF {f:Qu->Qu} (hf:∀q,ay q=true->ay (f q)=true/\(f q).res=q.res):∀{l:List Qu} {o:Option ByteArray},mN o l=true->mN o (l.map f)=true
 | [],_,h=>h
 | q :: l,o,h=>by
  rw [eM] at h;simp only [qBa] at h;obtain ⟨h1,h2⟩:=hf q h.1.1;rw [List.map_cons,eM,h2];simp only [qBa];exact ⟨⟨h1,h.1.2⟩,EF hf h.2⟩
theorem sE {t:List Qu} (hv:di t=true) (p:Pr):TP t (bS t p).1 p/\p ∉ aO (bS t p).1:=by
 have e:(bS t p).1=t.map (mz p):=by
  unfold bS;rw [hv];exact jR p t
 rw [e];obtain ⟨h1,h2,h3⟩:=bi hv;have hsd:∀q∈t,ay q=true:=fun q hq=>cP hv hq;have hnm:ef (t.map (mz p))=ef t:=by
  unfold ef;rw [List.map_map];exact List.map_congr_left fun q hq=>by
   show (mz p q).res.name=_;rw [(l9 (hsd q hq)).1.res]
 have hnp:p ∉ aO (t.map (mz p)):=by
  intro hm;unfold aO at hm;rw [dd,iI] at hm;obtain ⟨q,hq,hpq⟩:=hm;obtain ⟨q0,hq0,rfl⟩:=List.mem_map.1 hq;have k:=l9 (p:=p) (hsd q0 hq0);have:=(eX (aP k.1.ok) p).1 hpq;rw [k.2] at this;cases this
 have hsub:∀r∈aO (t.map (mz p)),r=p\/r∈aO t:=by
  intro r hr;by_cases hrp:r=p
  ·exact .inl hrp
  ·right
   unfold aO at hr ⊢;rw [dd,iI] at hr ⊢;obtain ⟨q,hq,hrq⟩:=hr;obtain ⟨q0,hq0,rfl⟩:=List.mem_map.1 hq;have k:=l9 (p:=p) (hsd q0 hq0);exact ⟨q0,hq0,(eX (aP (hsd q0 hq0)) r).2 ((k.1.eff r hrp).has ((eX (aP k.1.ok) r).1 hrq))⟩
 refine ⟨⟨?_,hnm,fun n hn=>?_,hsub⟩,hnp⟩
 ·unfold di gu;simp only [qBa,decide_eq_true_eq];refine ⟨⟨by simpa using h1,EF (fun q hq=>⟨(l9 hq).1.ok,(l9 hq).1.res⟩) h2⟩,?_⟩;have:=jy (m:=aO t) (gQ (t.map (mz p))) fun r hr=>by
   rcases hsub r hr with e|e
   ·exact absurd (e▸hr) hnp
   ·exact e
  omega
 ·obtain ⟨i,hi,e1,e2,e3⟩:=j6 hn;have e4:bf (t.map (mz p)) n=mz p (bf t n):=by
   rw [e3];unfold bf;rw [(eo hnm n).2,e1];simp [hi]
  rw [e4];exact (l9 (cP hv (dK hn).1)).1
def J0 (w:Wk) (i:Nat):Wk:=Wk.note ⟨{ w.c with queues:=(bS w.c.queues (w.pc i).proc).1,procs:=w.c.procs.eraseIdx i },w.ev++(bS w.c.queues (w.pc i).proc).2⟩ 5 (w.pc i).proc
theorem qg {w:Wk} {i:Nat} (h:CI w.c) (hi:i<w.c.procs.length):CI (J0 w i).c:=by
 obtain ⟨htp,hnp⟩:=sE h.tv (w.pc i).proc;have hpc:=bh hi;have hmem:∀{x:Pc},x∈w.c.procs.eraseIdx i->x∈w.c.procs:=fun hx=>List.mem_of_mem_eraseIdx hx;have hne:∀x∈w.c.procs.eraseIdx i,x.proc≠(w.pc i).proc:=by
  intro x hx;obtain ⟨j,hj,hji,e⟩:=List.mem_eraseIdx_iff_getElem.1 hx;rw [hpc,<-e];exact np h hj hi hji
 show CI ({ w.c with queues:=(bS w.c.queues (w.pc i).proc).1,procs:=w.c.procs.eraseIdx i }:Cs);refine ⟨h.now,htp.v,?_,?_,fun r hr=>?_,fun x hx=>?_⟩
 ·have:=(List.eraseIdx_sublist w.c.procs i).length_le;have:=h.len;show (w.c.procs.eraseIdx i).length<=8;omega
 ·exact h.asc.sublist ((List.eraseIdx_sublist _ _).map _)
 ·have hrp:r≠(w.pc i).proc:=fun e=>hnp (e▸hr);rcases htp.sub r hr with e|e
  ·exact absurd e hrp
  ·obtain ⟨x,hx,hxr⟩:=List.mem_map.1 (h.cov r e);obtain ⟨j,hj,e2⟩:=List.mem_iff_getElem.1 hx;refine List.mem_map.2 ⟨x,List.mem_eraseIdx_iff_getElem.2 ⟨j,hj,fun e3=>?_,e2⟩,hxr⟩;subst e3;apply hrp
   rw [hpc,e2,hxr]
 ·exact (h.inv x (hmem hx)).tp htp (hne x hx)
theorem xu {w:Wk} {i:Nat} (h:CI w.c) (hi:i<w.c.procs.length):CI (gT w i).c/\(∀x∈(gT w i).c.procs,dU (gT w i).c.queues x=false)/\KW w.c.procs (gT w i).c.procs/\(gT w i).c.now=w.c.now/\(gT w i).c.procs.map (·.proc)=(w.c.procs.eraseIdx i).map (·.proc)/\KO (w.pc i).proc w.c.procs (gT w i).c.procs/\ef (gT w i).c.queues=ef w.c.queues:=by
 have htp:=(sE h.tv (w.pc i).proc).1;have hpc:=bh hi;have hmem:∀{x:Pc},x∈w.c.procs.eraseIdx i->x∈w.c.procs:=fun hx=>List.mem_of_mem_eraseIdx hx;have hci:CI (J0 w i).c:=qg h hi;have e:gT w i=bw (Wk.note ⟨{ w.c with queues:=(bS w.c.queues (w.pc i).proc).1,procs:=w.c.procs.eraseIdx i },w.ev++(bS w.c.queues (w.pc i).proc).2⟩ 5 (w.pc i).proc):=rfl;rw [e];obtain ⟨k1,k2,k3⟩:=gE (w:=Wk.note ⟨{ w.c with queues:=(bS w.c.queues (w.pc i).proc).1,procs:=w.c.procs.eraseIdx i },w.ev++(bS w.c.queues (w.pc i).proc).2⟩ 5 (w.pc i).proc) hci;refine ⟨k1,k2,fun x hx hw=>hmem (k3.kw x hx hw),k3.now,k3.pr,KO.then (fun x hx hxp=>?_) (jp (w:=Wk.note ⟨{ w.c with queues:=(bS w.c.queues (w.pc i).proc).1,procs:=w.c.procs.eraseIdx i },w.ev++(bS w.c.queues (w.pc i).proc).2⟩ 5 (w.pc i).proc) hci).gr,k3.nm.trans htp.nm⟩;obtain ⟨j,hj,e2⟩:=List.mem_iff_getElem.1 hx;exact ⟨x,List.mem_eraseIdx_iff_getElem.2 ⟨j,hj,fun e3=>by subst e3;rw [hpc,e2] at hxp;exact hxp rfl,e2⟩,GrP.refl x⟩
theorem Mr {α:Type} {R:α->α->Prop} (irr:∀a,¬R a a) (asy:∀a b,R a b->¬R b a):∀{l l':List α},l.Pairwise R->l'.Pairwise R->(∀x,x∈l↔x∈l')->l=l'
 | [],[],_,_,_=>rfl
 | [],b :: m,_,_,h=>absurd ((h b).2 (by simp)) (by simp)
 | a :: l,[],_,_,h=>absurd ((h a).1 (by simp)) (by simp)
 | a :: l,b :: m,h1,h2,h=>by
  obtain ⟨k1,k2⟩:=List.pairwise_cons.1 h1;obtain ⟨k3,k4⟩:=List.pairwise_cons.1 h2;have hab:a=b:=by
   rcases List.mem_cons.1 ((h a).1 (by simp)) with e|e
   ·exact e
   ·rcases List.mem_cons.1 ((h b).2 (by simp)) with e2|e2
    ·exact e2.symm
    ·exact absurd (k1 b e2) (asy b a (k3 a e))
  subst hab;congr 1
  refine Mr irr asy k2 k4 fun x=>⟨fun hx=>?_,fun hx=>?_⟩
  ·rcases List.mem_cons.1 ((h x).1 (by simp [hx])) with e|e
   ·subst e;exact absurd (k1 x hx) (irr x)
   ·exact e
  ·rcases List.mem_cons.1 ((h x).2 (by simp [hx])) with e|e
   ·subst e;exact absurd (k3 x hx) (irr x)
   ·exact e
def RP (a b:Tm):Prop:=jN a.name b.name=true
theorem OM (a:Tm):¬RP a a:=fun h=>by unfold RP at h;rw [fD] at h;cases h
theorem ON (a b:Tm) (h:RP a b):¬RP b a:=fun k=>by
 have:=ij h k;rw [fD] at this;cases this
theorem li {g:Lg} {a:Tm}:a∈dx g↔aC g.entries a.name=a.am/\a.am≠⟨0,0⟩:=by
 unfold dx;rw [List.mem_filter,List.mem_map];constructor
 ·rintro ⟨⟨m,_,rfl⟩,h⟩;rw [Bool.not_eq_true',bN] at h;exact ⟨rfl,h⟩
 ·rintro ⟨h1,h2⟩;refine ⟨⟨a.name,?_,by rw [h1]⟩,by rw [Bool.not_eq_true',bN];exact h2⟩;refine Classical.byContradiction fun hn=>h2 ?_;rw [<-h1];exact iu a.name g.entries ⟨0,0⟩ fun e he e2=>hn (dY.2 ⟨e,he,e2⟩)
theorem J1 (g:Lg):(dx g).Pairwise RP:=by
 unfold dx;refine List.Pairwise.sublist List.filter_sublist ?_;rw [List.pairwise_map];exact gx g.entries
theorem sF {t:List Qu} {p:Pr} {a:Tm}:a∈db t p↔(∃q∈t,q.res.name=a.name/\ah q.holds p=a.am)/\a.am≠⟨0,0⟩:=by
 unfold db;rw [List.mem_filter,List.mem_map,Bool.not_eq_true',bN];constructor
 ·rintro ⟨⟨q,hq,rfl⟩,h⟩;exact ⟨⟨q,hq,rfl,rfl⟩,h⟩
 ·rintro ⟨⟨q,hq,h1,h2⟩,h⟩;exact ⟨⟨q,hq,by rw [h1,h2]⟩,h⟩
theorem J2 {t:List Qu} (hv:di t=true) (p:Pr):(db t p).Pairwise RP:=by
 unfold db;refine List.Pairwise.sublist List.filter_sublist ?_;rw [List.pairwise_map];have:=(mY (bi hv).2.1).1;unfold ef at this;rw [List.pairwise_map] at this;exact this
theorem nv {p:Pr}:∀{t:List Qu},bW p t=[]↔∀q∈t,aj q p=none
 | []=>by simp [bW]
 | q :: t=>by
  unfold bW;cases hw:aj q p with
  | some a =>
   constructor
   ·intro h;cases h
   ·intro h;have:=h q (by simp);rw [hw] at this;cases this
  | none =>
   dsimp only;rw [nv];constructor
   ·intro h x hx;rcases List.mem_cons.1 hx with rfl|hx
    ·exact hw
    ·exact h x hx
   ·intro h x hx;exact h x (by simp [hx])
theorem xv {t:List Qu} {x:Pc} (hv:di t=true) (hf:∀n,fO x n≠⟨0,0⟩->bd t n=true):(dx x.led=db t x.proc/\bW x.proc t=[])↔∀n,bd t n=true->FitR t n x:=by
 constructor
 ·rintro ⟨h1,h2⟩ n hn;obtain ⟨hm,hnm⟩:=dK hn;refine ⟨?_,nv.1 h2 _ hm⟩;by_cases h0:ah (bf t n).holds x.proc=⟨0,0⟩
  ·rw [h0];refine Classical.byContradiction fun hne=>?_;have h3:(⟨n,fO x n⟩:Tm)∈dx x.led:=li.2 ⟨rfl,fun e=>hne e.symm⟩;rw [h1,sF] at h3;obtain ⟨⟨q,hq,e1,e2⟩,_⟩:=h3;have h4:=(gY hv hq).2;rw [show q.res.name=n from e1] at h4;rw [h4,e2] at h0;exact hne h0.symm
  ·have h3:(⟨n,ah (bf t n).holds x.proc⟩:Tm)∈db t x.proc:=sF.2 ⟨⟨_,hm,hnm,rfl⟩,h0⟩;rw [<-h1,li] at h3;exact h3.1.symm
 ·intro h;refine ⟨Mr OM ON (J1 x.led) (J2 hv x.proc) fun a=>?_,nv.2 fun q hq=>?_⟩
  ·rw [li,sF];constructor
   ·rintro ⟨h1,h2⟩;have hn:bd t a.name=true:=hf a.name (by show aC x.led.entries a.name≠_;rw [h1];exact h2);obtain ⟨hm,hnm⟩:=dK hn;exact ⟨⟨_,hm,hnm,by rw [(h a.name hn).h];exact h1⟩,h2⟩
   ·rintro ⟨⟨q,hq,e1,e2⟩,h2⟩;obtain ⟨hn,hqa⟩:=gY hv hq;rw [e1] at hn hqa;have:=(h a.name hn).h;rw [hqa,e2] at this;exact ⟨this.symm,h2⟩
  ·obtain ⟨hn,hqa⟩:=gY hv hq;have:=(h _ hn).w;rw [hqa] at this;exact this
theorem qh {α:Type} {o:Option α}:o.isSome=false↔o=none:=by cases o <;> simp
theorem vo {t:List Qu} {q:Qu} {x:Pc} (hq:bf t q.res.name=q):(decide (ah q.holds x.proc=aC x.led.entries q.res.name) && !(aj q x.proc).isSome)=true↔FitR t q.res.name x:=by
 rw [qBa,decide_eq_true_eq,Bool.not_eq_true',qh];constructor
 ·rintro ⟨h1,h2⟩;exact ⟨by rw [hq];exact h1,by rw [hq];exact h2⟩
 ·rintro ⟨h1,h2⟩;rw [hq] at h1 h2;exact ⟨h1,h2⟩
theorem vq {q:Qu} {x:Pc}:∀{l:List Tm},(∀a∈l,a.name≠q.res.name)->cR q x l=(decide (ah q.holds x.proc=aC x.led.entries q.res.name) && !(aj q x.proc).isSome)
 | [],_=>rfl
 | a :: l,h=>by
  unfold cR;rw [cd.2 (h a (by simp)),Bool.not_false,Bool.true_or,qCt];exact vq fun b hb=>h b (by simp [hb])
theorem pg {t:List Qu} {q:Qu} {x:Pc} (hq:bf t q.res.name=q):∀{l:List Tm},JY l->(cR q x l=true↔FitW t q.res.name x l)
 | [],_=>by
  unfold cR FitW;exact vo hq
 | a :: l,hn=>by
  obtain ⟨h1,h2⟩:=List.pairwise_cons.1 hn;have ih:=pg (x:=x) hq h2;unfold FitW at ih ⊢;rw [dg];unfold cR;cases hnm:bC a.name q.res.name with
  | false =>
   rw [Bool.not_false,Bool.true_or,qCt,qCf];exact ih
  | true =>
   have hname:=bj.1 hnm;have hno:∀b∈l,b.name≠q.res.name:=fun b hb e=>h1 b hb (hname.trans e.symm);rw [Bool.not_true,Bool.false_or,qCt];dsimp only;unfold FitA jn;rw [hq];cases hc:bq q.res (aC x.led.entries q.res.name) a.am with
   | true =>
    rw [qCt,vq hno,vo hq];constructor
    ·intro h;exact .inl ⟨rfl,h⟩
    ·rintro (⟨_,h⟩|⟨h,_⟩)
     ·exact h
     ·cases h
   | false =>
    rw [qCf];cases hw:aj q x.proc with
    | none =>
     simp only [Option.isSome_none,Bool.not_false,qCt,decide_eq_true_eq];constructor
     ·intro h;exact .inr ⟨trivial,.inl ⟨h,trivial⟩⟩
     ·rintro (⟨h,_⟩|⟨_,⟨h,_⟩|⟨_,h,_⟩⟩)
      ·cases h
      ·exact h
      ·cases h
    | some b =>
     simp only [Option.isSome_some,Bool.not_true,qCf];cases hp:q.waits.any (fun y=>decide (y.proc=x.proc) && !decide (y.prio=x.req.prio)) with
     | true =>
      rw [qCt];constructor
      ·intro h;cases h
      ·rintro (⟨h,_⟩|⟨_,⟨_,h⟩|⟨_,_,h⟩⟩)
       ·cases h
       ·cases h
       ·rw [List.any_eq_true] at hp;obtain ⟨y,hy,h3⟩:=hp;simp only [qBa,decide_eq_true_eq,Bool.not_eq_true',decide_eq_false_iff_not] at h3;exact absurd (h y hy h3.1) h3.2
     | false =>
      rw [qCf,qBa,decide_eq_true_eq,decide_eq_true_eq];rw [List.any_eq_false] at hp;constructor
      ·rintro ⟨h3,h4⟩;refine .inr ⟨trivial,.inr ⟨h3,h4,fun y hy hyp=>?_⟩⟩;have:=hp y hy;simp only [qBa,decide_eq_true_eq,Bool.not_eq_true',decide_eq_false_iff_not,not_and,Decidable.not_not] at this;exact this hyp
      ·rintro (⟨h,_⟩|⟨_,⟨_,h⟩|⟨h3,h4,_⟩⟩)
       ·cases h
       ·cases h
       ·exact ⟨h3,h4⟩
def Be (c:Cs) (x:Pc):Prop:=x.waiting=true->(x.req.limit=0\/c.now<x.since+x.req.limit)/\dU c.queues x=false
theorem sG {c:Cs} {x:Pc} (hv:di c.queues=true):oB c x=true↔PInv c.queues c.now x/\Be c x:=by
 have hhf:(dx x.led).all (fun a=>bd c.queues a.name && aS (bf c.queues a.name).res a.am)=true↔∀n,fO x n≠⟨0,0⟩->bd c.queues n=true/\aS (bf c.queues n).res (fO x n)=true:=by
  rw [List.all_eq_true];constructor
  ·intro h n hn;have:=h ⟨n,fO x n⟩ (li.2 ⟨rfl,hn⟩);rw [qBa] at this;exact this
  ·intro h a ha;obtain ⟨h1,h2⟩:=li.1 ha;have:=h a.name (by show aC x.led.entries a.name≠_;rw [h1];exact h2);rw [show fO x a.name=a.am from h1] at this;rw [qBa];exact this
 unfold oB;cases hw:x.waiting with
 | false =>
  simp only [Bool.not_false,qCt,qBa,decide_eq_true_eq,hhf,eK,Of];constructor
  ·rintro ⟨⟨⟨⟨⟨⟨⟨h1,h2⟩,h3⟩,h4⟩,h5⟩,h6⟩,h7⟩,⟨⟨h8,h9⟩,h10⟩,h11⟩;refine ⟨⟨⟨h1,⟨h2,h3⟩,h4,⟨h5,h6⟩,h7⟩,fun _=>⟨h8,h9,(xv hv fun n hn=>(h7 n hn).1).1 ⟨h10,h11⟩⟩,fun h=>?_⟩,fun h=>?_⟩
   ·rw [hw] at h;cases h
   ·rw [hw] at h;cases h
  ·rintro ⟨⟨⟨h1,h2,h4,h5,h7⟩,h8,_⟩,_⟩;obtain ⟨k1,k2,k3⟩:=h8 hw;obtain ⟨k4,k5⟩:=(xv hv fun n hn=>(h7 n hn).1).2 k3;exact ⟨⟨⟨⟨⟨⟨⟨h1,h2.1⟩,h2.2⟩,h4⟩,h5.1⟩,h5.2⟩,h7⟩,⟨⟨k1,k2⟩,k4⟩,k5⟩
 | true =>
  have hfw:c.queues.all (fun q=>cR q x (bJ x.req.expr))=true↔∀n,bd c.queues n=true->FitW c.queues n x (bJ x.req.expr):=by
   rw [List.all_eq_true];constructor
   ·intro h n hn;obtain ⟨hm,hnm⟩:=dK hn;have h1:=(pg (t:=c.queues) (q:=bf c.queues n) (x:=x) (by rw [hnm]) (j7 x.req.expr)).1 (h _ hm);rw [hnm] at h1;exact h1
   ·intro h q hq;obtain ⟨hn,hqa⟩:=gY hv hq;exact (pg hqa (j7 x.req.expr)).2 (h _ hn)
  have hsat:dU c.queues x=cM x.req.expr (bk c.queues x.proc x.req.expr):=by unfold dU;rw [hw];rfl
  simp only [Bool.not_true,qCf,qBa,Bool.or_eq_true,decide_eq_true_eq,hhf,eK,hfw,Bool.not_eq_true',<-hsat];constructor
  ·rintro ⟨⟨⟨⟨⟨⟨⟨h1,h2⟩,h3⟩,h4⟩,h5⟩,h6⟩,h7⟩,⟨⟨⟨⟨⟨h8,h9⟩,h10⟩,h11⟩,h12⟩,h13⟩,h14⟩;refine ⟨⟨⟨h1,⟨h2,h3⟩,h4,⟨h5,h6⟩,h7⟩,fun h=>?_,fun _=>⟨⟨h8,h9,h10,h11⟩,h14⟩⟩,fun _=>⟨h12,h13⟩⟩;rw [hw] at h;cases h
  ·rintro ⟨⟨⟨h1,h2,h4,h5,h7⟩,_,h8⟩,h9⟩;obtain ⟨k1,k2⟩:=h8 hw;obtain ⟨k3,k4⟩:=h9 hw;exact ⟨⟨⟨⟨⟨⟨⟨h1,h2.1⟩,h2.2⟩,h4⟩,h5.1⟩,h5.2⟩,h7⟩,⟨⟨⟨⟨⟨k1.rq,k1.rs⟩,k1.sn.1⟩,k1.sn.2⟩,k3⟩,k4⟩,k2⟩
theorem EG (c:Cs):∀(l:List Pc) (o:Option Pr),Cc c o l=true↔(∀x∈l,oB c x=true)/\(l.map (·.proc)).Pairwise g7/\∀p,o=some p->∀x∈l,g7 p x.proc
 | [],o=>by simp [Cc]
 | x :: l,o=>by
  unfold Cc;simp only [qBa,EG c l,Hw];constructor
  ·rintro ⟨⟨h1,h2⟩,h3,h4,h5⟩;refine ⟨?_,?_,?_⟩
   ·intro y hy;rcases List.mem_cons.1 hy with rfl|hy
    ·exact h1
    ·exact h3 y hy
   ·rw [List.map_cons];refine List.pairwise_cons.2 ⟨?_,h4⟩;intro p hp;obtain ⟨y,hy,rfl⟩:=List.mem_map.1 hp;exact h5 _ rfl y hy
   ·intro p hp y hy;rcases List.mem_cons.1 hy with rfl|hy
    ·exact h2 p hp
    ·exact dt (h2 p hp) (h5 _ rfl y hy)
  ·rintro ⟨h1,h2,h3⟩;rw [List.map_cons] at h2;obtain ⟨h4,h5⟩:=List.pairwise_cons.1 h2;refine ⟨⟨h1 x (by simp),fun p hp=>h3 p hp x (by simp)⟩,fun y hy=>h1 y (by simp [hy]),h5,?_⟩;intro p hp y hy;injection hp with hp;subst hp;exact h4 _ (List.mem_map.2 ⟨y,hy,rfl⟩)
theorem yQ {p:Pr}:∀{l:List Pc} {k:Nat},bM p k l<0↔∀x∈l,x.proc≠p
 | [],k=>by simp [bM]
 | x :: l,k=>by
  unfold bM;by_cases hx:x.proc=p
  ·rw [qDt hx,qCt];constructor
   ·intro h;omega
   ·intro h;exact absurd hx (h x (by simp))
  ·rw [qDf hx,qCf,yQ];constructor
   ·intro h y hy;rcases List.mem_cons.1 hy with rfl|hy
    ·exact hx
    ·exact h y hy
   ·intro h y hy;exact h y (by simp [hy])
theorem c7 {p:Pr}:∀{l:List Pc} {k:Nat},0<=bM p k l->∃i,∃h:i<l.length,bM p k l=((k+i:Nat):Int)/\l[i].proc=p
 | [],k,h=>by simp [bM] at h
 | x :: l,k,h=>by
  have e:bM p k (x :: l)=bif decide (x.proc=p) then (k:Int) else bM p (k+1) l:=rfl;rw [e] at h ⊢;by_cases hx:x.proc=p
  ·exact ⟨0,by simp,by rw [qDt hx];simp,hx⟩
  ·rw [qDf hx,qCf] at h ⊢;obtain ⟨i,hi,h1,h2⟩:=c7 h;exact We
theorem yR {p:Pr} {l:List Pc} {k:Nat}:0<=bM p k l↔p∈l.map (·.proc):=by
 constructor
 ·intro h;obtain ⟨i,hi,_,e⟩:=c7 h;exact List.mem_map.2 ⟨_,List.getElem_mem hi,e⟩
 ·intro h;obtain ⟨x,hx,e⟩:=List.mem_map.1 h;refine Classical.byContradiction fun hn=>?_;exact yQ.1 (show bM p k l<0 by omega) x hx e
theorem aV {c:Cs}:cG c=true↔CI c/\∀x∈c.procs,Be c x:=by
 unfold cG;simp only [qBa,decide_eq_true_eq,List.all_eq_true,EG,yR];constructor
 ·rintro ⟨⟨⟨⟨⟨h1,h2⟩,h3⟩,h4⟩,h5⟩,h6,h7,_⟩;exact ⟨⟨⟨h1,h2⟩,h3,h4,h7,h5,fun x hx=>((sG h3).1 (h6 x hx)).1⟩,fun x hx=>((sG h3).1 (h6 x hx)).2⟩
 ·rintro ⟨⟨h1,h3,h4,h7,h5,h6⟩,h8⟩;exact ⟨⟨⟨⟨⟨h1.1,h1.2⟩,h3⟩,h4⟩,h5⟩,fun x hx=>(sG h3).2 ⟨h6 x hx,h8 x hx⟩,h7,fun p hp=>by cases hp⟩
instance stExC (d:Nat):ST prog (pA (d+1)) 45 47 64:=⟨ElTB.mk' underlying45 (.agg #[.int .i64 0,.string ⟨#[]⟩,.int .i64 0,.int .i64 0,.slice none 0 0]) 5 64 (by kernel_rfl) rfl rfl⟩
theorem S6 (d:Nat) (x:Pc) (p:Pr):FSpec prog 109 [x.a d,.one (.ptr 9 0)] [lV 9 p] [] (.b (decide (cl x.proc p=0))) [(9,some (lV 9 p).2)]:=by
 refine a7 func109 ?_;have kC:=lc x.proc p;exact UG
theorem P1 (d:Nat) (x:Pc) (p:Pr) {b:Bool} (hb:decide (x.proc=p)=b):FSpec prog 109 [x.a d,.one (.ptr 9 0)] [lV 9 p] [] (.b b) [(9,some (lV 9 p).2)]:=by
 have h:=S6 d x p;have e:decide (cl x.proc p=0)=b:=by
  rw [<-hb];by_cases h1:x.proc=p
  ·rw [qDt h1,qDt ((nR _ _).2 h1)]
  ·rw [qDf h1,qDf (fun h2=>h1 ((nR _ _).1 h2))]
 rw [e] at h;exact h
theorem S7 (d:Nat) (l:List Pc) (p:Pr) (hl:l.length<=100000) {z:Int} (hz:bM p 0 l=z):FSpec prog 108 [.one (.own 1),.one (.clo 109 [9])] [(1,.arr 82 (fR d) l),lV 9 p] [] (.i z) [(1,some (.arr 82 (fR d) l)),(9,some (lV 9 p).2)]:=by
 refine a7 func108 ?_;refine ao ?_;refine ab (fun i=>i<=l.length/\bM p i (l.drop i)=z) (fun i=>bP [1,9] [(0,.c (.own 1)),(1,.c (.clo 109 [9])),(7,.i l.length),(8,.i i)] [(1,.arr 82 (fR d) l),lV 9 p]) (fun i=>l.length-i) 0 ⟨Nat.zero_le _,hz⟩ aT ?_;rintro i ⟨hi,hs⟩;by_cases hlt:i<l.length
 ·obtain ⟨x,hx⟩:=qGe (l[i]);have hgx:l[i]? = some x:=by rw [qGg hlt,hx]
  rw [qDc hlt,hx] at hs;have hs:(bif decide (x.proc=p) then (i:Int) else bM p (i+1) (l.drop (i+1)))=z:=hs;obtain ⟨b,hb1⟩:=qGe (decide (x.proc=p));have kS:=P1 d x p hb1;rw [hb1] at hs;cases b with
  | true =>
   obtain rfl:(i:Int)=z:=hs;repeat' (first|refine av ?_ ?_|(refine aa 9 rfl ?_;refine ov 1 [9] (qf [(1,1),(9,9)]) kS ?_)|refine aq ?_|exact aw|refine ap fun hb=>?_|exact bg|fail)
  | false =>
   repeat' (first|refine av ?_ ?_|(refine aa 9 rfl ?_;refine ov 1 [9] (qf [(1,1),(9,9)]) kS ?_)|refine aq ?_|exact aw|refine ap fun hb=>?_)
   exact UT
 ·rw [qDn (by omega)] at hs;obtain rfl : -1=z:=hs;exact UG
theorem C4 (d:Nat) (l:List Pc) (p:Pr) (hl:l.length<=100000) {z:Int} (hz:bM p 0 l=z):FSpec prog 63 [.one (.own 1),p.a] [(1,.arr 82 (fR d) l)] [] (.i z) [(1,some (.arr 82 (fR d) l))]:=by
 refine a7 func63 ?_;have kF:=S7 d l p hl hz;repeat' (first|refine av ?_ ?_|(refine aa 0 rfl ?_;refine sx (dH (ks:=[3]) rfl rfl) ?_)|refine aa 9 rfl (cH (qf [(1,1),(9,3)]) kF ?_)|refine aq ?_|exact aw|refine ap fun hb=>?_|exact bg|fail)
theorem O9 (x:Ex):1<=x.cnt:=by
 obtain ⟨k,a,l⟩:=x;rw [Ex.cnt_mk];omega
theorem IQ:∀(l:List Ex),l.length<=i9 l/\∀x∈l,x.cnt<=i9 l
 | []=>⟨Nat.zero_le _,fun _ h=>absurd h (by simp)⟩
 | y :: l=>by
  have ih:=IQ l;have h1:=O9 y;rw [ig];refine ⟨by rw [List.length_cons];omega,fun x hx=>?_⟩;rcases List.mem_cons.1 hx with rfl|hx
  ·omega
  ·have:=ih.2 x hx;omega
theorem IR:∀(x:Ex) (d:Nat),x.cnt<=1000->FSpec prog 110 [x.a d] [] [] (.v (x.a d)) []:=by
 refine Ex.ind (fun k a l ih=>?_);intro d hcnt;rw [Ex.cnt_mk] at hcnt;have hcl:=IQ l;show FSpec prog 110 [.ag (Ai d k a l)] [] [] (.v (.ag (Ai d k a l))) [];refine a7 func110 ?_;refine aY (fun c ρ a w hr=>jP (t:=0) (i:=4) hr rfl rfl) (fun hx=>?_);obtain ⟨hlen,hne⟩:=hx;rcases Nat.eq_zero_or_pos l.length with h0|h0
 ·obtain rfl:l=[]:=List.length_eq_zero_iff.1 h0;refine ao ?_;refine ab (fun i=>i=0) (fun i=>bP [1,2] [(1,.c (.ptr 1 0)),(2,.c (.ptr 2 0)),(3,.c (.sc (.slice none 0 0))),(7,.c (.sl (pA d) [])),(8,.i 0),(9,.i i)] [(1,.box 47 (Ai d k a [])),(2,.box 47 [.sc (.int .i64 0),.sc (.string ⟨#[]⟩),.sc (.int .i64 0),.sc (.int .i64 0),.sc (.slice none 0 0)])]) (fun _=>0) 0 rfl aT ?_;rintro i rfl;exact UG
 ·obtain ⟨e,rfl⟩:=hne h0;clear hne;refine ao ?_;refine cj 3 1000 47 (pA (e+1)) rfl rfl rfl ?_;refine ab (fun i=>i<=l.length) (fun i=>bP [1,2,1000] [(1,.c (.ptr 1 0)),(2,.c (.ptr 2 0)),(3,.c (.own 1000)),(7,.c (.sl (pA (e+1)) l)),(8,.i l.length),(9,.i i)] [(1,.box 47 (Ai (e+1) k a l)),(2,.box 47 [.sc (.int .i64 0),.sc (.string ⟨#[]⟩),.sc (.int .i64 0),.sc (.int .i64 0),.sc (.slice none 0 0)]),(1000,.arr 47 (pA (e+1)) (l.take i))]) (fun i=>l.length-i) 0 (Nat.zero_le _) aT ?_;intro i hi;have hti:(l.take i).length=i:=by simp;omega
  by_cases hlt:i<l.length
  ·have kS:=ih l[i] (List.getElem_mem hlt) e (by have:=hcl.2 _ (List.getElem_mem hlt);omega);have hl9:l.length<=1000:=by have:=hcl.1;omega
   have e2:l.take (i+1)=l.take i++[l[i]]:=List.take_succ_eq_append_getElem hlt;clear ih hcl;repeat' (first|refine av ?_ ?_|(refine aa 8 rfl ?_;refine be (ae rfl rfl (aH rfl rfl) (aN [l[i]] rfl rfl rfl rfl) rfl aQ aQ) rfl rfl rfl ?_)|refine aa 9 rfl (cC [] kS ?_)|refine aq ?_|exact aw|refine ap fun hb=>?_)
   refine ⟨i+1,by omega,by omega,?_⟩;rw [e2];exact bo (qf [(1000,17)])
  ·have e2:l.take i=l:=List.take_of_length_le (by omega);rw [e2];exact UG
def P4 (n:ByteArray):Nat->List Tm->Int
 | _,[]=>-1
 | k,a :: l=>bif bC a.name n then (k:Int) else P4 n (k+1) l
theorem T0 (a:Tm) (q:Qu):FSpec prog 254 [a.a,.one (.ptr 9 0)] [(9,.box 66 q.d)] [] (.b (bC a.name q.res.name)) [(9,some (.box 66 q.d))]:=by
 refine a7 func254 ?_;exact UG
theorem P5 (L:List Tm) (q:Qu) (hl:L.length<=100000) {z:Int} (hz:P4 q.res.name 0 L=z):FSpec prog 253 [.one (.sl c6 L),.one (.clo 254 [9])] [(9,.box 66 q.d)] [] (.i z) [(9,some (.box 66 q.d))]:=by
 refine a7 func253 ?_;refine ao ?_;refine ab (fun i=>i<=L.length/\P4 q.res.name i (L.drop i)=z) (fun i=>bP [9] [(0,.c (.sl c6 L)),(1,.c (.clo 254 [9])),(7,.i L.length),(8,.i i)] [(9,.box 66 q.d)]) (fun i=>L.length-i) 0 ⟨Nat.zero_le _,hz⟩ aT ?_;rintro i ⟨hi,hs⟩;by_cases hlt:i<L.length
 ·obtain ⟨a,ha⟩:=qGe (L[i]);have hga:L[i]? = some a:=by rw [qGg hlt,ha]
  rw [qDc hlt,ha] at hs;have hs:(bif bC a.name q.res.name then (i:Int) else P4 q.res.name (i+1) (L.drop (i+1)))=z:=hs;have kS:=T0 a q;obtain ⟨b,hb1⟩:=qGe (bC a.name q.res.name);rw [hb1] at hs kS;cases b with
  | true =>
   obtain rfl:(i:Int)=z:=hs;exact VX
  | false =>
   repeat' (first|refine av ?_ ?_|(refine aa 9 rfl ?_;refine ov 1 [9] (qf [(9,9)]) kS ?_)|refine aq ?_|exact aw|refine ap fun hb=>?_)
   exact UT
 ·rw [qDn (by omega)] at hs;obtain rfl : -1=z:=hs;exact UG
def Rm (q:Qu) (x:Pc) (a:Tm):Bool :=
 bif !(aj q x.proc).isSome then decide (ah q.holds x.proc=cn q.res (aC x.led.entries q.res.name) a.am) else
 bif q.waits.any (fun y=>decide (y.proc=x.proc) && !decide (y.prio=x.req.prio)) then false else
 decide (ah q.holds x.proc=aC x.led.entries q.res.name) && decide (aj q x.proc=some (cn q.res (aC x.led.entries q.res.name) a.am))
theorem Ft (q:Qu) (x:Pc) (a:Tm) (l:List Tm):cR q x (a :: l)=bif !bC a.name q.res.name || bq q.res (aC x.led.entries q.res.name) a.am then cR q x l else Rm q x a:=rfl
theorem IU {q:Qu} {x:Pc}:∀{l:List Tm},(∀a∈l,a.name≠q.res.name)->cR q x l=cR q x []
 | [],_=>rfl
 | a :: l,h=>by
  rw [Ft,cd.2 (h a (by simp))];exact IU fun b hb=>h b (by simp [hb])
theorem IV {q:Qu} {x:Pc}:∀(L:List Tm) (k:Nat),JY L->(P4 q.res.name k L = -1/\cR q x L=cR q x [])\/
  ∃(i:Nat) (a:Tm),P4 q.res.name k L=((k+i:Nat):Int)/\L[i]? = some a/\cR q x L=bif bq q.res (aC x.led.entries q.res.name) a.am then cR q x [] else Rm q x a
 | [],k,_=>.inl ⟨rfl,rfl⟩
 | a :: l,k,h=>by
  obtain ⟨h1,h2⟩:=List.pairwise_cons.1 h;have e:P4 q.res.name k (a :: l)=bif bC a.name q.res.name then (k:Int) else P4 q.res.name (k+1) l:=rfl;rw [e,Ft];cases hn:bC a.name q.res.name with
  | true =>
   have hn:=bj.1 hn;refine .inr ⟨0,a,rfl,rfl,?_⟩;rw [IU (l:=l) fun b hb=>by rw [<-hn];exact fun e=>h1 b hb e.symm];cases bq q.res (aC x.led.entries q.res.name) a.am <;> rfl
  | false =>
   rcases IV l (k+1) h2 with h3|⟨i,b,q1,q2,q3⟩
   ·exact .inl h3
   ·exact .inr ⟨i+1,b,by rw [qCf,q1];omega,q2,q3⟩
end Go.Proofs.YthpgjkjgkhjjlaaGreatDoor
