/- Part K19 of a proof of statements of chapter 15 (no condition). -/
import Derived.Test.YtkkbopkbjacfmaaGreatDoorK15
set_option linter.unusedVariables false
set_option linter.unusedSimpArgs false
set_option maxRecDepth 100000
set_option maxHeartbeats 64000000
namespace Go.Proofs.YtkkbopkbjacfmaaGreatDoor
open Go.RowKit Go.Proofs.Tryz
theorem AH (r:Rs):FSpec prog 315 [r.a] [] [] (.b (ly r)) [] :=
 bD (fun b W=>by kernel_rfl) rfl fun w S ρ vs _ h=>by
  match vs,h with
  | [_],⟨h1,_⟩=>rw [Rs.open h1];exact (wJ _ w).mono fun _ _=>jb
theorem ol (q:Qu) (h1:q.holds.length<=100000) (h2:q.convs.length<=100000) (h3:q.waits.length<=100000):FSpec prog 79 [q.a] [] [] (.v q.a) []:=by
 refine aS func79 ?_;refine ao ?_;exact Rd
def nM (q:Qu):Wt:=(dv q).getD ⟨⟨0,0,0⟩,⟨0,0⟩,0,0⟩
theorem Iq (q:Qu):FSpec prog 322 [q.a] [] [] (.tup [(nM q).a,.one (.sc (.bool (dv q).isSome))]) []:=by
 obtain ⟨r,hs,cs,ws,gn⟩:=q;refine aS func322 ?_;refine aP (fun c ρ a w hr=>cG (t:=0) (i:=5) hr rfl rfl) (fun hl0_5=>?_);refine aP (fun c ρ a w hr=>cG (t:=0) (i:=6) hr rfl rfl) (fun hl0_6=>?_);cases cs with
 | cons x cs =>
  have e0:(x :: cs)[(0:Int).toNat]? = some x:=rfl;have e1:(x :: cs)[0]? = some x:=rfl;exact Q8
 | nil =>
  cases ws with
  | cons x ws =>
   have e0:(x :: ws)[(0:Int).toNat]? = some x:=rfl;have e1:(x :: ws)[0]? = some x:=rfl;exact Q8
  | nil =>
   refine ao ?_
   (refine gG (qf []) ?_;exact ak)
theorem Ir (q:Qu):eD q=(ly q.res && qD q.res q.holds && decide (q.convs.length<=8) && fe q.waits && (decide (q.holds.length+q.waits.length<=8) && decide (0<=q.gen) && decide (q.gen<=1073741824)) && (ui q 0 q.convs && tk q q.waits)):=by
 unfold eD Fg Fh;rw [Bool.eq_iff_iff];simp only [qBa];constructor <;> (intro h;simp only [h,and_self])
theorem yZ (q:Qu):FSpec prog 258 [q.a] [] [] (.b (eD q)) []:=by
  obtain ⟨v,hv⟩:=qGe (eD q);rw [hv];rw [Ir] at hv;refine aS func258 ?_;refine aP (fun c ρ a w hr=>cG (t:=0) (i:=4) hr rfl rfl) (fun hl0_4=>?_);refine aP (fun c ρ a w hr=>cG (t:=0) (i:=5) hr rfl rfl) (fun hl0_5=>?_);refine aP (fun c ρ a w hr=>cG (t:=0) (i:=6) hr rfl rfl) (fun hl0_6=>?_);cases hP:ly q.res && qD q.res q.holds && decide (q.convs.length<=8) && fe q.waits with
  | false =>
    rw [hP] at hv;obtain rfl:false=v:=hv;repeat' (first|refine az ?_ ?_|(refine aa 9 rfl ?_;first|(refine cB [] (AH q.res) ?_)|(refine cB [] (mU q.res q.holds) ?_)|(refine cB [] (sT q.waits) ?_))|refine ay ?_|exact aA|refine ax fun hb=>?_|exact aT|fail)
    all_goals (exfalso;revert hP;simp [*];try omega)
  | true =>
    rw [hP,Bool.true_and] at hv;simp only [qBa,decide_eq_true_eq] at hP;obtain ⟨⟨⟨p1,p2⟩,p3⟩,p4⟩:=hP;have h8:q.holds.length<=8:=by have:=p2;simp [qD] at this;omega
    have w8:q.waits.length<=8:=by have:=p4;simp [fe] at this;omega
    by_cases hG:q.holds.length+q.waits.length<=8/\0<=q.gen/\q.gen<=1073741824
    case neg =>
      obtain rfl:false=v:=by
        rw [<-hv]
        symm
        rw [Bool.and_eq_false_iff]
        left
        rw [Bool.eq_false_iff];intro h;simp only [qBa,decide_eq_true_eq] at h;exact hG ⟨h.1.1,h.1.2,h.2⟩
      have:=AH q.res;have:=mU q.res q.holds;have:=sT q.waits;repeat' (first|refine az ?_ ?_|refine fV ?_|refine ay ?_|exact aA|(refine ax fun hb=>?_;first|(simp [p1] at hb;done)|(simp [p2] at hb;done)|(simp [p4] at hb;done)|skip)|exact aT|fail)
      all_goals (exfalso;omega)
    obtain ⟨g1,g2,g3⟩:=hG;rw [qDt g1,qDt g2,qDt g3] at hv;simp only [Bool.true_and] at hv;have:=AH q.res;have:=mU q.res q.holds;have:=sT q.waits;refine ao ?_;refine ab (fun i=>i<=q.convs.length/\(ui q i (q.convs.drop i) && tk q q.waits)=v) (fun i=>bC [1,3] [(1,.c (.ptr 1 0)),(3,.c (.ptr 3 0)),(4,.i i)] [(1,.box 78 q.d),(3,.box 74 [.sc (.string q.res.name),.sc (.int .i64 q.res.kind),.sc (.int .i64 q.res.units),.sc (.int .i64 q.res.home)])]) (fun i=>q.convs.length-i) 0 ⟨Nat.zero_le _,hv⟩ aL ?_;rintro i ⟨hi,hs⟩;by_cases hlt:i<q.convs.length
    · rw [qDc hlt,jx] at hs
      obtain ⟨x,hx⟩:=qGe (q.convs[i]);have hgx:q.convs[i]? = some x:=by rw [qGg hlt,hx]
      rw [hx] at hs;obtain ⟨h,hh⟩:=qGe (af q.holds x.proc);have kG:=Ny q.holds x.proc;unfold Ff at hs;rw [hh] at hs kG;clear hv hx hh;have:=eH h;have:=iN q.res x.am;have:=dt q.res x.am h;have:=oh q.convs x.proc;repeat' (first|refine az ?_ ?_|refine fV ?_|refine ay ?_|exact aA|refine ax fun hb=>?_)
      all_goals first
        | (obtain rfl:false=v:=by rw [<-hs];simp [*]
           refine cn (qf []) ?_;exact ak)
        | (refine ⟨i+1,⟨by omega,by rw [<-hs];simp [*]⟩,by omega,?_⟩
           exact aL)
    · rw [qDn (by omega)] at hs
      refine ao ?_;refine ab (fun i=>i<=q.waits.length/\tk q (q.waits.drop i)=v) (fun i=>bC [1,3] [(1,.c (.ptr 1 0)),(3,.c (.ptr 3 0)),(7,.i i)] [(1,.box 78 q.d),(3,.box 74 [.sc (.string q.res.name),.sc (.int .i64 q.res.kind),.sc (.int .i64 q.res.units),.sc (.int .i64 q.res.home)])]) (fun i=>q.waits.length-i) 0 ⟨Nat.zero_le _,hs⟩ aL ?_;rintro i ⟨hi,hs⟩;by_cases hlt:i<q.waits.length
      · rw [qDc hlt,jy] at hs
        have:=iN q.res q.waits[i].am;have:=Ny q.holds q.waits[i].proc;have:=eH (af q.holds q.waits[i].proc);repeat' (first|refine az ?_ ?_|refine fV ?_|refine ay ?_|exact aA|refine ax fun hb=>?_)
        all_goals first
          | (obtain rfl:false=v:=by rw [<-hs];simp [*]
             refine cn (qf []) ?_;exact ak)
          | (refine ⟨i+1,⟨by omega,by rw [<-hs];simp [*]⟩,by omega,?_⟩
             exact aL)
      · rw [qDn (by omega)] at hs
        obtain rfl:true=v:=hs;exact QY
theorem pt (q:Qu):FSpec prog 259 [q.a] [] [] (.b (ai q)) []:=by
 obtain ⟨v,hv⟩:=qGe (ai q);rw [hv];unfold ai at hv;have kH:=Iq q;obtain ⟨x,hx⟩:=qGe (nM q);rw [hx] at kH;unfold nM at hx;refine aS func259 ?_;cases hq:dv q with
 | none =>
  rw [hq] at hv kH;have:=yZ q;repeat' (first|refine az ?_ ?_|refine fV ?_|refine ay ?_|exact aA|refine ax fun hb=>?_)
  all_goals (refine eR ?_;rw [<-hv];simp [*])
 | some y =>
  rw [hq] at hv kH hx;obtain rfl:y=x:=hx;have:=yZ q;have:=O2 q.res q.holds y.proc y.am;repeat' (first|refine az ?_ ?_|refine fV ?_|refine ay ?_|exact aA|refine ax fun hb=>?_)
  all_goals (refine eR ?_;rw [<-hv];simp [*])
theorem cA (q:Qu):FSpec prog 167 [q.a] [] [] (.b (ai q)) []:=by
 have h:eD q=false->ai q=false:=fun h=>by unfold ai;rw [h];rfl
 refine aS func167 ?_;have:=yZ q;have:=pt q;repeat' (first|refine az ?_ ?_|refine fV ?_|refine ay ?_|exact aA|refine ax fun hb=>?_)
 all_goals (refine eR ?_;first|rfl|(rw [h (by assumption)]))
def CP (o:Option Am):Am:=o.getD ⟨0,0⟩
theorem gU (p:Pr):∀(l:List Wt) (k:Nat),(gZ p k l = -1/\go l p=none)\/∃i,∃h:i<l.length,gZ p k l=((k+i:Nat):Int)/\go l p=some l[i].am
 | [],_=>.inl ⟨rfl,rfl⟩
 | x :: l,k=>by
  rw [eL,cr];cases decide (x.proc=p) with
  | true=>exact .inr ⟨0,by simp,rfl,rfl⟩
  | false =>
   rcases gU p l (k+1) with ⟨h1,h2⟩|⟨i,h,h1,h2⟩
   ·exact .inl ⟨h1,h2⟩
   ·exact .inr ⟨i+1,by simpa using h,by rw [qCf,h1];congr 1;omega,by simpa using h2⟩
theorem Ea (q:Qu) (p:Pr):FSpec prog 29 [q.a,p.a] [] [] (.tup [(CP (ah q p)).a,.one (.sc (.bool (ah q p).isSome))]) []:=by
 obtain ⟨v,hv⟩:=qGe (ah q p);rw [hv];unfold ah at hv;rw [eO] at hv;have k1:=oh q.convs p;have k2:=oh q.waits p;unfold dM at k1 k2;refine aS func29 ?_;rcases gU p q.convs 0 with ⟨h1,h2⟩|⟨i,h,h1,h2⟩
 ·rw [h2] at hv;rw [h1] at k1;rcases gU p q.waits 0 with ⟨h3,h4⟩|⟨i,h,h3,h4⟩
  ·rw [h4] at hv;obtain rfl:none=v:=hv;rw [h3] at k2;exact Rw
  ·rw [h4] at hv;obtain rfl:some q.waits[i].am=v:=hv;rw [h3,Nat.zero_add] at k2;exact Rw
 ·rw [h2] at hv;obtain rfl:some q.convs[i].am=v:=hv;rw [h1,Nat.zero_add] at k1;refine ao ?_
  (refine gG (qf []) ?_;exact ak)
instance:ST prog eh 31 42 24:=⟨ElTB.mk' underlying31 (.agg #[.int .i64 0,.int .i64 0,.int .i64 0]) 3 24 (by kernel_rfl) rfl rfl⟩
abbrev Eb (k:Nat) (p:Pr):Nat×Box:=(k,.box 42 [.sc (.int .i64 p.site),.sc (.int .i64 p.inc),.sc (.int .i64 p.num)])
theorem AI (l:List Pr) (p:Pr):FSpec prog 16 [.one (.sl eh l),p.a] [] [] (.b (decide (p∈l))) []:=by
 refine aS func16 ?_;refine aP (fun c ρ a w hr=>ck (t:=0) hr rfl) (fun hl0=>?_);refine ao ?_;refine ab (fun i=>i<=l.length/\(p∈l↔p∈l.drop i)) (fun i=>bC [3] [(0,.c (.sl eh l)),(3,.c (.ptr 3 0)),(5,.i i)] [Eb 3 p]) (fun i=>l.length-i) 0 ⟨Nat.zero_le _,Iff.rfl⟩ aL ?_;rintro i ⟨hi,hs⟩;repeat' (first|refine az ?_ ?_|refine ay ?_|exact aA|refine ax fun hb=>?_)
 ·refine eR ?_;have:p∈l:=by rw [<-hb];exact List.getElem_mem _
  simp [this]
 ·refine ⟨i+1,⟨by omega,?_⟩,by omega,?_⟩
  ·rw [hs,List.drop_eq_getElem_cons (i:=i) (by omega),List.mem_cons];exact ⟨fun h=>h.resolve_left fun e=>hb e.symm,.inr⟩
  ·exact aL
 ·refine eR ?_;have:p ∉ l:=by rw [hs,qDn (by omega)];simp
  simp [this]
theorem Ec (o:Bool) (l:List Pr) (hl:l.length<=1000000):FSpec prog 88 [.one (.sl eh l)] [] (bif o then [0] else []) (.c (bif o then .own 0 else .sl eh (dw l))) (bif o then [(0,some (.arr 42 eh (dw l)))] else []):=by
 refine gN func88 rfl (fun b W=>by kernel_rfl) (by cases o <;> rfl) (qNl rfl) ?_;refine ao ?_;refine bK 3 1000 42 eh rfl rfl rfl ?_;have h0:dw (l.take 0)=[]:=List.eq_nil_of_length_eq_zero (by have:=mJ (l.take 0);simpa using this);refine ab (fun i=>i<=l.length) (fun i=>bC [1000] [(0,.c (.sl eh l)),(3,.c (.own 1000)),(4,.i i)] [(1000,.arr 42 eh (dw (l.take i)))]) (fun i=>l.length-i) 0 (Nat.zero_le _) (by rw [h0];exact aL) ?_;intro i hi;by_cases hlt:i<l.length
 case neg =>
  rw [List.take_of_length_le (by omega)];refine ao ?_;cases o with
  | true=>refine cn (qf [(0,1000)]) ?_;exact ak
  | false=>refine cn (qf []) ?_;exact ak
 obtain ⟨x,hx⟩:=qGe (l[i]);have hgx:l[i]? = some x:=by rw [qGg hlt,hx]
 have hLl:=mJ (l.take i);have HIN:=fun j hj hd ht=>Fj (x:=x) (j:=j) hlt hx hj hd ht;have HHS:=fun hm=>Fk (x:=x) hlt hx hm;obtain ⟨L,hL⟩:=qGe (dw (l.take i));obtain ⟨L',hL'⟩:∃L',dw (l.take (i+1))=L':=⟨_,rfl⟩;rw [hL] at HIN HHS hLl ⊢;simp only [hL,hL'] at HIN HHS;rw [List.length_take] at hLl;clear hL hx;by_cases hm:x∈L
 ·obtain rfl:L=L':=HHS hm;repeat' (first|refine az ?_ ?_|refine aa 9 rfl (cB [1000] (AI L x) ?_)|refine ay ?_|exact aA|(refine ax fun hb=>?_;first|(exact absurd hm hb)|skip))
  refine ⟨i+1,by omega,by omega,?_⟩;rw [hL'];exact aL
 have e1:i4 x L L.length=L++[x]:=by simp [i4]
 repeat' (first|refine az ?_ ?_|(refine aa 8 rfl ?_;refine aK (ae rfl rfl (av rfl rfl) (aB [x] rfl rfl rfl rfl) rfl aE aE) rfl rfl rfl ?_)|refine aa 9 rfl (cB [1000] (AI L x) ?_)|refine ay ?_|exact aA|(refine ax fun hb=>?_;first|(exact absurd hb hm)|skip))
 refine ab (fun j=>j<=L.length/\∀y∈L.drop j,fS x y) (fun j=>bC [1000] [(0,.c (.sl eh l)),(3,.c (.own 1000)),(4,.i i),(5,.i j)] [(1000,.arr 42 eh (i4 x L j))]) (fun j=>j) L.length ⟨Nat.le_refl _,by simp⟩ (by rw [e1];exact a8 (qf [(1000,27)])) ?_;rintro j ⟨hj,hall⟩;have hW:=uj x L j;rcases Nat.eq_zero_or_pos j with h0|h0
 ·subst h0;have e:=HIN 0 (Nat.zero_le _) hall (.inl rfl);rw [e];refine ao ?_;refine ⟨i+1,by omega,by omega,?_⟩;rw [hL'];exact aL
 obtain ⟨y,hy⟩:=qGe (L[j-1]'(by omega));have hg1:(i4 x L j)[((j:Int)-1).toNat]? = some y:=by
  rw [show ((j:Int)-1).toNat=j-1 by omega,qGg (by omega),zM h0 hj,hy]
 have hg2:(i4 x L j)[j]? = some x:=by rw [qGg (by omega),Kk hj]
 have hset:((i4 x L j).set ((j:Int)-1).toNat x).set j y=i4 x L (j-1):=by
  rw [show ((j:Int)-1).toNat=j-1 by omega,<-hy];exact Fl h0 hj
 have hW2:((i4 x L j).set ((j:Int)-1).toNat x).length=L.length+1:=by rw [List.length_set,hW]
 by_cases hc:0<bH y x
 ·have hxy:fS x y:=by rcases dg y x with ⟨_,e⟩|⟨_,e⟩|⟨e,_⟩ <;> first|exact e|omega
  clear HIN HHS;repeat' (first|refine az ?_ ?_|refine aa 9 rfl (cB [] (iO y x) ?_)|refine ay ?_|(refine aa 4 rfl ?_;first|(refine bW (aM (z:=x) rfl rfl rfl rfl (by first|assumption|exact qGg (by omega)) rfl rfl rfl rfl (qNl rfl) rfl rfl) rfl rfl rfl ?_)|(refine bW (aM (z:=y) rfl rfl rfl rfl (by first|assumption|exact qGg (by omega)) rfl rfl rfl rfl (qNl rfl) rfl rfl) rfl rfl rfl ?_))|exact aA|refine ax fun hb=>?_)
  refine ⟨j-1,⟨by omega,?_⟩,by omega,?_⟩
  ·rw [List.drop_eq_getElem_cons (i:=j-1) (by omega),hy,show j-1+1=j by omega];intro z hz;rcases List.mem_cons.1 hz with rfl|hz
   ·exact hxy
   ·exact hall z hz
  ·rw [<-hset];exact aL
 ·have hyx:fS L[j-1] x:=by
   rw [hy];rcases dg y x with ⟨e,_⟩|⟨e,_⟩|⟨_,e⟩
   ·exact e
   ·exact absurd (by rw [<-e,<-hy];exact List.getElem_mem _) hm
   ·omega
  have e:=HIN j hj hall (.inr ⟨by omega,hyx⟩);have:=iO y x;refine ao ?_;refine ⟨i+1,by omega,by omega,?_⟩;rw [hL',<-e];exact aL
theorem CQ (l:List Pr) (hl:l.length<=1000000):FSpec prog 88 [.one (.sl eh l)] [] [] (.c (.sl eh (dw l))) []:=Ec false l hl
theorem Is (l:List Ho) (hl:l.length<=100000):FSpec prog 266 [.one (.sl g8 l)] [] [0] (.c (.own 0)) [(0,some (.arr 42 eh (cL l)))]:=by
 refine aS func266 ?_;refine ao ?_;refine bK 3 1000 42 eh rfl rfl rfl ?_;refine ab (fun i=>i<=l.length) (fun i=>bC [1000] [(0,.c (.sl g8 l)),(3,.c (.own 1000)),(4,.i i)] [(1000,.arr 42 eh (cL (l.take i)))]) (fun i=>l.length-i) 0 (Nat.zero_le _) aL ?_;intro i hi;have hlen:(cL (l.take i)).length=i:=by simp [cL];omega
 by_cases hlt:i<l.length
 ·have e:cL (l.take (i+1))=cL (l.take i)++[l[i].proc]:=by unfold cL;rw [List.take_succ_eq_append_getElem hlt,List.map_append];rfl
  repeat' (first|refine az ?_ ?_|(refine aa 8 rfl ?_;refine aK (ae rfl rfl (av rfl rfl) (aB [l[i].proc] rfl rfl rfl rfl) rfl aE aE) rfl rfl rfl ?_)|refine ay ?_|exact aA|refine ax fun hb=>?_)
  refine ⟨i+1,by omega,by omega,?_⟩;rw [e];exact a8 (qf [(1000,18)])
 ·rw [List.take_of_length_le (by omega)];refine ao ?_
  (refine cn (qf [(0,1000)]) ?_;exact ak)
theorem Nz (q:Qu) (h2:q.convs.length<=100000) (h3:q.waits.length<=100000):FSpec prog 48 [q.a] [] [] (.c (.sl eh (nu q))) []:=by
 refine aS func48 ?_;refine ao ?_;refine bK 3 1000 42 eh rfl rfl rfl ?_;refine ab (fun i=>i<=q.convs.length) (fun i=>bC [1,1000] [(1,.c (.ptr 1 0)),(3,.c (.own 1000)),(4,.i i)] [(1,.box 78 q.d),(1000,.arr 42 eh (bR (q.convs.take i)))]) (fun i=>q.convs.length-i) 0 (Nat.zero_le _) aL ?_;intro i hi;have hlen:(bR (q.convs.take i)).length=i:=by simp [bR];omega
 by_cases hlt:i<q.convs.length
 ·have e:bR (q.convs.take (i+1))=bR (q.convs.take i)++[q.convs[i].proc]:=by unfold bR;rw [List.take_succ_eq_append_getElem hlt,List.map_append];rfl
  repeat' (first|refine az ?_ ?_|(refine aa 8 rfl ?_;refine aK (ae rfl rfl (av rfl rfl) (aB [q.convs[i].proc] rfl rfl rfl rfl) rfl aE aE) rfl rfl rfl ?_)|refine ay ?_|exact aA|refine ax fun hb=>?_)
  refine ⟨i+1,by omega,by omega,?_⟩;rw [e];exact a8 (qf [(1000,21)])
 ·rw [List.take_of_length_le (by omega)];refine ao ?_;refine ab (fun i=>i<=q.waits.length) (fun i=>bC [1,1000] [(1,.c (.ptr 1 0)),(3,.c (.own 1000)),(5,.i i)] [(1,.box 78 q.d),(1000,.arr 42 eh (bR (q.convs++q.waits.take i)))]) (fun i=>q.waits.length-i) 0 (Nat.zero_le _) (by rw [List.take_zero,List.append_nil];exact aL) ?_;intro i hi;have hlen:(bR (q.convs++q.waits.take i)).length=q.convs.length+i:=by simp [bR];omega
  by_cases hlt:i<q.waits.length
  ·have e:bR (q.convs++q.waits.take (i+1))=bR (q.convs++q.waits.take i)++[q.waits[i].proc]:=by unfold bR;rw [List.take_succ_eq_append_getElem hlt,<-List.append_assoc,List.map_append];rfl
   repeat' (first|refine az ?_ ?_|(refine aa 8 rfl ?_;refine aK (ae rfl rfl (av rfl rfl) (aB [q.waits[i].proc] rfl rfl rfl rfl) rfl aE aE) rfl rfl rfl ?_)|refine ay ?_|exact aA|refine ax fun hb=>?_)
   refine ⟨i+1,by omega,by omega,?_⟩;rw [e];exact a8 (qf [(1000,37)])
  ·rw [List.take_of_length_le (by omega)];exact QY
theorem K2 (q:Qu) (h8:fq q):FSpec prog 175 [q.a] [] [] (.c (.sl eh (dW q))) []:=by
 obtain ⟨h1,h2,h3⟩:=h8;have hl:(cL q.holds++nu q).length<=24:=by simp [cL,nu];omega
 have hl1:(cL q.holds).length<=8:=by simp [cL];omega
 have hl2:(nu q).length<=16:=by simp [nu];omega
 refine aS func175 ?_;repeat' (first|refine az ?_ ?_|(refine aa 9 rfl ?_;first|(refine cH (qf [(0,1000)]) (Is q.holds (by omega)) ?_)|(refine cC [] (Nz q (by omega) (by omega)) ?_)|(refine cC [8] (CQ (cL q.holds++nu q) (by omega)) ?_))|refine ay ?_|exact aA|refine ax fun hb=>?_|exact aT|fail)
theorem om (l:List Qu) (n:ByteArray):FSpec prog 127 [.one (.sl ic l),.one (.sc (.string n))] [] [] (.i (bV n 0 l)) []:=by
 obtain ⟨v,hv⟩:=qGe (bV n 0 l);rw [hv];refine aS func127 ?_;refine aP (fun c ρ a w hr=>ck (t:=0) hr rfl) (fun hl0=>?_);refine ao ?_;refine ab (fun i=>i<=l.length/\bV n i (l.drop i)=v) (fun i=>bC [] [(0,.c (.sl ic l)),(1,.c (.sc (.string n))),(5,.i i)] []) (fun i=>l.length-i) 0 ⟨Nat.zero_le _,hv⟩ aL ?_;rintro i ⟨hi,hs⟩;by_cases hlt:i<l.length
 ·rw [qDc hlt,fI] at hs;repeat' (first|refine az ?_ ?_|refine ay ?_|exact aA|refine ax fun hb=>?_)
  ·exact Rx
  ·refine ⟨i+1,⟨by omega,by rw [<-hs,beq_eq_false_iff_ne.2 hb];rfl⟩,by omega,?_⟩;exact aL
 ·exact Ra
theorem vj (l:List Qu):FSpec prog 82 [.one (.sl ic l)] [] [] (.b (cM l)) []:=by
  obtain ⟨v,hv⟩:=qGe (cM l);rw [hv];unfold cM at hv;refine aS func82 ?_;refine aP (fun c ρ a w hr=>ck (t:=0) hr rfl) (fun hl0=>?_);by_cases h8:8<l.length
  · rw [qDf (by omega)] at hv
    obtain rfl:false=v:=hv;exact QY
  rw [qDt (by omega),Bool.true_and] at hv;refine ao ?_;refine ab (fun i=>i<=l.length/\jz (um l i) (l.drop i)=v) (fun i=>bC [] [(0,.c (.sl ic l)),(3,.i i)] []) (fun i=>l.length-i) 0 ⟨Nat.zero_le _,hv⟩ aL ?_;rintro i ⟨hi,hs⟩;by_cases hlt:i<l.length
  · rw [qDc hlt,ct] at hs
    rcases Nat.eq_zero_or_pos i with h0|h0
    · subst h0
      rw [uo] at hs;have:=cA l[0];repeat' (first|refine az ?_ ?_|refine fV ?_|refine ay ?_|exact aA|(refine ax fun hb=>?_;first|(simp at hb;done)|skip))
      all_goals first
        | (obtain rfl:false=v:=by rw [<-hs];simp [*]
           refine cn (qf []) ?_;exact ak)
        | (refine ⟨1,⟨by omega,by rw [<-hs,nX hlt rfl];simp [*,Ka]⟩,by omega,?_⟩
           exact aL)
    · obtain ⟨m,hm⟩:=qGe (l[i-1])
      have hgm:l[((i:Int)-1).toNat]? = some m:=by rw [show ((i:Int)-1).toNat=i-1 by omega,qGg (by omega),hm]
      rw [xo h0 (by omega) hm] at hs;have:=cA l[i];repeat' (first|refine az ?_ ?_|refine fV ?_|refine ay ?_|exact aA|refine ax fun hb=>?_)
      all_goals first
        | (obtain rfl:false=v:=by rw [<-hs];simp [*,Ka]
           refine cn (qf []) ?_;exact ak)
        | (refine ⟨i+1,⟨by omega,by rw [<-hs,nX hlt rfl];simp [*,Ka]⟩,by omega,?_⟩
           exact aL)
  · rw [qDn (by omega)] at hs
    obtain rfl:true=v:=hs;exact QY
theorem vl (q:Qu) (l:List Qu):iD (q :: l)=dW q++iD l:=rfl
theorem AJ (o:Bool) (l:List Qu) (hm:l.length<=12) (h8:∀q∈l,fq q):FSpec prog 87 [.one (.sl ic l)] [] (bif o then [0] else []) (.c (bif o then .own 0 else .sl eh (aD l))) (bif o then [(0,some (.arr 42 eh (aD l)))] else []):=by
 obtain ⟨R,hR⟩:=qGe (iD l);have hRl:R.length<=288:=by rw [<-hR];have:=oS l h8;omega
 unfold aD;rw [hR];refine gN func87 rfl (fun b W=>by kernel_rfl) (by cases o <;> rfl) (qNl rfl) ?_;refine ao ?_;refine bK 3 1000 42 eh rfl rfl rfl ?_;refine ab (fun x:Nat×List Pr=>x.1<=l.length/\x.2++iD (l.drop x.1)=R) (fun x=>bC [1000] [(0,.c (.sl ic l)),(3,.c (.own 1000)),(4,.i x.1)] [(1000,.arr 42 eh x.2)]) (fun x=>l.length-x.1) (0,[]) ⟨Nat.zero_le _,hR⟩ aL ?_;rintro ⟨i,out⟩ ⟨hi,hs⟩;dsimp only at *
 have hol:out.length<=288:=by have:=congrArg List.length hs;simp at this;omega
 by_cases hlt:i<l.length
 ·rw [qDc hlt,vl,<-List.append_assoc] at hs;have hq:=h8 _ (List.getElem_mem hlt);have hql:=nW hq;have kP:=K2 l[i] hq;clear h8;refine ao ?_;refine ⟨(i+1,out++dW l[i]),⟨by dsimp only;omega,hs⟩,by dsimp only;omega,?_⟩;exact a8 (qf [(1000,17)])
 ·rw [qDn (by omega)] at hs;obtain rfl:out=R:=by rw [<-hs];simp [iD]
  repeat' (first|refine az ?_ ?_|((fail_if_success (first|refine po 6 ?_|refine pp 6 ?_));refine ay ?_)|exact aA|refine ax fun hb=>?_)
  refine kx 1000 rfl ?_;cases o with
  | true =>
   repeat' (first|refine az ?_ ?_|refine aa 9 rfl (cH (qf [(0,1001)]) (Ec true out (by omega)) ?_)|refine ay ?_|exact aA|refine ax fun hb=>?_|(refine cn (qf [(0,1001)]) ?_;exact ak))
  | false =>
   have:=CQ out (by omega);exact QY
theorem pu (l:List Qu) (hm:l.length<=12) (h8:∀q∈l,fq q):FSpec prog 87 [.one (.sl ic l)] [] [] (.c (.sl eh (aD l))) []:=AJ false l hm h8
theorem jk (l:List En) (n:ByteArray):FSpec prog 239 [.one (.sl jp l),.one (.sc (.string n))] [] [] (.v (aw l n).a) []:=by
 obtain ⟨v,hv⟩:=qGe (aw l n);rw [hv];unfold aw at hv;refine aS func239 ?_;refine aP (fun c ρ a w hr=>ck (t:=0) hr rfl) (fun hl0=>?_);refine ao ?_;refine ab (fun x:Nat×Am=>x.1<=l.length/\dI n x.2 (l.drop x.1)=v) (fun x=>bC [4,5] [(0,.c (.sl jp l)),(1,.c (.sc (.string n))),(4,.c (.ptr 4 0)),(5,.c (.ptr 5 0)),(6,.i x.1)] [(4,.box 61 [.sc (.int .i64 0),.sc (.int .i64 0)]),(5,.box 61 [.sc (.int .i64 x.2.mode),.sc (.int .i64 x.2.units)])]) (fun x=>l.length-x.1) (0,⟨0,0⟩) ⟨Nat.zero_le _,hv⟩ aL ?_;rintro ⟨i,a⟩ ⟨hi,hs⟩;dsimp only at *
 by_cases hlt:i<l.length
 ·rw [qDc hlt,dI] at hs;repeat' (first|refine az ?_ ?_|refine ay ?_|exact aA|refine ax fun hb=>?_)
  ·refine ⟨(i+1,l[i].after),⟨by dsimp only;omega,by rw [<-hs];simp [*,aV]⟩,by dsimp only;omega,?_⟩;exact aL
  ·refine ⟨(i+1,a),⟨by dsimp only;omega,by rw [<-hs,aV,beq_eq_false_iff_ne.2 hb];rfl⟩,by dsimp only;omega,?_⟩;exact aL
 ·rw [qDn (by omega)] at hs;obtain rfl:a=v:=hs;exact QY
theorem It (x y:Am):FSpec prog 240 [x.a,y.a] [] [] (.b (dx x y)) []:=by
 unfold dx aJ;refine aS func240 ?_;repeat' (first|refine az ?_ ?_|(refine aa 9 rfl ?_;first|(refine cB [] (mS y) ?_)|(refine cB [] (mS x) ?_)|(refine cB [] (D8 y.mode x.mode) ?_))|refine ay ?_|exact aA|refine ax fun hb=>?_)
 all_goals (refine eR ?_;first|(simp [*];done)|(simp_all;done))
theorem kz (l:List Sv) (n:Int):FSpec prog 242 [.one (.sl ji l),.one (.sc (.int .i64 n))] [] [] (.i (aO n 0 l)) []:=by
 obtain ⟨v,hv⟩:=qGe (aO n 0 l);rw [hv];refine aS func242 ?_;refine aP (fun c ρ a w hr=>ck (t:=0) hr rfl) (fun hl0=>?_);refine ao ?_;refine ab (fun i=>i<=l.length/\aO n i (l.drop i)=v) (fun i=>bC [] [(0,.c (.sl ji l)),(1,.i n),(5,.i i)] []) (fun i=>l.length-i) 0 ⟨Nat.zero_le _,hv⟩ aL ?_;rintro i ⟨hi,hs⟩;by_cases hlt:i<l.length
 ·rw [qDc hlt,aO] at hs;repeat' (first|refine az ?_ ?_|refine ay ?_|exact aA|refine ax fun hb=>?_)
  ·exact Rx
  ·exact Rb
 ·exact Ra
end Go.Proofs.YtkkbopkbjacfmaaGreatDoor
