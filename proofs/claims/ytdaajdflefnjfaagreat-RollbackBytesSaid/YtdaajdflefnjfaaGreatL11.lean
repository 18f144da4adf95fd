/- Part 11 of 24 of the proof of rollbackBytes_holds (no condition). -/
import Derived.Test.YtdaajdflefnjfaaGreatL10
set_option linter.unusedVariables false
set_option linter.unusedSimpArgs false
set_option maxRecDepth 100000
set_option maxHeartbeats 64000000
namespace Go.Proofs.YtdaajdflefnjfaaGreat
open Go.RowKit Go.Proofs.Tryz
theorem xL (r:Rs):FSpec prog 126 [r.a] [] [] (.b (mm r)) [] :=
 aS (fun b W=>by kernel_rfl) rfl fun w S ρ vs _ h=>by
  match vs,h with
  | [_],⟨h1,_⟩=>rw [Rs.open h1];exact (tq _ w).mono fun _ _=>lM
theorem mN (q:Qu) (h1:q.holds.length≤100000) (h2:q.convs.length≤100000) (h3:q.waits.length≤100000):FSpec prog 164 [q.a] [] [] (.v q.a) []:=by
 refine aX func164 ?_
 repeat' (first
  | refine ah ?_ ?_
  | refine af ?_
  | exact ai|refine ae fun hb=>?_)
 refine aE (qf []) ?_;exact ab
def Ed (q:Qu):Wt:=(dP q).getD ⟨⟨0,0,0⟩,⟨0,0⟩,0,0⟩
theorem Ee (q:Qu):FSpec prog 241 [q.a] [] [] (.tup [(Ed q).a,.one (.sc (.bool (dP q).isSome))]) []:=by
 obtain ⟨r,hs,cs,ws,gn⟩:=q
 refine aX func241 ?_
 refine aR (fun c ρ a w hr=>dQ (t:=0) (i:=5) hr rfl rfl) (fun hl0_5=>?_)
 refine aR (fun c ρ a w hr=>dQ (t:=0) (i:=6) hr rfl rfl) (fun hl0_6=>?_)
 cases cs with
 | cons x cs =>
  have e0:(x :: cs)[(0:Int).toNat]? = some x:=rfl
  have e1:(x :: cs)[0]? = some x:=rfl
  repeat' (first
   | refine ah ?_ ?_
   | refine af ?_
   | exact ai|(refine ae fun hb=>?_;first|(simp at hb;done)|skip)
   | (refine iG (qf []) ?_;exact ab))
 | nil =>
  cases ws with
  | cons x ws =>
   have e0:(x :: ws)[(0:Int).toNat]? = some x:=rfl
   have e1:(x :: ws)[0]? = some x:=rfl
   repeat' (first
    | refine ah ?_ ?_
    | refine af ?_
    | exact ai|(refine ae fun hb=>?_;first|(simp at hb;done)|skip)
    | (refine iG (qf []) ?_;exact ab))
  | nil =>
   repeat' (first
    | refine ah ?_ ?_
    | refine af ?_
    | exact ai|(refine ae fun hb=>?_;first|(simp at hb;done)|skip)
    | (refine iG (qf []) ?_;exact ab))
theorem Ef (q:Qu):et q=(mm q.res && tT q.res q.holds && decide (q.convs.length≤8) && gX q.waits && (decide (q.holds.length+q.waits.length≤8) && decide (0≤q.gen) && decide (q.gen≤1073741824)) && (tw q 0 q.convs && re q q.waits)):=by
 unfold et F9 Ga
 rw [Bool.eq_iff_iff]
 simp only [Bool.and_eq_true]
 constructor <;> (intro h;simp only [h,and_self])
theorem vS (q:Qu):FSpec prog 214 [q.a] [] [] (.b (et q)) []:=by
  obtain ⟨v,hv⟩:∃v,et q=v:=⟨_,rfl⟩
  rw [hv]
  rw [Ef] at hv
  refine aX func214 ?_
  refine aR (fun c ρ a w hr=>dQ (t:=0) (i:=4) hr rfl rfl) (fun hl0_4=>?_)
  refine aR (fun c ρ a w hr=>dQ (t:=0) (i:=5) hr rfl rfl) (fun hl0_5=>?_)
  refine aR (fun c ρ a w hr=>dQ (t:=0) (i:=6) hr rfl rfl) (fun hl0_6=>?_)
  cases hP:mm q.res && tT q.res q.holds && decide (q.convs.length≤8) && gX q.waits with
  | false =>
    rw [hP] at hv
    obtain rfl:false=v:=hv
    repeat' (first
      | refine ah ?_ ?_
      | (refine aa 9 rfl ?_;first
        | (refine cB [] (xL q.res) ?_)
        | (refine cB [] (lS q.res q.holds) ?_)
        | (refine cB [] (qn q.waits) ?_))
      | refine af ?_
      | exact ai|refine ae fun hb=>?_
      | (refine aE (qf []) ?_;exact ab))
    all_goals (exfalso;revert hP;simp [*];try omega)
  | true =>
    rw [hP,Bool.true_and] at hv
    simp only [Bool.and_eq_true,decide_eq_true_eq] at hP
    obtain ⟨⟨⟨p1,p2⟩,p3⟩,p4⟩:=hP
    have h8:q.holds.length≤8:=by have:=p2;simp [tT] at this;omega
    have w8:q.waits.length≤8:=by have:=p4;simp [gX] at this;omega
    by_cases hG:q.holds.length+q.waits.length≤8∧0≤q.gen∧q.gen≤1073741824
    case neg =>
      obtain rfl:false=v:=by
        rw [←hv]
        symm
        rw [Bool.and_eq_false_iff]
        left
        rw [Bool.eq_false_iff]
        intro h
        simp only [Bool.and_eq_true,decide_eq_true_eq] at h
        exact hG ⟨h.1.1,h.1.2,h.2⟩
      repeat' (first
        | refine ah ?_ ?_
        | (refine aa 9 rfl ?_;first
          | (refine cB [] (xL q.res) ?_)
          | (refine cB [] (lS q.res q.holds) ?_)
          | (refine cB [] (qn q.waits) ?_))
        | refine af ?_
        | exact ai|(refine ae fun hb=>?_;first|(simp [p1] at hb;done)|(simp [p2] at hb;done)|(simp [p4] at hb;done)|skip)
        | (refine aE (qf []) ?_;exact ab))
      all_goals (exfalso;omega)
    obtain ⟨g1,g2,g3⟩:=hG
    rw [decide_eq_true g1,decide_eq_true g2,decide_eq_true g3] at hv
    simp only [Bool.true_and] at hv
    repeat' (first
      | refine ah ?_ ?_
      | (refine aa 9 rfl ?_;first
        | (refine cB [] (xL q.res) ?_)
        | (refine cB [] (lS q.res q.holds) ?_)
        | (refine cB [] (qn q.waits) ?_))
      | refine af ?_
      | exact ai|(refine ae fun hb=>?_;first|(simp [p1] at hb;done)|(simp [p2] at hb;done)|(simp [p4] at hb;done)|skip))
    refine ak (fun i=>i≤q.convs.length∧(tw q i (q.convs.drop i) && re q q.waits)=v) (fun i=>bH [1,3] [(1,.c (.ptr 1 0)),(3,.c (.ptr 3 0)),(4,.i i)] [(1,.box 165 q.d),(3,.box 159 [.sc (.string q.res.name),.sc (.int .i64 q.res.kind),.sc (.int .i64 q.res.units),.sc (.int .i64 q.res.home)])]) (fun i=>q.convs.length-i) 0 ⟨Nat.zero_le _,hv⟩ (by exact ao (qf [])) ?_
    rintro i ⟨hi,hs⟩
    by_cases hlt:i<q.convs.length
    · rw [List.drop_eq_getElem_cons hlt,ly] at hs
      obtain ⟨x,hx⟩:∃x,q.convs[i]=x:=⟨_,rfl⟩
      have hgx:q.convs[i]? = some x:=by rw [List.getElem?_eq_getElem hlt,hx]
      rw [hx] at hs
      obtain ⟨h,hh⟩:∃h,aq q.holds x.proc=h:=⟨_,rfl⟩
      have kG:=Jl q.holds x.proc
      unfold Dj at hs
      rw [hh] at hs kG
      clear hv hx hh
      repeat' (first
        | refine ah ?_ ?_
        | (refine aa 9 rfl ?_;first
          | (refine cB [] (kG) ?_)
          | (refine cB [] (fg h) ?_)
          | (refine cB [] (ii q.res x.am) ?_)
          | (refine cB [] (dq q.res x.am h) ?_)
          | (refine cB [] (mM q.convs x.proc) ?_))
        | refine af ?_
        | exact ai|refine ae fun hb=>?_)
      all_goals first
        | (obtain rfl:false=v:=by rw [←hs];simp [*]
           refine aE (qf []) ?_;exact ab)
        | (refine ⟨i+1,⟨by omega,by rw [←hs];simp [*]⟩,by omega,?_⟩
           exact ao (qf []))
    · rw [List.drop_eq_nil_of_le (by omega)] at hs
      repeat' (first
        | refine ah ?_ ?_
        | refine af ?_
        | exact ai|refine ae fun hb=>?_)
      refine ak (fun i=>i≤q.waits.length∧re q (q.waits.drop i)=v) (fun i=>bH [1,3] [(1,.c (.ptr 1 0)),(3,.c (.ptr 3 0)),(7,.i i)] [(1,.box 165 q.d),(3,.box 159 [.sc (.string q.res.name),.sc (.int .i64 q.res.kind),.sc (.int .i64 q.res.units),.sc (.int .i64 q.res.home)])]) (fun i=>q.waits.length-i) 0 ⟨Nat.zero_le _,hs⟩ (by exact ao (qf [])) ?_
      rintro i ⟨hi,hs⟩
      by_cases hlt:i<q.waits.length
      · rw [List.drop_eq_getElem_cons hlt,lz] at hs
        repeat' (first
          | refine ah ?_ ?_
          | (refine aa 9 rfl ?_;first
            | (refine cB [] (ii q.res q.waits[i].am) ?_)
            | (refine cB [] (Jl q.holds q.waits[i].proc) ?_)
            | (refine cB [] (fg (aq q.holds q.waits[i].proc)) ?_))
          | refine af ?_
          | exact ai|refine ae fun hb=>?_)
        all_goals first
          | (obtain rfl:false=v:=by rw [←hs];simp [*]
             refine aE (qf []) ?_;exact ab)
          | (refine ⟨i+1,⟨by omega,by rw [←hs];simp [*]⟩,by omega,?_⟩
             exact ao (qf []))
      · rw [List.drop_eq_nil_of_le (by omega)] at hs
        obtain rfl:true=v:=hs
        repeat' (first
          | refine ah ?_ ?_
          | refine af ?_
          | exact ai|refine ae fun hb=>?_
          | (refine aE (qf []) ?_;exact ab))
theorem n5 (q:Qu):FSpec prog 215 [q.a] [] [] (.b (ar q)) []:=by
 obtain ⟨v,hv⟩:∃v,ar q=v:=⟨_,rfl⟩
 rw [hv]
 unfold ar at hv
 have kH:=Ee q
 obtain ⟨x,hx⟩:∃x,Ed q=x:=⟨_,rfl⟩
 rw [hx] at kH
 unfold Ed at hx
 refine aX func215 ?_
 cases hq:dP q with
 | none =>
  rw [hq] at hv kH
  repeat' (first
   | refine ah ?_ ?_
   | (refine aa 9 rfl ?_;first
    | (refine cB [] (vS q) ?_)
    | (refine cB [] (kH) ?_))
   | refine af ?_
   | exact ai|refine ae fun hb=>?_)
  all_goals (refine gz ?_;rw [←hv];simp [*])
 | some y =>
  rw [hq] at hv kH hx
  obtain rfl:y=x:=hx
  repeat' (first
   | refine ah ?_ ?_
   | (refine aa 9 rfl ?_;first
    | (refine cB [] (vS q) ?_)
    | (refine cB [] (kH) ?_)
    | (refine cB [] (Kx q.res q.holds y.proc y.am) ?_))
   | refine af ?_
   | exact ai|refine ae fun hb=>?_)
  all_goals (refine gz ?_;rw [←hv];simp [*])
theorem ck (q:Qu):FSpec prog 157 [q.a] [] [] (.b (ar q)) []:=by
 have h:et q=false→ar q=false:=fun h=>by unfold ar;rw [h];rfl
 refine aX func157 ?_
 repeat' (first
  | refine ah ?_ ?_
  | (refine aa 9 rfl ?_;first
   | (refine cB [] (vS q) ?_)
   | (refine cB [] (n5 q) ?_))
  | refine af ?_
  | exact ai|refine ae fun hb=>?_)
 all_goals (refine gz ?_;first|rfl|(rw [h (by assumption)]))
def Eg (o:Option Am):Am:=o.getD ⟨0,0⟩
theorem ky (p:Pr):∀(l:List Wt) (k:Nat),(gW p k l = -1∧g4 l p=none)∨∃i,∃h:i<l.length,gW p k l=((k+i:Nat):Int)∧g4 l p=some l[i].am
 | [],_=>.inl ⟨rfl,rfl⟩
 | x :: l,k=>by
  rw [fc,cA]
  cases decide (x.proc=p) with
  | true=>exact .inr ⟨0,by simp,rfl,rfl⟩
  | false =>
   rcases ky p l (k+1) with ⟨h1,h2⟩|⟨i,h,h1,h2⟩
   ·exact .inl ⟨h1,h2⟩
   ·exact .inr ⟨i+1,by simpa using h,by rw [cond_false,h1];congr 1;omega,by simpa using h2⟩
theorem AP (q:Qu) (p:Pr):FSpec prog 162 [q.a,p.a] [] [] (.tup [(Eg (ap q p)).a,.one (.sc (.bool (ap q p).isSome))]) []:=by
 obtain ⟨v,hv⟩:∃v,ap q p=v:=⟨_,rfl⟩
 rw [hv]
 unfold ap at hv
 rw [eN] at hv
 have k1:=mM q.convs p
 have k2:=mM q.waits p
 unfold eH at k1 k2
 refine aX func162 ?_
 rcases ky p q.convs 0 with ⟨h1,h2⟩|⟨i,h,h1,h2⟩
 ·rw [h2] at hv
  rw [h1] at k1
  rcases ky p q.waits 0 with ⟨h3,h4⟩|⟨i,h,h3,h4⟩
  ·rw [h4] at hv
   obtain rfl:none=v:=hv
   rw [h3] at k2
   repeat' (first
    | refine ah ?_ ?_
    | (refine aa 9 rfl ?_;first
     | (refine cB [] (k1) ?_)
     | (refine cB [] (k2) ?_))
    | refine af ?_
    | exact ai|refine ae fun hb=>?_
    | (refine iG (qf []) ?_;exact ab))
  ·rw [h4] at hv
   obtain rfl:some q.waits[i].am=v:=hv
   rw [h3,Nat.zero_add] at k2
   repeat' (first
    | refine ah ?_ ?_
    | (refine aa 9 rfl ?_;first
     | (refine cB [] (k1) ?_)
     | (refine cB [] (k2) ?_))
    | refine af ?_
    | exact ai|refine ae fun hb=>?_
    | (refine iG (qf []) ?_;exact ab))
 ·rw [h2] at hv
  obtain rfl:some q.convs[i].am=v:=hv
  rw [h1,Nat.zero_add] at k1
  repeat' (first
   | refine ah ?_ ?_
   | refine aa 9 rfl (cB [] (k1) ?_)
   | refine af ?_
   | exact ai|refine ae fun hb=>?_
   | (refine iG (qf []) ?_;exact ab))
instance:ST prog iz 87 23 24:=⟨ElTB.mk' underlying87 (.agg #[.int .i64 0,.int .i64 0,.int .i64 0]) 3 24 (by kernel_rfl) rfl rfl⟩
abbrev Ms (k:Nat) (p:Pr):Nat×Box:=(k,.box 23 [.sc (.int .i64 p.site),.sc (.int .i64 p.inc),.sc (.int .i64 p.num)])
theorem xM (l:List Pr) (p:Pr):FSpec prog 169 [.one (.sl iz l),p.a] [] [] (.b (decide (p∈l))) []:=by
 refine aX func169 ?_
 refine aR (fun c ρ a w hr=>cu (t:=0) hr rfl) (fun hl0=>?_)
 repeat' (first
  | refine ah ?_ ?_
  | refine af ?_
  | exact ai|refine ae fun hb=>?_)
 refine ak (fun i=>i≤l.length∧(p∈l↔p∈l.drop i)) (fun i=>bH [3] [(0,.c (.sl iz l)),(3,.c (.ptr 3 0)),(5,.i i)] [Ms 3 p]) (fun i=>l.length-i) 0 ⟨Nat.zero_le _,Iff.rfl⟩ (by exact ao (qf [])) ?_
 rintro i ⟨hi,hs⟩
 repeat' (first
  | refine ah ?_ ?_
  | refine af ?_
  | exact ai|refine ae fun hb=>?_)
 ·refine gz ?_
  have:p∈l:=by rw [←hb];exact List.getElem_mem _
  simp [this]
 ·refine ⟨i+1,⟨by omega,?_⟩,by omega,?_⟩
  ·rw [hs,List.drop_eq_getElem_cons (i:=i) (by omega),List.mem_cons]
   exact ⟨fun h=>h.resolve_left fun e=>hb e.symm,.inr⟩
  ·exact ao (qf [])
 ·refine gz ?_
  have:p ∉ l:=by rw [hs,List.drop_eq_nil_of_le (by omega)];simp
  simp [this]
theorem AQ (o:Bool) (l:List Pr) (hl:l.length≤1000000):FSpec prog 120 [.one (.sl iz l)] [] (bif o then [0] else []) (.c (bif o then .own 0 else .sl iz (dv l))) (bif o then [(0,some (.arr 23 iz (dv l)))] else []):=by
 refine gg func120 rfl (fun b W=>by kernel_rfl) (by cases o <;> rfl) (Nat.le_of_ble_eq_true rfl) ?_
 repeat' (first
  | refine ah ?_ ?_
  | refine af ?_
  | exact ai|refine ae fun hb=>?_)
 refine cc 3 1000 23 iz rfl rfl rfl ?_
 have h0:dv (l.take 0)=[]:=List.eq_nil_of_length_eq_zero (by have:=lA (l.take 0);simpa using this)
 refine ak (fun i=>i≤l.length) (fun i=>bH [1000] [(0,.c (.sl iz l)),(3,.c (.own 1000)),(4,.i i)] [(1000,.arr 23 iz (dv (l.take i)))]) (fun i=>l.length-i) 0 (Nat.zero_le _) (by rw [h0];exact ao (qf [])) ?_
 intro i hi
 by_cases hlt:i<l.length
 case neg =>
  rw [List.take_of_length_le (by omega)]
  repeat' (first
   | refine ah ?_ ?_
   | refine af ?_
   | exact ai|refine ae fun hb=>?_)
  cases o with
  | true=>refine aE (qf [(0,1000)]) ?_;exact ab
  | false=>refine aE (qf []) ?_;exact ab
 obtain ⟨x,hx⟩:∃x,l[i]=x:=⟨_,rfl⟩
 have hgx:l[i]? = some x:=by rw [List.getElem?_eq_getElem hlt,hx]
 have hLl:=lA (l.take i)
 have HIN:=fun j hj hd ht=>BH (x:=x) (j:=j) hlt hx hj hd ht
 have HHS:=fun hm=>BI (x:=x) hlt hx hm
 obtain ⟨L,hL⟩:∃L,dv (l.take i)=L:=⟨_,rfl⟩
 obtain ⟨L',hL'⟩:∃L',dv (l.take (i+1))=L':=⟨_,rfl⟩
 rw [hL] at HIN HHS hLl ⊢
 simp only [hL,hL'] at HIN HHS
 rw [List.length_take] at hLl
 clear hL hx
 by_cases hm:x∈L
 ·obtain rfl:L=L':=HHS hm
  repeat' (first
   | refine ah ?_ ?_
   | refine aa 9 rfl (cB [1000] (xM L x) ?_)
   | refine af ?_
   | exact ai|(refine ae fun hb=>?_;first|(exact absurd hm hb)|skip))
  refine ⟨i+1,by omega,by omega,?_⟩
  rw [hL']
  exact ao (qf [])
 have e1:iu x L L.length=L++[x]:=by simp [iu]
 repeat' (first
  | refine ah ?_ ?_
  | (refine aa 8 rfl ?_;refine aM (aj rfl rfl (ax rfl rfl) (aB [x] rfl rfl rfl rfl) rfl aC aC) rfl rfl rfl ?_)
  | refine aa 9 rfl (cB [1000] (xM L x) ?_)
  | refine af ?_
  | exact ai|(refine ae fun hb=>?_;first|(exact absurd hb hm)|skip))
 refine ak (fun j=>j≤L.length∧∀y∈L.drop j,fY x y) (fun j=>bH [1000] [(0,.c (.sl iz l)),(3,.c (.own 1000)),(4,.i i),(5,.i j)] [(1000,.arr 23 iz (iu x L j))]) (fun j=>j) L.length ⟨Nat.le_refl _,by simp⟩ (by rw [e1];exact ao (qf [(1000,27)])) ?_
 rintro j ⟨hj,hall⟩
 have hW:=rg x L j
 rcases Nat.eq_zero_or_pos j with h0|h0
 ·subst h0
  have e:=HIN 0 (Nat.zero_le _) hall (.inl rfl)
  rw [e]
  repeat' (first
   | refine ah ?_ ?_
   | refine af ?_
   | exact ai|refine ae fun hb=>?_)
  refine ⟨i+1,by omega,by omega,?_⟩
  rw [hL']
  exact ao (qf [])
 obtain ⟨y,hy⟩:∃y,L[j-1]'(by omega)=y:=⟨_,rfl⟩
 have hg1:(iu x L j)[((j:Int)-1).toNat]? = some y:=by
  rw [show ((j:Int)-1).toNat=j-1 by omega,List.getElem?_eq_getElem (by omega),wT h0 hj,hy]
 have hg2:(iu x L j)[j]? = some x:=by rw [List.getElem?_eq_getElem (by omega),Gh hj]
 have hset:((iu x L j).set ((j:Int)-1).toNat x).set j y=iu x L (j-1):=by
  rw [show ((j:Int)-1).toNat=j-1 by omega,←hy];exact BJ h0 hj
 have hW2:((iu x L j).set ((j:Int)-1).toNat x).length=L.length+1:=by rw [List.length_set,hW]
 by_cases hc:0<cU y x
 ·have hxy:fY x y:=by rcases dU y x with ⟨_,e⟩|⟨_,e⟩|⟨e,_⟩ <;> first|exact e|omega
  clear HIN HHS
  repeat' (first
   | refine ah ?_ ?_
   | refine aa 9 rfl (cB [] (ij y x) ?_)
   | refine af ?_
   | (refine aa 4 rfl ?_;first
    | (refine bP (aI (z:=x) rfl rfl rfl rfl (by first|assumption|exact List.getElem?_eq_getElem (by omega)) rfl rfl rfl rfl (Nat.le_of_ble_eq_true rfl) rfl rfl) rfl rfl rfl ?_)
    | (refine bP (aI (z:=y) rfl rfl rfl rfl (by first|assumption|exact List.getElem?_eq_getElem (by omega)) rfl rfl rfl rfl (Nat.le_of_ble_eq_true rfl) rfl rfl) rfl rfl rfl ?_))
   | exact ai|refine ae fun hb=>?_)
  refine ⟨j-1,⟨by omega,?_⟩,by omega,?_⟩
  ·rw [List.drop_eq_getElem_cons (i:=j-1) (by omega),hy,show j-1+1=j by omega]
   intro z hz
   rcases List.mem_cons.1 hz with rfl|hz
   ·exact hxy
   ·exact hall z hz
  ·rw [←hset]
   exact ao (qf [])
 ·have hyx:fY L[j-1] x:=by
   rw [hy]
   rcases dU y x with ⟨e,_⟩|⟨e,_⟩|⟨_,e⟩
   ·exact e
   ·exact absurd (by rw [←e,←hy];exact List.getElem_mem _) hm
   ·omega
  have e:=HIN j hj hall (.inr ⟨by omega,hyx⟩)
  repeat' (first
   | refine ah ?_ ?_
   | refine aa 9 rfl (cB [] (ij y x) ?_)
   | refine af ?_
   | exact ai|refine ae fun hb=>?_)
  refine ⟨i+1,by omega,by omega,?_⟩
  rw [hL',←e]
  exact ao (qf [])
theorem zA (l:List Pr) (hl:l.length≤1000000):FSpec prog 120 [.one (.sl iz l)] [] [] (.c (.sl iz (dv l))) []:=AQ false l hl
theorem Eh (l:List Ho) (hl:l.length≤100000):FSpec prog 221 [.one (.sl oS l)] [] [0] (.c (.own 0)) [(0,some (.arr 23 iz (du l)))]:=by
 refine aX func221 ?_
 repeat' (first
  | refine ah ?_ ?_
  | refine af ?_
  | exact ai|refine ae fun hb=>?_)
 refine cc 3 1000 23 iz rfl rfl rfl ?_
 refine ak (fun i=>i≤l.length) (fun i=>bH [1000] [(0,.c (.sl oS l)),(3,.c (.own 1000)),(4,.i i)] [(1000,.arr 23 iz (du (l.take i)))]) (fun i=>l.length-i) 0 (Nat.zero_le _) (by exact ao (qf [])) ?_
 intro i hi
 have hlen:(du (l.take i)).length=i:=by simp [du];omega
 by_cases hlt:i<l.length
 ·have e:du (l.take (i+1))=du (l.take i)++[l[i].proc]:=by unfold du;rw [List.take_succ_eq_append_getElem hlt,List.map_append];rfl
  repeat' (first
   | refine ah ?_ ?_
   | (refine aa 8 rfl ?_;refine aM (aj rfl rfl (ax rfl rfl) (aB [l[i].proc] rfl rfl rfl rfl) rfl aC aC) rfl rfl rfl ?_)
   | refine af ?_
   | exact ai|refine ae fun hb=>?_)
  refine ⟨i+1,by omega,by omega,?_⟩
  rw [e]
  exact ao (qf [(1000,18)])
 ·rw [List.take_of_length_le (by omega)]
  repeat' (first
   | refine ah ?_ ?_
   | refine af ?_
   | exact ai|refine ae fun hb=>?_
   | (refine aE (qf [(0,1000)]) ?_;exact ab))
theorem Jm (q:Qu) (h2:q.convs.length≤100000) (h3:q.waits.length≤100000):FSpec prog 222 [q.a] [] [] (.c (.sl iz (rf q))) []:=by
 refine aX func222 ?_
 repeat' (first
  | refine ah ?_ ?_
  | refine af ?_
  | exact ai|refine ae fun hb=>?_)
 refine cc 3 1000 23 iz rfl rfl rfl ?_
 refine ak (fun i=>i≤q.convs.length) (fun i=>bH [1,1000] [(1,.c (.ptr 1 0)),(3,.c (.own 1000)),(4,.i i)] [(1,.box 165 q.d),(1000,.arr 23 iz (bU (q.convs.take i)))]) (fun i=>q.convs.length-i) 0 (Nat.zero_le _) (by exact ao (qf [])) ?_
 intro i hi
 have hlen:(bU (q.convs.take i)).length=i:=by simp [bU];omega
 by_cases hlt:i<q.convs.length
 ·have e:bU (q.convs.take (i+1))=bU (q.convs.take i)++[q.convs[i].proc]:=by unfold bU;rw [List.take_succ_eq_append_getElem hlt,List.map_append];rfl
  repeat' (first
   | refine ah ?_ ?_
   | (refine aa 8 rfl ?_;refine aM (aj rfl rfl (ax rfl rfl) (aB [q.convs[i].proc] rfl rfl rfl rfl) rfl aC aC) rfl rfl rfl ?_)
   | refine af ?_
   | exact ai|refine ae fun hb=>?_)
  refine ⟨i+1,by omega,by omega,?_⟩
  rw [e]
  exact ao (qf [(1000,21)])
 ·rw [List.take_of_length_le (by omega)]
  repeat' (first
   | refine ah ?_ ?_
   | refine af ?_
   | exact ai|refine ae fun hb=>?_)
  refine ak (fun i=>i≤q.waits.length) (fun i=>bH [1,1000] [(1,.c (.ptr 1 0)),(3,.c (.own 1000)),(5,.i i)] [(1,.box 165 q.d),(1000,.arr 23 iz (bU (q.convs++q.waits.take i)))]) (fun i=>q.waits.length-i) 0 (Nat.zero_le _) (by rw [List.take_zero,List.append_nil];exact ao (qf [])) ?_
  intro i hi
  have hlen:(bU (q.convs++q.waits.take i)).length=q.convs.length+i:=by simp [bU];omega
  by_cases hlt:i<q.waits.length
  ·have e:bU (q.convs++q.waits.take (i+1))=bU (q.convs++q.waits.take i)++[q.waits[i].proc]:=by unfold bU;rw [List.take_succ_eq_append_getElem hlt,←List.append_assoc,List.map_append];rfl
   repeat' (first
    | refine ah ?_ ?_
    | (refine aa 8 rfl ?_;refine aM (aj rfl rfl (ax rfl rfl) (aB [q.waits[i].proc] rfl rfl rfl rfl) rfl aC aC) rfl rfl rfl ?_)
    | refine af ?_
    | exact ai|refine ae fun hb=>?_)
   refine ⟨i+1,by omega,by omega,?_⟩
   rw [e]
   exact ao (qf [(1000,37)])
  ·rw [List.take_of_length_le (by omega)]
   repeat' (first
    | refine ah ?_ ?_
    | refine af ?_
    | exact ai|refine ae fun hb=>?_
    | (refine aE (qf []) ?_;exact ab))
theorem G4 (q:Qu) (h8:fO q):FSpec prog 168 [q.a] [] [] (.c (.sl iz (eu q))) []:=by
 obtain ⟨h1,h2,h3⟩:=h8
 have hl:(du q.holds++rf q).length≤24:=by simp [du,rf];omega
 have hl1:(du q.holds).length≤8:=by simp [du];omega
 have hl2:(rf q).length≤16:=by simp [rf];omega
 refine aX func168 ?_
 repeat' (first
  | refine ah ?_ ?_
  | (refine aa 9 rfl ?_;first
   | (refine cH (qf [(0,1000)]) (Eh q.holds (by omega)) ?_)
   | (refine cC [] (Jm q (by omega) (by omega)) ?_)
   | (refine cC [8] (zA (du q.holds++rf q) (by omega)) ?_))
  | refine af ?_
  | exact ai|refine ae fun hb=>?_
  | (refine aE (qf []) ?_;exact ab))
theorem mO (l:List Qu) (n:ByteArray):FSpec prog 171 [.one (.sl ji l),.one (.sc (.string n))] [] [] (.i (bK n 0 l)) []:=by
 obtain ⟨v,hv⟩:∃v,bK n 0 l=v:=⟨_,rfl⟩
 rw [hv]
 refine aX func171 ?_
 refine aR (fun c ρ a w hr=>cu (t:=0) hr rfl) (fun hl0=>?_)
 repeat' (first
  | refine ah ?_ ?_
  | refine af ?_
  | exact ai|refine ae fun hb=>?_)
 refine ak (fun i=>i≤l.length∧bK n i (l.drop i)=v) (fun i=>bH [] [(0,.c (.sl ji l)),(1,.c (.sc (.string n))),(5,.i i)] []) (fun i=>l.length-i) 0 ⟨Nat.zero_le _,hv⟩ (by exact ao (qf [])) ?_
 rintro i ⟨hi,hs⟩
 by_cases hlt:i<l.length
 ·rw [List.drop_eq_getElem_cons hlt,eU] at hs
  repeat' (first
   | refine ah ?_ ?_
   | refine af ?_
   | exact ai|refine ae fun hb=>?_)
  ·refine gz ?_
   rw [←hs];simp [*]
  ·refine ⟨i+1,⟨by omega,by rw [←hs,beq_eq_false_iff_ne.2 hb];rfl⟩,by omega,?_⟩
   exact ao (qf [])
 ·rw [List.drop_eq_nil_of_le (by omega)] at hs
  repeat' (first
   | refine ah ?_ ?_
   | refine af ?_
   | exact ai|refine ae fun hb=>?_)
  refine gz ?_
  rw [←hs];rfl
theorem r9 (l:List Qu):FSpec prog 114 [.one (.sl ji l)] [] [] (.b (dO l)) []:=by
  obtain ⟨v,hv⟩:∃v,dO l=v:=⟨_,rfl⟩
  rw [hv]
  unfold dO at hv
  refine aX func114 ?_
  refine aR (fun c ρ a w hr=>cu (t:=0) hr rfl) (fun hl0=>?_)
  by_cases h8:8<l.length
  · rw [decide_eq_false (by omega)] at hv
    obtain rfl:false=v:=hv
    repeat' (first
      | refine ah ?_ ?_
      | refine af ?_
      | exact ai|refine ae fun hb=>?_
      | (refine aE (qf []) ?_;exact ab))
  rw [decide_eq_true (by omega),Bool.true_and] at hv
  repeat' (first
    | refine ah ?_ ?_
    | refine af ?_
    | exact ai|refine ae fun hb=>?_)
  refine ak (fun i=>i≤l.length∧nv (tV l i) (l.drop i)=v) (fun i=>bH [] [(0,.c (.sl ji l)),(3,.i i)] []) (fun i=>l.length-i) 0 ⟨Nat.zero_le _,hv⟩ (by exact ao (qf [])) ?_
  rintro i ⟨hi,hs⟩
  by_cases hlt:i<l.length
  · rw [List.drop_eq_getElem_cons hlt,dw] at hs
    rcases Nat.eq_zero_or_pos i with h0|h0
    · subst h0
      rw [y5] at hs
      repeat' (first
        | refine ah ?_ ?_
        | refine aa 9 rfl (cB [] (ck l[0]) ?_)
        | refine af ?_
        | exact ai|(refine ae fun hb=>?_;first|(simp at hb;done)|skip))
      all_goals first
        | (obtain rfl:false=v:=by rw [←hs];simp [*]
           refine aE (qf []) ?_;exact ab)
        | (refine ⟨1,⟨by omega,by rw [←hs,rj hlt rfl];simp [*,J5]⟩,by omega,?_⟩
           exact ao (qf []))
    · obtain ⟨m,hm⟩:∃m,l[i-1]=m:=⟨_,rfl⟩
      have hgm:l[((i:Int)-1).toNat]? = some m:=by rw [show ((i:Int)-1).toNat=i-1 by omega,List.getElem?_eq_getElem (by omega),hm]
      rw [BK h0 (by omega) hm] at hs
      repeat' (first
        | refine ah ?_ ?_
        | refine aa 9 rfl (cB [] (ck l[i]) ?_)
        | refine af ?_
        | exact ai|refine ae fun hb=>?_)
      all_goals first
        | (obtain rfl:false=v:=by rw [←hs];simp [*,J5]
           refine aE (qf []) ?_;exact ab)
        | (refine ⟨i+1,⟨by omega,by rw [←hs,rj hlt rfl];simp [*,J5]⟩,by omega,?_⟩
           exact ao (qf []))
  · rw [List.drop_eq_nil_of_le (by omega)] at hs
    obtain rfl:true=v:=hs
    repeat' (first
      | refine ah ?_ ?_
      | refine af ?_
      | exact ai|refine ae fun hb=>?_
      | (refine aE (qf []) ?_;exact ab))
theorem zB (q:Qu) (l:List Qu):iW (q :: l)=eu q++iW l:=rfl
theorem xN (o:Bool) (l:List Qu) (hm:l.length≤12) (h8:∀q∈l,fO q):FSpec prog 119 [.one (.sl ji l)] [] (bif o then [0] else []) (.c (bif o then .own 0 else .sl iz (az l))) (bif o then [(0,some (.arr 23 iz (az l)))] else []):=by
 obtain ⟨R,hR⟩:∃R,iW l=R:=⟨_,rfl⟩
 have hRl:R.length≤288:=by rw [←hR];have:=ri l h8;omega
 unfold az
 rw [hR]
 refine gg func119 rfl (fun b W=>by kernel_rfl) (by cases o <;> rfl) (Nat.le_of_ble_eq_true rfl) ?_
 repeat' (first
  | refine ah ?_ ?_
  | refine af ?_
  | exact ai|refine ae fun hb=>?_)
 refine cc 3 1000 23 iz rfl rfl rfl ?_
 refine ak (fun x:Nat×List Pr=>x.1≤l.length∧x.2++iW (l.drop x.1)=R) (fun x=>bH [1000] [(0,.c (.sl ji l)),(3,.c (.own 1000)),(4,.i x.1)] [(1000,.arr 23 iz x.2)]) (fun x=>l.length-x.1) (0,[]) ⟨Nat.zero_le _,hR⟩ (by exact ao (qf [])) ?_
 rintro ⟨i,out⟩ ⟨hi,hs⟩
 dsimp only at *
 have hol:out.length≤288:=by have:=congrArg List.length hs;simp at this;omega
 by_cases hlt:i<l.length
 ·rw [List.drop_eq_getElem_cons hlt,zB,←List.append_assoc] at hs
  have hq:=h8 _ (List.getElem_mem hlt)
  have hql:=rh hq
  have kP:=G4 l[i] hq
  clear h8
  repeat' (first
   | refine ah ?_ ?_
   | refine aa 9 rfl (cC [] (kP) ?_)
   | refine af ?_
   | exact ai|refine ae fun hb=>?_)
  refine ⟨(i+1,out++eu l[i]),⟨by dsimp only;omega,hs⟩,by dsimp only;omega,?_⟩
  exact ao (qf [(1000,17)])
 ·rw [List.drop_eq_nil_of_le (by omega)] at hs
  obtain rfl:out=R:=by rw [←hs];simp [iW]
  repeat' (first
   | refine ah ?_ ?_
   | ((fail_if_success (first|refine ul 6 ?_|refine um 6 ?_));refine af ?_)
   | exact ai|refine ae fun hb=>?_)
  refine pp 1000 rfl ?_
  cases o with
  | true =>
   repeat' (first
    | refine ah ?_ ?_
    | refine aa 9 rfl (cH (qf [(0,1001)]) (AQ true out (by omega)) ?_)
    | refine af ?_
    | exact ai|refine ae fun hb=>?_
    | (refine aE (qf [(0,1001)]) ?_;exact ab))
  | false =>
   repeat' (first
    | refine ah ?_ ?_
    | refine aa 9 rfl (cC [] (zA out (by omega)) ?_)
    | refine af ?_
    | exact ai|refine ae fun hb=>?_
    | (refine aE (qf []) ?_;exact ab))
theorem n7 (l:List Qu) (hm:l.length≤12) (h8:∀q∈l,fO q):FSpec prog 119 [.one (.sl ji l)] [] [] (.c (.sl iz (az l))) []:=xN false l hm h8
theorem iO (l:List En) (n:ByteArray):FSpec prog 72 [.one (.sl iR l),.one (.sc (.string n))] [] [] (.v (aw l n).a) []:=by
 obtain ⟨v,hv⟩:∃v,aw l n=v:=⟨_,rfl⟩
 rw [hv]
 unfold aw at hv
 refine aX func72 ?_
 refine aR (fun c ρ a w hr=>cu (t:=0) hr rfl) (fun hl0=>?_)
 repeat' (first
  | refine ah ?_ ?_
  | refine af ?_
  | exact ai|refine ae fun hb=>?_)
 refine ak (fun x:Nat×Am=>x.1≤l.length∧dk n x.2 (l.drop x.1)=v) (fun x=>bH [4,5] [(0,.c (.sl iR l)),(1,.c (.sc (.string n))),(4,.c (.ptr 4 0)),(5,.c (.ptr 5 0)),(6,.i x.1)] [(4,.box 29 [.sc (.int .i64 0),.sc (.int .i64 0)]),(5,.box 29 [.sc (.int .i64 x.2.mode),.sc (.int .i64 x.2.units)])]) (fun x=>l.length-x.1) (0,⟨0,0⟩) ⟨Nat.zero_le _,hv⟩ (by exact ao (qf [])) ?_
 rintro ⟨i,a⟩ ⟨hi,hs⟩
 dsimp only at *
 by_cases hlt:i<l.length
 ·rw [List.drop_eq_getElem_cons hlt,dk] at hs
  repeat' (first
   | refine ah ?_ ?_
   | refine af ?_
   | exact ai|refine ae fun hb=>?_)
  ·refine ⟨(i+1,l[i].after),⟨by dsimp only;omega,by rw [←hs];simp [*,aT]⟩,by dsimp only;omega,?_⟩
   exact ao (qf [])
  ·refine ⟨(i+1,a),⟨by dsimp only;omega,by rw [←hs,aT,beq_eq_false_iff_ne.2 hb];rfl⟩,by dsimp only;omega,?_⟩
   exact ao (qf [])
 ·rw [List.drop_eq_nil_of_le (by omega)] at hs
  obtain rfl:a=v:=hs
  repeat' (first
   | refine ah ?_ ?_
   | refine af ?_
   | exact ai|refine ae fun hb=>?_
   | (refine aE (qf []) ?_;exact ab))
theorem Ei (x y:Am):FSpec prog 73 [x.a,y.a] [] [] (.b (cY x y)) []:=by
 unfold cY aO
 refine aX func73 ?_
 repeat' (first
  | refine ah ?_ ?_
  | (refine aa 9 rfl ?_;first
   | (refine cB [] (lQ y) ?_)
   | (refine cB [] (lQ x) ?_)
   | (refine cB [] (AN y.mode x.mode) ?_))
  | refine af ?_
  | exact ai|refine ae fun hb=>?_)
 all_goals (refine gz ?_;first|(simp [*];done)|(simp_all;done))
theorem jC (l:List Sv) (n:Int):FSpec prog 75 [.one (.sl iN l),.one (.sc (.int .i64 n))] [] [] (.i (aJ n 0 l)) []:=by
 obtain ⟨v,hv⟩:∃v,aJ n 0 l=v:=⟨_,rfl⟩
 rw [hv]
 refine aX func75 ?_
 refine aR (fun c ρ a w hr=>cu (t:=0) hr rfl) (fun hl0=>?_)
 repeat' (first
  | refine ah ?_ ?_
  | refine af ?_
  | exact ai|refine ae fun hb=>?_)
 refine ak (fun i=>i≤l.length∧aJ n i (l.drop i)=v) (fun i=>bH [] [(0,.c (.sl iN l)),(1,.i n),(5,.i i)] []) (fun i=>l.length-i) 0 ⟨Nat.zero_le _,hv⟩ (by exact ao (qf [])) ?_
 rintro i ⟨hi,hs⟩
 by_cases hlt:i<l.length
 ·rw [List.drop_eq_getElem_cons hlt,aJ] at hs
  repeat' (first
   | refine ah ?_ ?_
   | refine af ?_
   | exact ai|refine ae fun hb=>?_)
  ·refine gz ?_
   rw [←hs];simp [*]
  ·refine ⟨i+1,⟨by omega,by rw [←hs];simp [*]⟩,by omega,?_⟩
   exact ao (qf [])
 ·rw [List.drop_eq_nil_of_le (by omega)] at hs
  repeat' (first
   | refine ah ?_ ?_
   | refine af ?_
   | exact ai|refine ae fun hb=>?_)
  refine gz ?_
  rw [←hs];rfl
abbrev Ej (d:Nat) (k:Int) (a:Tm) (l:List Ex):List D:=[.sc (.int .i64 k),.sc (.string a.name),.sc (.int .i64 a.am.mode),.sc (.int .i64 a.am.units),.sl (qP d) l]
theorem sa (s:ByteArray):FSpec prog 36 [.one (.sc (.string s))] [] [] (.b (bJ s.toList)) [] :=
 aS (fun b W=>by kernel_rfl) rfl fun w S ρ vs _ h=>by
  match vs,h with
  | [_],⟨rfl,_⟩=>exact (j6 s w).mono fun e w' h=>⟨_,h.1,by rw [h.2];exact Below.refl _ _,rfl⟩
theorem Jn:∀(x:Ex) (d dp:Nat),dp≤5→FSpec prog 213 [x.a d,iV dp] [] [] (.tup [iV (gc x dp).1,iV (gc x dp).2]) []:=by
  refine Ex.ind (fun k a l ih=>?_)
  intro d dp hdp
  obtain ⟨r,hr⟩:∃r,gc (.mk k a l) dp=r:=⟨_,rfl⟩
  rw [hr]
  rw [wU] at hr
  show FSpec prog 213 [.ag (Ej d k a l),iV dp] [] [] (.tup [iV r.1,iV r.2]) []
  refine aX func213 ?_
  refine aR (fun c ρ a w hr=>lO (t:=0) (i:=4) hr rfl rfl) (fun hx=>?_)
  obtain ⟨hlen,hne⟩:=hx
  by_cases hc:4<dp∨24<l.length
  · rw [if_pos hc] at hr
    obtain rfl:=hr
    repeat' (first
      | refine ah ?_ ?_
      | refine af ?_
      | exact ai|refine ae fun hb=>?_
      | (refine iG (qf []) ?_;exact ab))
    all_goals (exfalso;omega)
  rw [if_neg hc] at hr
  repeat' (first
    | refine ah ?_ ?_
    | refine af ?_
    | exact ai|refine ae fun hb=>?_)
  refine ak (fun x:Nat×Nat×Nat=>x.1≤l.length∧x.2.1≤24∧x.2.2≤5∧jq (l.drop x.1) dp x.2.1 x.2.2=r) (fun x=>bH [2] [(1,.i dp),(2,.c (.ptr 2 0)),(6,.i x.2.1),(7,.i x.2.2),(8,.i x.1)] [(2,.box 34 (Ej d k a l))]) (fun x=>l.length-x.1) (0,1,0) ⟨Nat.zero_le _,by decide,by decide,hr⟩ (by exact ao (qf [])) ?_
  rintro ⟨i,n,m⟩ ⟨hi,hn,hm,hs⟩
  dsimp only at *
  by_cases hlt:i<l.length
  case neg =>
    rw [List.drop_eq_nil_of_le (by omega)] at hs
    obtain rfl:=hs
    repeat' (first
      | refine ah ?_ ?_
      | refine af ?_
      | exact ai|refine ae fun hb=>?_
      | (refine iG (qf []) ?_;exact ab))
  rw [List.drop_eq_getElem_cons hlt,pX] at hs
  obtain ⟨e,rfl⟩:=hne (by omega)
  obtain ⟨⟨n1,m1⟩,h1⟩:∃p,gc l[i] (dp+1)=p:=⟨_,rfl⟩
  have h5:n1≤25∧m1≤5:=by
    rcases rm l[i] (dp+1) with ⟨a1,a2,a3⟩|⟨a1,a3⟩ <;> rw [h1] at a3 <;> injection a3 <;> omega
  have kS:FSpec prog 213 [l[i].a e,iV ((dp:Int)+1)] [] [] (.tup [iV n1,iV m1]) []:=by
    have:=ih l[i] (List.getElem_mem hlt) e (dp+1) (by omega)
    rw [h1] at this
    exact this
  rw [h1] at hs
  dsimp only at hs
  clear ih h1
  repeat' (first
    | refine ah ?_ ?_
    | refine aa 9 rfl (cB [] (kS) ?_)
    | refine af ?_
    | exact ai|refine ae fun hb=>?_)
  all_goals first
    | (obtain rfl:(25,0)=r:=by rw [←hs,if_pos (by omega)]
       refine iG (qf []) ?_;exact ab)
    | (refine ⟨(i+1,n+n1,max m m1),⟨by dsimp only;omega,by dsimp only;omega,by dsimp only;omega,by rw [←hs,if_neg (by omega),show (if m<m1 then m1 else m)=max m m1 by split <;> omega]⟩,by dsimp only;omega,?_⟩
       dsimp only
       exact ao (qf []))
theorem AS (x:Ex) (d:Nat) {n:Nat} (hn:(if Ar x=true then x.cnt else 0)=n):FSpec prog 155 [x.a d] [] [] (.i n) []:=by
 obtain ⟨⟨a,b⟩,h⟩:∃p,gc x 1=p:=⟨_,rfl⟩
 have h0:=Dm x
 have kS:FSpec prog 213 [x.a d,iV 1] [] [] (.tup [iV a,iV b]) []:=by
  have:=Jn x d 1 (by decide)
  rw [h] at this
  exact this
 have h1:Ar x=true→a=x.cnt:=fun e=>by
  rcases rm x 1 with ⟨a1,a2,a3⟩|⟨a1,a3⟩
  ·rw [h] at a3;injection a3
  ·rw [a3] at h0;simp [e] at h0
 rw [h] at h0
 refine aX func155 ?_
 repeat' (first
  | refine ah ?_ ?_
  | refine aa 9 rfl (cB [] (kS) ?_)
  | refine af ?_
  | exact ai|refine ae fun hb=>?_)
 ·obtain rfl:0=n:=by rw [←hn,if_neg];rw [←h0];omega
  refine aE (qf []) ?_;exact ab
 ·obtain rfl:a=n:=by
   have h2:Ar x=true:=by
    have h:¬24<a:=by omega
    rw [h0] at h;simpa using h
   rw [←hn,if_pos h2]
   exact h1 h2
  refine aE (qf []) ?_;exact ab
def Mt:Option (List Tm)→TV
 | some _=>.tup [.one (.own 1),.one (.sc (.bool true))]
 | none=>.tup [.one .any,.one (.sc (.bool false))]
def Mu (o:Option (List Tm)):List (Nat×Option Box):=[(0,none),(1,o.map (.arr 31 cr))]
theorem Ky:∀(x:Ex) (d:Nat) (acc:List Tm),acc.length+x.cnt≤1000→FSpec prog 156 [.one (.own 0),x.a d] [(0,.arr 31 cr acc)] [1] (Mt (vi x acc)) (Mu (vi x acc)):=by
 refine Ex.ind (fun k a l ih=>?_)
 intro d acc hl
 rw [Ex.cnt_mk] at hl
 obtain ⟨R,hR⟩:∃R,vi (.mk k a l) acc=R:=⟨_,rfl⟩
 rw [hR]
 rw [Aw] at hR
 show FSpec prog 156 [.one (.own 0),.ag (Ej d k a l)] [(0,.arr 31 cr acc)] [1] (Mt R) (Mu R)
 cases hE:l.isEmpty with
 | true =>
  obtain rfl:=List.isEmpty_iff.1 hE
  rw [hE,cond_true,Av] at hR
  cases hk:decide (k=0) && jP a with
  | false =>
   rw [hk] at hR
   obtain rfl:none=R:=hR
   refine aX func156 ?_
   repeat' (first
    | refine ah ?_ ?_
    | (refine aa 9 rfl ?_;first
     | (refine cB [] (sa a.name) ?_)
     | (refine cB [] (lQ a.am) ?_))
    | refine af ?_
    | exact ai|refine ae fun hb=>?_
    | (refine iG (qf []) ?_;exact .tup ⟨.one (.any _),.one (eI rfl),trivial⟩))
   all_goals (exfalso;revert hk;simp [jP, *])
  | true =>
   rw [hk,cond_true] at hR
   obtain ⟨h0,h1,h2⟩:k=0∧bJ a.name.toList=true∧aZ a.am=true:=by simpa [jP] using hk
   refine gg func156 rfl (fun b W=>by kernel_rfl) (by cases R <;> rfl) (Nat.le_of_ble_eq_true rfl) ?_
   repeat' (first
    | refine ah ?_ ?_
    | (refine aa 9 rfl ?_;first
     | (refine cB [] (sa a.name) ?_)
     | (refine cB [] (lQ a.am) ?_))
    | refine af ?_
    | exact ai|(refine ae fun hb=>?_;first|(simp [h1] at hb;done)|(simp [h2] at hb;done)|skip))
   refine ak (fun i=>i≤acc.length∧jU a (acc.drop i)=jU a acc) (fun i=>bH [0,3] [(0,.c (.own 0)),(3,.c (.ptr 3 0)),(6,.i i)] [(3,.box 34 (Ej d k a [])),(0,.arr 31 cr acc)]) (fun i=>acc.length-i) 0 ⟨Nat.zero_le _,rfl⟩ (by exact ao (qf [])) ?_
   rintro i ⟨hi,hs⟩
   by_cases hlt:i<acc.length
   ·rw [List.drop_eq_getElem_cons hlt,o8] at hs
    repeat' (first
     | refine ah ?_ ?_
     | refine af ?_
     | exact ai|refine ae fun hb=>?_)
    ·obtain rfl:some acc=R:=by rw [←hR,g5,←hs];simp [hb]
     refine iG (qf [(1,0)]) ?_;exact ab
    ·refine ⟨i+1,⟨by omega,?_⟩,by omega,?_⟩
     ·rw [←hs];simp [hb]
     ·exact ao (qf [])
   ·obtain rfl:some (acc++[a])=R:=by rw [←hR,g5,←hs,List.drop_eq_nil_of_le (by omega)];rfl
    repeat' (first
     | refine ah ?_ ?_
     | (refine aa 8 rfl ?_;refine aM (aj rfl rfl (ax rfl rfl) (aB [a] rfl rfl rfl rfl) rfl aC aC) rfl rfl rfl ?_)
     | refine af ?_
     | exact ai|refine ae fun hb=>?_
     | (refine iG (qf [(1,50)]) ?_;exact ab))
 | false =>
  have hl0:0<l.length:=List.length_pos_iff.2 fun e=>by rw [e] at hE;cases hE
  rw [hE,cond_false] at hR
  refine gg func156 rfl (fun b W=>by kernel_rfl) (by cases R <;> rfl) (Nat.le_of_ble_eq_true rfl) ?_
  refine aR (fun c ρ a w hr=>lO (t:=1) (i:=4) hr rfl rfl) (fun hx=>?_)
  obtain ⟨hlen,hne⟩:=hx
  obtain ⟨e,rfl⟩:=hne hl0
  cases hg:o9 k a l with
  | false =>
   rw [hg] at hR
   obtain rfl:=hR
   repeat' (first
    | refine ah ?_ ?_
    | refine af ?_
    | exact ai|refine ae fun hb=>?_
    | (refine iG (qf []) ?_;exact .tup ⟨.one (.any _),.one (eI rfl),trivial⟩))
   all_goals (exfalso;revert hg;simp [o9, *];try omega)
  | true =>
   rw [hg,cond_true] at hR
   obtain ⟨⟨h1,h2⟩,h3⟩:(1≤k∧k≤(l.length:Int))∧a=jO:=by simpa [o9] using hg
   subst h3
   repeat' (first
    | refine ah ?_ ?_
    | refine af ?_
    | exact ai|(refine ae fun hb=>?_;first|(simp at hb;done)|skip))
   refine ak (fun x:Nat×List Tm=>x.1≤l.length∧x.2.length+jp (l.drop x.1)≤1000∧y7 (l.drop x.1) x.2=R) (fun x=>bH [0,3,1000] [(0,.c (.own 1000)),(3,.c (.ptr 3 0)),(7,.i x.1)] [(3,.box 34 (Ej (e+1) k jO l)),(1000,.arr 31 cr x.2)]) (fun x=>l.length-x.1) (0,acc) ⟨Nat.zero_le _,by simpa using (by omega),hR⟩ (by exact ao (qf [(1000,0)])) ?_
   rintro ⟨i,acc1⟩ ⟨hi,hc,hs⟩
   dsimp only at *
   by_cases hlt:i<l.length
   ·rw [List.drop_eq_getElem_cons hlt] at hs hc
    rw [tX] at hs
    rw [gO] at hc
    have kS:=ih l[i] (List.getElem_mem hlt) e acc1 (by omega)
    have hlen2:=Dr l[i] acc1
    clear ih
    cases h1:vi l[i] acc1 with
    | none =>
     rw [h1] at hs kS
     obtain rfl:=hs
     repeat' (first
      | refine ah ?_ ?_
      | refine aa 9 rfl (cH (qf [(0,1000),(1,1001)]) (kS) ?_)
      | refine af ?_
      | exact ai|refine ae fun hb=>?_
      | (refine iG (qf []) ?_;exact .tup ⟨.one (.any _),.one (eI rfl),trivial⟩))
    | some r =>
     rw [h1] at hs kS
     have hlen3:=hlen2 r h1
     repeat' (first
      | refine ah ?_ ?_
      | refine aa 9 rfl (cH (qf [(0,1000),(1,1001)]) (kS) ?_)
      | refine af ?_
      | exact ai|refine ae fun hb=>?_)
     refine ⟨(i+1,r),⟨by dsimp only;omega,by dsimp only;omega,hs⟩,by dsimp only;omega,?_⟩
     exact ao (qf [(1000,1001)])
   ·rw [List.drop_eq_nil_of_le (by omega)] at hs
    obtain rfl:=hs
    repeat' (first
     | refine ah ?_ ?_
     | refine af ?_
     | exact ai|refine ae fun hb=>?_
     | (refine iG (qf [(1,1000)]) ?_;exact ab))
theorem n8 (d:Nat) (x:Ex):FSpec prog 113 [x.a d] [] [] (.tup [.one (.sl cr (cP x)),.one (.sc (.bool (nE x)))]) []:=by
 obtain ⟨v,hv⟩:∃v,nE x=v:=⟨_,rfl⟩
 obtain ⟨T,hT⟩:∃T,cP x=T:=⟨_,rfl⟩
 have hcl:=rn x []
 rw [hv,hT]
 unfold cP at hT
 rw [hv] at hT
 unfold nE at hv
 have hcnt:=x.cnt_pos
 cases hk:Ar x with
 | false =>
  obtain rfl:false=v:=by rw [←hv,hk];rfl
  obtain rfl:=hT
  have kN:=AS x d (n:=0) (by rw [hk];rfl)
  refine aX func113 ?_
  repeat' (first
   | refine ah ?_ ?_
   | refine aa 9 rfl (cB [] (kN) ?_)
   | refine af ?_
   | exact ai|refine ae fun hb=>?_
   | (refine iG (qf []) ?_;exact ab))
 | true =>
  have kN:=AS x d (n:=x.cnt) (by rw [hk];rfl)
  have h24:x.cnt≤24:=by have h:=hk;simp [Ar] at h;exact h.2
  have kA:=(Ky x d [] (by simp;omega)).nil0 (by decide) fun q k=>rfl
  rw [hk,Bool.true_and] at hv
  rw [Ax] at kA
  cases hs:wW x with
  | false =>
   obtain rfl:false=v:=by rw [←hv,hs];rfl
   obtain rfl:=hT
   rw [hs] at kA
   refine aX func113 ?_
   repeat' (first
    | refine ah ?_ ?_
    | (refine aa 9 rfl ?_;first
     | (refine cB [] (kN) ?_)
     | (refine cH (qf [(0,1000),(1,1001)]) (kA) ?_))
    | refine af ?_
    | exact ai|refine ae fun hb=>?_
    | (refine iG (qf []) ?_;exact ab))
  | true =>
   rw [hs,Bool.true_and] at hv
   rw [hs,if_pos rfl] at kA
   obtain ⟨L,hL⟩:∃L,fK x []=L:=⟨_,rfl⟩
   rw [hL] at hv hT kA hcl
   simp only [List.length_nil,Nat.zero_add] at hcl
   refine aX func113 ?_
   by_cases h8:8<L.length
   ·have hno:¬pY L:=fun h=>by have:=h.1;omega
    obtain rfl:false=v:=by rw [←hv,decide_eq_false hno]
    obtain rfl:=hT
    repeat' (first
     | refine ah ?_ ?_
     | (refine aa 9 rfl ?_;first
      | (refine cB [] (kN) ?_)
      | (refine cH (qf [(0,1000),(1,1001)]) (kA) ?_))
     | refine af ?_
     | exact ai|refine ae fun hb=>?_
     | (refine iG (qf []) ?_;exact ab))
   repeat' (first
    | refine ah ?_ ?_
    | (refine aa 9 rfl ?_;first
     | (refine cB [] (kN) ?_)
     | (refine cH (qf [(0,1000),(1,1001)]) (kA) ?_))
    | refine af ?_
    | exact ai|refine ae fun hb=>?_)
   refine ak (fun i=>i≤L.length∧Dist L i 0) (fun i=>bH [1001] [(4,.c (.own 1001)),(6,.i i)] [(1001,.arr 31 cr L)]) (fun i=>L.length-i) 0 ⟨Nat.zero_le _,Dist.start L⟩ (by exact ao (qf [])) ?_
   rintro i ⟨hi,hd⟩
   by_cases hlt:i<L.length
   ·repeat' (first
     | refine ah ?_ ?_
     | refine af ?_
     | exact ai|refine ae fun hb=>?_)
    refine ak (fun j=>j≤i∧Dist L i j) (fun j=>bH [1001] [(4,.c (.own 1001)),(6,.i i),(7,.i j)] [(1001,.arr 31 cr L)]) (fun j=>i-j) 0 ⟨Nat.zero_le _,hd⟩ (by exact ao (qf [])) ?_
    rintro j ⟨hj,hd⟩
    by_cases hji:j<i
    ·repeat' (first
      | refine ah ?_ ?_
      | refine af ?_
      | exact ai|refine ae fun hb=>?_)
     ·have hno:¬pY L:=Dist.not hlt hji (toList_inj hb)
      obtain rfl:false=v:=by rw [←hv,decide_eq_false hno]
      obtain rfl:=hT
      refine iG (qf []) ?_;exact ab
     ·refine ⟨j+1,⟨by omega,hd.step hlt hji fun e=>hb (by rw [e])⟩,by omega,?_⟩
      exact ao (qf [])
    ·repeat' (first
      | refine ah ?_ ?_
      | refine af ?_
      | exact ai|refine ae fun hb=>?_)
     refine ⟨i+1,⟨by omega,hd.row hji⟩,by omega,?_⟩
     exact ao (qf [])
   ·have hok:pY L:=⟨by omega,hd.all hlt⟩
    obtain rfl:true=v:=by rw [←hv,decide_eq_true hok]
    obtain rfl:=hT
    repeat' (first
     | refine ah ?_ ?_
     | refine af ?_
     | exact ai|refine ae fun hb=>?_
     | (refine iG (qf []) ?_;exact ab))
theorem zC (d:Nat) (x:Ex):FSpec prog 76 [x.a d] [] [] (.b (nE x)) []:=by
 refine aX func76 ?_
 repeat' (first
  | refine ah ?_ ?_
  | refine aa 9 rfl (cC [] (n8 d x) ?_)
  | refine af ?_
  | exact ai|refine ae fun hb=>?_
  | (refine aE (qf []) ?_;exact ab))
theorem AT (d:Nat) (x:Ex):FSpec prog 78 [x.a d] [] [] (.c (.sl cr (cP x))) []:=by
 refine aX func78 ?_
 repeat' (first
  | refine ah ?_ ?_
  | refine aa 9 rfl (cC [] (n8 d x) ?_)
  | refine af ?_
  | exact ai|refine ae fun hb=>?_
  | (refine aE (qf []) ?_;exact ab))
theorem AU:∀{l:List Ex},Do l=true→∀x∈l,wW x=true
 | [],_,_,hx=>absurd hx (by simp)
 | y :: l,h,x,hx=>by
  rw [nz,Bool.and_eq_true] at h
  rcases List.mem_cons.1 hx with rfl|hx
  ·exact h.1
  ·exact AU h.2 x hx
theorem vT (d:Nat) (x:Ex) (L:List Tm) (set:List Bool) (hx2:wW x=true) (hL:L.length≤1000) (hs:set.length≤1000):FSpec prog 216 [x.a d,.one (.sl cr L),.one (.sl eh set)] [] [] (.b (y9 (fd L set) x)) []:=by
 revert d x
 refine fun d x=>Ex.ind (P:=fun x=>∀d,wW x=true→FSpec prog 216 [x.a d,.one (.sl cr L),.one (.sl eh set)] [] [] (.b (y9 (fd L set) x)) []) (fun k a l ih=>?_) x d
 intro d hx2
 rw [vh,Bool.and_eq_true] at hx2
 obtain ⟨hh,hx2⟩:=hx2
 unfold wV at hh
 obtain ⟨v,hv⟩:∃v,y9 (fd L set) (.mk k a l)=v:=⟨_,rfl⟩
 rw [hv]
 rw [IS] at hv
 show FSpec prog 216 [.ag (Ej d k a l),.one (.sl cr L),.one (.sl eh set)] [] [] (.b v) []
 refine aX func216 ?_
 cases hE:l.isEmpty with
 | true =>
  obtain rfl:=List.isEmpty_iff.1 hE
  rw [hE,cond_true] at hh hv
  simp only [Bool.and_eq_true,decide_eq_true_eq] at hh
  obtain ⟨rfl,_⟩:=hh
  repeat' (first
   | refine ah ?_ ?_
   | refine af ?_
   | exact ai|refine ae fun hb=>?_)
  refine ak (fun i=>i≤L.length∧fd (L.drop i) (set.drop i) a=v) (fun i=>bH [3] [(1,.c (.sl cr L)),(2,.c (.sl eh set)),(3,.c (.ptr 3 0)),(7,.i i)] [(3,.box 34 (Ej d 0 a []))]) (fun i=>L.length-i) 0 ⟨Nat.zero_le _,hv⟩ (by exact ao (qf [])) ?_
  rintro i ⟨hi,hs⟩
  by_cases hlt:i<L.length
  ·rw [List.drop_eq_getElem_cons hlt,rp,List.tail_drop] at hs
   by_cases hsi:i<set.length
   ·rw [show set.drop i=_ from List.drop_eq_getElem_cons hsi] at hs
    repeat' (first
     | refine ah ?_ ?_
     | refine af ?_
     | exact ai|refine ae fun hb=>?_)
    ·refine gz ?_
     rw [←hs];simp [*]
    ·refine ⟨i+1,⟨by omega,?_⟩,by omega,?_⟩
     ·rw [←hs];simp [*]
     ·exact ao (qf [])
   ·rw [show set.drop i=[] from List.drop_eq_nil_of_le (by omega)] at hs
    repeat' (first
     | refine ah ?_ ?_
     | refine af ?_
     | exact ai|refine ae fun hb=>?_)
    ·refine gz ?_
     rw [←hs];simp [*]
    ·refine ⟨i+1,⟨by omega,?_⟩,by omega,?_⟩
     ·rw [←hs];simp [*]
     ·exact ao (qf [])
  ·rw [List.drop_eq_nil_of_le (by omega)] at hs
   repeat' (first
    | refine ah ?_ ?_
    | refine af ?_
    | exact ai|refine ae fun hb=>?_)
   refine gz ?_
   rw [←hs];rfl
 | false =>
  have hl0:0<l.length:=List.length_pos_iff.2 fun e=>by rw [e] at hE;cases hE
  refine aR (fun c ρ a w hr=>lO (t:=0) (i:=4) hr rfl rfl) (fun hx=>?_)
  obtain ⟨hlen,hne⟩:=hx
  obtain ⟨e,rfl⟩:=hne hl0
  rw [hE,cond_false] at hh hv
  simp only [Bool.and_eq_true,decide_eq_true_eq] at hh
  have hk:1≤k:=hh.1.1
  clear hh hne
  obtain ⟨N,hN⟩:∃N,IR (fd L set) l=N:=⟨_,rfl⟩
  rw [hN] at hv
  repeat' (first
   | refine ah ?_ ?_
   | refine af ?_
   | exact ai|refine ae fun hb=>?_)
  refine ak (fun x:Nat×Nat=>x.1≤l.length∧x.2≤x.1∧x.2+IR (fd L set) (l.drop x.1)=N) (fun x=>bH [3] [(1,.c (.sl cr L)),(2,.c (.sl eh set)),(3,.c (.ptr 3 0)),(8,.i x.2),(9,.i x.1)] [(3,.box 34 (Ej (e+1) k a l))]) (fun x=>l.length-x.1) (0,0) ⟨Nat.zero_le _,Nat.le_refl _,by simpa using hN⟩ (by exact ao (qf [])) ?_
  rintro ⟨i,n⟩ ⟨hi,hn,hs⟩
  dsimp only at *
  by_cases hlt:i<l.length
  ·rw [List.drop_eq_getElem_cons hlt,Du] at hs
   have kS:=ih l[i] (List.getElem_mem hlt) e (AU hx2 _ (List.getElem_mem hlt))
   obtain ⟨b,hb1⟩:∃b,y9 (fd L set) l[i]=b:=⟨_,rfl⟩
   rw [hb1] at kS hs
   clear ih hb1
   repeat' (first
    | refine ah ?_ ?_
    | refine aa 9 rfl (cB [] (kS) ?_)
    | refine af ?_
    | exact ai|refine ae fun hb=>?_)
   ·refine ⟨(i+1,n+1),⟨by dsimp only;omega,by dsimp only;omega,by rw [hb] at hs;simp at hs;dsimp only;omega⟩,by dsimp only;omega,?_⟩
    exact ao (qf [])
   ·refine ⟨(i+1,n),⟨by dsimp only;omega,by dsimp only;omega,by rw [hb] at hs;simpa using hs⟩,by dsimp only;omega,?_⟩
    exact ao (qf [])
  ·rw [List.drop_eq_nil_of_le (by omega)] at hs
   obtain rfl:n=N:=hs
   repeat' (first
    | refine ah ?_ ?_
    | refine af ?_
    | exact ai|refine ae fun hb=>?_)
   refine gz ?_
   rw [←hv]
theorem sb (d:Nat) (x:Ex) (set:List Bool) (hs:set.length≤1000):FSpec prog 160 [x.a d,.one (.sl eh set)] [] [] (.b (ew x set)) []:=by
 unfold ew
 refine aX func160 ?_
 cases hv:nE x with
 | false =>
  repeat' (first
   | refine ah ?_ ?_
   | refine aa 9 rfl (cC [] (n8 d x) ?_)
   | refine af ?_
   | exact ai|(refine ae fun hb=>?_;first|(simp [hv] at hb;done)|skip)
   | (refine aE (qf []) ?_;exact ab))
 | true =>
  obtain ⟨hsh,_,h8,_,_⟩:=rr hv
  repeat' (first
   | refine ah ?_ ?_
   | (refine aa 9 rfl ?_;first
    | (refine cC [] (n8 d x) ?_)
    | (refine cB [] (vT d x (cP x) set hsh (by omega) hs) ?_))
   | refine af ?_
   | exact ai|(refine ae fun hb=>?_;first|(simp [hv] at hb;done)|skip)
   | (refine aE (qf []) ?_;exact ab))
def Ek (p:Option Pr) (x:Pr):Bool:=match p with|none=>true|some y=>decide (cU y x<0)
def L7 (x:Nd):Bool:=fI x.proc && nE x.expr && decide (0≤x.gen) && decide (x.gen≤1073741824)
def vU:Option Pr→List Nd→Bool
 | _,[]=>true
 | p,x :: l=>L7 x && Ek p x.proc && vU (some x.proc) l
theorem lT (p:Option Pr) (x:Nd) (l:List Nd):vU p (x :: l)=(L7 x && Ek p x.proc && vU (some x.proc) l):=rfl
def uq (l:List Nd) (k:Nat):Option Pr:=if k=0 then none else (l[k-1]?).map (·.proc)
theorem zD (l:List Nd):uq l 0=none:=rfl
theorem zE {l:List Nd} {k:Nat} {x:Nd} (h:k<l.length) (hx:l[k]=x):uq l (k+1)=some x.proc:=by
 unfold uq
 rw [if_neg (by omega),Nat.add_sub_cancel,List.getElem?_eq_getElem h,hx]
 rfl
theorem Cl {l:List Nd} {k:Nat} {x:Nd} (h0:0<k) (h:k-1<l.length) (hx:l[k-1]=x):uq l k=some x.proc:=by
 unfold uq
 rw [if_neg (by omega),List.getElem?_eq_getElem h,hx]
 rfl
def cq (s:Ws):Bool:=dO s.queues && decide (s.needs.length≤8) && vU none s.needs && decide ((cf s).length≤8)
theorem n9 {l:List Qu} (h:dO l=true):l.length≤8∧∀q∈l,fO q:=by
 unfold dO at h
 simp only [Bool.and_eq_true,decide_eq_true_eq] at h
 exact ⟨h.1,rk l none h.2⟩
def Nd.val (x:Nd) (A:Option Addr) (cap:Nat):Value:=.agg #[.int .i64 x.proc.site,.int .i64 x.proc.inc,.int .i64 x.proc.num,.int .i64 x.expr.k,.string x.expr.atom.name,.int .i64 x.expr.atom.am.mode,.int .i64 x.expr.atom.am.units,.slice A x.expr.kids.length cap,.int .i64 x.gen]
def mv:List Nd→Pr→Option Nd
 | [],_=>none
 | x :: l,p=>bif decide (x.proc=p) then some x else mv l p
theorem zF (x:Nd) (l:List Nd) (p:Pr):mv (x :: l) p=bif decide (x.proc=p) then some x else mv l p:=rfl
def kz (n:ByteArray) (p:Pr):List Qu→Bool
 | []=>false
 | q :: l=>bif q.res.name.toList == n.toList then (ap q p).isSome else kz n p l
theorem zG (n:ByteArray) (p:Pr) (q:Qu) (l:List Qu):kz n p (q :: l)=bif q.res.name.toList == n.toList then (ap q p).isSome else kz n p l:=rfl
theorem sd (n:ByteArray) (p:Pr):∀(l:List Qu) (k:Nat),(bK n k l = -1∧kz n p l=false)∨∃i,∃h:i<l.length,bK n k l=((k+i:Nat):Int)∧kz n p l=(ap l[i] p).isSome∧l[i].res.name=n
 | [],_=>.inl ⟨rfl,rfl⟩
 | x :: l,k=>by
  rw [eU,zG]
  by_cases h:(x.res.name.toList == n.toList)=true
  ·rw [h]
   exact .inr ⟨0,by simp,rfl,rfl,toList_inj (by simpa using h)⟩
  ·simp only [Bool.not_eq_true] at h
   rw [h]
   rcases sd n p l (k+1) with ⟨h1,h2⟩|⟨i,hi,h1,h2,h3⟩
   ·exact .inl ⟨h1,h2⟩
   ·exact .inr ⟨i+1,by simp;omega,by rw [cond_false,h1];congr 1;omega,by rw [cond_false,h2];rfl,h3⟩
def mP (s:Ws) (p:Pr):List Bool:=match mv s.needs p with
 | none=>[]
 | some x=>bif cq s then (cP x.expr).map (fun a=>!kz a.name p s.queues) else []
def Nd.d (d:Nat) (x:Nd):List D:=[.sc (.int .i64 x.proc.site),.sc (.int .i64 x.proc.inc),.sc (.int .i64 x.proc.num),.sc (.int .i64 x.expr.k),.sc (.string x.expr.atom.name),.sc (.int .i64 x.expr.atom.am.mode),.sc (.int .i64 x.expr.atom.am.units),.sl (qP d) x.expr.kids,.sc (.int .i64 x.gen)]
def Nd.a (d:Nat) (x:Nd):V0:=.ag (x.d d)
instance (d:Nat):Dp (Ii d) where
 deep:=Nd.d d
 get:=by
  rintro w F ρ x cs ⟨A,c,rfl,h1,h2⟩
  exact ⟨rfl,rfl,rfl,rfl,rfl,rfl,rfl,⟨A,c,rfl,h1,h2⟩,rfl,trivial⟩
 put:=by
  intro w F ρ x cs h
  match cs,h with
  | [_,_,_,_,_,_,_,_,_],⟨rfl,rfl,rfl,rfl,rfl,rfl,rfl,⟨A,c,rfl,h1,h2⟩,rfl,_⟩=>exact ⟨A,c,rfl,h1,h2⟩
 nok:=fun _ _=>rfl
instance (d:Nat):ST prog (Ii d) 90 148 96:=⟨ElTB.mk' underlying90 (.agg #[.int .i64 0,.int .i64 0,.int .i64 0,.int .i64 0,.string ⟨#[]⟩,.int .i64 0,.int .i64 0,.slice none 0 0,.int .i64 0]) 9 96 (by kernel_rfl) rfl rfl⟩
def Ws.d (d:Nat) (s:Ws):List D:=[.sl ji s.queues,.sl (Ii d) s.needs]
def Ws.a (d:Nat) (s:Ws):V0:=.ag (s.d d)
theorem vV (d:Nat) (s:Ws) (h1:s.queues.length≤12) (h2:s.needs.length≤12) (h8:∀q∈s.queues,fO q):FSpec prog 88 [s.a d] [] [] (.c (.sl iz (cf s))) []:=by
 obtain ⟨R,hR⟩:∃R,az s.queues++za s.needs=R:=⟨_,rfl⟩
 have hlt:=zb h8
 have hRl:R.length≤300:=by rw [←hR];simp [za];omega
 have kT:=xN true s.queues h1 h8
 obtain ⟨T,hT⟩:∃T,az s.queues=T:=⟨_,rfl⟩
 unfold cf
 rw [hR]
 rw [hT] at hR kT
 clear h8 hlt hT
 refine aX func88 ?_
 repeat' (first
  | refine ah ?_ ?_
  | refine aa 9 rfl (cH (qf [(0,1000)]) (kT) ?_)
  | refine af ?_
  | exact ai|refine ae fun hb=>?_)
 refine ak (fun x:Nat×List Pr=>x.1≤s.needs.length∧x.2++za (s.needs.drop x.1)=R) (fun x=>bH [1,1000] [(1,.c (.ptr 1 0)),(3,.c (.own 1000)),(4,.i x.1)] [(1,.box 92 (s.d d)),(1000,.arr 23 iz x.2)]) (fun x=>s.needs.length-x.1) (0,T) ⟨Nat.zero_le _,hR⟩ (by exact ao (qf [])) ?_
 rintro ⟨i,out⟩ ⟨hi,hs⟩
 dsimp only at *
 have hol:out.length≤300:=by have:=congrArg List.length hs;simp at this;omega
 by_cases hlt:i<s.needs.length
 ·rw [List.drop_eq_getElem_cons hlt,za,List.map_cons] at hs
  repeat' (first
   | refine ah ?_ ?_
   | (refine aa 8 rfl ?_;refine aM (aj rfl rfl (ax rfl rfl) (aB [s.needs[i].proc] rfl rfl rfl rfl) rfl aC aC) rfl rfl rfl ?_)
   | refine af ?_
   | exact ai|refine ae fun hb=>?_)
  refine ⟨(i+1,out++[s.needs[i].proc]),⟨by dsimp only;omega,by rw [←hs];simp [za]⟩,by dsimp only;omega,?_⟩
  exact ao (qf [(1000,23)])
 ·rw [List.drop_eq_nil_of_le (by omega)] at hs
  obtain rfl:out=R:=by rw [←hs];simp [za]
  repeat' (first
   | refine ah ?_ ?_
   | refine aa 9 rfl (cC [1000] (zA out (by omega)) ?_)
   | refine af ?_
   | exact ai|refine ae fun hb=>?_
   | (refine aE (qf []) ?_;exact ab))
theorem oa (d:Nat) (s:Ws):FSpec prog 85 [s.a d] [] [] (.b (cq s)) []:=by
  obtain ⟨v,hv⟩:∃v,cq s=v:=⟨_,rfl⟩
  rw [hv]
  unfold cq at hv
  refine aX func85 ?_
  refine aR (fun c ρ a w hr=>dQ (t:=0) (i:=1) hr rfl rfl) (fun hl0_1=>?_)
  cases hP:dO s.queues with
  | false =>
    rw [hP] at hv
    obtain rfl:false=v:=hv
    repeat' (first
      | refine ah ?_ ?_
      | refine aa 9 rfl (cB [] (r9 s.queues) ?_)
      | refine af ?_
      | exact ai|(refine ae fun hb=>?_;first|(simp [hP] at hb;done)|skip)
      | (refine aE (qf []) ?_;exact ab))
  | true =>
    obtain ⟨hq8,hsh⟩:=n9 hP
    by_cases h8:8<s.needs.length
    · rw [decide_eq_false (by omega)] at hv
      obtain rfl:false=v:=by rw [←hv];simp
      repeat' (first
        | refine ah ?_ ?_
        | refine aa 9 rfl (cB [] (r9 s.queues) ?_)
        | refine af ?_
        | exact ai|(refine ae fun hb=>?_;first|(simp [hP] at hb;done)|skip)
        | (refine aE (qf []) ?_;exact ab))
    rw [hP,decide_eq_true (by omega),Bool.true_and,Bool.true_and] at hv
    have kW:=vV d s (by omega) (by omega) hsh
    obtain ⟨W,hW⟩:∃W,cf s=W:=⟨_,rfl⟩
    rw [hW] at kW hv
    clear hsh hW
    repeat' (first
      | refine ah ?_ ?_
      | refine aa 9 rfl (cB [] (r9 s.queues) ?_)
      | refine af ?_
      | exact ai|(refine ae fun hb=>?_;first|(simp [hP] at hb;done)|skip))
    refine ak (fun i=>i≤s.needs.length∧(vU (uq s.needs i) (s.needs.drop i) && decide (W.length≤8))=v) (fun i=>bH [1] [(1,.c (.ptr 1 0)),(3,.i i)] [(1,.box 92 (s.d d))]) (fun i=>s.needs.length-i) 0 ⟨Nat.zero_le _,hv⟩ (by exact ao (qf [])) ?_
    rintro i ⟨hi,hs⟩
    by_cases hlt:i<s.needs.length
    · obtain ⟨x,hx⟩:∃x,s.needs[i]? = some x:=⟨_,List.getElem?_eq_getElem hlt⟩
      have ex:s.needs[i]=x:=(List.getElem?_eq_some_iff.1 hx).2
      have hnx:=zE hlt ex
      rw [List.drop_eq_getElem_cons hlt,ex,lT,←hnx] at hs
      unfold L7 at hs
      clear ex hv
      rcases Nat.eq_zero_or_pos i with h0|h0
      · subst h0
        rw [zD] at hs
        repeat' (first
          | refine ah ?_ ?_
          | (refine aa 9 rfl ?_;first
            | (refine cB [] (d7 x.proc) ?_)
            | (refine cB [] (zC d x.expr) ?_))
          | refine af ?_
          | exact ai|(refine ae fun hb=>?_;first|(simp at hb;done)|skip))
        all_goals first
          | (obtain rfl:false=v:=by rw [←hs];first|(simp [*];done)|(simp [show ¬x.gen≤1073741824 by omega];done)|(simp [show ¬0≤x.gen by omega];done)
             refine aE (qf []) ?_;exact ab)
          | (refine ⟨1,⟨by omega,by rw [←hs];simp [*,Ek,show x.gen≤1073741824 by omega,show 0≤x.gen by omega]⟩,by omega,?_⟩
             exact ao (qf []))
      · obtain ⟨m,hm⟩:∃m,s.needs[i-1]=m:=⟨_,rfl⟩
        have hgm:s.needs[((i:Int)-1).toNat]? = some m:=by rw [show ((i:Int)-1).toNat=i-1 by omega,List.getElem?_eq_getElem (by omega),hm]
        rw [Cl h0 (by omega) hm] at hs
        unfold Ek at hs
        dsimp only at hs
        clear hnx
        repeat' (first
          | refine ah ?_ ?_
          | (refine aa 9 rfl ?_;first
            | (refine cB [] (d7 x.proc) ?_)
            | (refine cB [] (zC d x.expr) ?_)
            | (refine cB [] (ij m.proc x.proc) ?_))
          | refine af ?_
          | exact ai|refine ae fun hb=>?_)
        all_goals first
          | (obtain rfl:false=v:=by rw [←hs];first|(simp [*];done)|(simp [show ¬cU m.proc x.proc<0 by omega];done)|(simp [show ¬x.gen≤1073741824 by omega];done)|(simp [show ¬0≤x.gen by omega];done)
             refine aE (qf []) ?_;exact ab)
          | (refine ⟨i+1,⟨by omega,by rw [←hs];simp [*,show cU m.proc x.proc<0 by omega,show x.gen≤1073741824 by omega,show 0≤x.gen by omega]⟩,by omega,?_⟩
             exact ao (qf []))
    · rw [List.drop_eq_nil_of_le (by omega)] at hs
      have hs:decide (W.length≤8)=v:=hs
      rw [show decide (W.length≤8)=decide ((W.length:Int)≤8) by rw [decide_eq_decide];omega] at hs
      repeat' (first
        | refine ah ?_ ?_
        | refine aa 9 rfl (cC [] (kW) ?_)
        | refine af ?_
        | exact ai|refine ae fun hb=>?_)
      exact gz (congrArg _ hs)
def MC:Nd:=⟨⟨0,0,0⟩,Ex.zero,0⟩
def Kz (d:Nat) (r:Option Nd):TV:=.tup [(r.getD MC).a d,.one (.sc (.bool r.isSome))]
theorem vW (d:Nat) (s:Ws) (p:Pr) {r:Option Nd} (hr:mv s.needs p=r):FSpec prog 159 [s.a d,p.a] [] [] (Kz d r) []:=by
 refine aX func159 ?_
 refine aR (fun c ρ a w hr=>dQ (t:=0) (i:=1) hr rfl rfl) (fun hl0_1=>?_)
 repeat' (first
  | refine ah ?_ ?_
  | refine af ?_
  | exact ai|refine ae fun hb=>?_)
 refine ak (fun i=>i≤s.needs.length∧mv (s.needs.drop i) p=r) (fun i=>bH [2,3,4] [(2,.c (.ptr 2 0)),(3,.c (.ptr 3 0)),(4,.c (.ptr 4 0)),(6,.i i)] [(2,.box 92 (s.d d)),(3,.box 23 [.sc (.int .i64 p.site),.sc (.int .i64 p.inc),.sc (.int .i64 p.num)]),(4,.box 148 [.sc (.int .i64 0),.sc (.int .i64 0),.sc (.int .i64 0),.sc (.int .i64 0),.sc (.string ⟨#[]⟩),.sc (.int .i64 0),.sc (.int .i64 0),.sc (.slice none 0 0),.sc (.int .i64 0)])]) (fun i=>s.needs.length-i) 0 ⟨Nat.zero_le _,hr⟩ (by exact ao (qf [])) ?_
 clear hr
 rintro i ⟨hi,hs⟩
 by_cases hlt:i<s.needs.length
 ·obtain ⟨x,hx⟩:∃x,s.needs[i]? = some x:=⟨_,List.getElem?_eq_getElem hlt⟩
  have ex:s.needs[i]=x:=(List.getElem?_eq_some_iff.1 hx).2
  rw [List.drop_eq_getElem_cons hlt,ex,zF] at hs
  by_cases hp:x.proc=p
  ·rw [decide_eq_true hp] at hs
   obtain rfl:r=some x:=hs.symm
   repeat' (first
    | refine ah ?_ ?_
    | refine af ?_
    | exact ai|(refine ae fun hb=>?_;first|(exact absurd hp hb)|skip)
    | (refine iG (qf []) ?_;exact ab))
  ·rw [decide_eq_false hp,cond_false] at hs
   repeat' (first
    | refine ah ?_ ?_
    | refine af ?_
    | exact ai|(refine ae fun hb=>?_;first|(exact absurd hb hp)|skip))
   refine ⟨i+1,⟨by omega,hs⟩,by omega,?_⟩
   exact ao (qf [])
 ·rw [List.drop_eq_nil_of_le (by omega)] at hs
  obtain rfl:r=none:=hs.symm
  repeat' (first
   | refine ah ?_ ?_
   | refine af ?_
   | exact ai|refine ae fun hb=>?_
   | (refine iG (qf []) ?_;exact ab))
theorem Jo (d:Nat) (s:Ws) (p:Pr) (n:ByteArray) {v:Bool} (hv:kz n p s.queues=v):FSpec prog 217 [s.a d,p.a,.one (.sc (.string n))] [] [] (.b v) []:=by
 have k1:=mO s.queues n
 refine aX func217 ?_
 refine aR (fun c ρ a w hr=>dQ (t:=0) (i:=0) hr rfl rfl) (fun hl0_0=>?_)
 rcases sd n p s.queues 0 with ⟨h1,h2⟩|⟨i,h,h1,h2,_⟩
 ·rw [h1] at k1
  obtain rfl:false=v:=h2.symm.trans hv
  repeat' (first
   | refine ah ?_ ?_
   | refine aa 9 rfl (cB [] (k1) ?_)
   | refine af ?_
   | exact ai|refine ae fun hb=>?_
   | (refine aE (qf []) ?_;exact ab))
 ·rw [h1,Nat.zero_add] at k1
  obtain rfl:(ap s.queues[i] p).isSome=v:=h2.symm.trans hv
  have kW:=AP s.queues[i] p
  clear h1 h2 hv
  obtain ⟨q,hq⟩:∃q,s.queues[i]=q:=⟨_,rfl⟩
  have hgq:s.queues[i]? = some q:=by rw [List.getElem?_eq_getElem h,hq]
  rw [hq] at kW
  rw [hq]
  repeat' (first
   | refine ah ?_ ?_
   | (refine aa 9 rfl ?_;first
    | (refine cB [] (k1) ?_)
    | (refine cB [] (kW) ?_))
   | refine af ?_
   | exact ai|refine ae fun hb=>?_
   | (refine aE (qf []) ?_;exact ab))
theorem Em {α:Type} {l:List α} {f:α→Bool} {i:Nat} (h:i<l.length):((l.take i).map f++List.replicate (l.length-i) false).set i (f l[i])=(l.take (i+1)).map f++List.replicate (l.length-(i+1)) false:=by
 obtain ⟨n,hn⟩:∃n,l.length-i=n+1:=⟨l.length-i-1,by omega⟩
 rw [hn,show l.length-(i+1)=n by omega,List.set_append_right _ _ (by simp;omega),List.take_succ_eq_append_getElem h,List.replicate_succ,show i-((l.take i).map f).length=0 by simp;omega,List.set_cons_zero,List.map_append,List.append_assoc]
 rfl
theorem Cn (d:Nat) (s:Ws) (p:Pr):FSpec prog 161 [s.a d,p.a] [] [] (.c (.sl eh (mP s p))) []:=by
 have hmk:prog.underlying 231=some (.slice 4):=underlying231
 have hib:(prog.info? 4).map (fun i=>(i.zero,i.size,i.bytes))=some (some (.bool false),1,1):=by kernel_rfl
 unfold mP
 cases hn:mv s.needs p with
 | none =>
  have kN:=vW d s p hn
  refine aX func161 ?_
  repeat' (first
   | refine ah ?_ ?_
   | refine aa 9 rfl (cC [] (kN) ?_)
   | refine af ?_
   | exact ai|refine ae fun hb=>?_
   | (refine aE (qf []) ?_;exact ab))
 | some x =>
  have kN:=vW d s p hn
  cases hS:cq s with
  | false =>
   refine aX func161 ?_
   repeat' (first
    | refine ah ?_ ?_
    | (refine aa 9 rfl ?_;first
     | (refine cC [] (kN) ?_)
     | (refine cB [] (oa d s) ?_))
    | refine af ?_
    | exact ai|(refine ae fun hb=>?_;first|(simp [hS] at hb;done)|skip)
    | (refine aE (qf []) ?_;exact ab))
  | true =>
   obtain ⟨L,hL⟩:∃L,cP x.expr=L:=⟨_,rfl⟩
   have h8:L.length≤8:=by
    rw [←hL]
    cases hv:nE x.expr with
    | true=>exact (rr hv).2.2.1
    | false=>rw [vj hv];simp
   have kA:=AT d x.expr
   dsimp only
   rw [cond_true,hL]
   rw [hL] at kA
   clear hn
   refine aX func161 ?_
   repeat' (first
    | refine ah ?_ ?_
    | (refine aa 9 rfl ?_;first
     | (refine cC [] (kN) ?_)
     | (refine cB [] (oa d s) ?_)
     | (refine cC [] (kA) ?_))
    | (refine aa 20 rfl ?_;refine aM (i9 (E:=eh) (y0:=false) hmk hib rfl (by decide) rfl (fun _ _=>rfl) rfl rfl rfl rfl (by first|omega|simp)) rfl rfl rfl ?_)
    | refine af ?_
    | exact ai|(refine ae fun hb=>?_;first|(simp [hS] at hb;done)|skip))
   refine ak (fun i=>i≤L.length) (fun i=>bH [2,3,1000] [(2,.c (.ptr 2 0)),(3,.c (.ptr 3 0)),(7,.c (.sl cr L)),(8,.c (.own 1000)),(9,.i i)] [(2,.box 92 (s.d d)),Ms 3 p,(1000,.arr 4 eh ((L.take i).map (fun a=>!kz a.name p s.queues)++List.replicate (L.length-i) false))]) (fun i=>L.length-i) 0 (Nat.zero_le _) (by exact ao (qf [(1000,28)])) ?_
   intro i hi
   have hM:((L.take i).map (fun a=>!kz a.name p s.queues)++List.replicate (L.length-i) false).length=L.length:=by simp;omega
   by_cases hlt:i<L.length
   ·have hst:=Em (f:=fun a=>!kz a.name p s.queues) hlt
    obtain ⟨v,hv⟩:∃v,kz L[i].name p s.queues=v:=⟨_,rfl⟩
    have kW:=Jo d s p L[i].name hv
    simp only [hv] at hst
    repeat' (first
     | refine ah ?_ ?_
     | refine aa 9 rfl (cB [] (kW) ?_)
     | refine af ?_
     | (refine aa 4 rfl ?_;refine bP (aI (z:=!v) rfl rfl rfl rfl (by first|assumption|exact List.getElem?_eq_getElem (by omega)) rfl rfl rfl rfl (Nat.le_of_ble_eq_true rfl) rfl rfl) rfl rfl rfl ?_)
     | exact ai|refine ae fun hb=>?_)
    refine ⟨i+1,by omega,by omega,?_⟩
    rw [←hst]
    exact ao (qf [])
   ·obtain rfl:i=L.length:=by omega
    rw [List.take_length,Nat.sub_self,List.replicate_zero,List.append_nil]
    repeat' (first
     | refine ah ?_ ?_
     | refine af ?_
     | exact ai|refine ae fun hb=>?_
     | (refine aE (qf []) ?_;exact ab))
end Go.Proofs.YtdaajdflefnjfaaGreat
