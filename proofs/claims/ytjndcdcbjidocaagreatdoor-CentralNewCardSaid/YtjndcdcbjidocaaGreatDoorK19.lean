/- Part 19 of 35 of the proof of centralNew_holds (no condition). -/
import Derived.Test.YtjndcdcbjidocaaGreatDoorK18
set_option linter.unusedVariables false
set_option linter.unusedSimpArgs false
set_option maxRecDepth 100000
set_option maxHeartbeats 64000000
namespace Go.Proofs.YtjndcdcbjidocaaGreatDoor
open Go.RowKit Go.Proofs.Tryz
theorem J8 (q:Qu) (p:Pr) (hl:q.holds.length≤100000):FSpec prog 286 [.one (.ptr 0 0),.one (.ptr 1 0)] [(0,.box 81 q.d),i8 1 p] [] (.tup []) [(0,some (.box 81 { q with holds:=b9 q.holds p ⟨0,0⟩ }.d)),(1,some (i8 1 p).2)]:=by
 refine aS func286 ?_
 repeat' (first
  | refine ah ?_ ?_
  | refine aa 9 rfl (cC [] (Dd q.holds p ⟨0,0⟩ hl) ?_)
  | refine af ?_
  | exact ai|refine ae fun hb=>?_
  | (exact sE (qf [])))
theorem J9 (q:Qu) (p:Pr) (hl:q.convs.length≤100000):FSpec prog 287 [.one (.ptr 0 0),.one (.ptr 1 0)] [(0,.box 81 q.d),i8 1 p] [] (.tup []) [(0,some (.box 81 { q with convs:=b7 q.convs p }.d)),(1,some (i8 1 p).2)]:=by
 refine aS func287 ?_
 repeat' (first
  | refine ah ?_ ?_
  | refine aa 9 rfl (cC [] (mT q.convs p hl) ?_)
  | refine af ?_
  | exact ai|refine ae fun hb=>?_
  | (exact sE (qf [])))
theorem Ka (q:Qu) (p:Pr) (hl:q.waits.length≤100000):FSpec prog 289 [.one (.ptr 0 0),.one (.ptr 1 0)] [(0,.box 81 q.d),i8 1 p] [] (.tup []) [(0,some (.box 81 { q with waits:=b7 q.waits p }.d)),(1,some (i8 1 p).2)]:=by
 refine aS func289 ?_
 repeat' (first
  | refine ah ?_ ?_
  | refine aa 9 rfl (cC [] (mT q.waits p hl) ?_)
  | refine af ?_
  | exact ai|refine ae fun hb=>?_
  | (exact sE (qf [])))
theorem Hl (q:Qu) (p:Pr) (hh:q.holds.length≤100000) (hc:q.convs.length≤100000) (hw:q.waits.length≤100000) {q3:Qu} (hq:{ q with holds:=b9 q.holds p ⟨0,0⟩,convs:=b7 q.convs p,waits:=b7 q.waits p } = q3) (hs:Sd q3):FSpec prog 281 [.one (.ptr 0 0),.one (.slb 1 3)] [(0,.box 81 q.d),(1,.box 1 [.clo 286 [0,2],.clo 287 [0,2],.clo 289 [0,2]]),i8 2 p] [] (ub (iL (dE q3))) [(0,none),(1,none),(2,none)]:=by
 refine aS func281 ?_
 obtain ⟨q1,hq1⟩:∃q1,{ q with holds:=b9 q.holds p ⟨0,0⟩ } = q1:=⟨_,rfl⟩
 obtain ⟨q2,hq2⟩:∃q2,{ q1 with convs:=b7 q1.convs p } = q2:=⟨_,rfl⟩
 have k1:=J8 q p hh
 rw [hq1] at k1
 have k2:=J9 q1 p (by rw [←hq1];exact hc)
 rw [hq2] at k2
 have k3:=Ka q2 p (by rw [←hq2,←hq1];exact hw)
 rw [show ({ q2 with waits:=b7 q2.waits p }:Qu)=q3 by rw [←hq,←hq2,←hq1]] at k3
 repeat' (first
  | refine ah ?_ ?_
  | (refine aa 7 rfl ?_;refine sx (iG rfl rfl) ?_)
  | refine af ?_
  | exact ai|refine ae fun hb=>?_)
 refine aj (fun x:Nat×Qu=>x.1=0∧x.2=q∨x.1=1∧x.2=q1∨x.1=2∧x.2=q2∨x.1=3∧x.2=q3) (fun x=>bH [0,1,2,4] [(0,.c (.ptr 0 0)),(4,.c (.ptr 4 0)),(10,.c (.slb 1 3)),(11,.i 3),(12,.i x.1)] [(0,.box 81 x.2.d),(4,.box 81 AE),(1,.box 1 [.clo 286 [0,2],.clo 287 [0,2],.clo 289 [0,2]]),i8 2 p]) (fun x=>3-x.1) (0,q) (.inl ⟨rfl,rfl⟩) (by exact ao (qf [])) ?_
 rintro ⟨i,z⟩ hz
 dsimp only at *
 rcases hz with ⟨rfl,rfl⟩|⟨rfl,rfl⟩|⟨rfl,rfl⟩|⟨rfl,rfl⟩
 ·repeat' (first
   | refine ah ?_ ?_
   | (refine aa 6 rfl ?_;refine sx (dv (i:=0) rfl rfl rfl rfl (by decide)) ?_)
   | (refine aa 9 rfl ?_;refine ll 0 [0,1] (qf [(0,0),(1,2)]) (k1) ?_)
   | refine af ?_
   | exact ai|(refine ae fun hb=>?_;first|(exact absurd hb (by decide))|skip))
  refine ⟨(1,q1),.inr (.inl ⟨rfl,rfl⟩),by simp,?_⟩
  exact ao (qf [])
 ·repeat' (first
   | refine ah ?_ ?_
   | (refine aa 6 rfl ?_;refine sx (dv (i:=1) rfl rfl rfl rfl (by decide)) ?_)
   | (refine aa 9 rfl ?_;refine ll 0 [0,1] (qf [(0,0),(1,2)]) (k2) ?_)
   | refine af ?_
   | exact ai|(refine ae fun hb=>?_;first|(exact absurd hb (by decide))|skip))
  refine ⟨(2,q2),.inr (.inr (.inl ⟨rfl,rfl⟩)),by simp,?_⟩
  exact ao (qf [])
 ·repeat' (first
   | refine ah ?_ ?_
   | (refine aa 6 rfl ?_;refine sx (dv (i:=2) rfl rfl rfl rfl (by decide)) ?_)
   | (refine aa 9 rfl ?_;refine ll 0 [0,1] (qf [(0,0),(1,2)]) (k3) ?_)
   | refine af ?_
   | exact ai|(refine ae fun hb=>?_;first|(exact absurd hb (by decide))|skip))
  refine ⟨(3,q3),.inr (.inr (.inr ⟨rfl,rfl⟩)),by simp,?_⟩
  exact ao (qf [])
 ·have kA:=iH z hs
  unfold dE
  obtain ⟨⟨N,G⟩,hN⟩:∃x,mq z=x:=⟨_,rfl⟩
  have hg:N.gen=z.gen:=by have:=(dz hs).2.1;rw [hN] at this;exact this
  rw [hN] at kA ⊢
  dsimp only
  rw [←hg]
  repeat' (first
   | refine ah ?_ ?_
   | (refine aa 9 rfl ?_;first
    | (refine cH (qf [(0,0)]) (kA) ?_)
    | (refine cB [] (iI N.gen) ?_))
   | refine af ?_
   | exact ai|(refine ae fun hb=>?_;first|(exact absurd hb (by decide))|skip)
   | (refine f9 (qf []) ?_;exact ab))
def ul (p:Pr):Nat→List Pr→Int
 | _,[]=>-1
 | k,x :: l=>bif decide (p=x) then (k:Int) else ul p (k+1) l
theorem sX (p x:Pr) (k:Nat) (l:List Pr):ul p k (x :: l)=bif decide (p=x) then (k:Int) else ul p (k+1) l:=rfl
theorem wK (p:Pr):∀(l:List Pr) (k:Nat),0≤ul p k l↔p∈l
 | [],_=>by simp [ul]
 | x :: l,k=>by
  rw [sX]
  by_cases h:p=x
  ·rw [decide_eq_true h];simp [h] <;> omega
  ·rw [decide_eq_false h,cond_false,wK p l (k+1)];simp [h]
theorem Hm (l:List Pr) (p:Pr):FSpec prog 321 [.one (.sl eY l),p.a] [] [] (.i (ul p 0 l)) []:=by
 obtain ⟨v,hv⟩:∃v,ul p 0 l=v:=⟨_,rfl⟩
 rw [hv]
 refine aS func321 ?_
 refine aH (fun c ρ a w hr=>bh (t:=0) hr rfl) (fun hl0=>?_)
 repeat' (first
  | refine ah ?_ ?_
  | refine af ?_
  | exact ai|refine ae fun hb=>?_)
 refine aj (fun i=>i≤l.length∧ul p i (l.drop i)=v) (fun i=>bH [3] [(0,.c (.sl eY l)),(3,.c (.ptr 3 0)),(7,.i l.length),(8,.i i)] [i8 3 p]) (fun i=>l.length-i) 0 ⟨Nat.zero_le _,hv⟩ (by exact ao (qf [])) ?_
 rintro i ⟨hi,hs⟩
 by_cases hlt:i<l.length
 ·rw [List.drop_eq_getElem_cons hlt,sX] at hs
  repeat' (first
   | refine ah ?_ ?_
   | refine af ?_
   | exact ai|refine ae fun hb=>?_)
  ·refine dD ?_
   rw [←hs];simp [*]
  ·refine ⟨i+1,⟨by omega,?_⟩,by omega,?_⟩
   ·rw [←hs];simp [*]
   ·exact ao (qf [])
 ·rw [List.drop_eq_nil_of_le (by omega)] at hs
  repeat' (first
   | refine ah ?_ ?_
   | refine af ?_
   | exact ai|refine ae fun hb=>?_)
  refine dD ?_
  rw [←hs];rfl
theorem Fw (l:List Pr) (p:Pr):FSpec prog 279 [.one (.sl eY l),p.a] [] [] (.b (decide (p∈l))) []:=by
 have h:=wK p l 0
 have kI:=Hm l p
 obtain ⟨n,hn⟩:∃n,ul p 0 l=n:=⟨_,rfl⟩
 rw [hn] at h kI
 refine aS func279 ?_
 repeat' (first
  | refine ah ?_ ?_
  | refine aa 9 rfl (cB [] (kI) ?_)
  | refine af ?_
  | exact ai|refine ae fun hb=>?_)
 refine dD ?_
 simp [h]
theorem mU (l:List Pr) (p:Pr):FSpec prog 222 [.one (.sl eY l),p.a] [] [] (.b (decide (p∈l))) []:=by
 refine aS func222 ?_
 repeat' (first
  | refine ah ?_ ?_
  | refine aa 9 rfl (cB [] (Fw l p) ?_)
  | refine af ?_
  | exact ai|refine ae fun hb=>?_
  | (refine dD ?_;rfl))
theorem Dq (q:Qu) (p:Pr) {R:Qu×List Ho×Int} (hR:ba q p=R):FSpec prog 228 [q.a,p.a] [] [] (ub R) []:=by
 refine aS func228 ?_
 cases hS:ax q with
 | false =>
  obtain rfl:R=bW 2:=by rw [←hR];simp [ba,hS]
  repeat' (first
   | refine ah ?_ ?_
   | refine aa 9 rfl (cB [] (cg q) ?_)
   | refine af ?_
   | exact ai|(refine ae fun hb=>?_;first|(simp [hS] at hb;done)|skip)
   | (refine f9 (qf []) ?_;exact ab))
 | true =>
  have hs:=aK hS
  have h1:=hs.hv.len
  have h2:=hs.clen
  have h3:=hs.wlen
  have hiff:=dA hs p
  have kP:=mU (eM q) p
  cases hh:fu q p with
  | false =>
   obtain rfl:R=bW 10:=by rw [←hR];simp [ba,hS,hh]
   rw [decide_eq_false (fun h=>by rw [hiff.1 h] at hh;cases hh)] at kP
   repeat' (first
    | refine ah ?_ ?_
    | (refine aa 9 rfl ?_;first
     | (refine cB [] (cg q) ?_)
     | (refine cC [] (uk q h1 (by omega) (by omega)) ?_)
     | (refine cB [] (kP) ?_))
    | refine af ?_
    | exact ai|(refine ae fun hb=>?_;first|(simp [hS] at hb;done)|skip)
    | (refine f9 (qf []) ?_;exact ab))
  | true =>
   obtain rfl:R=iL (dE { q with holds:=b9 q.holds p ⟨0,0⟩,convs:=b7 q.convs p,waits:=b7 q.waits p }):=by rw [←hR];simp [ba,hS,hh]
   have hd:=hs.gone p
   have kF:=Hl q p (by omega) (by omega) (by omega) rfl hd
   rw [decide_eq_true (hiff.2 hh)] at kP
   repeat' (first
    | refine ah ?_ ?_
    | (refine aa 0 rfl ?_;refine sx (cD (ks:=[7,3]) rfl rfl) ?_)
    | (refine aa 9 rfl ?_;first
     | (refine cB [] (cg q) ?_)
     | (refine cC [] (uk q h1 (by omega) (by omega)) ?_)
     | (refine cB [] (kP) ?_)
     | (refine cC [] (kK q (by omega) (by omega) (by omega)) ?_)
     | (refine cH (qf [(0,7),(1,23),(2,3)]) (kF) ?_))
    | refine af ?_
    | exact ai|(refine ae fun hb=>?_;first|(simp [hS] at hb;done)|skip)
    | (refine f9 (qf []) ?_;exact ab))
abbrev D6 (k:Nat) (a:Am):Nat×Box:=(k,.box 37 [.sc (.int .i64 a.mode),.sc (.int .i64 a.units)])
theorem Fx {a b:Int} (ha:bQ a=true) (hb:bQ b=true):(cZ a b=true→lO a b=a)∧(cZ b a=true→lO a b=b):=by
 rcases cI ha with rfl|rfl|rfl|rfl|rfl <;> rcases cI hb with rfl|rfl|rfl|rfl|rfl <;> decide
theorem Fy (r:Rs) (a b:Am):bB r a b=bif !be r a || !be r b then ⟨0,0⟩ else bif aG a then b else bif aG b then a else bif decide (r.kind=1) then ⟨lO a.mode b.mode,0⟩ else ⟨0,max a.units b.units⟩:=by
 unfold bB
 cases h1:be r a with
 | false=>rfl
 | true =>
  cases h2:be r b with
  | false=>rfl
  | true =>
   unfold bb
   rw [h1,h2]
   simp only [Bool.and_self,Bool.true_and,cond_true,Bool.not_true,Bool.or_self,cond_false]
   cases z1:aG a with
   | true =>
    have e1:a=⟨0,0⟩:=of_decide_eq_true z1
    cases z2:aG b with
    | true=>have e2:b=⟨0,0⟩:=of_decide_eq_true z2;simp [e1,e2]
    | false=>simp
   | false =>
    cases z2:aG b with
    | true=>simp
    | false =>
     have f1:aD r a=true:=by unfold be at h1;rw [z1] at h1;simpa using (Bool.and_eq_true_iff.1 h1).2
     have f2:aD r b=true:=by unfold be at h2;rw [z2] at h2;simpa using (Bool.and_eq_true_iff.1 h2).2
     unfold aD at f1 f2
     by_cases hk:r.kind=1
     ·rw [if_pos hk] at f1 f2
      simp only [Bool.and_eq_true,decide_eq_true_eq] at f1 f2
      obtain ⟨s1,s2⟩:=Fx f1.2.1 f2.2.1
      obtain ⟨am,au⟩:=a
      obtain ⟨bm,bu⟩:=b
      dsimp only at *
      obtain rfl:=f1.2.2
      obtain rfl:=f2.2.2
      simp only [hk,if_true,decide_true,cond_true,Bool.not_false,Bool.true_and,Bool.false_or]
      cases c1:cZ am bm with
      | true=>rw [s1 c1];rfl
      | false =>
       cases c2:cZ bm am with
       | true=>rw [s2 c2];rfl
       | false=>rfl
     ·rw [if_neg hk] at f1 f2
      simp only [Bool.and_eq_true,decide_eq_true_eq] at f1 f2
      obtain ⟨am,au⟩:=a
      obtain ⟨bm,bu⟩:=b
      dsimp only at *
      obtain rfl:=f1.2.1.1
      obtain rfl:=f2.2.1.1
      simp only [hk,if_false,decide_false,cond_false,Bool.not_false,Bool.true_and,Bool.false_or]
      by_cases c:bu≤au
      ·rw [decide_eq_true c,cond_true,Int.max_eq_left c]
      ·rw [decide_eq_false c,cond_false,decide_eq_true (by omega),cond_true,Int.max_eq_right (by omega)]
theorem Gf (r:Rs) (a b:Am):FSpec prog 198 [r.a,a.a,b.a] [] [] (.v (bB r a b).a) []:=by
  obtain ⟨v,hv⟩:∃v,bB r a b=v:=⟨_,rfl⟩
  rw [hv]
  rw [Fy] at hv
  refine aS func198 ?_
  repeat' (first
    | refine ah ?_ ?_
    | (refine aa 9 rfl ?_;first
      | (refine sx (zl rfl rfl rfl) ?_)
      | (refine cB [] (zi r a) ?_)
      | (refine cB [] (zi r b) ?_)
      | (refine cB [] (gg a) ?_)
      | (refine cB [] (gg b) ?_)
      | (refine cB [] (I5 a.mode b.mode) ?_))
    | refine af ?_
    | exact ai|refine ae fun hb=>?_)
  all_goals first
    | (obtain rfl:v=⟨0,0⟩
       · (rw [←hv];simp [*];done)
       refine aE (qf []) ?_;exact ab)
    | (obtain rfl:v=b
       · (rw [←hv];simp [*];done)
       refine aE (qf []) ?_;exact ab)
    | (obtain rfl:v=a
       · (rw [←hv];simp [*];done)
       refine aE (qf []) ?_;exact ab)
    | (obtain rfl:v=⟨lO a.mode b.mode,0⟩
       · (rw [←hv];simp [*];done)
       refine aE (qf []) ?_;exact ab)
    | (obtain rfl:v=⟨0,max a.units b.units⟩
       · (rw [←hv];simp [*];done)
       refine aE (qf []) ?_;exact ab)
theorem Kb (q:Qu) (h a:Am) (p:Pr) (hl:q.convs.length≤100000):FSpec prog 282 [.one (.ptr 0 0),.one (.ptr 1 0),.one (.ptr 2 0),.one (.ptr 3 0)] [(0,.box 81 (Jv q 5)),D6 1 h,D6 2 a,i8 3 p,(5,.arr 171 eZ q.convs)] [] (.tup []) [(0,some (.box 81 { q with convs:=q.convs++[(⟨p,bB q.res h a,0,0⟩:Wt)] }.d)),(1,some (D6 1 h).2),(2,some (D6 2 a).2),(3,some (i8 3 p).2),(5,none)]:=by
 refine aS func282 ?_
 repeat' (first
  | refine ah ?_ ?_
  | (refine aa 8 rfl ?_;refine bg (aw rfl rfl (aL rfl rfl) (aP [⟨p,bB q.res h a,0,0⟩] rfl rfl rfl rfl) rfl aR aR) rfl rfl rfl ?_)
  | refine aa 9 rfl (cB [] (Gf q.res h a) ?_)
  | refine af ?_
  | exact ai|refine ae fun hb=>?_
  | (exact sE (qf [])))
theorem Hn (q:Qu) (h a:Am) (p:Pr) (hl:q.convs.length≤100000) {q2:Qu} (hq:{ q with convs:=q.convs++[(⟨p,bB q.res h a,0,0⟩:Wt)] } = q2) (hs:Sd q2):FSpec prog 281 [.one (.ptr 0 0),.one (.slb 1 1)] [(0,.box 81 (Jv q 55)),(1,.box 1 [.clo 282 [0,2,3,54]]),D6 2 h,D6 3 a,i8 54 p,(55,.arr 171 eZ q.convs)] [] (ub (iL (dE q2))) [(0,none),(1,none),(2,none),(3,none),(54,none),(55,none)]:=by
 refine aS func281 ?_
 have k1:=Kb q h a p hl
 rw [hq] at k1
 repeat' (first
  | refine ah ?_ ?_
  | (refine aa 7 rfl ?_;refine sx (iG rfl rfl) ?_)
  | refine af ?_
  | exact ai|refine ae fun hb=>?_)
 refine aj (fun x:Option Qu=>x=none∨x=some q2) (fun x=>match x with
  | none=>bH [0,1,2,3,4,54,55] [(0,.c (.ptr 0 0)),(4,.c (.ptr 4 0)),(10,.c (.slb 1 1)),(11,.i 1),(12,.i 0)] [(0,.box 81 (Jv q 55)),(4,.box 81 AE),(1,.box 1 [.clo 282 [0,2,3,54]]),D6 2 h,D6 3 a,i8 54 p,(55,.arr 171 eZ q.convs)]
  | some z=>bH [0,1,2,3,4,54,55] [(0,.c (.ptr 0 0)),(4,.c (.ptr 4 0)),(10,.c (.slb 1 1)),(11,.i 1),(12,.i 1)] [(0,.box 81 z.d),(4,.box 81 AE),(1,.box 1 [.clo 282 [0,2,3,54]]),D6 2 h,D6 3 a,i8 54 p]) (fun x=>match x with|none=>1|some _=>0) none (.inl rfl) (by exact ao (qf [])) ?_
 rintro z hz
 rcases hz with rfl|rfl
 ·dsimp only
  repeat' (first
   | refine ah ?_ ?_
   | (refine aa 6 rfl ?_;refine sx (dv (i:=0) rfl rfl rfl rfl (by decide)) ?_)
   | (refine aa 9 rfl ?_;refine ll 0 [0,1,2,3] (qf [(0,0),(1,2),(2,3),(3,54),(5,55)]) (k1) ?_)
   | refine af ?_
   | exact ai|(refine ae fun hb=>?_;first|(exact absurd hb (by decide))|skip))
  refine ⟨some q2,.inr rfl,by simp,?_⟩
  exact ao (qf [])
 ·dsimp only
  have kA:=iH q2 hs
  unfold dE
  obtain ⟨⟨N,G⟩,hN⟩:∃x,mq q2=x:=⟨_,rfl⟩
  have hg:N.gen=q2.gen:=by have:=(dz hs).2.1;rw [hN] at this;exact this
  rw [hN] at kA ⊢
  dsimp only
  rw [←hg]
  repeat' (first
   | refine ah ?_ ?_
   | (refine aa 9 rfl ?_;first
    | (refine cH (qf [(0,0)]) (kA) ?_)
    | (refine cB [] (iI N.gen) ?_))
   | refine af ?_
   | exact ai|(refine ae fun hb=>?_;first|(exact absurd hb (by decide))|skip)
   | (refine f9 (qf []) ?_;exact ab))
theorem Kc (q:Qu) (e:List Wt):FSpec prog 284 [.one (.ptr 0 0),.one (.ptr 1 0)] [(0,.box 79 [.sl eZ e]),(1,.box 81 q.d)] [] (.tup []) [(1,some (.box 81 { q with waits:=e }.d)),(0,some (.box 79 [.sl eZ e]))]:=by
 refine aS func284 ?_
 repeat' (first
  | refine ah ?_ ?_
  | refine af ?_
  | exact ai|refine ae fun hb=>?_
  | (exact sE (qf [])))
theorem Hp (q:Qu) (e:List Wt) {q2:Qu} (hq:{ q with waits:=e } = q2) (hs:Sd q2):FSpec prog 281 [.one (.ptr 0 0),.one (.slb 1 1)] [(0,.box 81 q.d),(1,.box 1 [.clo 284 [2,0]]),(2,.box 79 [.sl eZ e])] [] (ub (iL (dE q2))) [(0,none),(1,none),(2,none)]:=by
 refine aS func281 ?_
 have k1:=Kc q e
 rw [hq] at k1
 repeat' (first
  | refine ah ?_ ?_
  | (refine aa 7 rfl ?_;refine sx (iG rfl rfl) ?_)
  | refine af ?_
  | exact ai|refine ae fun hb=>?_)
 refine aj (fun x:Nat×Qu=>x.1=0∧x.2=q∨x.1=1∧x.2=q2) (fun x=>bH [0,1,2,4] [(0,.c (.ptr 0 0)),(4,.c (.ptr 4 0)),(10,.c (.slb 1 1)),(11,.i 1),(12,.i x.1)] [(0,.box 81 x.2.d),(4,.box 81 AE),(1,.box 1 [.clo 284 [2,0]]),(2,.box 79 [.sl eZ e])]) (fun x=>1-x.1) (0,q) (.inl ⟨rfl,rfl⟩) (by exact ao (qf [])) ?_
 rintro ⟨i,z⟩ hz
 dsimp only at *
 rcases hz with ⟨rfl,rfl⟩|⟨rfl,rfl⟩
 ·repeat' (first
   | refine ah ?_ ?_
   | (refine aa 6 rfl ?_;refine sx (dv (i:=0) rfl rfl rfl rfl (by decide)) ?_)
   | (refine aa 9 rfl ?_;refine ll 0 [0,1] (qf [(0,2),(1,0)]) (k1) ?_)
   | refine af ?_
   | exact ai|(refine ae fun hb=>?_;first|(exact absurd hb (by decide))|skip))
  refine ⟨(1,q2),.inr ⟨rfl,rfl⟩,by simp,?_⟩
  exact ao (qf [])
 ·have kA:=iH z hs
  unfold dE
  obtain ⟨⟨N,G⟩,hN⟩:∃x,mq z=x:=⟨_,rfl⟩
  have hg:N.gen=z.gen:=by have:=(dz hs).2.1;rw [hN] at this;exact this
  rw [hN] at kA ⊢
  dsimp only
  rw [←hg]
  repeat' (first
   | refine ah ?_ ?_
   | (refine aa 9 rfl ?_;first
    | (refine cH (qf [(0,0)]) (kA) ?_)
    | (refine cB [] (iI N.gen) ?_))
   | refine af ?_
   | exact ai|(refine ae fun hb=>?_;first|(exact absurd hb (by decide))|skip)
   | (refine f9 (qf []) ?_;exact ab))
theorem FA (q:Qu) (p:Pr) (a:Am) (prio:Int) {R:Qu×List Ho×Int} (hR:bK q p a prio=R):FSpec prog 223 [q.a,p.a,a.a,.one (.sc (.int .i64 prio))] [] [] (ub R) []:=by
 refine aS func223 ?_
 cases hS:ax q with
 | false =>
  obtain rfl:R=bW 2:=by rw [←hR];simp [bK,hS]
  repeat' (first
   | refine ah ?_ ?_
   | refine aa 9 rfl (cB [] (cg q) ?_)
   | refine af ?_
   | exact ai|(refine ae fun hb=>?_;first|(simp [hS] at hb;done)|skip)
   | (refine f9 (qf []) ?_;exact ab))
 | true =>
  have hs:=aK hS
  have h1:=hs.hv.len
  have h2:=hs.clen
  have h3:=hs.wlen
  by_cases hA:js p=true∧0≤prio∧prio≤7
  case neg =>
   obtain rfl:R=bW 1:=by
    rw [←hR]
    unfold bK
    rw [hS,bF (b:=!true) rfl,bT]
    cases hv:js p <;> simp [hv] at hA ⊢
    omega
   have hN:∀b,js p=b→(b=true→0≤prio→prio≤7→False):=fun b hb x y z=>hA ⟨hb.trans x,y,z⟩
   clear hA
   repeat' (first
    | refine ah ?_ ?_
    | (refine aa 9 rfl ?_;first
     | (refine cB [] (cg q) ?_)
     | (refine cB [] (fJ p) ?_))
    | refine af ?_
    | exact ai|(refine ae fun hb=>?_;first|(exact (hN true (by assumption) rfl (by omega) (by omega)).elim)|(simp [hS] at hb;done)|skip)
    | (refine f9 (qf []) ?_;exact ab))
  obtain ⟨hv,hp1,hp2⟩:=hA
  cases hf:aD q.res a with
  | false =>
   obtain rfl:R=bW 12:=by rw [←hR];simp [bK,hS,hv,hp1,hp2,hf]
   repeat' (first
    | refine ah ?_ ?_
    | (refine aa 9 rfl ?_;first
     | (refine cB [] (cg q) ?_)
     | (refine cB [] (fJ p) ?_)
     | (refine cB [] (dK q.res a) ?_))
    | refine af ?_
    | exact ai|(refine ae fun hb=>?_;first|(simp [hS] at hb;done)|skip)
    | (refine f9 (qf []) ?_;exact ab))
  | true =>
   cases hw:ap q p with
   | some b =>
    obtain rfl:R=bW 14:=by rw [←hR];simp [bK,hS,hv,hp1,hp2,hf,hw]
    repeat' (first
     | refine ah ?_ ?_
     | (refine aa 9 rfl ?_;first
      | (refine cB [] (cg q) ?_)
      | (refine cB [] (fJ p) ?_)
      | (refine cB [] (dK q.res a) ?_)
      | (refine cB [] (d5 q p (by omega) (by omega) hw) ?_))
     | refine af ?_
     | exact ai|(refine ae fun hb=>?_;first|(simp [hS] at hb;done)|skip)
     | (refine f9 (qf []) ?_;exact ab))
   | none =>
    cases hc:bb q.res (aq q.holds p) a with
    | true =>
     obtain rfl:R=iL (q,[]):=by rw [←hR];simp [bK,hS,hv,hp1,hp2,hf,hw,hc]
     repeat' (first
      | refine ah ?_ ?_
      | (refine aa 9 rfl ?_;first
       | (refine cB [] (cg q) ?_)
       | (refine cB [] (fJ p) ?_)
       | (refine cB [] (dK q.res a) ?_)
       | (refine cB [] (d5 q p (by omega) (by omega) hw) ?_)
       | (refine cC [] (kK q (by omega) (by omega) (by omega)) ?_)
       | (refine cB [] (dZ q p) ?_)
       | (refine cB [] (fp q.res (aq q.holds p) a) ?_))
      | refine af ?_
      | exact ai|(refine ae fun hb=>?_;first|(simp [hS] at hb;done)|skip)
      | (refine f9 (qf []) ?_;exact ab))
    | false =>
     cases hz:aG (aq q.holds p) with
     | false =>
      obtain rfl:R=iL (dE { q with convs:=q.convs++[⟨p,bB q.res (aq q.holds p) a,0,0⟩] }):=by rw [nx q p a prio hR hS hv hp1 hp2 hf hw hc,hz];rfl
      have hd:=(hs.cons (bo.1 hz) hw hf hc)
      have kF:=Hn q (aq q.holds p) a p (by omega) rfl hd
      repeat' (first
       | refine ah ?_ ?_
       | (refine aa 0 rfl ?_;refine sx (cD (ks:=[13,14,6,5]) rfl rfl) ?_)
       | (refine aa 9 rfl ?_;first
        | (refine cB [] (cg q) ?_)
        | (refine cB [] (fJ p) ?_)
        | (refine cB [] (dK q.res a) ?_)
        | (refine cB [] (d5 q p (by omega) (by omega) hw) ?_)
        | (refine cH (qf [(0,1000)]) (Dm q (by omega) (by omega) (by omega)) ?_)
        | (refine cB [1000] (dZ q p) ?_)
        | (refine cB [] (fp q.res (aq q.holds p) a) ?_)
        | (refine cB [] (gg (aq q.holds p)) ?_)
        | (refine cH (qf [(0,13),(1,63),(2,14),(3,6),(54,5),(55,1000)]) (kF) ?_))
       | refine af ?_
       | exact ai|(refine ae fun hb=>?_;first|(simp [hS] at hb;done)|skip)
       | (refine f9 (qf []) ?_;exact ab))
     | true =>
      have hz0:aq q.holds p=⟨0,0⟩:=by simpa [aG] using hz
      by_cases hn:8≤q.holds.length+q.waits.length
      case pos =>
       obtain rfl:R=bW 4:=by rw [nx q p a prio hR hS hv hp1 hp2 hf hw hc,hz];simp [hn]
       repeat' (first
        | refine ah ?_ ?_
        | (refine aa 9 rfl ?_;first
         | (refine cB [] (cg q) ?_)
         | (refine cB [] (fJ p) ?_)
         | (refine cB [] (dK q.res a) ?_)
         | (refine cB [] (d5 q p (by omega) (by omega) hw) ?_)
         | (refine cC [] (kK q (by omega) (by omega) (by omega)) ?_)
         | (refine cB [] (dZ q p) ?_)
         | (refine cB [] (fp q.res (aq q.holds p) a) ?_)
         | (refine cB [] (gg (aq q.holds p)) ?_))
        | refine af ?_
        | exact ai|(refine ae fun hb=>?_;first|(simp [hS] at hb;done)|skip)
        | (refine f9 (qf []) ?_;exact ab))
      obtain ⟨e,he1,he2⟩:∃e,lh q.waits ⟨p,a,prio,0⟩=(0,e)∧Sd { q with waits:=e }:=by
       have hi:=oT hs hw hf hv ⟨hp1,hp2⟩ (Nat.lt_of_not_le hn)
       exact ⟨_,hi.1,hs.ins (w:=⟨p,a,prio,0⟩) hz0 hw hf hi.2 (Nat.lt_of_not_le hn)⟩
      have hI:=Df q.waits ⟨p,a,prio,0⟩
      rw [he1] at hI
      obtain rfl:R=iL (dE { q with waits:=e }):=by rw [nx q p a prio hR hS hv hp1 hp2 hf hw hc,hz,he1];simp [hn]
      have kF:=Hp q e rfl he2
      repeat' (first
       | refine ah ?_ ?_
       | (refine aa 0 rfl ?_;refine sx (cD (ks:=[15,13]) rfl rfl) ?_)
       | (refine aa 9 rfl ?_;first
        | (refine cB [] (cg q) ?_)
        | (refine cB [] (fJ p) ?_)
        | (refine cB [] (dK q.res a) ?_)
        | (refine cB [] (d5 q p (by omega) (by omega) hw) ?_)
        | (refine cC [] (kK q (by omega) (by omega) (by omega)) ?_)
        | (refine cB [] (dZ q p) ?_)
        | (refine cB [] (fp q.res (aq q.holds p) a) ?_)
        | (refine cB [] (gg (aq q.holds p)) ?_)
        | (refine cC [] (hI) ?_)
        | (refine cH (qf [(0,13),(1,93),(2,15)]) (kF) ?_))
       | refine af ?_
       | exact ai|(refine ae fun hb=>?_;first|(simp [hS] at hb;done)|skip)
       | (refine f9 (qf []) ?_;exact ab))
section
variable {P:Program} {nt:Nat} {Ks:List Nat} {Q:Exit→Mst→Prop} {s:Mst}
theorem Dr {a:Act} {t:Nat} {v:Value} (hv:a.tmps.getD t undef=v):a.put (some t) v=a:=by
 cases a with
 | mk tmps defers =>
  simp only [Act.put]
  congr 1
  apply Array.ext
  ·simp
  ·intro i h1 h2
   rw [Array.getElem_setIfInBounds]
   split
   ·rename_i h3
    subst h3
    rw [←hv]
    simp [Array.getD_eq_getD_getElem?,h2]
   ·rfl
theorem Hq {x:Code} {α:Type} {E:El α} [J:Dp E] (t j k:Nat) (l:List α) {e:TypeId} {cs:List D} {n:Nat} (ht:s.t t = .c (.slb j n)) (hj:s.h j=some (.box e cs)) (hm:l.flatMap J.deep=cs) (hn:l.length=n) (hfk:s.f k=true) (hnt:Nat.blt t nt=true) (hl:Nat.ble n 1000000=true) (h:AW P nt Ks x Q (s.app (some t) ⟨.c (.own k),[(k,some (.arr e E l)),(j,none)],[k]⟩)):AW P nt Ks x Q s:=by
 intro c ρ a w hc hK hr
 subst hm
 subst hn
 have hv:=hr.tmp t
 rw [ht] at hv
 obtain ⟨g,hg,hv⟩:=hv
 obtain ⟨vs,hB,hA,_⟩:=hr.box hj hg
 have hre:=eB hA
 have hkbg:kb (ρ j)=some g:=by rw [hg];rfl
 have hne:k.beq j=false:=by
  cases h9:k.beq j with
  | false=>rfl
  | true=>rw [←Nat.eq_of_beq_eq_true h9,hr.wf.h k hfk] at hj;cases hj
 have hvl:=hre.length
 have hown:w.ownsRow 0 e E.n (.slice (some ⟨g,0,none⟩) l.length l.length) l.length vs:=⟨hvl,.inr ⟨g,l.length,vs.toArray,rfl,Nat.zero_le _,hB,Nat.le_refl _,by have:=Nat.le_of_ble_eq_true hl;simp only [maxLen];omega,by simpa using hvl,by rw [←hvl];simp⟩⟩
 have hputk:hput [(k,some (Box.arr e E l)),(j,none)] s.h k=some (.arr e E l):=by simp [hput]
 have hputj:hput [(k,some (Box.arr e E l)),(j,none)] s.h j=none:=by simp [hput,hne]
 have hky:∀q,aA [(k,some (Box.arr e E l)),(j,none)] q=true→q=k∨q=j:=fun q h=>by
  simp only [aA,Bool.or_eq_true,Bool.or_false] at h
  rcases h with h|h
  ·exact .inl (Nat.eq_of_beq_eq_true h).symm
  ·exact .inr (Nat.eq_of_beq_eq_true h).symm
 have hsm:∀q bx,aA [(k,some (Box.arr e E l)),(j,none)] q=true→hput [(k,some (Box.arr e E l)),(j,none)] s.h q=some bx→q=k∧bx = .arr e E l:=fun q bx hq hb=>by
  rcases hky q hq with rfl|rfl
  ·rw [hputk] at hb;exact ⟨rfl,(Option.some.inj hb).symm⟩
  ·rw [hputj] at hb;cases hb
 have hFz:∀b,Fz c s.h ρ w b→Fz c (hput [(k,some (Box.arr e E l)),(j,none)] s.h) (upd ρ k (.slice (some ⟨g,0,none⟩) l.length l.length)) w b:=fun b hb=>by
  refine ⟨hb.1,hb.2.1,fun q bx hq he=>?_⟩
  cases h9:aA [(k,some (Box.arr e E l)),(j,none)] q with
  | true =>
   obtain ⟨rfl,_⟩:=hsm q bx h9 hq
   rw [aM] at he
   exact hb.2.2 j _ hj (hkbg.trans (by injection he with he;rw [←he]))
  | false =>
   rw [bO h9] at hq
   have hkq:k.beq q=false:=by
    cases h8:k.beq q with
    | false=>rfl
    | true=>rw [←Nat.eq_of_beq_eq_true h8,hr.wf.h k hfk] at hq;cases hq
   rw [dx hkq] at he
   exact hb.2.2 q bx hq he
 have h2:=hr.app (ρ':=upd ρ k (.slice (some ⟨g,0,none⟩) l.length l.length)) (w':=w) (dst:=some t) (v:=.slice (some ⟨g,0,none⟩) l.length l.length) (e:=⟨.c (.own k),[(k,some (.arr e E l)),(j,none)],[k]⟩) (fun d hd=>by injection hd with hd;subst hd;rw [hc];simpa using hnt)
  (fun q hq=>by
   have:q=k:=by simp [aI] at hq;exact hq.symm
   subst this
   exact ⟨hfk,by simp [aA]⟩)
  (fun q hq=>dx (by simpa [aI] using hq))
  (fun q hq=>by
   rcases hky q hq with rfl|rfl
   ·exact .inl (by simp [aI])
   ·exact .inr (hr.nfh hj)) (Frx.refl _ _)
  (fun q bx g' hq hb hg'=>by
   obtain ⟨rfl,_⟩:=hsm q bx hq hb
   rw [aM] at hg'
   injection hg' with hg'
   subst hg'
   exact ⟨hr.ltb hj hkbg,.inr ⟨j,_,by simp [aA],hj,hkbg⟩⟩)
  (fun q q' b b' g hq hq' hb hb' _ _=>by rw [(hsm q b hq hb).1,(hsm q' b' hq' hb').1])
  (fun q hq=>.inl (by
   have:q=k:=by simp [TV.has,V0.has,D.has] at hq;exact hq.symm
   subst this
   simp [aI]))
  (fun q q' bx hq' hb hx2=>by
   rw [(hsm q' bx hq' hb).2] at hx2
   simp [Box.has] at hx2)
  (fun q bx hq hb=>by
   obtain ⟨rfl,rfl⟩:=hsm q bx hq hb
   rw [aM]
   exact ⟨_,hown,hre.same (fun _ _=>rfl) hFz⟩)
  (aM ρ k _).symm
 rw [Dr hv] at h2
 exact h c _ a w hc hK h2
end
theorem gM (l:List Qu) (n:ByteArray) {k:Int} (hk:bi n 0 l=k):FSpec prog 51 [.one (.sl dt l),.one (.sc (.string n))] [] [] (.i k) []:=by
 refine aS func51 ?_
 refine aH (fun c ρ a w hr=>bh (t:=0) hr rfl) (fun hl0=>?_)
 repeat' (first
  | refine ah ?_ ?_
  | refine af ?_
  | exact ai|refine ae fun hb=>?_)
 refine aj (fun i=>i≤l.length∧bi n i (l.drop i)=k) (fun i=>bH [] [(1,.c (.sc (.string n))),(7,.c (.sl dt l)),(8,.i l.length),(9,.i i)] []) (fun i=>l.length-i) 0 ⟨Nat.zero_le _,hk⟩ (by exact ao (qf [])) ?_
 rintro i ⟨hi,hs⟩
 by_cases hlt:i<l.length
 ·rw [List.drop_eq_getElem_cons hlt,eN] at hs
  repeat' (first
   | refine ah ?_ ?_
   | refine af ?_
   | exact ai|refine ae fun hb=>?_)
  ·refine dD ?_
   rw [←hs];simp [*]
  ·refine ⟨i+1,⟨by omega,by rw [←hs,beq_false_of_ne hb];rfl⟩,by omega,?_⟩
   exact ao (qf [])
 ·rw [List.drop_eq_nil_of_le (by omega)] at hs
  repeat' (first
   | refine ah ?_ ?_
   | refine af ?_
   | exact ai|refine ae fun hb=>?_)
  refine dD ?_
  rw [←hs];rfl
theorem um (l:List Qu) (hm:l.length≤12) (h8:∀q∈l,eO q):FSpec prog 26 [.one (.sl dt l)] [] [] (.c (.sl eY (aF l))) []:=by
 obtain ⟨R,hR⟩:∃R,jC l=R:=⟨_,rfl⟩
 have hRl:R.length≤288:=by rw [←hR];have:=pk l h8;omega
 unfold aF
 rw [hR]
 refine aS func26 ?_
 repeat' (first
  | refine ah ?_ ?_
  | refine af ?_
  | exact ai|refine ae fun hb=>?_)
 refine b8 3 1000 35 eY rfl rfl rfl ?_
 refine aj (fun x:Nat×List Pr=>x.1≤l.length∧x.2++jC (l.drop x.1)=R) (fun x=>bH [1000] [(3,.c (.own 1000)),(6,.c (.sl dt l)),(7,.i l.length),(8,.i x.1)] [(1000,.arr 35 eY x.2)]) (fun x=>l.length-x.1) (0,[]) ⟨Nat.zero_le _,hR⟩ (by exact ao (qf [])) ?_
 rintro ⟨i,out⟩ ⟨hi,hs⟩
 dsimp only at *
 have hol:out.length≤288:=by have:=congrArg List.length hs;simp at this;omega
 by_cases hlt:i<l.length
 ·rw [List.drop_eq_getElem_cons hlt,qd,←List.append_assoc] at hs
  have hq:=h8 _ (List.getElem_mem hlt)
  have hql:=lG hq
  have kP:=uk l[i] hq.1 hq.2.1 hq.2.2
  clear h8
  repeat' (first
   | refine ah ?_ ?_
   | refine aa 9 rfl (cC [] (kP) ?_)
   | refine af ?_
   | exact ai|refine ae fun hb=>?_)
  refine ⟨(i+1,out++eM l[i]),⟨by dsimp only;omega,hs⟩,by dsimp only;omega,?_⟩
  exact ao (qf [(1000,15)])
 ·rw [List.drop_eq_nil_of_le (by omega)] at hs
  obtain rfl:out=R:=by rw [←hs];simp [jC]
  repeat' (first
   | refine ah ?_ ?_
   | ((fail_if_success (first|refine mC 7 ?_|refine mD 7 ?_));refine af ?_)
   | exact ai|refine ae fun hb=>?_)
  refine g9 1000 rfl ?_
  repeat' (first
   | refine ah ?_ ?_
   | refine aa 9 rfl (cC [] (Dk out (by omega)) ?_)
   | refine af ?_
   | exact ai|refine ae fun hb=>?_
   | (refine aE (qf []) ?_;exact ab))
theorem oX (l:List Qu):FSpec prog 23 [.one (.sl dt l)] [] [] (.b (df l)) []:=by
  obtain ⟨v,hv⟩:∃v,df l=v:=⟨_,rfl⟩
  rw [hv]
  have hparts:fy l=true→l.length≤8∧∀q∈l,ax q=true:=wh
  unfold df fy at hv
  unfold fy at hparts
  refine aS func23 ?_
  refine aH (fun c ρ a w hr=>bh (t:=0) hr rfl) (fun hl0=>?_)
  by_cases h8:8<l.length
  · rw [decide_eq_false (by omega)] at hv
    obtain rfl:false=v:=hv
    repeat' (first
      | refine ah ?_ ?_
      | refine af ?_
      | exact ai|refine ae fun hb=>?_
      | (refine aE (qf []) ?_;exact ab))
  rw [decide_eq_true (by omega),Bool.true_and] at hv hparts
  repeat' (first
    | refine ah ?_ ?_
    | refine af ?_
    | exact ai|refine ae fun hb=>?_)
  refine aj (fun i=>i≤l.length∧lf (pm l i) (l.drop i)=lf none l) (fun i=>bH [] [(0,.c (.sl dt l)),(8,.c (.sl dt l)),(9,.i l.length),(10,.i i)] []) (fun i=>l.length-i) 0 ⟨Nat.zero_le _,rfl⟩ (by exact ao (qf [])) ?_
  rintro i ⟨hi,hs⟩
  have fin:lf none l=false→false=v:=fun h=>by rw [←hv,h];rfl
  by_cases hlt:i<l.length
  · rw [List.drop_eq_getElem_cons hlt,dH] at hs
    rcases Nat.eq_zero_or_pos i with h0|h0
    · subst h0
      rw [pn] at hs
      repeat' (first
        | refine ah ?_ ?_
        | refine aa 9 rfl (cB [] (cg l[0]) ?_)
        | refine af ?_
        | exact ai|(refine ae fun hb=>?_;first|(simp at hb;done)|skip))
      all_goals first
        | (obtain rfl:=fin (by rw [←hs];simp [*])
           refine aE (qf []) ?_;exact ab)
        | (refine ⟨1,⟨by omega,by rw [←hs,iR hlt rfl];simp [*,xb]⟩,by omega,?_⟩
           exact ao (qf []))
    · obtain ⟨m,hm⟩:∃m,l[i-1]=m:=⟨_,rfl⟩
      have hgm:l[((i:Int)-1).toNat]? = some m:=by rw [show ((i:Int)-1).toNat=i-1 by omega,List.getElem?_eq_getElem (by omega),hm]
      rw [rZ h0 (by omega) hm] at hs
      repeat' (first
        | refine ah ?_ ?_
        | refine aa 9 rfl (cB [] (cg l[i]) ?_)
        | refine af ?_
        | exact ai|(refine ae fun hb=>?_;first|(omega)|skip))
      all_goals first
        | (obtain rfl:=fin (by rw [←hs];simp [*,xb])
           refine aE (qf []) ?_;exact ab)
        | (refine ⟨i+1,⟨by omega,by rw [←hs,iR hlt rfl];simp [*,xb]⟩,by omega,?_⟩
           exact ao (qf []))
  · rw [List.drop_eq_nil_of_le (by omega)] at hs
    have hs:true=lf none l:=hs
    rw [←hs] at hv hparts
    obtain ⟨_,hq⟩:=hparts rfl
    have kP:=um l (by omega) (fun q h=>cz (hq q h))
    clear fin hparts hq
    repeat' (first
      | refine ah ?_ ?_
      | refine aa 9 rfl (cC [] (kP) ?_)
      | refine af ?_
      | exact ai|refine ae fun hb=>?_)
    refine dD ?_
    rw [←hv];simp
    try omega
theorem Hr (t:List Qu) (p:Pr) (hl:t.length≤100000):FSpec prog 124 [.one (.sl dt t),p.a] [] [] (.c (.sl bV (db t p))) []:=by
 refine aS func124 ?_
 repeat' (first
  | refine ah ?_ ?_
  | refine af ?_
  | exact ai|refine ae fun hb=>?_)
 refine b8 5 1000 39 bV rfl rfl rfl ?_
 refine aj (fun x:Nat×List Tm=>x.1≤t.length∧x.2.length≤x.1∧x.2++db (t.drop x.1) p=db t p) (fun x=>bH [3,1000] [(3,.c (.ptr 3 0)),(5,.c (.own 1000)),(9,.c (.sl dt t)),(10,.i t.length),(11,.i x.1)] [i8 3 p,(1000,.arr 39 bV x.2)]) (fun x=>t.length-x.1) (0,[]) ⟨Nat.zero_le _,Nat.le_refl _,rfl⟩ (by exact ao (qf [])) ?_
 rintro ⟨i,acc⟩ ⟨hi,hal,hs⟩
 dsimp only at *
 by_cases hlt:i<t.length
 ·have e:db (t.drop i) p=(bif aG (aq t[i].holds p) then [] else [⟨t[i].res.name,aq t[i].holds p⟩])++db (t.drop (i+1)) p:=by
   rw [List.drop_eq_getElem_cons hlt]
   unfold db
   rw [List.map_cons,List.filter_cons]
   cases aG (aq t[i].holds p) <;> rfl
  rw [e] at hs
  obtain ⟨h,hh⟩:∃h,aq t[i].holds p=h:=⟨_,rfl⟩
  have kH:=dZ t[i] p
  rw [hh] at hs kH
  repeat' (first
   | refine ah ?_ ?_
   | (refine aa 8 rfl ?_;refine bg (aw rfl rfl (aL rfl rfl) (aP [⟨t[i].res.name,h⟩] rfl rfl rfl rfl) rfl aR aR) rfl rfl rfl ?_)
   | refine aa 9 rfl (cB [] (kH) ?_)
   | refine af ?_
   | exact ai|refine ae fun hb=>?_)
  ·refine ⟨(i+1,acc++[⟨t[i].res.name,h⟩]),⟨by dsimp only;omega,by simp;omega,?_⟩,by dsimp only;omega,?_⟩
   ·rw [←hs];simp [aG,hb]
   ·exact ao (qf [(1000,28)])
  ·refine ⟨(i+1,acc),⟨by dsimp only;omega,by dsimp only;omega,?_⟩,by dsimp only;omega,?_⟩
   ·rw [←hs];simp [aG,hb]
   ·exact ao (qf [])
 ·have e:acc=db t p:=by rw [←hs,List.drop_eq_nil_of_le (by omega)];simp [db]
  repeat' (first
   | refine ah ?_ ?_
   | refine af ?_
   | exact ai|refine ae fun hb=>?_)
  rw [←e]
  refine aE (qf []) ?_;exact ab
theorem Ds (t:List Qu) (p:Pr) (hl:t.length≤100000) (h8:∀q∈t,eO q):FSpec prog 122 [.one (.sl dt t),p.a] [] [] (.c (.sl bV (bl p t))) []:=by
 refine aS func122 ?_
 repeat' (first
  | refine ah ?_ ?_
  | refine af ?_
  | exact ai|refine ae fun hb=>?_)
 refine b8 5 1000 39 bV rfl rfl rfl ?_
 refine aj (fun x:Nat×List Tm=>x.1≤t.length∧x.2.length≤x.1∧x.2++bl p (t.drop x.1)=bl p t) (fun x=>bH [3,1000] [(3,.c (.ptr 3 0)),(5,.c (.own 1000)),(10,.c (.sl dt t)),(11,.i t.length),(12,.i x.1)] [i8 3 p,(1000,.arr 39 bV x.2)]) (fun x=>t.length-x.1) (0,[]) ⟨Nat.zero_le _,Nat.le_refl _,rfl⟩ (by exact ao (qf [])) ?_
 rintro ⟨i,acc⟩ ⟨hi,hal,hs⟩
 dsimp only at *
 by_cases hlt:i<t.length
 ·rw [List.drop_eq_getElem_cons hlt] at hs
  have hq:=h8 _ (List.getElem_mem hlt)
  cases hw:ap t[i] p with
  | some a =>
   rw [show bl p (t[i] :: t.drop (i+1))=⟨t[i].res.name,a⟩ :: bl p (t.drop (i+1)) by simp [bl,hw]] at hs
   have kW:=d5 t[i] p hq.2.1 hq.2.2 hw
   clear h8
   repeat' (first
    | refine ah ?_ ?_
    | (refine aa 8 rfl ?_;refine bg (aw rfl rfl (aL rfl rfl) (aP [⟨t[i].res.name,a⟩] rfl rfl rfl rfl) rfl aR aR) rfl rfl rfl ?_)
    | refine aa 9 rfl (cB [] (kW) ?_)
    | refine af ?_
    | exact ai|refine ae fun hb=>?_)
   refine ⟨(i+1,acc++[⟨t[i].res.name,a⟩]),⟨by dsimp only;omega,by simp;omega,?_⟩,by dsimp only;omega,?_⟩
   ·rw [←hs];simp
   ·exact ao (qf [(1000,30)])
  | none =>
   rw [show bl p (t[i] :: t.drop (i+1))=bl p (t.drop (i+1)) by simp [bl,hw]] at hs
   have kW:=d5 t[i] p hq.2.1 hq.2.2 hw
   clear h8
   repeat' (first
    | refine ah ?_ ?_
    | refine aa 9 rfl (cB [] (kW) ?_)
    | refine af ?_
    | exact ai|refine ae fun hb=>?_)
   refine ⟨(i+1,acc),⟨by dsimp only;omega,by dsimp only;omega,?_⟩,by dsimp only;omega,?_⟩
   ·rw [←hs]
   ·exact ao (qf [])
 ·have e:acc=bl p t:=by rw [←hs,List.drop_eq_nil_of_le (by omega)];simp [bl]
  repeat' (first
   | refine ah ?_ ?_
   | refine af ?_
   | exact ai|refine ae fun hb=>?_)
  rw [←e]
  refine aE (qf []) ?_;exact ab
theorem Hs (t:List Qu) (n:ByteArray):FSpec prog 221 [.one (.sl dt t),.one (.sc (.string n))] [] [] (.tup [iV (bif df t && decide (0≤bi n 0 t) then bi n 0 t else 0),iV (bif !df t then 2 else bif decide (bi n 0 t<0) then 10 else 0)]) []:=by
 obtain ⟨k,hk⟩:∃k,bi n 0 t=k:=⟨_,rfl⟩
 rw [hk]
 obtain ⟨r1,h1⟩:∃r1,(bif df t && decide (0≤k) then k else 0)=r1:=⟨_,rfl⟩
 obtain ⟨r2,h2⟩:∃r2:Int,(bif !df t then 2 else bif decide (k<0) then 10 else 0)=r2:=⟨_,rfl⟩
 rw [h1,h2]
 refine aS func221 ?_
 repeat' (first
  | refine ah ?_ ?_
  | (refine aa 9 rfl ?_;first
   | (refine cB [] (oX t) ?_)
   | (refine cB [] (gM t n hk) ?_))
  | refine af ?_
  | exact ai|refine ae fun hb=>?_)
 ·obtain rfl:0=r1:=by rw [←h1];simp [*]
  obtain rfl:2=r2:=by rw [←h2];simp [*]
  refine fL (qf []) ?_;exact ab
 ·obtain rfl:0=r1:=by rw [←h1,decide_eq_false (show ¬0≤k by omega),Bool.and_false];rfl
  obtain rfl:10=r2:=by rw [←h2];simp [*]
  refine fL (qf []) ?_;exact ab
 ·have ht:df t=true:=by assumption
  obtain rfl:k=r1:=by rw [←h1,ht,decide_eq_true (show 0≤k by omega)];rfl
  obtain rfl:0=r2:=by rw [←h2,ht,decide_eq_false (show ¬k<0 by omega)];rfl
  refine fL (qf []) ?_;exact ab
theorem zm (w:World) (S:Nat→Prop):dt.rep w S jh (Value.agg #[.string { data:=#[] },.int .i64 0,.int .i64 0,.int .i64 0,.slice none 0 0,.slice none 0 0,.slice none 0 0,.int .i64 0]).cells.toList :=
 ⟨rfl,rfl,rfl,rfl,⟨none,0,rfl,⟨Nat.le_refl _,Nat.zero_le _⟩,[],rfl,fun h=>absurd h (by decide)⟩,⟨none,0,rfl,⟨Nat.le_refl _,Nat.zero_le _⟩,[],rfl,fun h=>absurd h (by decide)⟩,⟨none,0,rfl,⟨Nat.le_refl _,Nat.zero_le _⟩,[],rfl,fun h=>absurd h (by decide)⟩,rfl,trivial⟩
theorem nJ (t:List Qu) (j:Int) (q:Qu) {R:List Qu} (hl:t.length≤8) (h8:∀q∈t,eO q) (hj:(j<0∧t=R)∨∃i:Nat,i<t.length∧j=i∧t.set i q=R):FSpec prog 224 [.one (.sl dt t),iV j,q.a] [] [0] (.c (.own 0)) [(0,some (.arr 81 dt R))]:=by
 refine aS func224 ?_
 repeat' (first
  | refine ah ?_ ?_
  | (refine aa 20 rfl ?_;refine sx (uj (E:=dt) (n:=t.length) (z:=.agg #[.string { data:=#[] },.int .i64 0,.int .i64 0,.int .i64 0,.slice none 0 0,.slice none 0 0,.slice none 0 0,.int .i64 0]) jh rfl rfl rfl rfl (by omega) (by kernel_rfl) zm (by decide)) ?_)
  | refine af ?_
  | exact ai|refine ae fun hb=>?_)
 refine aj (fun i=>i≤t.length) (fun i=>bH [5,1000] [(1,.i j),(5,.c (.ptr 5 0)),(7,.c (.own 1000)),(13,.c (.sl dt t)),(14,.i t.length),(15,.i i)] [(5,.box 81 q.d),(1000,.arr 81 dt (t.take i++List.replicate (t.length-i) jh))]) (fun i=>t.length-i) 0 (Nat.zero_le _) (by exact ao (qf [(1000,12)])) ?_
 intro i hi
 have hRl:(t.take i++List.replicate (t.length-i) jh).length=t.length:=by simp;omega
 by_cases hlt:i<t.length
 ·obtain ⟨x,hx⟩:∃x,t[i]=x:=⟨_,rfl⟩
  have hgx:t[i]? = some x:=by rw [List.getElem?_eq_getElem hlt,hx]
  have hq:=h8 _ (List.getElem_mem hlt)
  rw [hx] at hq
  obtain ⟨q1,q2,q3⟩:=hq
  have hset:(t.take i++List.replicate (t.length-i) jh).set i x=t.take (i+1)++List.replicate (t.length-(i+1)) jh:=by
   rw [List.set_append_right _ _ (by simp;omega),List.take_succ_eq_append_getElem hlt,hx]
   simp only [List.length_take,Nat.min_eq_left (Nat.le_of_lt hlt),Nat.sub_self]
   rw [show t.length-i=(t.length-(i+1))+1 by omega,List.replicate_succ]
   simp
  have hgi:(t.take i++List.replicate (t.length-i) jh)[i]? = some jh:=by
   rw [List.getElem?_append_right (by rw [List.length_take];omega),List.length_take,Nat.min_eq_left (Nat.le_of_lt hlt),Nat.sub_self,List.getElem?_replicate,if_pos (by omega)]
  obtain ⟨L,hL⟩:∃L,t.take i++List.replicate (t.length-i) jh=L:=⟨_,rfl⟩
  rw [hL] at hRl hset hgi ⊢
  clear h8 hj hL
  repeat' (first
   | refine ah ?_ ?_
   | ((fail_if_success (first|refine mC 8 ?_|refine mD 8 ?_));refine af ?_)
   | exact ai|refine ae fun hb=>?_)
  refine g9 22 rfl ?_
  refine g9 26 rfl ?_
  refine g9 30 rfl ?_
  repeat' (first
   | refine ah ?_ ?_
   | refine af ?_
   | (refine aa 4 rfl ?_;refine bc (aB (z:=x) rfl rfl rfl rfl hgi rfl rfl rfl rfl (Nat.le_of_ble_eq_true rfl) rfl rfl) rfl rfl rfl ?_)
   | exact ai|refine ae fun hb=>?_)
  refine ⟨i+1,by omega,by omega,?_⟩
  rw [←hset]
  exact ao (qf [])
 ·have e:t.take i++List.replicate (t.length-i) jh=t:=by rw [List.take_of_length_le (by omega),show t.length-i=0 by omega];simp
  rw [e]
  clear h8
  rcases hj with ⟨j1,rfl⟩|⟨k,k1,rfl,rfl⟩
  ·repeat' (first
    | refine ah ?_ ?_
    | refine af ?_
    | exact ai|refine ae fun hb=>?_
    | (refine aE (qf [(0,1000)]) ?_;exact ab))
  ·have hgk:t[k]? = some t[k]:=List.getElem?_eq_getElem k1
   repeat' (first
    | refine ah ?_ ?_
    | refine af ?_
    | (refine aa 4 rfl ?_;refine bc (aB (z:=q) rfl rfl rfl rfl hgk rfl rfl rfl rfl (Nat.le_of_ble_eq_true rfl) rfl rfl) rfl rfl rfl ?_)
    | exact ai|refine ae fun hb=>?_
    | (refine aE (qf [(0,1000)]) ?_;exact ab))
def Ev.a (x:Ev):V0:=.ag [.sc (.int .i64 x.kind),.sc (.int .i64 x.proc.site),.sc (.int .i64 x.proc.inc),.sc (.int .i64 x.proc.num),.sc (.string x.name),.sc (.int .i64 x.am.mode),.sc (.int .i64 x.am.units)]
theorem Dt (p:Pr) (n:ByteArray) (a:Am):FSpec prog 229 [p.a,.one (.sc (.string n)),a.a] [] [] (.v (Ev.a ⟨3,p,n,a⟩)) []:=by
 refine aS func229 ?_
 repeat' (first
  | refine ah ?_ ?_
  | refine af ?_
  | exact ai|refine ae fun hb=>?_
  | (refine aE (qf []) ?_;exact ab))
theorem qL (n:ByteArray) (l:List Ho) (ev:List Ev) (x:Ev) (hl:l.length≤1000) (he:ev.length≤100000) :
  FSpec prog 225 [.one (.sc (.string n)),.one (.sl ga l),.one (.sc (.slice none 0 0))] [] [] (.c (.sl i7 (aV n l))) []∧
  FSpec prog 225 [.one (.sc (.string n)),.one (.sl ga l),.one (.slb 0 1)] [(0,.box 67 (Ev.cells x |>.map .sc))] [] (.c (.sl i7 ([x]++aV n l))) [(0,none)]∧
  FSpec prog 225 [.one (.sc (.string n)),.one (.sl ga l),.one (.own 0)] [(0,.arr 67 i7 ev)] [1] (.c (.own 1)) [(1,some (.arr 67 i7 (ev++aV n l))),(0,none)]:=by
 have hlen:∀i,i≤l.length→(aV n (l.take i)).length=i:=fun i hi=>by simp [aV,Nat.min_eq_left hi]
 have e1:∀i (h:i<l.length),aV n (l.take (i+1))=aV n (l.take i)++[⟨1,l[i].proc,n,l[i].am⟩]:=fun i h=>by
  unfold aV
  rw [List.take_succ_eq_append_getElem h,List.map_append]
  rfl
 have e0:∀i,¬i<l.length→aV n (l.take i)=aV n l:=fun i h=>by rw [List.take_of_length_le (by omega)]
 refine ⟨?_,?_,?_⟩
 ·refine aS func225 ?_
  repeat' (first
   | refine ah ?_ ?_
   | refine af ?_
   | exact ai|refine ae fun hb=>?_)
  refine b8 2 1000 67 i7 rfl rfl rfl ?_
  refine aj (fun i=>i≤l.length) (fun i=>bH [1000] [(0,.c (.sc (.string n))),(2,.c (.own 1000)),(9,.c (.sl ga l)),(10,.i l.length),(11,.i i)] [(1000,.arr 67 i7 (aV n (l.take i)))]) (fun i=>l.length-i) 0 (Nat.zero_le _) (by exact ao (qf [])) ?_
  intro i hi
  have h1:=hlen i hi
  have h2:=e1 i
  have h3:=e0 i
  clear hlen e1 e0
  by_cases hlt:i<l.length
  ·have h2:=h2 hlt
   repeat' (first
    | refine ah ?_ ?_
    | (refine aa 8 rfl ?_;refine bg (aw rfl rfl (aL rfl rfl) (aP [⟨1,l[i].proc,n,l[i].am⟩] rfl rfl rfl rfl) rfl aR aR) rfl rfl rfl ?_)
    | refine af ?_
    | exact ai|refine ae fun hb=>?_)
   refine ⟨i+1,by omega,by omega,?_⟩
   rw [h2]
   exact ao (qf [(1000,23)])
  ·rw [←h3 hlt]
   repeat' (first
    | refine ah ?_ ?_
    | refine af ?_
    | exact ai|refine ae fun hb=>?_
    | (refine aE (qf []) ?_;exact ab))
 ·refine aS func225 ?_
  repeat' (first
   | refine ah ?_ ?_
   | refine af ?_
   | exact ai|refine ae fun hb=>?_)
  refine Hq (E:=i7) 2 0 1000 [x] rfl rfl rfl rfl rfl rfl rfl ?_
  refine aj (fun i=>i≤l.length) (fun i=>bH [0,1000] [(0,.c (.sc (.string n))),(2,.c (.own 1000)),(9,.c (.sl ga l)),(10,.i l.length),(11,.i i)] [(1000,.arr 67 i7 ([x]++aV n (l.take i)))]) (fun i=>l.length-i) 0 (Nat.zero_le _) (by exact ao (qf [])) ?_
  intro i hi
  have h1:=hlen i hi
  have h2:=e1 i
  have h3:=e0 i
  clear hlen e1 e0
  by_cases hlt:i<l.length
  ·have h2:[x]++aV n (l.take (i+1))=[x]++aV n (l.take i)++[⟨1,l[i].proc,n,l[i].am⟩]:=by rw [h2 hlt,List.append_assoc]
   repeat' (first
    | refine ah ?_ ?_
    | (refine aa 8 rfl ?_;refine bg (aw rfl rfl (aL rfl rfl) (aP [⟨1,l[i].proc,n,l[i].am⟩] rfl rfl rfl rfl) rfl aR aR) rfl rfl rfl ?_)
    | refine af ?_
    | exact ai|refine ae fun hb=>?_)
   refine ⟨i+1,by omega,by omega,?_⟩
   rw [h2]
   exact ao (qf [(1000,23)])
  ·rw [←h3 hlt]
   repeat' (first
    | refine ah ?_ ?_
    | refine af ?_
    | exact ai|refine ae fun hb=>?_
    | (refine aE (qf []) ?_;exact ab))
 ·refine aS func225 ?_
  repeat' (first
   | refine ah ?_ ?_
   | refine af ?_
   | exact ai|refine ae fun hb=>?_)
  refine aj (fun i=>i≤l.length) (fun i=>bH [0,1000] [(0,.c (.sc (.string n))),(2,.c (.own 1000)),(9,.c (.sl ga l)),(10,.i l.length),(11,.i i)] [(1000,.arr 67 i7 (ev++aV n (l.take i)))]) (fun i=>l.length-i) 0 (Nat.zero_le _) (by rw [List.take_zero,show aV n []=[] from rfl,List.append_nil];exact ao (qf [(1000,0)])) ?_
  intro i hi
  have h1:=hlen i hi
  have h2:=e1 i
  have h3:=e0 i
  clear hlen e1 e0
  by_cases hlt:i<l.length
  ·have h2:ev++aV n (l.take (i+1))=ev++aV n (l.take i)++[⟨1,l[i].proc,n,l[i].am⟩]:=by rw [h2 hlt,List.append_assoc]
   repeat' (first
    | refine ah ?_ ?_
    | (refine aa 8 rfl ?_;refine bg (aw rfl rfl (aL rfl rfl) (aP [⟨1,l[i].proc,n,l[i].am⟩] rfl rfl rfl rfl) rfl aR aR) rfl rfl rfl ?_)
    | refine af ?_
    | exact ai|refine ae fun hb=>?_)
   refine ⟨i+1,by omega,by omega,?_⟩
   rw [h2]
   exact ao (qf [(1000,23)])
  ·rw [←h3 hlt]
   repeat' (first
    | refine ah ?_ ?_
    | refine af ?_
    | exact ai|refine ae fun hb=>?_
    | (refine aE (qf [(1,1000)]) ?_;exact ab))
theorem Du (t:List Qu) (p:Pr) (n:ByteArray) {R:List Qu×List Ev×Int} (hR:bM t p n=R):FSpec prog 276 [.one (.sl dt t),p.a,.one (.sc (.string n))] [] [] (Hd R) []:=by
 have kA:=Hs t n
 refine aS func276 ?_
 cases hV:df t with
 | false =>
  obtain rfl:R=eR 2:=by rw [←hR];simp [bM,hV]
  rw [hV] at kA
  repeat' (first
   | refine ah ?_ ?_
   | refine aa 9 rfl (cB [] (kA) ?_)
   | refine af ?_
   | exact ai|(refine ae fun hb=>?_;first|(exact absurd hb (by decide))|skip)
   | (refine f9 (qf []) ?_;exact ab))
 | true =>
  have hm:=(bD hV).1
  have h8:∀q∈t,eO q:=fun q hq=>cz (cA hV hq)
  by_cases hf:bi n 0 t<0
  case pos =>
   obtain rfl:R=eR 10:=by rw [←hR];simp [bM,hV,hf]
   rw [hV,decide_eq_false (show ¬0≤bi n 0 t by omega),decide_eq_true hf] at kA
   repeat' (first
    | refine ah ?_ ?_
    | refine aa 9 rfl (cB [] (kA) ?_)
    | refine af ?_
    | exact ai|(refine ae fun hb=>?_;first|(exact absurd hb (by decide))|skip)
    | (refine f9 (qf []) ?_;exact ab))
  obtain ⟨i,hi,hF,hq,hx⟩:=eK hf
  rw [hV,hF,decide_eq_true (show (0:Int)≤(i:Int) by omega),decide_eq_false (show ¬(i:Int)<0 by omega)] at kA
  have hS:=cA hV (List.getElem_mem hi)
  obtain ⟨Q,hQ⟩:∃Q,bq t[i] p=Q:=⟨_,rfl⟩
  have hQl:=oo hS p
  rw [hQ] at hQl
  have kQ:=Dn t[i] p hQ
  have kR:=nJ t (i:Int) Q.1 (by omega) h8 (.inr ⟨i,hi,rfl,rfl⟩)
  have kN:=(qL n Q.2.1 [] ⟨0,p,n,⟨0,0⟩⟩ (by omega) (by simp)).1
  clear h8
  by_cases he:Q.2.2=0
  ·obtain rfl:R=(t.set i Q.1,aV n Q.2.1,0):=by rw [←hR];unfold bM;rw [hq,hQ,hx];simp [hV,hf,he]
   repeat' (first
    | refine ah ?_ ?_
    | (refine aa 9 rfl ?_;first
     | (refine cB [] (kA) ?_)
     | (refine cC [] (kQ) ?_)
     | (refine cH (qf [(0,1000)]) (kR) ?_)
     | (refine cC [] (kN) ?_))
    | refine af ?_
    | exact ai|(refine ae fun hb=>?_;first|(exact absurd hb (by decide))|skip)
    | (refine f9 (qf []) ?_;exact ab))
  ·obtain rfl:R=eR Q.2.2:=by rw [←hR];unfold bM;rw [hq,hQ,hx];simp [hV,hf,he]
   repeat' (first
    | refine ah ?_ ?_
    | (refine aa 9 rfl ?_;first
     | (refine cB [] (kA) ?_)
     | (refine cC [] (kQ) ?_))
    | refine af ?_
    | exact ai|(refine ae fun hb=>?_;first|(exact absurd hb (by decide))|skip)
    | (refine f9 (qf []) ?_;exact ab))
theorem wL {q:Qu} {p:Pr} {a:Am} (h:aq q.holds p=a) (he:(bC q p a).2.2=0):(bC q p a).2.1=[]:=by
 unfold bC at he ⊢
 cases ax q <;> cases aG (aq q.holds p) <;> cases (ap q p).isSome <;> cases bb q.res (aq q.holds p) a <;> simp_all [bW,iL]
theorem FB (t:List Qu) (p:Pr) (a:Tm) {R:List Qu×List Ev×Int} (hR:cy t p a=R):FSpec prog 227 [.one (.sl dt t),p.a,a.a] [] [] (Hd R) []:=by
 have kA:=Hs t a.name
 refine aS func227 ?_
 cases hV:df t with
 | false =>
  obtain rfl:R=eR 2:=by rw [←hR];simp [cy,hV]
  rw [hV] at kA
  repeat' (first
   | refine ah ?_ ?_
   | refine aa 9 rfl (cB [] (kA) ?_)
   | refine af ?_
   | exact ai|(refine ae fun hb=>?_;first|(exact absurd hb (by decide))|skip)
   | (refine f9 (qf []) ?_;exact ab))
 | true =>
  have hm:=(bD hV).1
  have h8:∀q∈t,eO q:=fun q hq=>cz (cA hV hq)
  by_cases hf:bi a.name 0 t<0
  case pos =>
   obtain rfl:R=eR 10:=by rw [←hR];simp [cy,hV,hf]
   rw [hV,decide_eq_false (show ¬0≤bi a.name 0 t by omega),decide_eq_true hf] at kA
   repeat' (first
    | refine ah ?_ ?_
    | refine aa 9 rfl (cB [] (kA) ?_)
    | refine af ?_
    | exact ai|(refine ae fun hb=>?_;first|(exact absurd hb (by decide))|skip)
    | (refine f9 (qf []) ?_;exact ab))
  obtain ⟨i,hi,hF,hq,hx⟩:=eK hf
  rw [hV,hF,decide_eq_true (show (0:Int)≤(i:Int) by omega),decide_eq_false (show ¬(i:Int)<0 by omega)] at kA
  have hS:=cA hV (List.getElem_mem hi)
  obtain ⟨Q,hQ⟩:∃Q,bC t[i] p a.am=Q:=⟨_,rfl⟩
  have hQl:=qi hS p a.am
  have hQs:=wL (q:=t[i]) (p:=p) (a:=a.am)
  rw [hQ] at hQl hQs
  have kQ:=Fu t[i] p a.am hQ
  have kR:=nJ t (i:Int) Q.1 (by omega) h8 (.inr ⟨i,hi,rfl,rfl⟩)
  have kN:=(qL a.name Q.2.1 [] ⟨3,p,a.name,a.am⟩ (by omega) (by simp)).2.1
  obtain ⟨h,hh⟩:∃h,aq t[i].holds p=h:=⟨_,rfl⟩
  have kH:=dZ t[i] p
  rw [hh] at kH hQs
  clear h8
  by_cases he:Q.2.2=0
  ·by_cases hha:h=a.am
   ·have h0:=hQs hha he
    obtain rfl:R=(t.set i Q.1,[],0):=by rw [←hR];unfold cy;rw [hq,hQ,hx];simp [hV,hf,he,hh,hha,h0,aV]
    repeat' (first
     | refine ah ?_ ?_
     | (refine aa 9 rfl ?_;first
      | (refine cB [] (kA) ?_)
      | (refine cC [] (kQ) ?_)
      | (refine cB [] (kH) ?_)
      | (refine cH (qf [(0,1000)]) (kR) ?_))
     | refine af ?_
     | exact ai|(refine ae fun hb=>?_;first|(exact absurd hb (by decide))|(exact absurd hha.symm hb)|skip)
     | (refine f9 (qf []) ?_;exact ab))
   ·obtain rfl:R=(t.set i Q.1,[⟨3,p,a.name,a.am⟩]++aV a.name Q.2.1,0):=by rw [←hR];unfold cy;rw [hq,hQ,hx];simp [hV,hf,he,hh,hha]
    repeat' (first
     | refine ah ?_ ?_
     | (refine aa 9 rfl ?_;first
      | (refine cB [] (kA) ?_)
      | (refine cC [] (kQ) ?_)
      | (refine cB [] (kH) ?_)
      | (refine cH (qf [(0,1000)]) (kR) ?_)
      | (refine cB [] (Dt p a.name a.am) ?_)
      | (refine cH (qf [(0,64)]) (kN) ?_))
     | refine af ?_
     | exact ai|(refine ae fun hb=>?_;first|(exact absurd hb (by decide))|(exact absurd hb.symm hha)|skip)
     | (refine f9 (qf []) ?_;exact ab))
  ·obtain rfl:R=eR Q.2.2:=by rw [←hR];unfold cy;rw [hq,hQ,hx];simp [hV,hf,he]
   repeat' (first
    | refine ah ?_ ?_
    | (refine aa 9 rfl ?_;first
     | (refine cB [] (kA) ?_)
     | (refine cC [] (kQ) ?_))
    | refine af ?_
    | exact ai|(refine ae fun hb=>?_;first|(exact absurd hb (by decide))|skip)
    | (refine f9 (qf []) ?_;exact ab))
theorem FC (t:List Qu) (p:Pr) (a:Tm) (prio:Int) {R:List Qu×List Ev×Int} (hR:bJ t p a prio=R):FSpec prog 156 [.one (.sl dt t),p.a,a.a,.one (.sc (.int .i64 prio))] [] [] (Hd R) []:=by
 have kA:=Hs t a.name
 refine aS func156 ?_
 cases hV:df t with
 | false =>
  obtain rfl:R=eR 2:=by rw [←hR];simp [bJ,hV]
  rw [hV] at kA
  repeat' (first
   | refine ah ?_ ?_
   | refine aa 9 rfl (cB [] (kA) ?_)
   | refine af ?_
   | exact ai|(refine ae fun hb=>?_;first|(exact absurd hb (by decide))|skip)
   | (refine f9 (qf []) ?_;exact ab))
 | true =>
  have hm:=(bD hV).1
  have h8:∀q∈t,eO q:=fun q hq=>cz (cA hV hq)
  have hp8:(aF t).length≤8:=by have:=hV;unfold df at this;simp only [Bool.and_eq_true,decide_eq_true_eq] at this;exact this.2
  have kP:=um t (by omega) h8
  by_cases hf:bi a.name 0 t<0
  case pos =>
   obtain rfl:R=eR 10:=by rw [←hR];simp [bJ,hV,hf]
   rw [hV,decide_eq_false (show ¬0≤bi a.name 0 t by omega),decide_eq_true hf] at kA
   repeat' (first
    | refine ah ?_ ?_
    | refine aa 9 rfl (cB [] (kA) ?_)
    | refine af ?_
    | exact ai|(refine ae fun hb=>?_;first|(exact absurd hb (by decide))|skip)
    | (refine f9 (qf []) ?_;exact ab))
  obtain ⟨i,hi,hF,hq,hx⟩:=eK hf
  rw [hV,hF,decide_eq_true (show (0:Int)≤(i:Int) by omega),decide_eq_false (show ¬(i:Int)<0 by omega)] at kA
  by_cases hN:(aF t).length=8∧p ∉ aF t
  case pos =>
   obtain ⟨hN1,hN2⟩:=hN
   obtain rfl:R=eR 4:=by rw [←hR];simp [bJ,hV,hf,hN1,hN2]
   clear h8
   repeat' (first
    | refine ah ?_ ?_
    | (refine aa 9 rfl ?_;first
     | (refine cB [] (kA) ?_)
     | (refine cC [] (kP) ?_)
     | (refine cB [] (mU (aF t) p) ?_))
    | refine af ?_
    | exact ai|(refine ae fun hb=>?_;first|(exact absurd hb (by decide))|(exact absurd hb hN2)|skip)
    | (refine f9 (qf []) ?_;exact ab))
  have hS:=cA hV (List.getElem_mem hi)
  obtain ⟨Q,hQ⟩:∃Q,bK t[i] p a.am prio=Q:=⟨_,rfl⟩
  have hQl:=qh hS p a.am prio
  rw [hQ] at hQl
  have hN3:(decide ((aF t).length=8) && !decide (p∈aF t))=false:=by
   rw [Bool.and_eq_false_iff]
   by_cases h:(aF t).length=8
   ·right
    have:p∈aF t:=Classical.byContradiction fun h2=>hN ⟨h,h2⟩
    simp [this]
   ·left;simp [h]
  have kQ:=FA t[i] p a.am prio hQ
  have kR:=nJ t (i:Int) Q.1 (by omega) h8 (.inr ⟨i,hi,rfl,rfl⟩)
  have kN:=(qL a.name Q.2.1 [] ⟨0,p,a.name,⟨0,0⟩⟩ (by omega) (by simp)).1
  clear h8
  by_cases he:Q.2.2=0
  ·obtain rfl:R=(t.set i Q.1,aV a.name Q.2.1,0):=by rw [←hR];unfold bJ;rw [hq,hQ,hx,hN3];simp [hV,hf,he]
   clear hN3
   repeat' (first
    | refine ah ?_ ?_
    | (refine aa 9 rfl ?_;first
     | (refine cB [] (kA) ?_)
     | (refine cC [] (kP) ?_)
     | (refine cB [] (mU (aF t) p) ?_)
     | (refine cC [] (kQ) ?_)
     | (refine cH (qf [(0,1000)]) (kR) ?_)
     | (refine cC [] (kN) ?_))
    | refine af ?_
    | exact ai|(refine ae fun hb=>?_;first|(exact absurd hb (by decide))|(exact (hN ⟨by omega,by assumption⟩).elim)|skip)
    | (refine f9 (qf []) ?_;exact ab))
  ·obtain rfl:R=eR Q.2.2:=by rw [←hR];unfold bJ;rw [hq,hQ,hx,hN3];simp [hV,hf,he]
   clear hN3
   repeat' (first
    | refine ah ?_ ?_
    | (refine aa 9 rfl ?_;first
     | (refine cB [] (kA) ?_)
     | (refine cC [] (kP) ?_)
     | (refine cB [] (mU (aF t) p) ?_)
     | (refine cC [] (kQ) ?_))
    | refine af ?_
    | exact ai|(refine ae fun hb=>?_;first|(exact absurd hb (by decide))|(exact (hN ⟨by omega,by assumption⟩).elim)|skip)
    | (refine f9 (qf []) ?_;exact ab))
def nK (n m:Int):Int:=bif decide (m<1) then 0 else bif decide (n.tmod m<0) then n.tmod m+m else n.tmod m
theorem FD {n m:Int} (h:1≤m):0≤nK n m∧nK n m<m:=by
 unfold nK
 rw [decide_eq_false (by omega),cond_false]
 by_cases h2:n.tmod m<0
 ·rw [decide_eq_true h2,cond_true]
  have:=Int.lt_tmod_of_pos n (show 0<m by omega)
  omega
 ·rw [decide_eq_false h2,cond_false]
  have:=Int.tmod_lt_of_pos n (show 0<m by omega)
  omega
structure Tp where
 l:List Int
 at_:Nat
def Tp.v (t:Tp) (m:Int):Int:=bif decide (t.l.length≤t.at_) then 0 else nK (t.l.getD t.at_ 0) m
def Tp.s (t:Tp):Tp:=bif decide (t.l.length≤t.at_) then t else ⟨t.l,t.at_+1⟩
theorem Tp.s_l (t:Tp):t.s.l=t.l:=by unfold Tp.s;cases decide (t.l.length≤t.at_) <;> rfl
theorem Tp.s_at (t:Tp) (h:t.at_≤t.l.length):t.s.at_≤t.s.l.length:=by
 rw [Tp.s_l]
 unfold Tp.s
 by_cases h2:t.l.length≤t.at_
 ·rw [decide_eq_true h2];exact h
 ·rw [decide_eq_false h2];show t.at_+1≤_;omega
theorem Tp.s_le (t:Tp):t.at_≤t.s.at_:=by
 unfold Tp.s
 cases decide (t.l.length≤t.at_) with
 | true=>exact Nat.le_refl _
 | false=>exact Nat.le_succ _
def bZ (n:Int):Pr:=⟨(nK n 8).tmod 4,1,1+(nK n 8).tdiv 4⟩
def nA:ByteArray:=⟨#[97]⟩
def ln (r:Rs):Qu:=⟨r,[],[],[],0⟩
structure Adv (t t':Tp):Prop where
 l:t'.l=t.l
 le:t.at_≤t'.at_
 ok:t.at_≤t.l.length→t'.at_≤t'.l.length
theorem Adv.refl (t:Tp):Adv t t:=⟨rfl,Nat.le_refl _,id⟩
theorem Adv.trans {a b c:Tp} (h:Adv a b) (k:Adv b c):Adv a c:=⟨k.l.trans h.l,Nat.le_trans h.le k.le,fun e=>k.ok (h.ok e)⟩
theorem Adv.s (t:Tp):Adv t t.s:=⟨t.s_l,t.s_le,t.s_at⟩
end Go.Proofs.YtjndcdcbjidocaaGreatDoor
