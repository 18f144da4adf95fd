/- Part 18 of 33 of the proof of centralDoes_holds (no condition). -/
import Derived.Test.YtjndcdcbjidocaaGreatDoorL17
import Derived.Maps.OwnSet
import Derived.Maps.RangeRun
set_option linter.unusedVariables false
set_option linter.unusedSimpArgs false
set_option maxRecDepth 100000
set_option maxHeartbeats 64000000
namespace Go.Proofs.YtjndcdcbjidocaaGreatDoor
open Go.RowKit Go.Proofs.Tryz
section
variable {P:Program} {nt:Nat} {Ks:List Nat} {Q:Exit→Mst→Prop} {s:Mst}
theorem Em {a:Act} {t:Nat} {v:Value} (hv:a.tmps.getD t undef=v):a.put (some t) v=a:=by
 cases a with
 | mk tmps defers =>
  simp only [Act.put];congr 1
  apply Array.ext
  ·simp
  ·intro i h1 h2;rw [Array.getElem_setIfInBounds];split
   ·rename_i h3
    subst h3;rw [←hv];simp [Array.getD_eq_getD_getElem?,h2]
   ·rfl
theorem IQ {x:Code} {α:Type} {E:El α} [J:Dp E] (t j k:Nat) (l:List α) {e:TypeId} {cs:List D} {n:Nat} (ht:s.t t = .c (.slb j n)) (hj:s.h j=some (.box e cs)) (hm:l.flatMap J.deep=cs) (hn:l.length=n) (hfk:s.f k=true) (hnt:Nat.blt t nt=true) (hl:Nat.ble n 1000000=true) (h:AW P nt Ks x Q (s.app (some t) ⟨.c (.own k),[(k,some (.arr e E l)),(j,none)],[k]⟩)):AW P nt Ks x Q s:=by
 intro c ρ a w hc hK hr;subst hm;subst hn;have hv:=hr.tmp t;rw [ht] at hv;obtain ⟨g,hg,hv⟩:=hv;obtain ⟨vs,hB,hA,_⟩:=hr.box hj hg;have hre:=eY hA;have hkbg:kb (ρ j)=some g:=by rw [hg];rfl
 have hne:k.beq j=false:=by
  cases h9:k.beq j with
  | false=>rfl
  | true=>rw [←Nat.eq_of_beq_eq_true h9,hr.wf.h k hfk] at hj;cases hj
 have hvl:=hre.length;have hown:w.ownsRow 0 e E.n (.slice (some ⟨g,0,none⟩) l.length l.length) l.length vs:=⟨hvl,.inr ⟨g,l.length,vs.toArray,rfl,Nat.zero_le _,hB,Nat.le_refl _,by have:=Nat.le_of_ble_eq_true hl;simp only [maxLen];omega,by simpa using hvl,by rw [←hvl];simp⟩⟩;have hputk:hput [(k,some (Box.arr e E l)),(j,none)] s.h k=some (.arr e E l):=by simp [hput]
 have hputj:hput [(k,some (Box.arr e E l)),(j,none)] s.h j=none:=by simp [hput,hne]
 have hky:∀q,aA [(k,some (Box.arr e E l)),(j,none)] q=true→q=k∨q=j:=fun q h=>by
  simp only [aA,Bool.or_eq_true,Bool.or_false] at h;rcases h with h|h
  ·exact .inl (Nat.eq_of_beq_eq_true h).symm
  ·exact .inr (Nat.eq_of_beq_eq_true h).symm
 have hsm:∀q bx,aA [(k,some (Box.arr e E l)),(j,none)] q=true→hput [(k,some (Box.arr e E l)),(j,none)] s.h q=some bx→q=k∧bx = .arr e E l:=fun q bx hq hb=>by
  rcases hky q hq with rfl|rfl
  ·rw [hputk] at hb;exact ⟨rfl,(Option.some.inj hb).symm⟩
  ·rw [hputj] at hb;cases hb
 have hFz:∀b,Fz c s.h ρ w b→Fz c (hput [(k,some (Box.arr e E l)),(j,none)] s.h) (upd ρ k (.slice (some ⟨g,0,none⟩) l.length l.length)) w b:=fun b hb=>by
  refine ⟨hb.1,hb.2.1,fun q bx hq he=>?_⟩;cases h9:aA [(k,some (Box.arr e E l)),(j,none)] q with
  | true =>
   obtain ⟨rfl,_⟩:=hsm q bx h9 hq;rw [aI] at he;exact hb.2.2 j _ hj (hkbg.trans (by injection he with he;rw [←he]))
  | false =>
   rw [bN h9] at hq;have hkq:k.beq q=false:=by
    cases h8:k.beq q with
    | false=>rfl
    | true=>rw [←Nat.eq_of_beq_eq_true h8,hr.wf.h k hfk] at hq;cases hq
   rw [df hkq] at he;exact hb.2.2 q bx hq he
 have h2:=hr.app (ρ':=upd ρ k (.slice (some ⟨g,0,none⟩) l.length l.length)) (w':=w) (dst:=some t) (v:=.slice (some ⟨g,0,none⟩) l.length l.length) (e:=⟨.c (.own k),[(k,some (.arr e E l)),(j,none)],[k]⟩) (fun d hd=>by injection hd with hd;subst hd;rw [hc];simpa using hnt)
  (fun q hq=>by
   have:q=k:=by simp [aK] at hq;exact hq.symm
   subst this;exact ⟨hfk,by simp [aA]⟩)
  (fun q hq=>df (by simpa [aK] using hq))
  (fun q hq=>by
   rcases hky q hq with rfl|rfl
   ·exact .inl (by simp [aK])
   ·exact .inr (hr.nfh hj)) (Frx.refl _ _)
  (fun q bx g' hq hb hg'=>by
   obtain ⟨rfl,_⟩:=hsm q bx hq hb;rw [aI] at hg';injection hg' with hg';subst hg';exact ⟨hr.ltb hj hkbg,.inr ⟨j,_,by simp [aA],hj,hkbg⟩⟩)
  (fun q q' b b' g hq hq' hb hb' _ _=>by rw [(hsm q b hq hb).1,(hsm q' b' hq' hb').1])
  (fun q hq=>.inl (by
   have:q=k:=by simp [TV.has,V0.has,D.has] at hq;exact hq.symm
   subst this;simp [aK]))
  (fun q q' bx hq' hb hx2=>by
   rw [(hsm q' bx hq' hb).2] at hx2;simp [Box.has] at hx2)
  (fun q bx hq hb=>by
   obtain ⟨rfl,rfl⟩:=hsm q bx hq hb;rw [aI];exact ⟨_,hown,hre.same (fun _ _=>rfl) hFz⟩)
  (aI ρ k _).symm
 rw [Em hv] at h2;exact h c _ a w hc hK h2
end
theorem ir (l:List Qu) (n:ByteArray) {k:Int} (hk:bk n 0 l=k):FSpec prog 51 [.one (.sl dC l),.one (.sc (.string n))] [] [] (.i k) []:=by
 refine aP func51 ?_;refine aM (fun c ρ a w hr=>bz (t:=0) hr rfl) (fun hl0=>?_);repeat' (first|refine af ?_ ?_|refine ae ?_|exact ah|refine ab fun hb=>?_)
 refine ai (fun i=>i≤l.length∧bk n i (l.drop i)=k) (fun i=>bt [] [(1,.c (.sc (.string n))),(7,.c (.sl dC l)),(8,.i l.length),(9,.i i)] []) (fun i=>l.length-i) 0 ⟨Nat.zero_le _,hk⟩ aN ?_;rintro i ⟨hi,hs⟩;by_cases hlt:i<l.length
 ·rw [List.drop_eq_getElem_cons hlt,fu] at hs;repeat' (first|refine af ?_ ?_|refine ae ?_|exact ah|refine ab fun hb=>?_)
  ·refine d7 ?_;rw [←hs];simp [*]
  ·refine ⟨i+1,⟨by omega,by rw [←hs,beq_false_of_ne hb];rfl⟩,by omega,?_⟩;exact aN
 ·rw [List.drop_eq_nil_of_le (by omega)] at hs;repeat' (first|refine af ?_ ?_|refine ae ?_|exact ah|refine ab fun hb=>?_)
  refine d7 ?_;rw [←hs];rfl
theorem vz (l:List Qu) (hm:l.length≤12) (h8:∀q∈l,eU q):FSpec prog 26 [.one (.sl dC l)] [] [] (.c (.sl fK (aC l))) []:=by
 obtain ⟨R,hR⟩:∃R,ku l=R:=⟨_,rfl⟩;have hRl:R.length≤288:=by rw [←hR];have:=qr l h8;omega
 unfold aC;rw [hR];refine aP func26 ?_;repeat' (first|refine af ?_ ?_|refine ae ?_|exact ah|refine ab fun hb=>?_)
 refine bV 3 1000 35 fK rfl rfl rfl ?_;refine ai (fun x:Nat×List Pr=>x.1≤l.length∧x.2++ku (l.drop x.1)=R) (fun x=>bt [1000] [(3,.c (.own 1000)),(6,.c (.sl dC l)),(7,.i l.length),(8,.i x.1)] [(1000,.arr 35 fK x.2)]) (fun x=>l.length-x.1) (0,[]) ⟨Nat.zero_le _,hR⟩ aN ?_;rintro ⟨i,out⟩ ⟨hi,hs⟩;dsimp only at *
 have hol:out.length≤288:=by have:=congrArg List.length hs;simp at this;omega
 by_cases hlt:i<l.length
 ·rw [List.drop_eq_getElem_cons hlt,ri,←List.append_assoc] at hs;have hq:=h8 _ (List.getElem_mem hlt);have hql:=mG hq;have kP:=vx l[i] hq.1 hq.2.1 hq.2.2;clear h8;repeat' (first|refine af ?_ ?_|refine aa 9 rfl (cC [] (kP) ?_)|refine ae ?_|exact ah|refine ab fun hb=>?_)
  refine ⟨(i+1,out++fq l[i]),⟨by dsimp only;omega,hs⟩,by dsimp only;omega,?_⟩;exact a8 (qf [(1000,15)])
 ·rw [List.drop_eq_nil_of_le (by omega)] at hs;obtain rfl:out=R:=by rw [←hs];simp [ku]
  repeat' (first|refine af ?_ ?_|((fail_if_success (first|refine my 7 ?_|refine mz 7 ?_));refine ae ?_)|exact ah|refine ab fun hb=>?_)
  refine il 1000 rfl ?_;repeat' (first|refine af ?_ ?_|refine aa 9 rfl (cC [] (Ef out (by omega)) ?_)|refine ae ?_|exact ah|refine ab fun hb=>?_|exact aX|fail)
theorem qc (l:List Qu):FSpec prog 23 [.one (.sl dC l)] [] [] (.b (du l)) []:=by
  obtain ⟨v,hv⟩:∃v,du l=v:=⟨_,rfl⟩;rw [hv];have hparts:fZ l=true→l.length≤8∧∀q∈l,aw q=true:=xg;unfold du fZ at hv;unfold fZ at hparts;refine aP func23 ?_;refine aM (fun c ρ a w hr=>bz (t:=0) hr rfl) (fun hl0=>?_);by_cases h8:8<l.length
  · rw [decide_eq_false (by omega)] at hv
    obtain rfl:false=v:=hv;repeat' (first|refine af ?_ ?_|refine ae ?_|exact ah|refine ab fun hb=>?_|exact aX|fail)
  rw [decide_eq_true (by omega),Bool.true_and] at hv hparts;repeat' (first|refine af ?_ ?_|refine ae ?_|exact ah|refine ab fun hb=>?_)
  refine ai (fun i=>i≤l.length∧mo (qt l i) (l.drop i)=mo none l) (fun i=>bt [] [(0,.c (.sl dC l)),(8,.c (.sl dC l)),(9,.i l.length),(10,.i i)] []) (fun i=>l.length-i) 0 ⟨Nat.zero_le _,rfl⟩ aN ?_;rintro i ⟨hi,hs⟩;have fin:mo none l=false→false=v:=fun h=>by rw [←hv,h];rfl
  by_cases hlt:i<l.length
  · rw [List.drop_eq_getElem_cons hlt,ef] at hs
    rcases Nat.eq_zero_or_pos i with h0|h0
    · subst h0
      rw [qu] at hs;repeat' (first|refine af ?_ ?_|refine aa 9 rfl (cB [] (cE l[0]) ?_)|refine ae ?_|exact ah|(refine ab fun hb=>?_;first|(simp at hb;done)|skip))
      all_goals first
        | (obtain rfl:=fin (by rw [←hs];simp [*])
           refine bP (qf []) ?_;exact aj)
        | (refine ⟨1,⟨by omega,by rw [←hs,jt hlt rfl];simp [*,AU]⟩,by omega,?_⟩
           exact aN)
    · obtain ⟨m,hm⟩:∃m,l[i-1]=m:=⟨_,rfl⟩
      have hgm:l[((i:Int)-1).toNat]? = some m:=by rw [show ((i:Int)-1).toNat=i-1 by omega,List.getElem?_eq_getElem (by omega),hm]
      rw [tl h0 (by omega) hm] at hs;repeat' (first|refine af ?_ ?_|refine aa 9 rfl (cB [] (cE l[i]) ?_)|refine ae ?_|exact ah|(refine ab fun hb=>?_;first|(omega)|skip))
      all_goals first
        | (obtain rfl:=fin (by rw [←hs];simp [*,AU])
           refine bP (qf []) ?_;exact aj)
        | (refine ⟨i+1,⟨by omega,by rw [←hs,jt hlt rfl];simp [*,AU]⟩,by omega,?_⟩
           exact aN)
  · rw [List.drop_eq_nil_of_le (by omega)] at hs
    have hs:true=mo none l:=hs;rw [←hs] at hv hparts;obtain ⟨_,hq⟩:=hparts rfl;have kP:=vz l (by omega) (fun q h=>cA (hq q h));clear fin hparts hq;repeat' (first|refine af ?_ ?_|refine aa 9 rfl (cC [] (kP) ?_)|refine ae ?_|exact ah|refine ab fun hb=>?_)
    refine d7 ?_;rw [←hv];simp;try omega
theorem IR (t:List Qu) (p:Pr) (hl:t.length≤100000):FSpec prog 124 [.one (.sl dC t),p.a] [] [] (.c (.sl cw (dH t p))) []:=by
 refine aP func124 ?_;repeat' (first|refine af ?_ ?_|refine ae ?_|exact ah|refine ab fun hb=>?_)
 refine bV 5 1000 39 cw rfl rfl rfl ?_;refine ai (fun x:Nat×List Tm=>x.1≤t.length∧x.2.length≤x.1∧x.2++dH (t.drop x.1) p=dH t p) (fun x=>bt [3,1000] [(3,.c (.ptr 3 0)),(5,.c (.own 1000)),(9,.c (.sl dC t)),(10,.i t.length),(11,.i x.1)] [jH 3 p,(1000,.arr 39 cw x.2)]) (fun x=>t.length-x.1) (0,[]) ⟨Nat.zero_le _,Nat.le_refl _,rfl⟩ aN ?_;rintro ⟨i,acc⟩ ⟨hi,hal,hs⟩;dsimp only at *
 by_cases hlt:i<t.length
 ·have e:dH (t.drop i) p=(bif aH (ao t[i].holds p) then [] else [⟨t[i].res.name,ao t[i].holds p⟩])++dH (t.drop (i+1)) p:=by
   rw [List.drop_eq_getElem_cons hlt];unfold dH;rw [List.map_cons,List.filter_cons];cases aH (ao t[i].holds p) <;> rfl
  rw [e] at hs;obtain ⟨h,hh⟩:∃h,ao t[i].holds p=h:=⟨_,rfl⟩;have kH:=eJ t[i] p;rw [hh] at hs kH;repeat' (first|refine af ?_ ?_|(refine aa 8 rfl ?_;refine aV (ak rfl rfl (aB rfl rfl) (aD [⟨t[i].res.name,h⟩] rfl rfl rfl rfl) rfl aL aL) rfl rfl rfl ?_)|refine aa 9 rfl (cB [] (kH) ?_)|refine ae ?_|exact ah|refine ab fun hb=>?_)
  ·refine ⟨(i+1,acc++[⟨t[i].res.name,h⟩]),⟨by dsimp only;omega,by simp;omega,?_⟩,by dsimp only;omega,?_⟩
   ·rw [←hs];simp [aH,hb]
   ·exact a8 (qf [(1000,28)])
  ·refine ⟨(i+1,acc),⟨by dsimp only;omega,by dsimp only;omega,?_⟩,by dsimp only;omega,?_⟩
   ·rw [←hs];simp [aH,hb]
   ·exact aN
 ·have e:acc=dH t p:=by rw [←hs,List.drop_eq_nil_of_le (by omega)];simp [dH]
  repeat' (first|refine af ?_ ?_|refine ae ?_|exact ah|refine ab fun hb=>?_)
  rw [←e];refine bP (qf []) ?_;exact aj
theorem Eo (t:List Qu) (p:Pr) (hl:t.length≤100000) (h8:∀q∈t,eU q):FSpec prog 122 [.one (.sl dC t),p.a] [] [] (.c (.sl cw (bD p t))) []:=by
 refine aP func122 ?_;repeat' (first|refine af ?_ ?_|refine ae ?_|exact ah|refine ab fun hb=>?_)
 refine bV 5 1000 39 cw rfl rfl rfl ?_;refine ai (fun x:Nat×List Tm=>x.1≤t.length∧x.2.length≤x.1∧x.2++bD p (t.drop x.1)=bD p t) (fun x=>bt [3,1000] [(3,.c (.ptr 3 0)),(5,.c (.own 1000)),(10,.c (.sl dC t)),(11,.i t.length),(12,.i x.1)] [jH 3 p,(1000,.arr 39 cw x.2)]) (fun x=>t.length-x.1) (0,[]) ⟨Nat.zero_le _,Nat.le_refl _,rfl⟩ aN ?_;rintro ⟨i,acc⟩ ⟨hi,hal,hs⟩;dsimp only at *
 by_cases hlt:i<t.length
 ·rw [List.drop_eq_getElem_cons hlt] at hs;have hq:=h8 _ (List.getElem_mem hlt);cases hw:ap t[i] p with
  | some a =>
   rw [show bD p (t[i] :: t.drop (i+1))=⟨t[i].res.name,a⟩ :: bD p (t.drop (i+1)) by simp [bD,hw]] at hs;have kW:=eK t[i] p hq.2.1 hq.2.2 hw;clear h8;repeat' (first|refine af ?_ ?_|(refine aa 8 rfl ?_;refine aV (ak rfl rfl (aB rfl rfl) (aD [⟨t[i].res.name,a⟩] rfl rfl rfl rfl) rfl aL aL) rfl rfl rfl ?_)|refine aa 9 rfl (cB [] (kW) ?_)|refine ae ?_|exact ah|refine ab fun hb=>?_)
   refine ⟨(i+1,acc++[⟨t[i].res.name,a⟩]),⟨by dsimp only;omega,by simp;omega,?_⟩,by dsimp only;omega,?_⟩
   ·rw [←hs];simp
   ·exact a8 (qf [(1000,30)])
  | none =>
   rw [show bD p (t[i] :: t.drop (i+1))=bD p (t.drop (i+1)) by simp [bD,hw]] at hs;have kW:=eK t[i] p hq.2.1 hq.2.2 hw;clear h8;repeat' (first|refine af ?_ ?_|refine aa 9 rfl (cB [] (kW) ?_)|refine ae ?_|exact ah|refine ab fun hb=>?_)
   refine ⟨(i+1,acc),⟨by dsimp only;omega,by dsimp only;omega,?_⟩,by dsimp only;omega,?_⟩
   ·rw [←hs]
   ·exact aN
 ·have e:acc=bD p t:=by rw [←hs,List.drop_eq_nil_of_le (by omega)];simp [bD]
  repeat' (first|refine af ?_ ?_|refine ae ?_|exact ah|refine ab fun hb=>?_)
  rw [←e];refine bP (qf []) ?_;exact aj
theorem IS (t:List Qu) (n:ByteArray):FSpec prog 221 [.one (.sl dC t),.one (.sc (.string n))] [] [] (.tup [iV (bif du t && decide (0≤bk n 0 t) then bk n 0 t else 0),iV (bif !du t then 2 else bif decide (bk n 0 t<0) then 10 else 0)]) []:=by
 obtain ⟨k,hk⟩:∃k,bk n 0 t=k:=⟨_,rfl⟩;rw [hk];obtain ⟨r1,h1⟩:∃r1,(bif du t && decide (0≤k) then k else 0)=r1:=⟨_,rfl⟩;obtain ⟨r2,h2⟩:∃r2:Int,(bif !du t then 2 else bif decide (k<0) then 10 else 0)=r2:=⟨_,rfl⟩;rw [h1,h2];refine aP func221 ?_;repeat' (first|refine af ?_ ?_|(refine aa 9 rfl ?_;first|(refine cB [] (qc t) ?_)|(refine cB [] (ir t n hk) ?_))|refine ae ?_|exact ah|refine ab fun hb=>?_)
 ·obtain rfl:0=r1:=by rw [←h1];simp [*]
  obtain rfl:2=r2:=by rw [←h2];simp [*]
  refine fe (qf []) ?_;exact aj
 ·obtain rfl:0=r1:=by rw [←h1,decide_eq_false (show ¬0≤k by omega),Bool.and_false];rfl
  obtain rfl:10=r2:=by rw [←h2];simp [*]
  refine fe (qf []) ?_;exact aj
 ·have ht:du t=true:=by assumption
  obtain rfl:k=r1:=by rw [←h1,ht,decide_eq_true (show 0≤k by omega)];rfl
  obtain rfl:0=r2:=by rw [←h2,ht,decide_eq_false (show ¬k<0 by omega)];rfl
  refine fe (qf []) ?_;exact aj
theorem Al (w:World) (S:Nat→Prop):dC.rep w S jW (Value.agg #[.string { data:=#[] },.int .i64 0,.int .i64 0,.int .i64 0,.slice none 0 0,.slice none 0 0,.slice none 0 0,.int .i64 0]).cells.toList :=
 ⟨rfl,rfl,rfl,rfl,⟨none,0,rfl,⟨Nat.le_refl _,Nat.zero_le _⟩,[],rfl,fun h=>absurd h (by decide)⟩,⟨none,0,rfl,⟨Nat.le_refl _,Nat.zero_le _⟩,[],rfl,fun h=>absurd h (by decide)⟩,⟨none,0,rfl,⟨Nat.le_refl _,Nat.zero_le _⟩,[],rfl,fun h=>absurd h (by decide)⟩,rfl,trivial⟩
theorem oU (t:List Qu) (j:Int) (q:Qu) {R:List Qu} (hl:t.length≤8) (h8:∀q∈t,eU q) (hj:(j<0∧t=R)∨∃i:Nat,i<t.length∧j=i∧t.set i q=R):FSpec prog 224 [.one (.sl dC t),iV j,q.a] [] [0] (.c (.own 0)) [(0,some (.arr 81 dC R))]:=by
 refine aP func224 ?_;repeat' (first|refine af ?_ ?_|(refine aa 20 rfl ?_;refine sx (vw (E:=dC) (n:=t.length) (z:=.agg #[.string { data:=#[] },.int .i64 0,.int .i64 0,.int .i64 0,.slice none 0 0,.slice none 0 0,.slice none 0 0,.int .i64 0]) jW rfl rfl rfl rfl (by omega) (by kernel_rfl) Al (by decide)) ?_)|refine ae ?_|exact ah|refine ab fun hb=>?_)
 refine ai (fun i=>i≤t.length) (fun i=>bt [5,1000] [(1,.i j),(5,.c (.ptr 5 0)),(7,.c (.own 1000)),(13,.c (.sl dC t)),(14,.i t.length),(15,.i i)] [(5,.box 81 q.d),(1000,.arr 81 dC (t.take i++List.replicate (t.length-i) jW))]) (fun i=>t.length-i) 0 (Nat.zero_le _) (by exact a8 (qf [(1000,12)])) ?_;intro i hi;have hRl:(t.take i++List.replicate (t.length-i) jW).length=t.length:=by simp;omega
 by_cases hlt:i<t.length
 ·obtain ⟨x,hx⟩:∃x,t[i]=x:=⟨_,rfl⟩;have hgx:t[i]? = some x:=by rw [List.getElem?_eq_getElem hlt,hx]
  have hq:=h8 _ (List.getElem_mem hlt);rw [hx] at hq;obtain ⟨q1,q2,q3⟩:=hq;have hset:(t.take i++List.replicate (t.length-i) jW).set i x=t.take (i+1)++List.replicate (t.length-(i+1)) jW:=by
   rw [List.set_append_right _ _ (by simp;omega),List.take_succ_eq_append_getElem hlt,hx];simp only [List.length_take,Nat.min_eq_left (Nat.le_of_lt hlt),Nat.sub_self];rw [show t.length-i=(t.length-(i+1))+1 by omega,List.replicate_succ];simp
  have hgi:(t.take i++List.replicate (t.length-i) jW)[i]? = some jW:=by
   rw [List.getElem?_append_right (by rw [List.length_take];omega),List.length_take,Nat.min_eq_left (Nat.le_of_lt hlt),Nat.sub_self,List.getElem?_replicate,if_pos (by omega)]
  obtain ⟨L,hL⟩:∃L,t.take i++List.replicate (t.length-i) jW=L:=⟨_,rfl⟩;rw [hL] at hRl hset hgi ⊢;clear h8 hj hL;repeat' (first|refine af ?_ ?_|((fail_if_success (first|refine my 8 ?_|refine mz 8 ?_));refine ae ?_)|exact ah|refine ab fun hb=>?_)
  refine il 22 rfl ?_;refine il 26 rfl ?_;refine il 30 rfl ?_;repeat' (first|refine af ?_ ?_|refine ae ?_|(refine aa 4 rfl ?_;refine aR (aq (z:=x) rfl rfl rfl rfl hgi rfl rfl rfl rfl (Nat.le_of_ble_eq_true rfl) rfl rfl) rfl rfl rfl ?_)|exact ah|refine ab fun hb=>?_)
  refine ⟨i+1,by omega,by omega,?_⟩;rw [←hset];exact aN
 ·have e:t.take i++List.replicate (t.length-i) jW=t:=by rw [List.take_of_length_le (by omega),show t.length-i=0 by omega];simp
  rw [e];clear h8;rcases hj with ⟨j1,rfl⟩|⟨k,k1,rfl,rfl⟩
  ·repeat' (first|refine af ?_ ?_|refine ae ?_|exact ah|refine ab fun hb=>?_|(refine bP (qf [(0,1000)]) ?_;exact aj))
  ·have hgk:t[k]? = some t[k]:=List.getElem?_eq_getElem k1;repeat' (first|refine af ?_ ?_|refine ae ?_|(refine aa 4 rfl ?_;refine aR (aq (z:=q) rfl rfl rfl rfl hgk rfl rfl rfl rfl (Nat.le_of_ble_eq_true rfl) rfl rfl) rfl rfl rfl ?_)|exact ah|refine ab fun hb=>?_|(refine bP (qf [(0,1000)]) ?_;exact aj))
def Ev.a (x:Ev):V0:=.ag [.sc (.int .i64 x.kind),.sc (.int .i64 x.proc.site),.sc (.int .i64 x.proc.inc),.sc (.int .i64 x.proc.num),.sc (.string x.name),.sc (.int .i64 x.am.mode),.sc (.int .i64 x.am.units)]
theorem Ep (p:Pr) (n:ByteArray) (a:Am):FSpec prog 229 [p.a,.one (.sc (.string n)),a.a] [] [] (.v (Ev.a ⟨3,p,n,a⟩)) []:=by
 refine aP func229 ?_;repeat' (first|refine af ?_ ?_|refine ae ?_|exact ah|refine ab fun hb=>?_|exact aX|fail)
theorem rM (n:ByteArray) (l:List Ho) (ev:List Ev) (x:Ev) (hl:l.length≤1000) (he:ev.length≤100000) :
  FSpec prog 225 [.one (.sc (.string n)),.one (.sl fV l),.one (.sc (.slice none 0 0))] [] [] (.c (.sl fG (aE n l))) []∧
  FSpec prog 225 [.one (.sc (.string n)),.one (.sl fV l),.one (.slb 0 1)] [(0,.box 67 (Ev.cells x |>.map .sc))] [] (.c (.sl fG ([x]++aE n l))) [(0,none)]∧
  FSpec prog 225 [.one (.sc (.string n)),.one (.sl fV l),.one (.own 0)] [(0,.arr 67 fG ev)] [1] (.c (.own 1)) [(1,some (.arr 67 fG (ev++aE n l))),(0,none)]:=by
 have hlen:∀i,i≤l.length→(aE n (l.take i)).length=i:=fun i hi=>by simp [aE,Nat.min_eq_left hi]
 have e1:∀i (h:i<l.length),aE n (l.take (i+1))=aE n (l.take i)++[⟨1,l[i].proc,n,l[i].am⟩]:=fun i h=>by
  unfold aE;rw [List.take_succ_eq_append_getElem h,List.map_append];rfl
 have e0:∀i,¬i<l.length→aE n (l.take i)=aE n l:=fun i h=>by rw [List.take_of_length_le (by omega)]
 refine ⟨?_,?_,?_⟩
 ·refine aP func225 ?_;repeat' (first|refine af ?_ ?_|refine ae ?_|exact ah|refine ab fun hb=>?_)
  refine bV 2 1000 67 fG rfl rfl rfl ?_;refine ai (fun i=>i≤l.length) (fun i=>bt [1000] [(0,.c (.sc (.string n))),(2,.c (.own 1000)),(9,.c (.sl fV l)),(10,.i l.length),(11,.i i)] [(1000,.arr 67 fG (aE n (l.take i)))]) (fun i=>l.length-i) 0 (Nat.zero_le _) aN ?_;intro i hi;have h1:=hlen i hi;have h2:=e1 i;have h3:=e0 i;clear hlen e1 e0;by_cases hlt:i<l.length
  ·have h2:=h2 hlt;repeat' (first|refine af ?_ ?_|(refine aa 8 rfl ?_;refine aV (ak rfl rfl (aB rfl rfl) (aD [⟨1,l[i].proc,n,l[i].am⟩] rfl rfl rfl rfl) rfl aL aL) rfl rfl rfl ?_)|refine ae ?_|exact ah|refine ab fun hb=>?_)
   refine ⟨i+1,by omega,by omega,?_⟩;rw [h2];exact a8 (qf [(1000,23)])
  ·rw [←h3 hlt];repeat' (first|refine af ?_ ?_|refine ae ?_|exact ah|refine ab fun hb=>?_|exact aX|fail)
 ·refine aP func225 ?_;repeat' (first|refine af ?_ ?_|refine ae ?_|exact ah|refine ab fun hb=>?_)
  refine IQ (E:=fG) 2 0 1000 [x] rfl rfl rfl rfl rfl rfl rfl ?_;refine ai (fun i=>i≤l.length) (fun i=>bt [0,1000] [(0,.c (.sc (.string n))),(2,.c (.own 1000)),(9,.c (.sl fV l)),(10,.i l.length),(11,.i i)] [(1000,.arr 67 fG ([x]++aE n (l.take i)))]) (fun i=>l.length-i) 0 (Nat.zero_le _) aN ?_;intro i hi;have h1:=hlen i hi;have h2:=e1 i;have h3:=e0 i;clear hlen e1 e0;by_cases hlt:i<l.length
  ·have h2:[x]++aE n (l.take (i+1))=[x]++aE n (l.take i)++[⟨1,l[i].proc,n,l[i].am⟩]:=by rw [h2 hlt,List.append_assoc]
   repeat' (first|refine af ?_ ?_|(refine aa 8 rfl ?_;refine aV (ak rfl rfl (aB rfl rfl) (aD [⟨1,l[i].proc,n,l[i].am⟩] rfl rfl rfl rfl) rfl aL aL) rfl rfl rfl ?_)|refine ae ?_|exact ah|refine ab fun hb=>?_)
   refine ⟨i+1,by omega,by omega,?_⟩;rw [h2];exact a8 (qf [(1000,23)])
  ·rw [←h3 hlt];repeat' (first|refine af ?_ ?_|refine ae ?_|exact ah|refine ab fun hb=>?_|exact aX|fail)
 ·refine aP func225 ?_;repeat' (first|refine af ?_ ?_|refine ae ?_|exact ah|refine ab fun hb=>?_)
  refine ai (fun i=>i≤l.length) (fun i=>bt [0,1000] [(0,.c (.sc (.string n))),(2,.c (.own 1000)),(9,.c (.sl fV l)),(10,.i l.length),(11,.i i)] [(1000,.arr 67 fG (ev++aE n (l.take i)))]) (fun i=>l.length-i) 0 (Nat.zero_le _) (by rw [List.take_zero,show aE n []=[] from rfl,List.append_nil];exact a8 (qf [(1000,0)])) ?_;intro i hi;have h1:=hlen i hi;have h2:=e1 i;have h3:=e0 i;clear hlen e1 e0;by_cases hlt:i<l.length
  ·have h2:ev++aE n (l.take (i+1))=ev++aE n (l.take i)++[⟨1,l[i].proc,n,l[i].am⟩]:=by rw [h2 hlt,List.append_assoc]
   repeat' (first|refine af ?_ ?_|(refine aa 8 rfl ?_;refine aV (ak rfl rfl (aB rfl rfl) (aD [⟨1,l[i].proc,n,l[i].am⟩] rfl rfl rfl rfl) rfl aL aL) rfl rfl rfl ?_)|refine ae ?_|exact ah|refine ab fun hb=>?_)
   refine ⟨i+1,by omega,by omega,?_⟩;rw [h2];exact a8 (qf [(1000,23)])
  ·rw [←h3 hlt];repeat' (first|refine af ?_ ?_|refine ae ?_|exact ah|refine ab fun hb=>?_|(refine bP (qf [(1,1000)]) ?_;exact aj))
theorem Er (t:List Qu) (p:Pr) (n:ByteArray) {R:List Qu×List Ev×Int} (hR:bq t p n=R):FSpec prog 276 [.one (.sl dC t),p.a,.one (.sc (.string n))] [] [] (Bz R) []:=by
 have kA:=IS t n;refine aP func276 ?_;cases hV:du t with
 | false =>
  obtain rfl:R=dO 2:=by rw [←hR];simp [bq,hV]
  rw [hV] at kA;repeat' (first|refine af ?_ ?_|refine aa 9 rfl (cB [] (kA) ?_)|refine ae ?_|exact ah|(refine ab fun hb=>?_;first|(exact absurd hb (by decide))|skip)|(refine cX (qf []) ?_;exact aj))
 | true =>
  have hm:=(bf hV).1;have h8:∀q∈t,eU q:=fun q hq=>cA (ct hV hq);by_cases hf:bk n 0 t<0
  case pos =>
   obtain rfl:R=dO 10:=by rw [←hR];simp [bq,hV,hf]
   rw [hV,decide_eq_false (show ¬0≤bk n 0 t by omega),decide_eq_true hf] at kA;repeat' (first|refine af ?_ ?_|refine aa 9 rfl (cB [] (kA) ?_)|refine ae ?_|exact ah|(refine ab fun hb=>?_;first|(exact absurd hb (by decide))|skip)|(refine cX (qf []) ?_;exact aj))
  obtain ⟨i,hi,hF,hq,hx⟩:=d8 hf;rw [hV,hF,decide_eq_true (show (0:Int)≤(i:Int) by omega),decide_eq_false (show ¬(i:Int)<0 by omega)] at kA;have hS:=ct hV (List.getElem_mem hi);obtain ⟨Q,hQ⟩:∃Q,bh t[i] p=Q:=⟨_,rfl⟩;have hQl:=lq hS p;rw [hQ] at hQl;have kQ:=Ei t[i] p hQ;have kR:=oU t (i:Int) Q.1 (by omega) h8 (.inr ⟨i,hi,rfl,rfl⟩);have kN:=(rM n Q.2.1 [] ⟨0,p,n,⟨0,0⟩⟩ (by omega) (by simp)).1;clear h8;by_cases he:Q.2.2=0
  ·obtain rfl:R=(t.set i Q.1,aE n Q.2.1,0):=by rw [←hR];unfold bq;rw [hq,hQ,hx];simp [hV,hf,he]
   repeat' (first|refine af ?_ ?_|(refine aa 9 rfl ?_;first|(refine cB [] (kA) ?_)|(refine cC [] (kQ) ?_)|(refine cH (qf [(0,1000)]) (kR) ?_)|(refine cC [] (kN) ?_))|refine ae ?_|exact ah|(refine ab fun hb=>?_;first|(exact absurd hb (by decide))|skip)|(refine cX (qf []) ?_;exact aj))
  ·obtain rfl:R=dO Q.2.2:=by rw [←hR];unfold bq;rw [hq,hQ,hx];simp [hV,hf,he]
   repeat' (first|refine af ?_ ?_|(refine aa 9 rfl ?_;first|(refine cB [] (kA) ?_)|(refine cC [] (kQ) ?_))|refine ae ?_|exact ah|(refine ab fun hb=>?_;first|(exact absurd hb (by decide))|skip)|(refine cX (qf []) ?_;exact aj))
theorem xP {q:Qu} {p:Pr} {a:Am} (h:ao q.holds p=a) (he:(bi q p a).2.2=0):(bi q p a).2.1=[]:=by
 unfold bi at he ⊢;cases aw q <;> cases aH (ao q.holds p) <;> cases (ap q p).isSome <;> cases bg q.res (ao q.holds p) a <;> simp_all [bK,gK]
theorem GD (t:List Qu) (p:Pr) (a:Tm) {R:List Qu×List Ev×Int} (hR:bJ t p a=R):FSpec prog 227 [.one (.sl dC t),p.a,a.a] [] [] (Bz R) []:=by
 have kA:=IS t a.name;refine aP func227 ?_;cases hV:du t with
 | false =>
  obtain rfl:R=dO 2:=by rw [←hR];simp [bJ,hV]
  rw [hV] at kA;repeat' (first|refine af ?_ ?_|refine aa 9 rfl (cB [] (kA) ?_)|refine ae ?_|exact ah|(refine ab fun hb=>?_;first|(exact absurd hb (by decide))|skip)|(refine cX (qf []) ?_;exact aj))
 | true =>
  have hm:=(bf hV).1;have h8:∀q∈t,eU q:=fun q hq=>cA (ct hV hq);by_cases hf:bk a.name 0 t<0
  case pos =>
   obtain rfl:R=dO 10:=by rw [←hR];simp [bJ,hV,hf]
   rw [hV,decide_eq_false (show ¬0≤bk a.name 0 t by omega),decide_eq_true hf] at kA;repeat' (first|refine af ?_ ?_|refine aa 9 rfl (cB [] (kA) ?_)|refine ae ?_|exact ah|(refine ab fun hb=>?_;first|(exact absurd hb (by decide))|skip)|(refine cX (qf []) ?_;exact aj))
  obtain ⟨i,hi,hF,hq,hx⟩:=d8 hf;rw [hV,hF,decide_eq_true (show (0:Int)≤(i:Int) by omega),decide_eq_false (show ¬(i:Int)<0 by omega)] at kA;have hS:=ct hV (List.getElem_mem hi);obtain ⟨Q,hQ⟩:∃Q,bi t[i] p a.am=Q:=⟨_,rfl⟩;have hQl:=mW hS p a.am;have hQs:=xP (q:=t[i]) (p:=p) (a:=a.am);rw [hQ] at hQl hQs;have kQ:=Gx t[i] p a.am hQ;have kR:=oU t (i:Int) Q.1 (by omega) h8 (.inr ⟨i,hi,rfl,rfl⟩);have kN:=(rM a.name Q.2.1 [] ⟨3,p,a.name,a.am⟩ (by omega) (by simp)).2.1;obtain ⟨h,hh⟩:∃h,ao t[i].holds p=h:=⟨_,rfl⟩;have kH:=eJ t[i] p;rw [hh] at kH hQs;clear h8;by_cases he:Q.2.2=0
  ·by_cases hha:h=a.am
   ·have h0:=hQs hha he;obtain rfl:R=(t.set i Q.1,[],0):=by rw [←hR];unfold bJ;rw [hq,hQ,hx];simp [hV,hf,he,hh,hha,h0,aE]
    repeat' (first|refine af ?_ ?_|(refine aa 9 rfl ?_;first|(refine cB [] (kA) ?_)|(refine cC [] (kQ) ?_)|(refine cB [] (kH) ?_)|(refine cH (qf [(0,1000)]) (kR) ?_))|refine ae ?_|exact ah|(refine ab fun hb=>?_;first|(exact absurd hb (by decide))|(exact absurd hha.symm hb)|skip)|(refine cX (qf []) ?_;exact aj))
   ·obtain rfl:R=(t.set i Q.1,[⟨3,p,a.name,a.am⟩]++aE a.name Q.2.1,0):=by rw [←hR];unfold bJ;rw [hq,hQ,hx];simp [hV,hf,he,hh,hha]
    repeat' (first|refine af ?_ ?_|(refine aa 9 rfl ?_;first|(refine cB [] (kA) ?_)|(refine cC [] (kQ) ?_)|(refine cB [] (kH) ?_)|(refine cH (qf [(0,1000)]) (kR) ?_)|(refine cB [] (Ep p a.name a.am) ?_)|(refine cH (qf [(0,64)]) (kN) ?_))|refine ae ?_|exact ah|(refine ab fun hb=>?_;first|(exact absurd hb (by decide))|(exact absurd hb.symm hha)|skip)|(refine cX (qf []) ?_;exact aj))
  ·obtain rfl:R=dO Q.2.2:=by rw [←hR];unfold bJ;rw [hq,hQ,hx];simp [hV,hf,he]
   repeat' (first|refine af ?_ ?_|(refine aa 9 rfl ?_;first|(refine cB [] (kA) ?_)|(refine cC [] (kQ) ?_))|refine ae ?_|exact ah|(refine ab fun hb=>?_;first|(exact absurd hb (by decide))|skip)|(refine cX (qf []) ?_;exact aj))
theorem GE (t:List Qu) (p:Pr) (a:Tm) (prio:Int) {R:List Qu×List Ev×Int} (hR:bd t p a prio=R):FSpec prog 156 [.one (.sl dC t),p.a,a.a,.one (.sc (.int .i64 prio))] [] [] (Bz R) []:=by
 have kA:=IS t a.name;refine aP func156 ?_;cases hV:du t with
 | false =>
  obtain rfl:R=dO 2:=by rw [←hR];simp [bd,hV]
  rw [hV] at kA;repeat' (first|refine af ?_ ?_|refine aa 9 rfl (cB [] (kA) ?_)|refine ae ?_|exact ah|(refine ab fun hb=>?_;first|(exact absurd hb (by decide))|skip)|(refine cX (qf []) ?_;exact aj))
 | true =>
  have hm:=(bf hV).1;have h8:∀q∈t,eU q:=fun q hq=>cA (ct hV hq);have hp8:(aC t).length≤8:=by have:=hV;unfold du at this;simp only [Bool.and_eq_true,decide_eq_true_eq] at this;exact this.2
  have kP:=vz t (by omega) h8;by_cases hf:bk a.name 0 t<0
  case pos =>
   obtain rfl:R=dO 10:=by rw [←hR];simp [bd,hV,hf]
   rw [hV,decide_eq_false (show ¬0≤bk a.name 0 t by omega),decide_eq_true hf] at kA;repeat' (first|refine af ?_ ?_|refine aa 9 rfl (cB [] (kA) ?_)|refine ae ?_|exact ah|(refine ab fun hb=>?_;first|(exact absurd hb (by decide))|skip)|(refine cX (qf []) ?_;exact aj))
  obtain ⟨i,hi,hF,hq,hx⟩:=d8 hf;rw [hV,hF,decide_eq_true (show (0:Int)≤(i:Int) by omega),decide_eq_false (show ¬(i:Int)<0 by omega)] at kA;by_cases hN:(aC t).length=8∧p ∉ aC t
  case pos =>
   obtain ⟨hN1,hN2⟩:=hN;obtain rfl:R=dO 4:=by rw [←hR];simp [bd,hV,hf,hN1,hN2]
   clear h8;repeat' (first|refine af ?_ ?_|(refine aa 9 rfl ?_;first|(refine cB [] (kA) ?_)|(refine cC [] (kP) ?_)|(refine cB [] (oa (aC t) p) ?_))|refine ae ?_|exact ah|(refine ab fun hb=>?_;first|(exact absurd hb (by decide))|(exact absurd hb hN2)|skip)|(refine cX (qf []) ?_;exact aj))
  have hS:=ct hV (List.getElem_mem hi);obtain ⟨Q,hQ⟩:∃Q,bv t[i] p a.am prio=Q:=⟨_,rfl⟩;have hQl:=mV hS p a.am prio;rw [hQ] at hQl;have hN3:(decide ((aC t).length=8) && !decide (p∈aC t))=false:=by
   rw [Bool.and_eq_false_iff];by_cases h:(aC t).length=8
   ·right
    have:p∈aC t:=Classical.byContradiction fun h2=>hN ⟨h,h2⟩;simp [this]
   ·left;simp [h]
  have kQ:=GC t[i] p a.am prio hQ;have kR:=oU t (i:Int) Q.1 (by omega) h8 (.inr ⟨i,hi,rfl,rfl⟩);have kN:=(rM a.name Q.2.1 [] ⟨0,p,a.name,⟨0,0⟩⟩ (by omega) (by simp)).1;clear h8;by_cases he:Q.2.2=0
  ·obtain rfl:R=(t.set i Q.1,aE a.name Q.2.1,0):=by rw [←hR];unfold bd;rw [hq,hQ,hx,hN3];simp [hV,hf,he]
   clear hN3;repeat' (first|refine af ?_ ?_|(refine aa 9 rfl ?_;first|(refine cB [] (kA) ?_)|(refine cC [] (kP) ?_)|(refine cB [] (oa (aC t) p) ?_)|(refine cC [] (kQ) ?_)|(refine cH (qf [(0,1000)]) (kR) ?_)|(refine cC [] (kN) ?_))|refine ae ?_|exact ah|(refine ab fun hb=>?_;first|(exact absurd hb (by decide))|(exact (hN ⟨by omega,by assumption⟩).elim)|skip)|(refine cX (qf []) ?_;exact aj))
  ·obtain rfl:R=dO Q.2.2:=by rw [←hR];unfold bd;rw [hq,hQ,hx,hN3];simp [hV,hf,he]
   clear hN3;repeat' (first|refine af ?_ ?_|(refine aa 9 rfl ?_;first|(refine cB [] (kA) ?_)|(refine cC [] (kP) ?_)|(refine cB [] (oa (aC t) p) ?_)|(refine cC [] (kQ) ?_))|refine ae ?_|exact ah|(refine ab fun hb=>?_;first|(exact absurd hb (by decide))|(exact (hN ⟨by omega,by assumption⟩).elim)|skip)|(refine cX (qf []) ?_;exact aj))
def pX (n m:Int):Int:=bif decide (m<1) then 0 else bif decide (n.tmod m<0) then n.tmod m+m else n.tmod m
theorem GF {n m:Int} (h:1≤m):0≤pX n m∧pX n m<m:=by
 unfold pX;rw [decide_eq_false (by omega),cond_false];by_cases h2:n.tmod m<0
 ·rw [decide_eq_true h2,cond_true];have:=Int.lt_tmod_of_pos n (show 0<m by omega);omega
 ·rw [decide_eq_false h2,cond_false];have:=Int.tmod_lt_of_pos n (show 0<m by omega);omega
def cm (n:Int):Pr:=⟨(pX n 8).tmod 4,1,1+(pX n 8).tdiv 4⟩
def nA:ByteArray:=⟨#[97]⟩
def xQ (r:Rs):Qu:=⟨r,[],[],[],0⟩
theorem vA {q:Qu} {p:Pr} (hS:aw q=true) (hh:eF q p=true):(a7 q p).2.2=0∧(a7 q p).1.res.name=q.res.name:=by
 have hs:=aJ hS;have e:a7 q p=gK (dt { q with holds:=cr q.holds p ⟨0,0⟩,convs:=bI q.convs p,waits:=bI q.waits p }):=by simp [a7,hS,hh]
 have:=(dX (hs.gone p)).2.2;rw [e];exact ⟨rfl,congrArg Rs.name this⟩
def LF:List D:=[.sc (.string { data:=#[] }),.sc (.int .i64 0),.sc (.int .i64 0),.sc (.int .i64 0),.sc (.slice none 0 0),.sc (.slice none 0 0),.sc (.slice none 0 0),.sc (.int .i64 0)]
theorem GG (t:List Qu) (hl:t.length≤8) (h8:∀q∈t,eU q):FSpec prog 224 [.one (.sl dC t),iV (-1),.ag LF] [] [0] (.c (.own 0)) [(0,some (.arr 81 dC t))]:=by
 refine aP func224 ?_;repeat' (first|refine af ?_ ?_|(refine aa 20 rfl ?_;refine sx (vw (E:=dC) (n:=t.length) (z:=.agg #[.string { data:=#[] },.int .i64 0,.int .i64 0,.int .i64 0,.slice none 0 0,.slice none 0 0,.slice none 0 0,.int .i64 0]) jW rfl rfl rfl rfl (by omega) (by kernel_rfl) Al (by decide)) ?_)|refine ae ?_|exact ah|refine ab fun hb=>?_)
 refine ai (fun i=>i≤t.length) (fun i=>bt [5,1000] [(1,.i (-1)),(5,.c (.ptr 5 0)),(7,.c (.own 1000)),(13,.c (.sl dC t)),(14,.i t.length),(15,.i i)] [(5,.box 81 LF),(1000,.arr 81 dC (t.take i++List.replicate (t.length-i) jW))]) (fun i=>t.length-i) 0 (Nat.zero_le _) (by exact a8 (qf [(1000,12)])) ?_;intro i hi;have hRl:(t.take i++List.replicate (t.length-i) jW).length=t.length:=by simp;omega
 by_cases hlt:i<t.length
 ·obtain ⟨x,hx⟩:∃x,t[i]=x:=⟨_,rfl⟩;have hgx:t[i]? = some x:=by rw [List.getElem?_eq_getElem hlt,hx]
  have hq:=h8 _ (List.getElem_mem hlt);rw [hx] at hq;obtain ⟨q1,q2,q3⟩:=hq;have hset:(t.take i++List.replicate (t.length-i) jW).set i x=t.take (i+1)++List.replicate (t.length-(i+1)) jW:=by
   rw [List.set_append_right _ _ (by simp;omega),List.take_succ_eq_append_getElem hlt,hx];simp only [List.length_take,Nat.min_eq_left (Nat.le_of_lt hlt),Nat.sub_self];rw [show t.length-i=(t.length-(i+1))+1 by omega,List.replicate_succ];simp
  have hgi:(t.take i++List.replicate (t.length-i) jW)[i]? = some jW:=by
   rw [List.getElem?_append_right (by rw [List.length_take];omega),List.length_take,Nat.min_eq_left (Nat.le_of_lt hlt),Nat.sub_self,List.getElem?_replicate,if_pos (by omega)]
  obtain ⟨L,hL⟩:∃L,t.take i++List.replicate (t.length-i) jW=L:=⟨_,rfl⟩;rw [hL] at hRl hset hgi ⊢;clear h8 hL;repeat' (first|refine af ?_ ?_|((fail_if_success (first|refine my 8 ?_|refine mz 8 ?_));refine ae ?_)|exact ah|refine ab fun hb=>?_)
  refine il 22 rfl ?_;refine il 26 rfl ?_;refine il 30 rfl ?_;repeat' (first|refine af ?_ ?_|refine ae ?_|(refine aa 4 rfl ?_;refine aR (aq (z:=x) rfl rfl rfl rfl hgi rfl rfl rfl rfl (Nat.le_of_ble_eq_true rfl) rfl rfl) rfl rfl rfl ?_)|exact ah|refine ab fun hb=>?_)
  refine ⟨i+1,by omega,by omega,?_⟩;rw [←hset];exact aN
 ·have e:t.take i++List.replicate (t.length-i) jW=t:=by rw [List.take_of_length_le (by omega),show t.length-i=0 by omega];simp
  rw [e];clear h8;repeat' (first|refine af ?_ ?_|refine ae ?_|exact ah|refine ab fun hb=>?_|(refine bP (qf [(0,1000)]) ?_;exact aj))
theorem Es (t:List Qu) (p:Pr) {R:List Qu×List Ev} (hR:bR t p=R):FSpec prog 161 [.one (.sl dC t),p.a] [] [] (.tup [.one (.sl dC R.1),.one (.sl fG R.2)]) []:=by
 refine aP func161 ?_;cases hV:du t with
 | false =>
  obtain rfl:R=([],[]):=by rw [←hR];simp [bR,hV]
  repeat' (first|refine af ?_ ?_|refine aa 9 rfl (cB [] (qc t) ?_)|refine ae ?_|exact ah|(refine ab fun hb=>?_;first|(simp [hV] at hb;done)|skip)|(refine fe (qf []) ?_;exact aj))
 | true =>
  have hm:=(bf hV).1;have h8:∀q∈t,eU q:=fun q hq=>cA (ct hV hq);have hR2:aG p t=R:=by rw [←hR];simp [bR,hV]
  have kR:=GG t (by omega) h8;clear h8;repeat' (first|refine af ?_ ?_|(refine aa 9 rfl ?_;first|(refine cB [] (qc t) ?_)|(refine cH (qf [(0,1001)]) (kR) ?_))|refine ae ?_|exact ah|(refine ab fun hb=>?_;first|(simp [hV] at hb;done)|skip))
  refine bV 7 1000 67 fG rfl rfl rfl ?_;refine ai (fun x:Nat×List Qu×List Ev=>x.1≤t.length∧x.2.1.length=x.1∧x.2.2.length≤18*x.1∧x.2.1++(aG p (t.drop x.1)).1=R.1∧x.2.2++(aG p (t.drop x.1)).2=R.2) (fun x=>bt [3,1000,1001] [(3,.c (.ptr 3 0)),(6,.c (.own 1001)),(7,.c (.own 1000)),(19,.c (.sl dC t)),(20,.i t.length),(21,.i x.1)] [jH 3 p,(1001,.arr 81 dC (x.2.1++t.drop x.1)),(1000,.arr 67 fG x.2.2)]) (fun x=>t.length-x.1) (0,[],[]) ⟨Nat.zero_le _,rfl,Nat.le_refl _,by rw [←hR2];rfl,by rw [←hR2];rfl⟩ aN ?_;rintro ⟨i,o,ev⟩ ⟨hi,hol,hel,hs1,hs2⟩;dsimp only at *
  have hlen:(o++t.drop i).length=t.length:=by simp;omega
  by_cases hlt:i<t.length
  ·obtain ⟨q,hq⟩:∃q,q=t[i]:=⟨_,rfl⟩;have hgt:t[i]? = some q:=by rw [List.getElem?_eq_getElem hlt,hq]
   have dU:(o++t.drop i)[i]? = some q:=by
    rw [List.getElem?_append_right (by omega),hol,Nat.sub_self,List.getElem?_drop];simp [hq,hlt]
   have hS:aw q=true:=ct hV (hq▸List.getElem_mem hlt);rw [List.drop_eq_getElem_cons hlt,←hq] at hs1 hs2;have e0:o++t.drop i=(o++[q])++t.drop (i+1):=by rw [List.drop_eq_getElem_cons hlt,←hq];simp
   obtain ⟨Q,hQ⟩:∃Q,a7 q p=Q:=⟨_,rfl⟩;have kQ:=Ek q p hQ;cases hh:eF q p with
   | false =>
    rw [show aG p (q :: t.drop (i+1))=(q :: (aG p (t.drop (i+1))).1,(aG p (t.drop (i+1))).2) by simp [aG,hh]] at hs1 hs2;obtain rfl:bK 10=Q:=by rw [←hQ];simp [a7,hS,hh]
    repeat' (first|refine af ?_ ?_|refine aa 9 rfl (cC [] (kQ) ?_)|refine ae ?_|exact ah|(refine ab fun hb=>?_;first|(exact absurd hb (by decide))|skip))
    refine ⟨(i+1,o++[q],ev),⟨by dsimp only;omega,by simp;omega,by dsimp only;omega,by dsimp only;rw [←hs1];simp,hs2⟩,by dsimp only;omega,?_⟩;dsimp only;rw [←e0];exact aN
   | true =>
    obtain ⟨hQ0,hQn⟩:=vA hS hh;have hQl:=lr hS p;rw [hQ] at hQl hQ0 hQn;have hgl:(aE q.res.name Q.2.1).length≤17:=by unfold aE;rw [List.length_map];exact hQl
    have hset:(o++t.drop i).set i Q.1=(o++[Q.1])++t.drop (i+1):=by
     have e9:(t.drop i).set 0 Q.1=Q.1 :: t.drop (i+1):=by rw [List.drop_eq_getElem_cons hlt];rfl
     rw [List.set_append_right _ _ (by omega),hol,Nat.sub_self,e9];simp
    obtain ⟨h,hhh⟩:∃h,ao q.holds p=h:=⟨_,rfl⟩;have kH:=eJ q p;rw [hhh] at kH;obtain ⟨L,hL⟩:∃L,o++t.drop i=L:=⟨_,rfl⟩;rw [hL] at hlen dU hset ⊢;by_cases hz:h=⟨0,0⟩
    ·rw [show aG p (q :: t.drop (i+1))=(Q.1 :: (aG p (t.drop (i+1))).1,aE q.res.name Q.2.1++(aG p (t.drop (i+1))).2) by simp [aG,hh,hQ,hhh,hz,hQn,aH]] at hs1 hs2;have kN:=(rM q.res.name Q.2.1 ev ⟨3,p,q.res.name,⟨0,0⟩⟩ (by omega) (by omega)).2.2;repeat' (first|refine af ?_ ?_|(refine aa 9 rfl ?_;first|(refine cC [] (kQ) ?_)|(refine cB [] (kH) ?_)|(refine cH (qf [(0,1000),(1,1002)]) (kN) ?_))|refine ae ?_|(refine aa 4 rfl ?_;refine aR (aq (z:=Q.1) rfl rfl rfl rfl dU rfl rfl rfl rfl (Nat.le_of_ble_eq_true rfl) rfl rfl) rfl rfl rfl ?_)|exact ah|(refine ab fun hb=>?_;first|(exact absurd hQ0 hb)|(exact absurd hz hb)|skip))
     refine ⟨(i+1,o++[Q.1],ev++aE q.res.name Q.2.1),⟨by dsimp only;omega,by simp;omega,by simp;omega,by dsimp only;rw [←hs1];simp,by dsimp only;rw [←hs2];simp⟩,by dsimp only;omega,?_⟩;dsimp only;rw [←hset];exact a8 (qf [(1000,1002)])
    ·rw [show aG p (q :: t.drop (i+1))=(Q.1 :: (aG p (t.drop (i+1))).1,[⟨3,p,q.res.name,⟨0,0⟩⟩]++aE q.res.name Q.2.1++(aG p (t.drop (i+1))).2) by simp [aG,hh,hQ,hhh,hz,hQn,aH]] at hs1 hs2;have kN:=(rM q.res.name Q.2.1 (ev++[⟨3,p,q.res.name,⟨0,0⟩⟩]) ⟨3,p,q.res.name,⟨0,0⟩⟩ (by omega) (by simp;omega)).2.2;repeat' (first|refine af ?_ ?_|(refine aa 8 rfl ?_;refine aV (ak rfl rfl (aB rfl rfl) (aD [⟨3,p,q.res.name,⟨0,0⟩⟩] rfl rfl rfl rfl) rfl aL aL) rfl rfl rfl ?_)|(refine aa 9 rfl ?_;first|(refine cC [] (kQ) ?_)|(refine cB [] (kH) ?_)|(refine cB [] (Ep p q.res.name ⟨0,0⟩) ?_)|(refine cH (qf [(0,48),(1,1002)]) (kN) ?_))|refine ae ?_|(refine aa 4 rfl ?_;refine aR (aq (z:=Q.1) rfl rfl rfl rfl dU rfl rfl rfl rfl (Nat.le_of_ble_eq_true rfl) rfl rfl) rfl rfl rfl ?_)|exact ah|(refine ab fun hb=>?_;first|(exact absurd hQ0 hb)|(exact absurd hb hz)|skip))
     refine ⟨(i+1,o++[Q.1],ev++[⟨3,p,q.res.name,⟨0,0⟩⟩]++aE q.res.name Q.2.1),⟨by dsimp only;omega,by simp;omega,by simp;omega,by dsimp only;rw [←hs1];simp,by dsimp only;rw [←hs2];simp⟩,by dsimp only;omega,?_⟩;dsimp only;rw [←hset];exact a8 (qf [(1000,1002)])
  ·have e:(o++t.drop i,ev)=R:=by
    rw [List.drop_eq_nil_of_le (by omega)] at hs1 hs2 ⊢;simp [aG] at hs1 hs2;rw [hs2,List.append_nil,hs1]
   repeat' (first|refine af ?_ ?_|refine ae ?_|exact ah|refine ab fun hb=>?_)
   rw [←e];refine fe (qf []) ?_;exact aj
theorem jQ {α:Type} {b:Bool} {k:Int} {x:List Qu×List Ev×Int} (h:x.2.2≠0→x.1=[]):(bif b then dO k else x).2.2≠0→(bif b then dO k else x).1=[]:=by
 cases b with
 | true=>exact fun _=>rfl
 | false=>exact h
theorem y8 {t:List Qu} {p:Pr} {a:Tm}:(bJ t p a).2.2≠0→(bJ t p a).1=[] :=
 jQ (α:=Unit) (jQ (α:=Unit) (jQ (α:=Unit) fun h=>absurd rfl h))
theorem y9 {t:List Qu} {p:Pr} {a:Tm} {prio:Int}:(bd t p a prio).2.2≠0→(bd t p a prio).1=[] :=
 jQ (α:=Unit) (jQ (α:=Unit) (jQ (α:=Unit) (jQ (α:=Unit) fun h=>absurd rfl h)))
theorem vB (p:Pr) (n:ByteArray) (a:Tm) (prio:Int):(bq [] p n).1=[]∧(bJ [] p a).1=[]∧(bd [] p a prio).1=[]:=by
 refine ⟨?_,?_,?_⟩
 ·unfold bq;cases du [] <;> rfl
 ·unfold bJ;cases du [] <;> rfl
 ·unfold bd;cases du [] <;> rfl
theorem BP {w:Wk} {p:Pr} {n:ByteArray} (h:w.c.queues=[]):(fd w p n).c.queues=[]:=by
 unfold fd gR;cases (ap (be w.c.queues n) p).isSome with
 | true=>rw [h];exact (vB p n ⟨n,⟨0,0⟩⟩ 0).1
 | false=>exact h
theorem ud {w:Wk} {p:Pr} {n:ByteArray} {l:Am} (h:w.c.queues=[]):(bL w p n l).c.queues=[]:=by
 unfold bL d5;cases decide (ao (be w.c.queues n).holds p=l) with
 | true=>exact h
 | false=>rw [h];exact (vB p n ⟨n,l⟩ 0).2.1
theorem Et {w:Wk} {x:Pc} {n:ByteArray} (h:w.c.queues=[]):(bo w x n).c.queues=[]:=ud (BP h)
theorem ue {x:Pc}:∀{l:List Tm} {w:Wk},w.c.queues=[]→(cU x l w).c.queues=[]
 | [],_,h=>h
 | a :: l,w,h=>ue (l:=l) (w:=bo w x a.name) (Et h)
theorem rN {p:Pr}:∀{l:List Tm} {w:Wk},w.c.queues=[]→(br p l w).c.queues=[]
 | [],_,h=>h
 | a :: l,w,h=>rN (l:=l) (w:=bL w p a.name a.am) (ud h)
theorem rO {p:Pr} {prio:Int}:∀{l:List Tm} {w:Wk},w.c.queues=[]→(ck p prio l w).c.queues=[]
 | [],_,h=>h
 | a :: l,w,h=>rO (l:=l) (w:=w.take (bd w.c.queues p a prio).1 (bd w.c.queues p a prio).2.1) (by show (bd w.c.queues p a prio).1=[];rw [h];exact (vB p a.name a prio).2.2)
theorem ay {P:Program} {o:Oper} {s:Mst} {x:Operand} {k m i off:Nat} (ho:o.op = .nilCheck x) (hx:s.ev x = .c (.optr k m i off)):LOp P o s [] ⟨.c (.optr k m i off),[],[]⟩ :=
 bp fun c st ρ a w hr h1 _=>by
  have he:=h1 x (by simp [ho,Op.operands]);rw [hx] at he;have hv:=hr.ev x;rw [he] at hv;obtain ⟨g,n,cap,hg,hv⟩:=hv;refine ⟨a.eval x,?_,⟨g,n,cap,hg,hv⟩,fun k' hk=>hr.nf (x:=x) he hk⟩;unfold execOp;rw [ho];simp [hv]
def An (w:Wk) (b:Nat):List D:=[.sc (.int .i64 w.c.now),.sl dC w.c.queues,.own 1,.own b]
def HP (d:Nat) (w:Wk):List (Nat×Box):=[(0,.box 85 (An w 2)),(1,.arr 63 (eI d) w.c.procs),(2,.arr 67 fG w.ev)]
def HQ (d:Nat) (w:Wk):List (Nat×Option Box):=[(0,some (.box 85 (An w 4))),(1,some (.arr 63 (eI d) w.c.procs)),(4,some (.arr 67 fG w.ev)),(2,none)]
abbrev pp (i:Nat):V0:=.one (.optr 1 16 i 0)
theorem IT (d:Nat) (w:Wk) (k:Int) (p:Pr) (hl:w.ev.length≤1000000):FSpec prog 151 [gA,oK k,p.a] (HP d w) [4] (.tup []) (HQ d (w.note k p)):=by
 refine aP func151 ?_;have h0:Nat.ble w.ev.length 1000000=true:=by simpa using hl
 repeat' (first|refine af ?_ ?_|(refine aa 8 rfl ?_;refine aV (ak rfl rfl (aB rfl rfl) (aD [⟨k,p,⟨#[]⟩,⟨0,0⟩⟩] rfl rfl rfl rfl) rfl aL aL) rfl rfl rfl ?_)|refine ae ?_|exact ah|refine ab fun hb=>?_|(exact mS (qf [(4,15)])))
theorem Ao (d:Nat) (w:Wk) (t:List Qu) (ev:List Ev) (hl:w.ev.length+ev.length≤1000000):FSpec prog 155 [gA,.one (.sl dC t),.one (.sl fG ev),oK 0] (HP d w) [4] (.tup []) (HQ d (w.take t ev)):=by
 refine aP func155 ?_;repeat' (first|refine af ?_ ?_|refine ae ?_|exact ah|(refine ab fun hb=>?_;first|(exact absurd rfl hb)|skip)|(exact mS (qf [(4,21)])))
theorem Hk (d:Nat) (l:List Pc) (i:Nat) {x:Pc} (hx:l[i]? = some x):FSpec prog 218 [.one (.optr 1 16 i 0)] [(1,.arr 63 (eI d) l)] [] (.tup []) [(1,some (.arr 63 (eI d) (l.set i { x with waiting:=false,req:=Rq.zero,since:=0 })))]:=by
 refine aP func218 ?_;have hi:=(List.getElem?_eq_some_iff.1 hx).1;have hs1:=fB hi { x with waiting:=false };have hl1:(l.set i { x with waiting:=false }).length=l.length:=List.length_set;have hs2:=fB (hl1▸hi) { x with waiting:=false,req:=Rq.zero };have e:l.set i { x with waiting:=false,req:=Rq.zero,since:=0 } = ((l.set i { x with waiting:=false }).set i { x with waiting:=false,req:=Rq.zero }).set i { x with waiting:=false,req:=Rq.zero,since:=0 }:=by rw [List.set_set,List.set_set]
 rw [e];repeat' (first|refine af ?_ ?_|(refine aa 21 rfl ?_;refine sx (ay rfl rfl) ?_)|refine ae ?_|(refine aa 4 rfl ?_;first|(refine aR (aq (z:={ x with waiting:=false }) rfl rfl rfl rfl hx rfl rfl rfl rfl (Nat.le_of_ble_eq_true rfl) rfl rfl) rfl rfl rfl ?_)|(refine aR (jG (z:={ x with waiting:=false,req:=Rq.zero }) rfl rfl rfl rfl hs1 rfl rfl rfl rfl (Nat.le_of_ble_eq_true rfl) (by (repeat' (first|exact trivial|exact .same _|exact .nil|refine ⟨?_,?_⟩));first|done|fail) rfl) rfl rfl rfl ?_)|(refine aR (aq (z:={ x with waiting:=false,req:=Rq.zero,since:=0 }) rfl rfl rfl rfl hs2 rfl rfl rfl rfl (Nat.le_of_ble_eq_true rfl) rfl rfl) rfl rfl rfl ?_))|exact ah|refine ab fun hb=>?_|(exact mS (qf [])))
theorem GH (d:Nat) (w:Wk) (p:Pr) (n:ByteArray) (l:Am) (hn:aW w.c.queues n=true) (hne:(bL w p n l).c.queues≠[]) (hl:w.ev.length≤900000) {Z:Wk} (hZ:bL w p n l=Z):FSpec prog 158 [gA,p.a,(⟨n,l⟩:Tm).a] (HP d w) [4] (.tup []) (HQ d Z):=by
 refine aP func158 ?_;obtain ⟨i,hi,hF,hq⟩:=lz hn;obtain ⟨h,hh⟩:∃h,ao w.c.queues[i].holds p=h:=⟨_,rfl⟩;have kH:=eJ w.c.queues[i] p;rw [hh] at kH;unfold bL at hZ hne;rw [hq,hh] at hZ hne;by_cases hhl:h=l
 ·rw [decide_eq_true hhl] at hZ;obtain rfl:w=Z:=hZ;repeat' (first|refine af ?_ ?_|(refine aa 9 rfl ?_;first|(refine cB [] (ir w.c.queues n hF) ?_)|(refine cB [] (kH) ?_))|refine ae ?_|exact ah|(refine ab fun hb=>?_;first|(exact absurd hhl hb)|skip)|(exact mS (qf [(4,2)])))
 ·rw [decide_eq_false hhl,cond_false] at hZ hne;have hll:=fC w.c.queues p ⟨n,l⟩;obtain ⟨R,hR⟩:∃R,bJ w.c.queues p ⟨n,l⟩=R:=⟨_,rfl⟩;have h0:R.2.2=0:=Classical.byContradiction fun h=>hne (by show (bJ w.c.queues p ⟨n,l⟩).1=[];exact y8 (by rw [hR];exact h));unfold d5 at hZ;rw [hR] at hZ hll;obtain ⟨R1,R2,R3⟩:=R;obtain rfl:R3=0:=h0;have kL:=GD w.c.queues p ⟨n,l⟩ hR;have kT:=Ao d w R1 R2 (by dsimp only at hll;omega);obtain rfl:w.take R1 R2=Z:=hZ;repeat' (first|refine af ?_ ?_|(refine aa 9 rfl ?_;first|(refine cB [] (ir w.c.queues n hF) ?_)|(refine cB [] (kH) ?_)|(refine cC [] (kL) ?_)|(refine cH (qf [(0,0),(1,1),(2,2),(4,1004)]) (kT) ?_))|refine ae ?_|exact ah|(refine ab fun hb=>?_;first|(exact absurd hb hhl)|skip)|(exact mS (qf [(4,1004)])))
theorem za (d:Nat) (x:Ex):FSpec prog 177 [x.a d] [] [] (.b (kv x)) []:=by
 obtain ⟨v,hv⟩:∃v,kv x=v:=⟨_,rfl⟩;rw [hv];rw [H4] at hv;have kP:=Gy x d [] (by simp);have h0:=x.dep_pos;refine aP func177 ?_;cases hk:x9 x with
 | false =>
  rw [hk] at hv;obtain rfl:false=v:=hv;repeat' (first|refine af ?_ ?_|refine aa 9 rfl (cB [] (y6 x d (n:=0) (by rw [hk];rfl)) ?_)|refine ae ?_|exact ah|refine ab fun hb=>?_|exact aX|fail)
 | true =>
  rw [hk,Bool.true_and] at hv;repeat' (first|refine af ?_ ?_|((fail_if_success (first|refine my 2 ?_|refine mz 2 ?_));refine ae ?_)|exact ah|refine ab fun hb=>?_)
  refine lU 3 0 1000 39 cw rfl rfl rfl rfl ?_;cases hp:AX x [] with
  | none =>
   rw [hp] at kP hv;obtain rfl:false=v:=hv;repeat' (first|refine af ?_ ?_|(refine aa 9 rfl ?_;first|(refine cB [] (y6 x d (n:=x.dep) (by rw [hk];rfl)) ?_)|(refine cH (qf [(0,3),(1,1000),(2,1001)]) (kP) ?_))|refine ae ?_|exact ah|refine ab fun hb=>?_|exact aX|fail)
  | some r =>
   rw [hp] at kP hv;obtain rfl:true=v:=hv;repeat' (first|refine af ?_ ?_|(refine aa 9 rfl ?_;first|(refine cB [] (y6 x d (n:=x.dep) (by rw [hk];rfl)) ?_)|(refine cH (qf [(0,3),(1,1000),(2,1001)]) (kP) ?_))|refine ae ?_|exact ah|refine ab fun hb=>?_|exact aX|fail)
theorem Kh (l:List Tm) (a:Tm):FSpec prog 299 [.one (.sl cw l),a.a] [] [] (.i (nr a 0 l)) []:=by
 obtain ⟨v,hv⟩:∃v,nr a 0 l=v:=⟨_,rfl⟩;rw [hv];refine aP func299 ?_;refine aM (fun c ρ a w hr=>bz (t:=0) hr rfl) (fun hl0=>?_);repeat' (first|refine af ?_ ?_|refine ae ?_|exact ah|refine ab fun hb=>?_)
 refine ai (fun i=>i≤l.length∧nr a i (l.drop i)=v) (fun i=>bt [3] [(0,.c (.sl cw l)),(3,.c (.ptr 3 0)),(7,.i l.length),(8,.i i)] [(3,.box 39 [.sc (.string a.name),.sc (.int .i64 a.am.mode),.sc (.int .i64 a.am.units)])]) (fun i=>l.length-i) 0 ⟨Nat.zero_le _,hv⟩ aN ?_;rintro i ⟨hi,hs⟩;by_cases hlt:i<l.length
 ·rw [List.drop_eq_getElem_cons hlt,ow] at hs;repeat' (first|refine af ?_ ?_|refine ae ?_|exact ah|refine ab fun hb=>?_)
  ·refine d7 ?_;rw [←hs];simp [*]
  ·refine ⟨i+1,⟨by omega,?_⟩,by omega,?_⟩
   ·rw [←hs];simp [*]
   ·exact aN
 ·rw [List.drop_eq_nil_of_le (by omega)] at hs;repeat' (first|refine af ?_ ?_|refine ae ?_|exact ah|refine ab fun hb=>?_)
  refine d7 ?_;rw [←hs];rfl
theorem Eu (l:List Tm) (a:Tm) {v:Bool} (hv:jY a l=v):FSpec prog 239 [.one (.sl cw l),a.a] [] [] (.b v) []:=by
 refine aP func239 ?_;repeat' (first|refine af ?_ ?_|refine aa 9 rfl (cB [] (Kh l a) ?_)|refine ae ?_|exact ah|refine ab fun hb=>?_)
 refine d7 ?_;rcases ox a l 0 [] with ⟨h1,h2,_⟩|⟨i,_,h1,h2,_⟩
 ·rw [h1,←hv,h2];rfl
 ·rw [h1,←hv,h2];simp
theorem Ew:∀(x:Ex) (d:Nat) (acc:List Tm),acc.length+x.cnt≤1000→FSpec prog 178 [.one (.own 0),x.a d] [(0,.arr 39 cw acc)] [1] (.c (.own 1)) [(0,none),(1,some (.arr 39 cw (fU x acc)))]:=by
 refine Ex.ind (fun k a l ih=>?_);intro d acc hl;rw [Ex.cnt_mk] at hl;obtain ⟨R,hR⟩:∃R,fU (.mk k a l) acc=R:=⟨_,rfl⟩;rw [hR];rw [lO] at hR;show FSpec prog 178 [.one (.own 0),.ag (sO d k a l)] [(0,.arr 39 cw acc)] [1] (.c (.own 1)) [(0,none),(1,some (.arr 39 cw R))];refine aP func178 ?_;cases hE:l.isEmpty with
 | true =>
  obtain rfl:=List.isEmpty_iff.1 hE;rw [hE,cond_true,ic] at hR;cases hh:jY a acc with
  | true =>
   rw [hh] at hR;obtain rfl:acc=R:=hR;repeat' (first|refine af ?_ ?_|refine aa 9 rfl (cB [0] (Eu acc a hh) ?_)|refine ae ?_|exact ah|refine ab fun hb=>?_|(refine bP (qf [(1,0)]) ?_;exact aj))
  | false =>
   rw [hh] at hR;obtain rfl:acc++[a]=R:=hR;repeat' (first|refine af ?_ ?_|(refine aa 8 rfl ?_;refine aV (ak rfl rfl (aB rfl rfl) (aD [a] rfl rfl rfl rfl) rfl aL aL) rfl rfl rfl ?_)|refine aa 9 rfl (cB [0] (Eu acc a hh) ?_)|refine ae ?_|exact ah|refine ab fun hb=>?_|(refine bP (qf [(1,20)]) ?_;exact aj))
 | false =>
  have hl0:0<l.length:=List.length_pos_iff.2 fun e=>by rw [e] at hE;cases hE
  rw [hE,cond_false] at hR;refine aM (fun c ρ a w hr=>iH (t:=1) (i:=4) hr rfl rfl) (fun hx=>?_);obtain ⟨hlen,hne⟩:=hx;obtain ⟨e,rfl⟩:=hne hl0;repeat' (first|refine af ?_ ?_|refine ae ?_|exact ah|refine ab fun hb=>?_)
  refine ai (fun x:Nat×List Tm=>x.1≤l.length∧x.2.length+iM (l.drop x.1)≤1000∧gJ (l.drop x.1) x.2=R) (fun x=>bt [0,1000] [(0,.c (.own 1000)),(22,.c (.sl (nc (e+1)) l)),(23,.i l.length),(24,.i x.1)] [(1000,.arr 39 cw x.2)]) (fun x=>l.length-x.1) (0,acc) ⟨Nat.zero_le _,by simpa using (by omega),hR⟩ (by exact a8 (qf [(1000,0)])) ?_;rintro ⟨i,acc1⟩ ⟨hi,hc,hs⟩;dsimp only at *
  by_cases hlt:i<l.length
  ·rw [List.drop_eq_getElem_cons hlt] at hs hc;rw [f5] at hs;rw [f0] at hc;have kS:=ih l[i] (List.getElem_mem hlt) e acc1 (by omega);have hlen2:=qz l[i] acc1;obtain ⟨r,h1⟩:∃r,fU l[i] acc1=r:=⟨_,rfl⟩;rw [h1] at hs kS hlen2;clear ih h1;repeat' (first|refine af ?_ ?_|refine aa 9 rfl (cH (qf [(0,1000),(1,1001)]) (kS) ?_)|refine ae ?_|exact ah|refine ab fun hb=>?_)
   refine ⟨(i+1,r),⟨by dsimp only;omega,by dsimp only;omega,hs⟩,by dsimp only;omega,?_⟩;exact a8 (qf [(1000,1001)])
  ·rw [List.drop_eq_nil_of_le (by omega)] at hs;obtain rfl:acc1=R:=hs;repeat' (first|refine af ?_ ?_|refine ae ?_|exact ah|refine ab fun hb=>?_|(refine bP (qf [(1,1000)]) ?_;exact aj))
theorem jR (d:Nat) (x:Ex) {L:List Tm} (hL:cy x=L):FSpec prog 100 [x.a d] [] [] (.c (.sl cw L)) []:=by
 subst hL;unfold cy;refine aP func100 ?_;cases hv:kv x with
 | false =>
  repeat' (first|refine af ?_ ?_|refine aa 9 rfl (cB [] (za d x) ?_)|refine ae ?_|exact ah|(refine ab fun hb=>?_;first|(simp [hv] at hb;done)|skip)|exact aX|fail)
 | true =>
  have h24:x.cnt≤24:=by have h:=hv;simp [kv,x9] at h;exact h.1.2
  have kA:=(Ew x d [] (by simp;omega)).nil0 (by decide) fun q k=>rfl;repeat' (first|refine af ?_ ?_|(refine aa 9 rfl ?_;first|(refine cB [] (za d x) ?_)|(refine cH (qf [(0,1000),(1,1001)]) (kA) ?_))|refine ae ?_|exact ah|(refine ab fun hb=>?_;first|(simp [hv] at hb;done)|skip)|exact aX|fail)
section
variable {β:Type} (V:β→Value) (z:β) (n:ByteArray) (a:β)
def jX (l:List (ByteArray×β)):List (Value×Value):=l.map fun x=>(.string x.1,V x.2)
def m8:List (ByteArray×β)→β
 | []=>z
 | x :: l=>bif ba x.1 n then x.2 else m8 l
def ed:List (ByteArray×β)→List (ByteArray×β)
 | []=>[(n,a)]
 | x :: l=>bif ba x.1 n then (x.1,a) :: l else x :: ed l
def Ey:Nat→List (ByteArray×β)→Option (Nat×β)
 | _,[]=>none
 | j,x :: l=>bif ba x.1 n then some (j,x.2) else Ey (j+1) l
end
section
variable {P:Program} {β:Type} {V:β→Value} {z:β} {n:ByteArray} {a:β}
theorem IU (m n:ByteArray):(n == m)=ba m n:=by
 rw [Bool.eq_iff_iff,bb,MapKept.bytes_beq];exact eq_comm
theorem vC:∀(l:List (ByteArray×β)) (i j:Nat),Instr.findNow .string (.string n) (eO i (jX V l)) j=some ((Ey n j l).map fun x=>(x.1,V x.2))
 | [],_,_=>rfl
 | x :: l,i,j=>by
  have ih:=vC l (i+1) (j+1);show (match some (n == x.1) with|some true=>some (some (j,V x.2))|some false=>Instr.findNow .string (.string n) (eO (i+1) (jX V l)) (j+1)|none=>none)=_;rw [IU,Ey];cases ba x.1 n with
  | true=>rfl
  | false=>exact ih
theorem Ez:∀(l:List (ByteArray×β)) (j:Nat),m8 z n l=match Ey n j l with|some x=>x.2|none=>z
 | [],_=>rfl
 | x :: l,j=>by
  have ih:=Ez l (j+1);unfold m8 Ey;cases ba x.1 n with
  | true=>rfl
  | false=>exact ih
theorem pO:∀(l:List (ByteArray×β)) (j:Nat),Ey n j l=none→ed n a l=l++[(n,a)]
 | [],_,_=>rfl
 | x :: l,j,h=>by
  unfold Ey at h;unfold ed;cases hx:ba x.1 n with
  | true=>rw [hx] at h;cases h
  | false =>
   rw [hx] at h;rw [cond_false,pO l (j+1) h];rfl
theorem xR:∀(l m:List (Value×Value)) (i:Nat),eO i (l++m)=eO i l++eO (i+l.length) m
 | [],_,_=>rfl
 | x :: l,m,i=>by
  show _ :: eO (i+1) (l++m)=_ :: (eO (i+1) l++_);rw [xR l m (i+1),List.length_cons,show i+1+l.length=i+(l.length+1) by omega]
theorem pP:∀(l:List (ByteArray×β)) (i j k:Nat) (b:β),Ey n j l=some (k,b)→j≤k∧(eO i (jX V l))[k-j]? = some ⟨.string n,V b,i+(k-j)⟩∧(eO i (jX V l)).set (k-j) ⟨.string n,V a,i+(k-j)⟩=eO i (jX V (ed n a l))∧(ed n a l).length=l.length
 | [],_,_,_,_,h=>by cases h
 | x :: l,i,j,k,b,h=>by
  unfold Ey at h;unfold ed;cases hx:ba x.1 n with
  | true =>
   rw [hx] at h;simp only [cond_true,Option.some.injEq,Prod.mk.injEq] at h;obtain ⟨rfl,rfl⟩:=h;obtain rfl:=bb.1 hx;rw [Nat.sub_self];exact ⟨Nat.le_refl _,rfl,rfl,rfl⟩
  | false =>
   rw [hx] at h;obtain ⟨h1,h2,h3,h4⟩:=pP l (i+1) (j+1) k b h;have e:k-j=(k-(j+1))+1:=by omega
   rw [cond_false,e];refine ⟨by omega,?_,?_,?_⟩
   ·show (eO (i+1) (jX V l))[k-(j+1)]? = _;rw [h2,show i+1+(k-(j+1))=i+(k-(j+1)+1) by omega]
   ·show (⟨.string x.1,V x.2,i⟩:MapEntry) :: (eO (i+1) (jX V l)).set (k-(j+1)) _=_ :: eO (i+1) (jX V (ed n a l));rw [←h3,show i+1+(k-(j+1))=i+(k-(j+1)+1) by omega]
   ·simp [h4]
variable {w:World} {g t K E:Nat} {l:List (ByteArray×β)}
theorem EA (ht:P.underlying t=some (.map K E)) (hK:P.underlying K=some .string) (hz:(zeroValue E).run P w = .ok (V z) w) (hb:w.heap[g]? = some (ky (jX V l))):(Instr.lookup t (.map (some g)) (.string n) false).run P w = .ok (V (m8 z n l)) w:=by
 have h1:=vC (V:=V) (n:=n) l 0 0;have hk:MapKept.IsKey .string (.string n):=by simp [MapKept.IsKey]
 rw [Ez l 0];cases hf:Ey n 0 l with
 | none =>
  rw [hf] at h1;simp [Instr.lookup,run_underlying ht,MapKept.run_getObj_map hb,MapKept.run_checkKey hK hk,MapKept.run_findKey hK h1,hz,Result.andThen]
 | some x =>
  rw [hf] at h1;simp [Instr.lookup,run_underlying ht,MapKept.run_getObj_map hb,MapKept.run_checkKey hK hk,MapKept.run_findKey hK h1,Result.andThen]
theorem EB (ht:P.underlying t=some (.map K E)) (hK:P.underlying K=some .string) (hb:w.heap[g]? = some (ky (jX V l))):(Instr.mapUpdate t (.map (some g)) (.string n) (V a)).run P w = .ok () { w with heap:=w.heap.setIfInBounds g (ky (jX V (ed n a l))) }:=by
 have h1:=vC (V:=V) (n:=n) l 0 0;have hk:MapKept.IsKey .string (.string n):=by simp [MapKept.IsKey]
 cases hf:Ey n 0 l with
 | none =>
  rw [hf] at h1;have e:ky (jX V (ed n a l)) = .map ((eO 0 (jX V l)).toArray.push ⟨.string n,V a,(jX V l).length⟩) ((jX V l).length+1):=by
   rw [pO l 0 hf];unfold ky jX;rw [List.map_append,xR];simp [eO]
  rw [e];simp [Instr.mapUpdate,run_underlying ht,MapKept.run_getObj_map hb,MapKept.run_checkKey hK hk,MapKept.run_findKey hK h1,MapKept.run_setObj_map _ hb,Result.andThen]
 | some x =>
  obtain ⟨k,b⟩:=x;rw [hf] at h1;obtain ⟨_,h2,h3,h4⟩:=pP (V:=V) (a:=a) l 0 0 k b hf;simp only [Nat.sub_zero,Nat.zero_add] at h2 h3;have e:ky (jX V (ed n a l)) = .map ((eO 0 (jX V l)).toArray.modify k fun e=>{ e with key:=.string n,val:=V a }) (jX V l).length:=by
   unfold ky;rw [←h3];have hl:(jX V (ed n a l)).length=(jX V l).length:=by simp [jX,h4]
   rw [hl];congr 1
   apply Array.ext'
   rw [Array.toList_modify];apply List.ext_getElem?
   intro j;rw [List.getElem?_modify,List.getElem?_set];by_cases hkj:k=j
   ·subst hkj;have hlt:=(List.getElem?_eq_some_iff.1 h2).1;simp only [if_true,h2,Option.map_eq_map,Option.map_some];rw [if_pos hlt]
   ·simp [hkj]
  rw [e];simp [Instr.mapUpdate,run_underlying ht,MapKept.run_getObj_map hb,MapKept.run_checkKey hK hk,MapKept.run_findKey hK h1,h2,MapKept.run_keyThatStays hk,MapKept.run_setObj_map _ hb,Result.andThen]
end
section
variable {P:Program} {o:Oper} {s:Mst} {β:Type} {V:β→Value} {z:β} {n:ByteArray} {a:β} {l:List (ByteArray×β)}
theorem uf {t k:Nat} (ho:o.op = .makeMap t none) (hdk:o.dst=some k):LOp P o s [] ⟨.c (.own k),[(k,some (.mp []))],[k]⟩:=by
 intro c st ρ a w hr h1 h2 h3 h4;have hfk:st.f k=true:=h3 k (by simp [aK]);have hkk:∀k':Nat,aA [(k,some (Box.mp []))] k'=true→k'=k:=fun k' h=>by
  simp only [aA,Bool.or_false] at h;exact (Nat.eq_of_beq_eq_true h).symm
 refine Oper.wp_value (v:=.map (some w.heap.size)) (w':=w.alloc (.map #[] 0)) ?_ ⟨upd ρ k (.map (some w.heap.size)),hr.app (e:=⟨.c (.own k),[(k,some (.mp []))],[k]⟩) h4 (fun k' h=>?_) (fun k' h=>?_) (fun k' h=>.inl ?_) (Frx.alloc _ _ _) (fun k' bx g' h _ hg'=>?_) (fun k1 k2 _ _ _ h h' _ _ _ _=>?_) (fun k' h=>.inl ?_) (fun k1 k2 bx h hp hx=>?_) (fun k2 bx h hp=>?_) ?_⟩
 ·unfold execOp;rw [ho];simp [Instr.makeMap,Result.andThen]
 ·have:k'=k:=by simp [aK] at h;exact h.symm
  subst this;exact ⟨hfk,by simp [aA]⟩
 ·exact df (by simpa [aK] using h)
 ·rw [hkk k' h];simp [aK]
 ·rw [hkk k' h,aI] at hg';injection hg' with hg';subst hg';exact ⟨by simp,.inl (Nat.le_refl _)⟩
 ·rw [hkk k1 h,hkk k2 h']
 ·have:k'=k:=by simp [TV.has,V0.has,D.has] at h;exact h.symm
  subst this;simp [aK]
 ·rw [hkk k2 h] at hp;simp only [hput,Nat.beq_refl,cond_true,Option.some.injEq] at hp;subst hp;simp [Box.has] at hx
 ·rw [hkk k2 h] at hp ⊢;simp only [hput,Nat.beq_refl,cond_true,Option.some.injEq] at hp;subst hp;rw [aI];exact ⟨_,rfl,(MapKept.heap_alloc w _).1⟩
 ·exact (aI _ _ _).symm
theorem EC {t K E k:Nat} {x y:Operand} {d:TV} (ht:P.underlying t=some (.map K E)) (hK:P.underlying K=some .string) (hz:∀w,(zeroValue E).run P w = .ok (V z) w) (ho:o.op = .lookup t x y false) (hx:s.ev x = .c (.own k)) (hk:s.h k=some (.mp (jX V l))) (hy:s.ev y = .c (.sc (.string n)))
  (hd:∀w F ρ,d.rep w F ρ (V (m8 z n l))) (hn:∀j,d.has j=false):LOp P o s [k] ⟨d,[],[]⟩ :=
 bp fun c st ρ a w hr h1 h2=>by
  have e1:=h1 x (by simp [ho,Op.operands]);have e2:=h1 y (by simp [ho,Op.operands]);have hv1:=hr.ev x;have hv2:=hr.ev y;rw [e1,hx] at hv1;rw [e2,hy] at hv2;have hv1:a.eval x=ρ k:=hv1;have hv2:a.eval y = .string n:=hv2;obtain ⟨g,hg,hb⟩:=hr.hp k _ ((h2 k (by simp [aK])).trans hk);refine ⟨V (m8 z n l),?_,hd _ _ _,fun j hj=>by rw [hn j] at hj;cases hj⟩;unfold execOp;rw [ho];simp only [hv1,hv2,hg,Sem.run_bind,EA ht hK (hz w) hb,Result.andThen_ok,Sem.run_pure]
theorem ED {t K E k:Nat} {x y q:Operand} (ht:P.underlying t=some (.map K E)) (hK:P.underlying K=some .string) (ho:o.op = .mapUpdate t x y q) (hx:s.ev x = .c (.own k)) (hk:s.h k=some (.mp (jX V l))) (hy:s.ev y = .c (.sc (.string n)))
  (hq:∀w F ρ v,(s.ev q).rep w F ρ v→v=V a):LOp P o s [k] ⟨.c .any,[(k,some (.mp (jX V (ed n a l))))],[]⟩:=by
 intro c st ρ ac w hr h1 h2 h3 h4;have e1:=h1 x (by simp [ho,Op.operands]);have e2:=h1 y (by simp [ho,Op.operands]);have e3:=h1 q (by simp [ho,Op.operands]);have hv1:=hr.ev x;have hv2:=hr.ev y;have hv3:=hr.ev q;rw [e1,hx] at hv1;rw [e2,hy] at hv2;rw [e3] at hv3;have hv1:ac.eval x=ρ k:=hv1;have hv2:ac.eval y = .string n:=hv2;have hv3:=hq _ _ _ _ hv3;have hk':=(h2 k (by simp [aK])).trans hk;obtain ⟨g,hg,hb⟩:=hr.hp k _ hk';have hkb:kb (ρ k)=some g:=by rw [hg];rfl
 have hkk:∀k':Nat,aA [(k,some (Box.mp (jX V (ed n a l))))] k'=true→k'=k:=fun k' h=>by
  simp only [aA,Bool.or_false] at h;exact (Nat.eq_of_beq_eq_true h).symm
 have hset:=MapKept.heap_set (o':=ky (jX V (ed n a l))) hb;have hlt:g<w.heap.size:=(Array.getElem?_eq_some_iff.1 hb).1;refine Oper.wp_skip (w':={ w with heap:=w.heap.setIfInBounds g (ky (jX V (ed n a l))) }) ?_ ⟨ρ,hr.app (e:=⟨.c .any,[(k,some (.mp (jX V (ed n a l))))],[]⟩) h4 (fun k h=>by simp [aK] at h) (fun _ _=>rfl) (fun k' h=>.inr (by rw [hkk k' h];exact hr.nfh hk')) ⟨rfl,rfl,rfl,by simp,fun b hlt hn=>hset.2 b fun e=>hn ⟨k,_,by simp [aA],hk',by rw [hkb,e]⟩⟩ ?_ ?_ (fun k h=>by simp [TV.has,V0.has,D.has] at h) ?_ ?_ trivial⟩
 ·unfold execOp;rw [ho];simp only [hv1,hv2,hv3,hg,Sem.run_bind,EB ht hK hb,Result.andThen_ok,Sem.run_pure]
 ·intro k' bx g' h _ hg';rw [hkk k' h,hkb] at hg';injection hg' with hg';subst hg';exact ⟨by simpa using hlt,.inr ⟨k,_,by simp [aA],hk',hkb⟩⟩
 ·intro k1 k2 _ _ _ h h' _ _ _ _;rw [hkk k1 h,hkk k2 h']
 ·intro k1 k2 bx h hp hx;rw [hkk k2 h] at hp;simp only [hput,Nat.beq_refl,cond_true,Option.some.injEq] at hp;subst hp;simp [Box.has] at hx
 ·intro k2 bx h hp;rw [hkk k2 h] at hp ⊢;simp only [hput,Nat.beq_refl,cond_true,Option.some.injEq] at hp;subst hp;exact ⟨g,hg,hset.1⟩
theorem ug {t K E k:Nat} {x:Operand} {L:List (Value×Value)} (ht:P.underlying t=some (.map K E)) (ho:o.op = .call { callee:=.builtin .len,args:=#[x],argTypes:=#[t] }) (hx:s.ev x = .c (.own k)) (hk:s.h k=some (.mp L)):LOp P o s [k] ⟨.i L.length,[],[]⟩ :=
 bp fun c st ρ a w hr h1 h2=>by
  have e1:=h1 x (by simp [ho,Op.operands,Call.operands]);have hv1:=hr.ev x;rw [e1,hx] at hv1;have hv1:a.eval x=ρ k:=hv1;obtain ⟨g,hg,hb⟩:=hr.hp k _ ((h2 k (by simp [aK])).trans hk);refine ⟨.int .i64 L.length,?_,rfl,fun k hk=>by simp [TV.has,V0.has,D.has] at hk⟩;have hl:∀(l:List (Value×Value)) (i:Nat),(eO i l).length=l.length:=by
   intro l;induction l with
   | nil=>intro _;rfl
   | cons x l ih=>intro i;show (eO (i+1) l).length+1=_;rw [ih];rfl
  unfold execOp;rw [ho];have hrun:(Builtin.len_ #[t] o.type #[.map (some g)]).run P w = .ok (.int .i64 L.length) w:=by
   simp [Builtin.len_,run_underlying ht,MapKept.run_getObj_map hb,Result.andThen,hl];rfl
  simp only [resolve,invoke,builtin,Sem.run_bind,Sem.run_pure,Result.andThen_ok,List.map_toArray,List.map_cons,List.map_nil,hv1,hg,hrun]
end
def IV (x:Am):Value:=.agg #[.int .i64 x.mode,.int .i64 x.units]
abbrev vD (l:List (ByteArray×Am)):List (Value×Value):=jX IV l
abbrev oV (n:ByteArray) (l:List (ByteArray×Am)):Am:=m8 ⟨0,0⟩ n l
theorem mj {P:Program} {o:Oper} {s:Mst} {t k:Nat} (K E:Nat) {x y:Operand} {n:ByteArray} {l:List (ByteArray×Am)} (ht:P.underlying t=some (.map K E)) (hK:P.underlying K=some .string) (hz:∀w,(zeroValue E).run P w = .ok (IV ⟨0,0⟩) w) (ho:o.op = .lookup t x y false) (hx:s.ev x = .c (.own k)) (hk:s.h k=some (.mp (vD l))) (hy:s.ev y = .c (.sc (.string n))) {b:Am} (hb:oV n l=b):LOp P o s [k] ⟨.v b.a,[],[]⟩:=by
 subst hb;exact EC (V:=IV) (z:=⟨0,0⟩) ht hK hz ho hx hk hy (fun _ _ _=>⟨_,rfl,rfl,rfl,trivial⟩) fun _=>rfl
theorem oW {P:Program} {o:Oper} {s:Mst} {t k:Nat} (K E:Nat) {x y q:Operand} {n:ByteArray} {l:List (ByteArray×Am)} {b:Am} (ht:P.underlying t=some (.map K E)) (hK:P.underlying K=some .string) (ho:o.op = .mapUpdate t x y q) (hx:s.ev x = .c (.own k)) (hk:s.h k=some (.mp (vD l))) (hy:s.ev y = .c (.sc (.string n))) (hq:s.ev q = .v b.a) {m:List (ByteArray×Am)} (hm:ed n b l=m):LOp P o s [k] ⟨.c .any,[(k,some (.mp (vD m)))],[]⟩:=by
 subst hm;exact ED (V:=IV) ht hK ho hx hk hy fun w F ρ v hv=>by
  rw [hq] at hv;obtain ⟨cs,e,h⟩:=hv;rw [e]
  match cs,h with
  | [_,_],⟨rfl,rfl,_⟩=>rfl
end Go.Proofs.YtjndcdcbjidocaaGreatDoor
