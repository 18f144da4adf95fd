/- Part 14 of 56 of the proof of both_hold (no condition). -/
import Derived.Test.YtcgpepnbohejfaaGreatDoorK12
import Derived.Test.YtcgpepnbohejfaaGreatDoorK13
set_option linter.unusedVariables false
set_option linter.unusedSimpArgs false
set_option maxRecDepth 100000
set_option maxHeartbeats 64000000
namespace Go.Proofs.YtcgpepnbohejfaaGreatDoor
open Go.RowKit Go.Proofs.Tryz
theorem od (m:Int):FSpec prog 53 [iV m] [] [] (.b (bM m)) []:=by
 unfold bM;refine aT func53 ?_;repeat' (first|refine af ?_ ?_|refine ae ?_|exact ah|refine ab fun hb=>?_)
 all_goals (refine fm ?_;simp [*])
theorem yO (x:Am):FSpec prog 94 [x.a] [] [] (.b (br x)) []:=by
 have h0:bM 0=false:=rfl;unfold br;refine aT func94 ?_;repeat' (first|refine af ?_ ?_|refine aa 9 rfl (cB [] (od x.mode) ?_)|refine ae ?_|exact ah|refine ab fun hb=>?_)
 all_goals (refine fm ?_;first|(simp [*];done)|(simp [*] <;> rfl))
theorem H3 (a b:Int):FSpec prog 30 [iV a,iV b] [] [] (.b (iX a b)) []:=by
 unfold iX;refine aT func30 ?_;repeat' (first|refine af ?_ ?_|(refine aa 9 rfl ?_;first|(refine cB [] (od a) ?_)|(refine cB [] (od b) ?_))|refine ae ?_|exact ah|refine ab fun hb=>?_)
 all_goals (refine fm ?_;first|(simp [*];done)|(simp_all [bM] <;> rfl))
theorem oe (r:Rs):FSpec prog 27 [r.a] [] [] (.b (aU r)) []:=by
 unfold aU;refine aT func27 ?_;repeat' (first|refine af ?_ ?_|refine ae ?_|exact ah|refine ab fun hb=>?_)
 all_goals (refine fm ?_;simp [*])
theorem B6 (x:Am):FSpec prog 29 [x.a] [] [] (.b (aG x)) []:=by
 refine aT func29 ?_;repeat' (first|refine af ?_ ?_|refine ae ?_|exact ah|refine ab fun hb=>?_)
 exact fm rfl
theorem H4 (r:Rs) (x:Am):FSpec prog 52 [r.a,x.a] [] [] (.b (aC r x)) []:=by
 unfold aC;refine aT func52 ?_;repeat' (first|refine af ?_ ?_|(refine aa 9 rfl ?_;first|(refine cB [] (oe r) ?_)|(refine cB [] (od x.mode) ?_))|refine ae ?_|exact ah|refine ab fun hb=>?_)
 all_goals (refine fm ?_;simp [*] <;> rfl)
theorem B7 (r:Rs) (x:Am):FSpec prog 28 [r.a,x.a] [] [] (.b (aX r x)) []:=by
 unfold aX;refine aT func28 ?_;repeat' (first|refine af ?_ ?_|(refine aa 9 rfl ?_;first|(refine cB [] (oe r) ?_)|(refine cB [] (B6 x) ?_)|(refine cB [] (H4 r x) ?_))|refine ae ?_|exact ah|refine ab fun hb=>?_)
 all_goals (refine fm ?_;simp [*])
theorem Gj {r:Rs} {a:Am} (hp:aX r a=true) (h:r.kind=2):0≤a.units∧a.units≤8:=(i3 hp (by omega)).2
theorem xH (a b:Am) (l:List Am):iF a (b :: l)=((!aG a && !aG b && !iX a.mode b.mode) || iF a l):=rfl
theorem Ew (r:Rs) (l:List Am):FSpec prog 10 [r.a,.one (.sl zE l)] [] [] (.b (f0 r l)) []:=by
  obtain ⟨v,hv⟩:∃v,f0 r l=v:=⟨_,rfl⟩;rw [hv];unfold f0 at hv;refine aT func10 ?_;refine bd (fun c ρ a w hr=>cV (t:=1) hr rfl) (fun hl1=>?_);cases hs:aU r with
  | false =>
    rw [hs] at hv;obtain rfl:false=v:=hv;repeat' (first|refine af ?_ ?_|refine aa 9 rfl (cB [] (oe r) ?_)|refine ae ?_|exact ah|(refine ab fun hb=>?_;first|(simp [hs] at hb;done)|skip)|exact bB|fail)
  | true =>
    rw [hs,Bool.true_and] at hv;have hu:0≤r.units∧r.units≤8:=by have:=bQ hs;omega
    repeat' (first|refine af ?_ ?_|refine aa 9 rfl (cB [] (oe r) ?_)|refine ae ?_|exact ah|(refine ab fun hb=>?_;first|(simp [hs] at hb;done)|skip))
    refine ak (fun x:Nat×Int=>x.1≤l.length∧0≤x.2∧x.2≤r.units∧dw r x.2 (l.take x.1) (l.drop x.1)=v) (fun x=>cq [2] [(1,.c (.sl zE l)),(2,.c (.ptr 2 0)),(5,.i x.2),(6,.i x.1)] [(2,.box 54 [.sc (.string r.name),.sc (.int .i64 r.kind),.sc (.int .i64 r.units),.sc (.int .i64 r.home)])]) (fun x=>l.length-x.1) (0,0) ⟨Nat.zero_le _,Int.le_refl _,hu.1,hv⟩ a7 ?_;rintro ⟨i,s⟩ ⟨hi,h0,h1,hs⟩;dsimp only at *
    by_cases hlt:i<l.length
    case neg =>
      rw [List.drop_eq_nil_of_le (by omega)] at hs;obtain rfl:true=v:=hs;repeat' (first|refine af ?_ ?_|refine ae ?_|exact ah|refine ab fun hb=>?_|exact bB|fail)
    rw [List.drop_eq_getElem_cons hlt,iZ,←List.take_succ_eq_append_getElem hlt] at hs;cases hp:aX r l[i] with
    | false =>
      rw [hp] at hs;obtain rfl:false=v:=hs;repeat' (first|refine af ?_ ?_|refine aa 9 rfl (cB [] (B7 r l[i]) ?_)|refine ae ?_|exact ah|(refine ab fun hb=>?_;first|(simp [hp] at hb;done)|skip)|exact bB|fail)
    | true =>
      rw [hp,Bool.true_and] at hs;by_cases hk:r.kind=2
      · have h2:=Gj hp hk
        rw [if_pos hk] at hs;repeat' (first|refine af ?_ ?_|refine aa 9 rfl (cB [] (B7 r l[i]) ?_)|refine ae ?_|exact ah|(refine ab fun hb=>?_;first|(simp [hp] at hb;done)|skip))
        · rw [decide_eq_false (by omega)] at hs
          obtain rfl:false=v:=hs;refine ct (qf []) ?_;exact aw
        · rw [decide_eq_true (by omega),Bool.true_and] at hs
          refine ⟨(i+1,s+l[i].units),⟨by dsimp only;omega,by dsimp only;omega,by dsimp only;omega,hs⟩,by dsimp only;omega,?_⟩;exact a7
      · rw [if_neg hk] at hs
        obtain ⟨c,hc⟩:∃c,iF l[i] (l.take i)=c:=⟨_,rfl⟩;rw [hc] at hs;have hlen:(l.take i).length=i:=by simp;omega
        repeat' (first|refine af ?_ ?_|refine aa 9 rfl (cB [] (B7 r l[i]) ?_)|refine ae ?_|exact ah|(refine ab fun hb=>?_;first|(simp [hp] at hb;done)|skip))
        refine ak (fun k=>k≤i∧iF l[i] ((l.take i).drop k)=c) (fun k=>cq [2] [(1,.c (.sl zE l)),(2,.c (.ptr 2 0)),(5,.i s),(6,.i i),(7,.i k)] [(2,.box 54 [.sc (.string r.name),.sc (.int .i64 r.kind),.sc (.int .i64 r.units),.sc (.int .i64 r.home)])]) (fun k=>i-k) 0 ⟨Nat.zero_le _,hc⟩ a7 ?_;rintro k ⟨hk,hc⟩;by_cases hki:k<i
        · rw [List.drop_eq_getElem_cons (by omega),xH,List.getElem_take] at hc
          repeat' (first|refine af ?_ ?_|(refine aa 9 rfl ?_;first|(refine cB [] (B6 l[i]) ?_)|(refine cB [] (B6 l[k]) ?_)|(refine cB [] (H3 l[i].mode l[k].mode) ?_))|refine ae ?_|exact ah|refine ab fun hb=>?_)
          all_goals first
            | (obtain rfl:true=c:=by rw [←hc];simp [*]
               obtain rfl:false=v:=hs;refine ct (qf []) ?_;exact aw)
            | (refine ⟨k+1,⟨by omega,by rw [←hc];simp [*]⟩,by omega,?_⟩
               exact a7)
        · rw [List.drop_eq_nil_of_le (by omega)] at hc
          obtain rfl:false=c:=hc;repeat' (first|refine af ?_ ?_|refine ae ?_|exact ah|refine ab fun hb=>?_)
          refine ⟨(i+1,s),⟨by dsimp only;omega,by dsimp only;omega,by dsimp only;omega,hs⟩,by dsimp only;omega,?_⟩;exact a7
end Go.Proofs.YtcgpepnbohejfaaGreatDoor
