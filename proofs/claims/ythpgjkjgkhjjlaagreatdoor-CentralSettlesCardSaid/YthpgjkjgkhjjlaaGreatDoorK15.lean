/- Part K15 of a proof of statements of chapter 15 (no condition). -/
import Derived.Test.YthpgjkjgkhjjlaaGreatDoorK13
import Derived.Test.YthpgjkjgkhjjlaaGreatDoorK14
set_option linter.unusedVariables false
set_option linter.unusedSimpArgs false
set_option maxRecDepth 100000
set_option maxHeartbeats 64000000
namespace Go.Proofs.YthpgjkjgkhjjlaaGreatDoor
open Go.RowKit Go.Proofs.Tryz
theorem n7 (m:Int):FSpec prog 104 [iV m] [] [] (.b (cL m)) []:=by
 unfold cL;refine a7 func104 ?_;repeat' (first|refine av ?_ ?_|refine aq ?_|exact aw|refine ap fun hb=>?_)
 all_goals (refine eU ?_;simp [*])
theorem pV (x:Am):FSpec prog 176 [x.a] [] [] (.b (cr x)) []:=by
 have h0:cL 0=false:=rfl;unfold cr;refine a7 func176 ?_;have:=n7 x.mode;repeat' (first|refine av ?_ ?_|refine gV ?_|refine aq ?_|exact aw|refine ap fun hb=>?_)
 all_goals (refine eU ?_;first|(simp [*];done)|(simp [*] <;> rfl))
theorem H8 (a b:Int):FSpec prog 58 [iV a,iV b] [] [] (.b (es a b)) []:=by
 unfold es;refine a7 func58 ?_;repeat' (first|refine av ?_ ?_|(refine aa 9 rfl ?_;first|(refine cB [] (n7 a) ?_)|(refine cB [] (n7 b) ?_))|refine aq ?_|exact aw|refine ap fun hb=>?_)
 all_goals (refine eU ?_;first|(simp [*];done)|(simp_all [cL] <;> rfl))
theorem So (a b:Int):FSpec prog 351 [iV a,iV b] [] [] (.b (mG a b)) []:=by
 unfold mG;refine a7 func351 ?_;repeat' (first|refine av ?_ ?_|(refine aa 9 rfl ?_;first|(refine cB [] (n7 a) ?_)|(refine cB [] (n7 b) ?_))|refine aq ?_|exact aw|refine ap fun hb=>?_)
 all_goals (refine eU ?_;first|(simp [*];done)|(simp_all [cL] <;> rfl))
theorem TD (a b:Int):FSpec prog 278 [iV a,iV b] [] [] (.i (oR a b)) []:=by
 obtain ⟨v,hv⟩:=qGe (oR a b);rw [hv];refine a7 func278 ?_;refine ao ?_;refine ab (fun x:Nat×Int=>x.1<=5/\x.2+x.1=6/\LL a b x.1 x.2=v) (fun x=>bP [] [(0,.i a),(1,.i b),(5,.i x.2)] []) (fun x=>x.1) (5,1) ⟨by decide,rfl,hv⟩ aT ?_;rintro ⟨n,m⟩ ⟨h5,hm,hs⟩;dsimp only at *
 cases n with
 | zero =>
  refine ao ?_;exact eU (congrArg _ hs)
 | succ n =>
  unfold LL at hs;repeat' (first|refine av ?_ ?_|(refine aa 9 rfl ?_;first|(refine cB [] (H8 m a) ?_)|(refine cB [] (H8 m b) ?_))|refine aq ?_|exact aw|refine ap fun hb=>?_)
  ·refine eU (congrArg _ ?_);rw [<-hs];simp [*]
  all_goals
   refine ⟨(n,m+1),⟨by dsimp only;omega,by dsimp only;omega,?_⟩,by dsimp only;omega,?_⟩
   ·rw [<-hs];simp [*]
   ·exact aT
theorem n8 (r:Rs):FSpec prog 102 [r.a] [] [] (.b (br r)) []:=by
 unfold br;refine a7 func102 ?_;repeat' (first|refine av ?_ ?_|refine aq ?_|exact aw|refine ap fun hb=>?_)
 all_goals (refine eU ?_;simp [*])
theorem gW (x:Am):FSpec prog 57 [x.a] [] [] (.b (aR x)) []:=by
 refine a7 func57 ?_;refine ao ?_;exact eU rfl
theorem jz (r:Rs) (x:Am):FSpec prog 103 [r.a,x.a] [] [] (.b (aS r x)) []:=by
 unfold aS;refine a7 func103 ?_;have:=n8 r;have:=n7 x.mode;repeat' (first|refine av ?_ ?_|refine gV ?_|refine aq ?_|exact aw|refine ap fun hb=>?_)
 all_goals (refine eU ?_;simp [*] <;> rfl)
theorem yC (r:Rs) (x:Am):FSpec prog 56 [r.a,x.a] [] [] (.b (bQ r x)) []:=by
 unfold bQ;refine a7 func56 ?_;have:=n8 r;have:=gW x;have:=jz r x;repeat' (first|refine av ?_ ?_|refine gV ?_|refine aq ?_|exact aw|refine ap fun hb=>?_)
 all_goals (refine eU ?_;simp [*])
theorem dJ (r:Rs) (x y:Am):FSpec prog 23 [r.a,x.a,y.a] [] [] (.b (bq r x y)) []:=by
 unfold bq;refine a7 func23 ?_;repeat' (first|refine av ?_ ?_|(refine aa 9 rfl ?_;first|(refine cB [] (yC r x) ?_)|(refine cB [] (yC r y) ?_)|(refine cB [] (gW y) ?_)|(refine cB [] (gW x) ?_)|(refine cB [] (H8 x.mode y.mode) ?_))|refine aq ?_|exact aw|refine ap fun hb=>?_)
 all_goals (refine eU ?_;simp [*])
theorem LM (r:Rs) (x y:Am):FSpec prog 227 [r.a,x.a,y.a] [] [] (.v (cn r x y).a) []:=by
 obtain ⟨v,hv⟩:=qGe (cn r x y);rw [hv];unfold cn at hv;refine a7 func227 ?_;repeat' (first|refine av ?_ ?_|(refine aa 9 rfl ?_;first|(refine cB [] (yC r x) ?_)|(refine cB [] (yC r y) ?_)|(refine cB [] (dJ r x y) ?_)|(refine cB [] (dJ r y x) ?_)|(refine cB [] (TD x.mode y.mode) ?_))|refine aq ?_|exact aw|refine ap fun hb=>?_)
 all_goals
  simp only [*,Bool.and_true,Bool.and_false,Bool.true_and,qCt,qCf] at hv;subst hv;exact U4
theorem QK {r:Rs} {a:Am} (hp:bQ r a=true) (h:r.kind=2):0<=a.units/\a.units<=8:=(mJ hp (by omega)).2
theorem Gj (a b:Am) (l:List Am):mo a (b :: l)=((!aR a && !aR b && !mG a.mode b.mode) || mo a l):=rfl
theorem Oj (r:Rs) (l:List Am):FSpec prog 346 [r.a,.one (.sl I9 l)] [] [] (.b (iX r l)) []:=by
  obtain ⟨v,hv⟩:=qGe (iX r l);rw [hv];unfold iX at hv;refine a7 func346 ?_;refine aY (fun c ρ a w hr=>bV (t:=1) hr rfl) (fun hl1=>?_);cases hs:br r with
  | false =>
    rw [hs] at hv;obtain rfl:false=v:=hv;have:=n8 r;exact UG
  | true =>
    rw [hs,Bool.true_and] at hv;have hu:0<=r.units/\r.units<=8:=by have:=cW hs;omega
    have:=n8 r;refine ao ?_;refine ab (fun x:Nat×Int=>x.1<=l.length/\0<=x.2/\x.2<=r.units/\fm r x.2 (l.take x.1) (l.drop x.1)=v) (fun x=>bP [2] [(1,.c (.sl I9 l)),(2,.c (.ptr 2 0)),(5,.i x.2),(6,.i x.1)] [(2,.box 63 [.sc (.string r.name),.sc (.int .i64 r.kind),.sc (.int .i64 r.units),.sc (.int .i64 r.home)])]) (fun x=>l.length-x.1) (0,0) ⟨Nat.zero_le _,Int.le_refl _,hu.1,hv⟩ aT ?_;rintro ⟨i,s⟩ ⟨hi,h0,h1,hs⟩;dsimp only at *
    by_cases hlt:i<l.length
    case neg =>
      rw [qDn (by omega)] at hs;obtain rfl:true=v:=hs;exact UG
    rw [qDc hlt,mI,<-List.take_succ_eq_append_getElem hlt] at hs;cases hp:bQ r l[i] with
    | false =>
      rw [hp] at hs;obtain rfl:false=v:=hs;have:=yC r l[i];exact UG
    | true =>
      rw [hp,Bool.true_and] at hs;by_cases hk:r.kind=2
      · have h2:=QK hp hk
        rw [if_pos hk] at hs;have:=yC r l[i];repeat' (first|refine av ?_ ?_|refine gV ?_|refine aq ?_|exact aw|(refine ap fun hb=>?_;first|(simp [hp] at hb;done)|skip))
        · rw [qDf (by omega)] at hs
          obtain rfl:false=v:=hs;exact U4
        · rw [qDt (by omega),Bool.true_and] at hs
          refine ⟨(i+1,s+l[i].units),⟨by dsimp only;omega,by dsimp only;omega,by dsimp only;omega,hs⟩,by dsimp only;omega,?_⟩;exact aT
      · rw [if_neg hk] at hs
        obtain ⟨c,hc⟩:=qGe (mo l[i] (l.take i));rw [hc] at hs;have hlen:(l.take i).length=i:=by simp;omega
        have:=yC r l[i];refine ao ?_;refine ab (fun k=>k<=i/\mo l[i] ((l.take i).drop k)=c) (fun k=>bP [2] [(1,.c (.sl I9 l)),(2,.c (.ptr 2 0)),(5,.i s),(6,.i i),(7,.i k)] [(2,.box 63 [.sc (.string r.name),.sc (.int .i64 r.kind),.sc (.int .i64 r.units),.sc (.int .i64 r.home)])]) (fun k=>i-k) 0 ⟨Nat.zero_le _,hc⟩ aT ?_;rintro k ⟨hk,hc⟩;by_cases hki:k<i
        · rw [qDc (by omega),Gj,List.getElem_take] at hc
          repeat' (first|refine av ?_ ?_|(refine aa 9 rfl ?_;first|(refine cB [] (gW l[i]) ?_)|(refine cB [] (gW l[k]) ?_)|(refine cB [] (So l[i].mode l[k].mode) ?_))|refine aq ?_|exact aw|refine ap fun hb=>?_)
          all_goals first
            | (obtain rfl:true=c:=by rw [<-hc];simp [*]
               obtain rfl:false=v:=hs;refine cc (qf []) ?_;exact af)
            | (refine ⟨k+1,⟨by omega,by rw [<-hc];simp [*]⟩,by omega,?_⟩
               exact aT)
        · rw [qDn (by omega)] at hc
          obtain rfl:false=c:=hc;refine ao ?_;refine ⟨(i+1,s),⟨by dsimp only;omega,by dsimp only;omega,by dsimp only;omega,hs⟩,by dsimp only;omega,?_⟩;exact aT
end Go.Proofs.YthpgjkjgkhjjlaaGreatDoor
