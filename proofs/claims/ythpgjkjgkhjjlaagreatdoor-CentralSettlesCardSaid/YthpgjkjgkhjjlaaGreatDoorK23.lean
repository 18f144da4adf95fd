/- Part K23 of a proof of statements of chapter 15 (no condition). -/
import Derived.Test.YthpgjkjgkhjjlaaGreatDoorK19
set_option linter.unusedVariables false
set_option linter.unusedSimpArgs false
set_option maxRecDepth 100000
set_option maxHeartbeats 64000000
namespace Go.Proofs.YthpgjkjgkhjjlaaGreatDoor
open Go.RowKit Go.Proofs.Tryz
def ip (s:List Sv) (i:Nat):Int:=if i=0 then 0 else (s[i-1]?.map (·.at_)).getD 0
theorem OH (l:List En) (s:List Sv):FSpec prog 151 [.ag [.sl ke l,.sl lS s]] [] [] (.b (mx l s)) []:=by
 refine a7 func151 ?_;obtain ⟨b,hB⟩:=qGe (mx l s);rw [hB];refine aY (fun c ρ a w hr=>d7 (t:=0) (i:=0) hr rfl rfl) (fun hl0_0=>?_);refine aY (fun c ρ a w hr=>d7 (t:=0) (i:=1) hr rfl rfl) (fun hl0_1=>?_);by_cases h72:l.length<=72
 case neg =>
  obtain rfl:b=false:=by rw [<-hB];simp [mx,h72]
  exact UG
 by_cases h4:s.length<=4
 case neg =>
  obtain rfl:b=false:=by rw [<-hB];simp [mx,h4]
  exact UG
 refine ao ?_;refine ab (fun i=>i<=l.length/\ib (l.take i) (l.drop i)=ib [] l) (fun i=>bP [1] [(1,.c (.ptr 1 0)),(3,.i i)] [(1,.box 80 [.sl ke l,.sl lS s])]) (fun i=>l.length-i) 0 ⟨Nat.zero_le _,by simp⟩ aT ?_;rintro i ⟨hi,hs⟩;by_cases hlt:i<l.length
 ·obtain ⟨e,he⟩:=qGe (l[i]);have hge:l[i]? = some e:=by rw [qGg hlt,he]
  have hst:ib [] l=(dh e.name.toList && decide (e.before=aC (l.take i) e.name) && dX e.before e.after && ib (l.take (i+1)) (l.drop (i+1))):=by
   rw [<-hs,qDc hlt,he,List.take_succ_eq_append_getElem hlt,he];rfl
  by_cases hok:dh e.name.toList=true/\e.before=aC (l.take i) e.name/\dX e.before e.after=true
  ·obtain ⟨k1,k2,k3⟩:=hok;have:=Ck e.name;have:=j5 (l.take i) e.name;have:=LW e.before e.after;refine ao ?_;refine ⟨i+1,⟨by omega,?_⟩,by omega,?_⟩
   ·rw [hst,k1,k3];simp [k2]
   ·exact aT
  ·obtain rfl:b=false:=by
    rw [<-hB];have:ib [] l=false:=by
     rw [hst];cases h1:dh e.name.toList with
     | false=>rfl
     | true =>
      cases h3:dX e.before e.after with
      | false=>simp
      | true =>
       have:e.before≠aC (l.take i) e.name:=fun h=>hok ⟨h1,h,h3⟩;simp [this]
    simp [mx,this]
   have hok1:dh e.name.toList=true->e.before=aC (l.take i) e.name->dX e.before e.after=true->False:=fun a b c=>hok ⟨a,b,c⟩;clear hok;have:=Ck e.name;have:=j5 (l.take i) e.name;have:=LW e.before e.after;repeat' (first|refine av ?_ ?_|refine gV ?_|refine aq ?_|exact aw|(refine ap fun hb=>?_;first|(exact (hok1 (by assumption) (by assumption) (by assumption)).elim)|skip)|exact bg|fail)
 have hE:ib [] l=true:=by rw [<-hs,qDn (by omega)];rfl
 by_cases h8:(cg l).length<=8
 case neg =>
  obtain rfl:b=false:=by rw [<-hB];simp [mx,h8]
  have:=yH l (by omega);exact UG
 have:=yH l (by omega);refine ao ?_;refine ab (fun i=>i<=s.length/\ou s l.length i (ip s i) (s.drop i)=ou s l.length 0 0 s) (fun i=>bP [1] [(1,.c (.ptr 1 0)),(5,.i i)] [(1,.box 80 [.sl ke l,.sl lS s])]) (fun i=>s.length-i) 0 ⟨Nat.zero_le _,rfl⟩ aT ?_;clear hs hi hlt;rintro j ⟨hj,hs⟩;have hBB:b=ou s l.length 0 0 s:=by rw [<-hB];simp [mx,h72,h4,hE,h8]
 by_cases hlt:j<s.length
 case neg =>
  obtain rfl:b=true:=by rw [hBB,<-hs,qDn (by omega)];rfl
  exact UG
 obtain ⟨x,hx⟩:=qGe (s[j]);have hgx:s[j]? = some x:=by rw [qGg hlt,hx]
 have hst:ou s l.length 0 0 s=(decide (1<=x.label) && decide (x.label<=99) && decide (0<=x.at_) && decide (x.at_<=l.length) && decide (ip s j<=x.at_) && decide (bb x.label 0 s=(j:Int)) && ou s l.length (j+1) x.at_ (s.drop (j+1))):=by
  rw [<-hs,qDc hlt,hx];rfl
 have hnx:ip s (j+1)=x.at_:=by simp [ip,hgx]
 by_cases hok:(1<=x.label/\x.label<=99)/\(0<=x.at_/\x.at_<=l.length)/\ip s j<=x.at_/\bb x.label 0 s=(j:Int)
 ·obtain ⟨⟨k1,k2⟩,⟨k3,k4⟩,k5,k6⟩:=hok;have hgo:ou s l.length (j+1) (ip s (j+1)) (s.drop (j+1))=ou s l.length 0 0 s:=by rw [hst,hnx];simp [k1,k2,k3,k4,k5,k6]
  rcases Nat.eq_zero_or_pos j with h0|h0
  ·subst h0;have:=lW s x.label;refine ao ?_;refine ⟨0+1,⟨by omega,hgo⟩,by omega,?_⟩;exact aT
  ·obtain ⟨y,hy⟩:∃y,s[((j:Int)-1).toNat]? = some y:=⟨_,qGg (by omega)⟩;have hp:ip s j=y.at_:=by
    have e:((j:Int)-1).toNat=j-1:=by omega
    rw [e] at hy;simp [ip,hy,show j≠0 by omega]
   have:=lW s x.label;refine ao ?_;refine ⟨j+1,⟨by omega,hgo⟩,by omega,?_⟩;exact aT
 ·have hok1:1<=x.label->x.label<=99->0<=x.at_->x.at_<=l.length->ip s j<=x.at_->bb x.label 0 s=(j:Int)->False:=fun a b c d e f=>hok ⟨⟨a,b⟩,⟨c,d⟩,e,f⟩;obtain rfl:b=false:=by
   rw [hBB,hst];cases hh:(decide (1<=x.label) && decide (x.label<=99) && decide (0<=x.at_) && decide (x.at_<=l.length) && decide (ip s j<=x.at_) && decide (bb x.label 0 s=(j:Int))) with
   | false=>rfl
   | true =>
    simp only [qBa,decide_eq_true_eq] at hh;exact (hok1 hh.1.1.1.1.1 hh.1.1.1.1.2 hh.1.1.1.2 hh.1.1.2 hh.1.2 hh.2).elim
  clear hok;rcases Nat.eq_zero_or_pos j with h0|h0
  ·subst h0;have hp:ip s 0=0:=rfl;have:=lW s x.label;exact Vw
  ·obtain ⟨y,hy⟩:∃y,s[((j:Int)-1).toNat]? = some y:=⟨_,qGg (by omega)⟩;have hp:ip s j=y.at_:=by
    have e:((j:Int)-1).toNat=j-1:=by omega
    rw [e] at hy;simp [ip,hy,show j≠0 by omega]
   have:=lW s x.label;exact Vw
def OI (R:Lg×Int):TV:=.tup [R.1.a,.one (.sc (.int .i64 R.2))]
theorem eZ {l:List En} {s:List Sv} (h:mx l s=true):l.length<=72/\s.length<=4:=by
 simp only [mx,qBa,decide_eq_true_eq] at h;exact ⟨h.1.1.1.1,h.1.1.1.2⟩
theorem dq (g:Lg):FSpec prog 151 [g.a] [] [] (.b (rT g)) []:=OH g.entries g.saves
theorem OJ (g:Lg) (e:En) {R:Lg×Int} (hR:d8 g e=R):FSpec prog 165 [g.a,e.a] [] [] (OI R) []:=by
 refine a7 func165 ?_;cases hV:rT g with
 | false =>
  obtain rfl:R=(.zero,2):=by rw [<-hR];simp [d8,hV]
  have:=dq g;refine ao ?_
  (refine fE (qf []) ?_;exact af)
 | true =>
  obtain ⟨h1,h2⟩:=eZ hV;cases hV2:rT ⟨g.entries++[e],g.saves⟩ with
  | false =>
   obtain rfl:R=(.zero,1):=by rw [<-hR];simp [d8,hV,hV2]
   exact Ve
  | true =>
   obtain rfl:R=(⟨g.entries++[e],g.saves⟩,0):=by rw [<-hR];simp [d8,hV,hV2]
   exact Ve
theorem Sx (g:Lg) (n:Int) {R:Lg×Int} (hR:da g n=R):FSpec prog 96 [g.a,.one (.sc (.int .i64 n))] [] [] (OI R) []:=by
 refine a7 func96 ?_;cases hV:rT g with
 | false =>
  obtain rfl:R=(.zero,2):=by rw [<-hR];simp [da,hV]
  have:=dq g;refine ao ?_
  (refine fE (qf []) ?_;exact af)
 | true =>
  obtain ⟨h1,h2⟩:=eZ hV;by_cases hn:1<=n/\n<=99
  case neg =>
   obtain rfl:R=(.zero,1):=by
    rw [<-hR];unfold da;rw [hV];have:(decide (1<=n) && decide (n<=99))=false:=by rw [Bool.and_eq_false_iff];simp;omega
    rw [this];rfl
   have:=dq g;repeat' (first|refine av ?_ ?_|refine gV ?_|refine aq ?_|exact aw|refine ap fun hb=>?_|(refine fE (qf []) ?_;exact af))
  obtain ⟨hn1,hn2⟩:=hn;by_cases hf:0<=bb n 0 g.saves
  case pos =>
   obtain rfl:R=(.zero,11):=by rw [<-hR];simp [da,hV,hn1,hn2,hf]
   have:=dq g;have:=lW g.saves n;refine ao ?_
   (refine fE (qf []) ?_;exact af)
  by_cases h4:g.saves.length=4
  case pos =>
   obtain rfl:R=(.zero,4):=by rw [<-hR];simp [da,hV,hn1,hn2,hf,h4]
   have:=dq g;have:=lW g.saves n;refine ao ?_
   (refine fE (qf []) ?_;exact af)
  obtain rfl:R=(⟨g.entries,g.saves++[⟨n,g.entries.length⟩]⟩,0):=by rw [<-hR];simp [da,hV,hn1,hn2,hf,h4]
  repeat' (first|refine av ?_ ?_|(refine aa 8 rfl ?_;refine be (ae rfl rfl (aH rfl rfl) (aN [⟨n,g.entries.length⟩] rfl rfl rfl rfl) rfl aQ aQ) rfl rfl rfl ?_)|(refine aa 9 rfl ?_;first|(refine cB [] (dq g) ?_)|(refine cB [] (lW g.saves n) ?_))|refine aq ?_|exact aw|refine ap fun hb=>?_|(refine fE (qf []) ?_;exact af))
theorem yI (g:Lg) (h72:g.entries.length<=72):FSpec prog 39 [g.a] [] [] (.c (.sl c6 (dx g))) []:=by
 refine a7 func39 ?_;have hnl:(cg g.entries).length<=72:=by
  have:∀(l:List En) (acc:List ByteArray),(ew acc l).length<=acc.length+l.length:=by
   intro l;induction l with
   | nil=>intro acc;simp [ew]
   | cons e l ih =>
    intro acc;rw [lX];cases eY e.name acc with
    | true=>have:=ih acc;simp;omega
    | false=>have:=ih (ja e.name acc);rw [lh] at this;simp;omega
  have:=this g.entries [];simp at this;exact Nat.le_trans this h72
 have:=yH g.entries (by omega);refine ao ?_;obtain ⟨N,hN⟩:=qGe (cg g.entries);rw [hN] at hnl;obtain ⟨F,hF⟩:∃F:List ByteArray->List Tm,F=fun L=>(L.map fun m=>(⟨m,aC g.entries m⟩:Tm)).filter fun a=>!aR a.am:=⟨_,rfl⟩;have hH:dx g=F N:=by rw [hF,<-hN];rfl
 rw [hH,hN];refine cj 3 1000 44 c6 rfl rfl rfl ?_;refine ab (fun x:Nat×List Tm=>x.1<=N.length/\x.2.length<=x.1/\x.2++F (N.drop x.1)=F N) (fun x=>bP [1,1000] [(1,.c (.ptr 1 0)),(3,.c (.own 1000)),(4,.c (.sl xF N)),(5,.i x.1)] [(1,.box 80 [.sl ke g.entries,.sl lS g.saves]),(1000,.arr 44 c6 x.2)]) (fun x=>N.length-x.1) (0,[]) ⟨Nat.zero_le _,Nat.le_refl _,rfl⟩ aT ?_;rintro ⟨i,acc⟩ ⟨hi,hal,hs⟩;dsimp only at *
 by_cases hlt:i<N.length
 ·have e:F (N.drop i)=(bif aR (aC g.entries N[i]) then [] else [⟨N[i],aC g.entries N[i]⟩])++F (N.drop (i+1)):=by
   rw [qDc hlt,hF];dsimp only;rw [List.map_cons,List.filter_cons];cases aR (aC g.entries N[i]) <;> rfl
  rw [e] at hs;repeat' (first|refine av ?_ ?_|(refine aa 8 rfl ?_;refine be (ae rfl rfl (aH rfl rfl) (aN [⟨N[i],aC g.entries N[i]⟩] rfl rfl rfl rfl) rfl aQ aQ) rfl rfl rfl ?_)|refine aa 9 rfl (cB [] (j5 g.entries N[i]) ?_)|refine aq ?_|exact aw|refine ap fun hb=>?_)
  ·refine ⟨(i+1,acc++[⟨N[i],aC g.entries N[i]⟩]),⟨by dsimp only;omega,by simp;omega,?_⟩,by dsimp only;omega,?_⟩
   ·rw [<-hs];simp [aR,hb]
   ·exact bo (qf [(1000,34)])
  ·refine ⟨(i+1,acc),⟨by dsimp only;omega,by dsimp only;omega,?_⟩,by dsimp only;omega,?_⟩
   ·rw [<-hs];simp [aR,hb]
   ·exact aT
 ·have e:acc=F N:=by rw [<-hs,qDn (by omega)];simp [hF]
  refine ao ?_;rw [<-e];exact U4
end Go.Proofs.YthpgjkjgkhjjlaaGreatDoor
