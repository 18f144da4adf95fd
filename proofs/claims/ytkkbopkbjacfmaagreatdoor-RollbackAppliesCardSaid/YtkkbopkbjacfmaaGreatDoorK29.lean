/- Part K29 of a proof of statements of chapter 15 (no condition). -/
import Derived.Test.YtkkbopkbjacfmaaGreatDoorK21
import Derived.Test.YtkkbopkbjacfmaaGreatDoorK23
set_option linter.unusedVariables false
set_option linter.unusedSimpArgs false
set_option maxRecDepth 100000
set_option maxHeartbeats 64000000
namespace Go.Proofs.YtkkbopkbjacfmaaGreatDoor
open Go.RowKit Go.Proofs.Tryz
theorem E1 (d:Nat) (s:Ws) (h1:s.queues.length<=12) (h2:s.needs.length<=12) (h8:∀q∈s.queues,fq q):FSpec prog 45 [s.a d] [] [] (.c (.sl eh (aR s))) []:=by
 obtain ⟨R,hR⟩:=qGe (aD s.queues++lV s.needs);have hlt:=uy h8;have hRl:R.length<=300:=by rw [<-hR];simp [lV];omega
 have kT:=L3 s.queues h1 h8;obtain ⟨T,hT⟩:=qGe (aD s.queues);unfold aR;rw [hR];rw [hT] at hR kT hlt;clear h8 hT;refine aS func45 ?_;refine ao ?_;refine ab (fun x:Nat×List Pr=>x.1<=s.needs.length/\x.2++lV (s.needs.drop x.1)=R) (fun x=>bC [1,1000] [(1,.c (.ptr 1 0)),(3,.c (.own 1000)),(11,.c (.sl (B9 d) s.needs)),(12,.i s.needs.length),(13,.i x.1)] [(1,.box 28 (s.d d)),(1000,.arr 42 eh x.2)]) (fun x=>s.needs.length-x.1) (0,T) ⟨Nat.zero_le _,hR⟩ (by exact a8 (qf [(1000,9)])) ?_;rintro ⟨i,out⟩ ⟨hi,hs⟩;dsimp only at *
 have hol:out.length<=300:=by have:=congrArg List.length hs;simp at this;omega
 by_cases hlt:i<s.needs.length
 ·rw [qDc hlt,lV,List.map_cons] at hs;repeat' (first|refine az ?_ ?_|(refine aa 8 rfl ?_;refine aK (ae rfl rfl (av rfl rfl) (aB [s.needs[i].proc] rfl rfl rfl rfl) rfl aE aE) rfl rfl rfl ?_)|refine ay ?_|exact aA|refine ax fun hb=>?_)
  refine ⟨(i+1,out++[s.needs[i].proc]),⟨by dsimp only;omega,by rw [<-hs];simp [lV]⟩,by dsimp only;omega,?_⟩;exact a8 (qf [(1000,21)])
 ·rw [qDn (by omega)] at hs;obtain rfl:out=R:=by rw [<-hs];simp [lV]
  repeat' (first|refine az ?_ ?_|((fail_if_success (first|refine po 7 ?_|refine pp 7 ?_));refine ay ?_)|exact aA|refine ax fun hb=>?_)
  refine kx 1000 rfl ?_;have:=Dt out (by omega);exact QY
theorem Me (d:Nat) (s:Ws):FSpec prog 42 [s.a d] [] [] (.b (bb s)) []:=by
  obtain ⟨v,hv⟩:=qGe (bb s);rw [hv];have hpart:cM s.queues=true->∀q∈s.queues,fq q:=fun h=>(kK h).2;unfold bb at hv;refine aS func42 ?_;refine aP (fun c ρ a w hr=>cG (t:=0) (i:=0) hr rfl rfl) (fun hl0_0=>?_);refine aP (fun c ρ a w hr=>cG (t:=0) (i:=1) hr rfl rfl) (fun hl0_1=>?_);by_cases h8:8<s.queues.length
  · obtain rfl:false=v:=by rw [<-hv];unfold cM;rw [qDf (by omega)];rfl
    exact QY
  by_cases h9:8<s.needs.length
  · obtain rfl:false=v:=by rw [<-hv,qDf (show ¬s.needs.length<=8 by omega)];simp
    exact QY
  obtain ⟨VN,hVN⟩:∃b,oo none s.needs=b:=⟨_,rfl⟩;obtain ⟨VQ,hVQ⟩:∃b,jz none s.queues=b:=⟨_,rfl⟩;have hPB:cM s.queues=VQ:=by unfold cM;rw [qDt (by omega),hVQ];rfl
  rw [hPB] at hv hpart;rw [qDt (show s.needs.length<=8 by omega),hVN] at hv;clear hPB;have kW:VQ=true->FSpec prog 45 [s.a d] [] [] (.c (.sl eh (aR s))) []:=fun h=>E1 d s (by omega) (by omega) (hpart h);obtain ⟨W,hW⟩:=qGe (aR s);rw [hW] at kW hv;clear hW hpart;refine ao ?_;refine ab (fun i=>i<=s.queues.length/\jz (um s.queues i) (s.queues.drop i)=VQ) (fun i=>bC [1] [(1,.c (.ptr 1 0)),(18,.c (.sl ic s.queues)),(19,.i s.queues.length),(20,.i i)] [(1,.box 28 (s.d d))]) (fun i=>s.queues.length-i) 0 ⟨Nat.zero_le _,hVQ⟩ aL ?_;clear hVQ;rintro i ⟨hi,hs⟩;by_cases hlt:i<s.queues.length
  · obtain ⟨x,hx⟩:∃x,s.queues[i]? = some x:=⟨_,qGg hlt⟩
    have ex:=qGs hx;have hnx:=nX hlt ex;rw [qDc hlt,ex,ct,<-hnx] at hs;have kV:=io x;obtain ⟨sb,hsb⟩:∃b,ai x=b:=⟨_,rfl⟩;rw [hsb] at kV hs;clear ex hsb hVN kW;rcases Nat.eq_zero_or_pos i with h0|h0
    · subst h0
      rw [uo] at hs;repeat' (first|refine az ?_ ?_|refine fV ?_|refine ay ?_|exact aA|(refine ax fun hb=>?_;first|(simp at hb;done)|skip))
      all_goals first
        | (obtain rfl:false=v:=by rw [<-hv,<-hs];simp [*]
           refine cn (qf []) ?_;exact ak)
        | (refine ⟨1,⟨by omega,by rw [<-hs];simp [*,Ka]⟩,by omega,?_⟩
           exact aL)
    · obtain ⟨m,hm⟩:=qGe (s.queues[i-1])
      have hgm:s.queues[((i:Int)-1).toNat]? = some m:=by rw [show ((i:Int)-1).toNat=i-1 by omega,qGg (by omega),hm]
      rw [xo h0 (by omega) hm] at hs;clear hnx;repeat' (first|refine az ?_ ?_|refine fV ?_|refine ay ?_|exact aA|(refine ax fun hb=>?_;first|(omega)|skip))
      all_goals first
        | (obtain rfl:false=v:=by rw [<-hv,<-hs];simp [*,Ka]
           refine cn (qf []) ?_;exact ak)
        | (refine ⟨i+1,⟨by omega,by rw [<-hs];simp [*,Ka]⟩,by omega,?_⟩
           exact aL)
  rw [qDn (by omega)] at hs;obtain rfl:true=VQ:=hs;have kW:=kW rfl;rw [Bool.true_and,Bool.true_and] at hv;clear hi;refine ao ?_;refine ab (fun i=>i<=s.needs.length/\oo (vo s.needs i) (s.needs.drop i)=VN) (fun i=>bC [1] [(1,.c (.ptr 1 0)),(48,.c (.sl (B9 d) s.needs)),(49,.i s.needs.length),(50,.i i)] [(1,.box 28 (s.d d))]) (fun i=>s.needs.length-i) 0 ⟨Nat.zero_le _,hVN⟩ aL ?_;clear hVN hlt;rintro i ⟨hi,hs⟩;by_cases hlt:i<s.needs.length
  · obtain ⟨x,hx⟩:∃x,s.needs[i]? = some x:=⟨_,qGg hlt⟩
    have ex:=qGs hx;have hnx:=vr hlt ex;rw [qDc hlt,ex,fd,<-hnx] at hs;unfold NB at hs;have k1:=oD x.proc;have k2:=zm d x.expr;clear ex kW;rcases Nat.eq_zero_or_pos i with h0|h0
    · subst h0
      rw [vq] at hs;repeat' (first|refine az ?_ ?_|refine fV ?_|refine ay ?_|exact aA|(refine ax fun hb=>?_;first|(simp at hb;done)|(omega)|skip))
      all_goals first
        | (obtain rfl:false=v:=by rw [<-hv,<-hs];first|(simp [*];done)|(simp [show ¬x.gen<=1073741824 by omega];done)|(simp [show ¬0<=x.gen by omega];done)
           refine cn (qf []) ?_;exact ak)
        | (refine ⟨1,⟨by omega,by rw [<-hs];simp [*,CT,show x.gen<=1073741824 by omega,show 0<=x.gen by omega]⟩,by omega,?_⟩
           exact aL)
    · obtain ⟨m,hm⟩:=qGe (s.needs[i-1])
      have hgm:s.needs[((i:Int)-1).toNat]? = some m:=by rw [show ((i:Int)-1).toNat=i-1 by omega,qGg (by omega),hm]
      rw [xJ h0 (by omega) hm] at hs;unfold CT at hs;dsimp only at hs;have k3:=pQ m.proc x.proc;clear hnx;repeat' (first|refine az ?_ ?_|refine fV ?_|refine ay ?_|exact aA|(refine ax fun hb=>?_;first|(omega)|skip))
      all_goals first
        | (obtain rfl:false=v:=by rw [<-hv,<-hs];first|(simp [*];done)|(simp [show ¬bH m.proc x.proc<0 by omega];done)|(simp [show ¬x.gen<=1073741824 by omega];done)|(simp [show ¬0<=x.gen by omega];done)
           refine cn (qf []) ?_;exact ak)
        | (refine ⟨i+1,⟨by omega,by rw [<-hs];simp [*,show bH m.proc x.proc<0 by omega,show x.gen<=1073741824 by omega,show 0<=x.gen by omega]⟩,by omega,?_⟩
           exact aL)
  · rw [qDn (by omega)] at hs
    obtain rfl:true=VN:=hs;have hv:decide (W.length<=8)=v:=hv;rw [show decide (W.length<=8)=decide ((W.length:Int)<=8) by rw [decide_eq_decide];omega] at hv;refine ao ?_;exact eR (congrArg _ hv)
end Go.Proofs.YtkkbopkbjacfmaaGreatDoor
