/- Part K21 of a proof of statements of chapter 15 (no condition). -/
import Derived.Test.YtkkbopkbjacfmaaGreatDoorK14
import Derived.Test.YtkkbopkbjacfmaaGreatDoorK17
import Derived.Test.YtkkbopkbjacfmaaGreatDoorK19
set_option linter.unusedVariables false
set_option linter.unusedSimpArgs false
set_option maxRecDepth 100000
set_option maxHeartbeats 64000000
namespace Go.Proofs.YtkkbopkbjacfmaaGreatDoor
open Go.RowKit Go.Proofs.Tryz
def Nd.d (d:Nat) (x:Nd):List D:=[.sc (.int .i64 x.proc.site),.sc (.int .i64 x.proc.inc),.sc (.int .i64 x.proc.num),.sc (.int .i64 x.expr.k),.sc (.string x.expr.atom.name),.sc (.int .i64 x.expr.atom.am.mode),.sc (.int .i64 x.expr.atom.am.units),.sl (qF d) x.expr.kids,.sc (.int .i64 x.gen)]
def Nd.a (d:Nat) (x:Nd):V0:=.ag (x.d d)
instance (d:Nat):Dp (B9 d) where
 deep:=Nd.d d
 get:=by
  rintro w F ρ x cs ⟨A,c,rfl,h1,h2⟩;exact ⟨rfl,rfl,rfl,rfl,rfl,rfl,rfl,⟨A,c,rfl,h1,h2⟩,rfl,trivial⟩
 put:=by
  intro w F ρ x cs h
  match cs,h with
  | [_,_,_,_,_,_,_,_,_],⟨rfl,rfl,rfl,rfl,rfl,rfl,rfl,⟨A,c,rfl,h1,h2⟩,rfl,_⟩=>exact ⟨A,c,rfl,h1,h2⟩
 nok:=fun _ _=>rfl
instance (d:Nat):ST prog (B9 d) 26 68 96:=⟨ElTB.mk' underlying26 (.agg #[.int .i64 0,.int .i64 0,.int .i64 0,.int .i64 0,.string ⟨#[]⟩,.int .i64 0,.int .i64 0,.slice none 0 0,.int .i64 0]) 9 96 (by kernel_rfl) rfl rfl⟩
def Ws.d (d:Nat) (s:Ws):List D:=[.sl ic s.queues,.sl (B9 d) s.needs]
def Ws.a (d:Nat) (s:Ws):V0:=.ag (s.d d)
theorem tU (d:Nat) (s:Ws) (h1:s.queues.length<=12) (h2:s.needs.length<=12) (h8:∀q∈s.queues,fq q):FSpec prog 30 [s.a d] [] [] (.c (.sl eh (aR s))) []:=by
 obtain ⟨R,hR⟩:=qGe (aD s.queues++lV s.needs);have hlt:=uy h8;have hRl:R.length<=300:=by rw [<-hR];simp [lV];omega
 have kT:=AJ true s.queues h1 h8;obtain ⟨T,hT⟩:=qGe (aD s.queues);unfold aR;rw [hR];rw [hT] at hR kT;clear h8 hlt hT;refine aS func30 ?_;repeat' (first|refine az ?_ ?_|refine aa 9 rfl (cH (qf [(0,1000)]) kT ?_)|refine ay ?_|exact aA|refine ax fun hb=>?_)
 refine ab (fun x:Nat×List Pr=>x.1<=s.needs.length/\x.2++lV (s.needs.drop x.1)=R) (fun x=>bC [1,1000] [(1,.c (.ptr 1 0)),(3,.c (.own 1000)),(4,.i x.1)] [(1,.box 28 (s.d d)),(1000,.arr 42 eh x.2)]) (fun x=>s.needs.length-x.1) (0,T) ⟨Nat.zero_le _,hR⟩ aL ?_;rintro ⟨i,out⟩ ⟨hi,hs⟩;dsimp only at *
 have hol:out.length<=300:=by have:=congrArg List.length hs;simp at this;omega
 by_cases hlt:i<s.needs.length
 ·rw [qDc hlt,lV,List.map_cons] at hs;repeat' (first|refine az ?_ ?_|(refine aa 8 rfl ?_;refine aK (ae rfl rfl (av rfl rfl) (aB [s.needs[i].proc] rfl rfl rfl rfl) rfl aE aE) rfl rfl rfl ?_)|refine ay ?_|exact aA|refine ax fun hb=>?_)
  refine ⟨(i+1,out++[s.needs[i].proc]),⟨by dsimp only;omega,by rw [<-hs];simp [lV]⟩,by dsimp only;omega,?_⟩;exact a8 (qf [(1000,23)])
 ·rw [qDn (by omega)] at hs;obtain rfl:out=R:=by rw [<-hs];simp [lV]
  repeat' (first|refine az ?_ ?_|refine aa 9 rfl (cC [1000] (CQ out (by omega)) ?_)|refine ay ?_|exact aA|refine ax fun hb=>?_|exact aT|fail)
theorem mV (d:Nat) (s:Ws):FSpec prog 27 [s.a d] [] [] (.b (bb s)) []:=by
  obtain ⟨v,hv⟩:=qGe (bb s);rw [hv];unfold bb at hv;refine aS func27 ?_;refine aP (fun c ρ a w hr=>cG (t:=0) (i:=1) hr rfl rfl) (fun hl0_1=>?_);cases hP:cM s.queues with
  | false =>
    rw [hP] at hv;obtain rfl:false=v:=hv;have:=vj s.queues;exact QY
  | true =>
    obtain ⟨hq8,hsh⟩:=kK hP;by_cases h8:8<s.needs.length
    · rw [qDf (by omega)] at hv
      obtain rfl:false=v:=by rw [<-hv];simp
      have:=vj s.queues;exact QY
    rw [hP,qDt (by omega),Bool.true_and,Bool.true_and] at hv;have kW:=tU d s (by omega) (by omega) hsh;obtain ⟨W,hW⟩:=qGe (aR s);rw [hW] at kW hv;clear hsh hW;have:=vj s.queues;refine ao ?_;refine ab (fun i=>i<=s.needs.length/\(oo (vo s.needs i) (s.needs.drop i) && decide (W.length<=8))=v) (fun i=>bC [1] [(1,.c (.ptr 1 0)),(3,.i i)] [(1,.box 28 (s.d d))]) (fun i=>s.needs.length-i) 0 ⟨Nat.zero_le _,hv⟩ aL ?_;rintro i ⟨hi,hs⟩;by_cases hlt:i<s.needs.length
    · obtain ⟨x,hx⟩:∃x,s.needs[i]? = some x:=⟨_,qGg hlt⟩
      have ex:=qGs hx;have hnx:=vr hlt ex;rw [qDc hlt,ex,fd,<-hnx] at hs;unfold NB at hs;clear ex hv;rcases Nat.eq_zero_or_pos i with h0|h0
      · subst h0
        rw [vq] at hs;have:=eS x.proc;have:=CS d x.expr;repeat' (first|refine az ?_ ?_|refine fV ?_|refine ay ?_|exact aA|(refine ax fun hb=>?_;first|(simp at hb;done)|skip))
        all_goals first
          | (obtain rfl:false=v:=by rw [<-hs];first|(simp [*];done)|(simp [show ¬x.gen<=1073741824 by omega];done)|(simp [show ¬0<=x.gen by omega];done)
             refine cn (qf []) ?_;exact ak)
          | (refine ⟨1,⟨by omega,by rw [<-hs];simp [*,CT,show x.gen<=1073741824 by omega,show 0<=x.gen by omega]⟩,by omega,?_⟩
             exact aL)
      · obtain ⟨m,hm⟩:=qGe (s.needs[i-1])
        have hgm:s.needs[((i:Int)-1).toNat]? = some m:=by rw [show ((i:Int)-1).toNat=i-1 by omega,qGg (by omega),hm]
        rw [xJ h0 (by omega) hm] at hs;unfold CT at hs;dsimp only at hs;clear hnx;have:=eS x.proc;have:=CS d x.expr;have:=iO m.proc x.proc;repeat' (first|refine az ?_ ?_|refine fV ?_|refine ay ?_|exact aA|refine ax fun hb=>?_)
        all_goals first
          | (obtain rfl:false=v:=by rw [<-hs];first|(simp [*];done)|(simp [show ¬bH m.proc x.proc<0 by omega];done)|(simp [show ¬x.gen<=1073741824 by omega];done)|(simp [show ¬0<=x.gen by omega];done)
             refine cn (qf []) ?_;exact ak)
          | (refine ⟨i+1,⟨by omega,by rw [<-hs];simp [*,show bH m.proc x.proc<0 by omega,show x.gen<=1073741824 by omega,show 0<=x.gen by omega]⟩,by omega,?_⟩
             exact aL)
    · rw [qDn (by omega)] at hs
      have hs:decide (W.length<=8)=v:=hs;rw [show decide (W.length<=8)=decide ((W.length:Int)<=8) by rw [decide_eq_decide];omega] at hs;refine ao ?_;exact eR (congrArg _ hs)
def QW:Nd:=⟨⟨0,0,0⟩,Ex.zero,0⟩
def O4 (d:Nat) (r:Option Nd):TV:=.tup [(r.getD QW).a d,.one (.sc (.bool r.isSome))]
theorem vw (d:Nat) (s:Ws) (p:Pr) {r:Option Nd} (hr:lr s.needs p=r):FSpec prog 28 [s.a d,p.a] [] [] (O4 d r) []:=by
 refine aS func28 ?_;refine aP (fun c ρ a w hr=>cG (t:=0) (i:=1) hr rfl rfl) (fun hl0_1=>?_);refine ao ?_;refine ab (fun i=>i<=s.needs.length/\lr (s.needs.drop i) p=r) (fun i=>bC [2,3,4] [(2,.c (.ptr 2 0)),(3,.c (.ptr 3 0)),(4,.c (.ptr 4 0)),(6,.i i)] [(2,.box 28 (s.d d)),(3,.box 42 [.sc (.int .i64 p.site),.sc (.int .i64 p.inc),.sc (.int .i64 p.num)]),(4,.box 68 [.sc (.int .i64 0),.sc (.int .i64 0),.sc (.int .i64 0),.sc (.int .i64 0),.sc (.string ⟨#[]⟩),.sc (.int .i64 0),.sc (.int .i64 0),.sc (.slice none 0 0),.sc (.int .i64 0)])]) (fun i=>s.needs.length-i) 0 ⟨Nat.zero_le _,hr⟩ aL ?_;clear hr;rintro i ⟨hi,hs⟩;by_cases hlt:i<s.needs.length
 ·obtain ⟨x,hx⟩:∃x,s.needs[i]? = some x:=⟨_,qGg hlt⟩;have ex:=qGs hx;rw [qDc hlt,ex,vt] at hs;by_cases hp:x.proc=p
  ·rw [qDt hp] at hs;obtain rfl:r=some x:=hs.symm;refine ao ?_
   (refine gG (qf []) ?_;exact ak)
  ·rw [qDf hp,qCf] at hs;exact Q7
 ·rw [qDn (by omega)] at hs;obtain rfl:r=none:=hs.symm;refine ao ?_
  (refine gG (qf []) ?_;exact ak)
theorem NC (d:Nat) (s:Ws) (p:Pr) (n:ByteArray) {v:Bool} (hv:ml n p s.queues=v):FSpec prog 214 [s.a d,p.a,.one (.sc (.string n))] [] [] (.b v) []:=by
 have k1:=om s.queues n;refine aS func214 ?_;refine aP (fun c ρ a w hr=>cG (t:=0) (i:=0) hr rfl rfl) (fun hl0_0=>?_);rcases vu n p s.queues 0 with ⟨h1,h2⟩|⟨i,h,h1,h2,_⟩
 ·rw [h1] at k1;obtain rfl:false=v:=h2.symm.trans hv;exact QY
 ·rw [h1,Nat.zero_add] at k1;obtain rfl:(ah s.queues[i] p).isSome=v:=h2.symm.trans hv;have kW:=Ea s.queues[i] p;clear h1 h2 hv;obtain ⟨q,hq⟩:=qGe (s.queues[i]);have hgq:s.queues[i]? = some q:=by rw [qGg h,hq]
  rw [hq] at kW;rw [hq];exact QY
theorem Iu {α:Type} {l:List α} {f:α->Bool} {i:Nat} (h:i<l.length):((l.take i).map f++List.replicate (l.length-i) false).set i (f l[i])=(l.take (i+1)).map f++List.replicate (l.length-(i+1)) false:=by
 obtain ⟨n,hn⟩:∃n,l.length-i=n+1:=⟨l.length-i-1,by omega⟩;rw [hn,show l.length-(i+1)=n by omega,List.set_append_right _ _ (by simp;omega),List.take_succ_eq_append_getElem h,List.replicate_succ,show i-((l.take i).map f).length=0 by simp;omega,List.set_cons_zero,List.map_append,List.append_assoc];rfl
theorem FU (d:Nat) (s:Ws) (p:Pr):FSpec prog 125 [s.a d,p.a] [] [] (.c (.sl eI (oq s p))) []:=by
 have hmk:prog.underlying 112=some (.slice 4):=underlying112;have hib:(prog.info? 4).map (fun i=>(i.zero,i.size,i.bytes))=some (some (.bool false),1,1):=by kernel_rfl
 unfold oq;cases hn:lr s.needs p with
 | none =>
  have kN:=vw d s p hn;refine aS func125 ?_;exact QY
 | some x =>
  have kN:=vw d s p hn;cases hS:bb s with
  | false =>
   refine aS func125 ?_;have:=mV d s;exact QY
  | true =>
   obtain ⟨L,hL⟩:=qGe (cR x.expr);have h8:L.length<=8:=by
    rw [<-hL];cases hv:nZ x.expr with
    | true=>exact (ux hv).2.2.1
    | false=>rw [yz hv];simp
   have kA:=Ee d x.expr;dsimp only;rw [qCt,hL];rw [hL] at kA;clear hn;refine aS func125 ?_;repeat' (first|refine az ?_ ?_|(refine aa 9 rfl ?_;first|(refine cC [] kN ?_)|(refine cB [] (mV d s) ?_)|(refine cC [] kA ?_))|(refine aa 20 rfl ?_;refine aK (jM (E:=eI) (y0:=false) hmk hib rfl (by decide) rfl (fun _ _=>rfl) rfl rfl rfl rfl (by first|omega|simp)) rfl rfl rfl ?_)|refine ay ?_|exact aA|(refine ax fun hb=>?_;first|(simp [hS] at hb;done)|skip))
   refine ab (fun i=>i<=L.length) (fun i=>bC [2,3,1000] [(2,.c (.ptr 2 0)),(3,.c (.ptr 3 0)),(7,.c (.sl da L)),(8,.c (.own 1000)),(9,.i i)] [(2,.box 28 (s.d d)),Eb 3 p,(1000,.arr 4 eI ((L.take i).map (fun a=>!ml a.name p s.queues)++List.replicate (L.length-i) false))]) (fun i=>L.length-i) 0 (Nat.zero_le _) (by exact a8 (qf [(1000,28)])) ?_;intro i hi;have hM:((L.take i).map (fun a=>!ml a.name p s.queues)++List.replicate (L.length-i) false).length=L.length:=by simp;omega
   by_cases hlt:i<L.length
   ·have hst:=Iu (f:=fun a=>!ml a.name p s.queues) hlt;obtain ⟨v,hv⟩:=qGe (ml L[i].name p s.queues);have kW:=NC d s p L[i].name hv;simp only [hv] at hst;repeat' (first|refine az ?_ ?_|refine aa 9 rfl (cB [] kW ?_)|refine ay ?_|(refine aa 4 rfl ?_;refine bW (aM (z:=!v) rfl rfl rfl rfl (by first|assumption|exact qGg (by omega)) rfl rfl rfl rfl (qNl rfl) rfl rfl) rfl rfl rfl ?_)|exact aA|refine ax fun hb=>?_)
    exact RD
   ·obtain rfl:i=L.length:=by omega
    rw [List.take_length,Nat.sub_self,List.replicate_zero,List.append_nil];exact QY
end Go.Proofs.YtkkbopkbjacfmaaGreatDoor
