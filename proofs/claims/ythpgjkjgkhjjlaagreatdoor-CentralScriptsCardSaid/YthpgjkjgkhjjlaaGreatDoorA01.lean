/- Part A01 of a proof of statements of chapter 15 (no condition). -/
import Derived.Test.YthpgjkjgkhjjlaaGreatDoorK42
set_option linter.unusedVariables false
set_option linter.unusedSimpArgs false
set_option maxRecDepth 100000
set_option maxHeartbeats 64000000
namespace Go.Proofs.YthpgjkjgkhjjlaaGreatDoor
open Go.RowKit Go.Proofs.Tryz
section
variable {P:Program} {o:Oper} {s:Mst}
theorem cZ {t t':TypeId} {x y:Operand} {la:List D} {a:List Value} {sh:List Nat} [I:EQR P t sh] (ho:o.op = .binOp .neq t x y t') (hx:s.ev x = .v (.ag la)) (hy:s.ev y = .v (.ag la)) (ha:scs la=some a) (h1:a.map shp=sh):LOp P o s [] ⟨.b false,[],[]⟩ :=
 bY fun cx st ρ ac w hr hc _=>by
  have he:=hc x (by simp [ho,Op.operands]);have he2:=hc y (by simp [ho,Op.operands]);exact UP
theorem c5 {t t':TypeId} {x y:Operand} {la:List D} {a:List Value} {sh:List Nat} [I:EQR P t sh] (ho:o.op = .binOp .eql t x y t') (hx:s.ev x = .v (.ag la)) (hy:s.ev y = .v (.ag la)) (ha:scs la=some a) (h1:a.map shp=sh):LOp P o s [] ⟨.b true,[],[]⟩ :=
 bY fun cx st ρ ac w hr hc _=>by
  have he:=hc x (by simp [ho,Op.operands]);have he2:=hc y (by simp [ho,Op.operands]);exact UQ
end
theorem I0 {P:Program} {o:Oper} {s:Mst} {t t':TypeId} {x y:Operand} {a b:Bool} (hT:P.underlying t=some .bool) (ho:o.op = .binOp .eql t x y t') (hx:s.ev x = .b a) (hy:s.ev y = .b b):LOp P o s [] ⟨.b (a == b),[],[]⟩ :=
 iz (by rw [ho];rfl) hx hy fun ev w hx hy=>by simp [execOp,ho,hx,hy,eqGuard,binOp,run_equal_bool w t a b hT]
theorem I1 (L:List Ho):FSpec prog 26 [.one (.sl gM L),.one (.sl gM L)] [] [] (.b true) []:=by
 refine a7 func26 ?_;refine aY (fun c ρ a w hr=>bV (t:=0) hr rfl) (fun hl0=>?_);repeat' (first|refine av ?_ ?_|(refine aa 10 rfl ?_;first|refine sx (cZ rfl rfl rfl rfl rfl) ?_|refine sx (c5 rfl rfl rfl rfl rfl) ?_)|refine aq ?_|exact aw|(refine ap fun hb=>?_;first|(exact absurd rfl hb)|skip))
 refine ab (fun i=>i<=L.length) (fun i=>bP [] [(0,.c (.sl gM L)),(1,.c (.sl gM L)),(5,.i i)] []) (fun i=>L.length-i) 0 (Nat.zero_le _) aT ?_;intro i hi;by_cases hlt:i<L.length
 ·obtain ⟨o,ho⟩:∃o,L[i]? = some o:=⟨_,qGg hlt⟩;repeat' (first|refine av ?_ ?_|(refine aa 10 rfl ?_;first|refine sx (cZ rfl rfl rfl rfl rfl) ?_|refine sx (c5 rfl rfl rfl rfl rfl) ?_)|refine aq ?_|exact aw|(refine ap fun hb=>?_;first|(exact absurd rfl hb)|skip))
  exact UZ
 ·exact UG
theorem I2 (L:List Wt):FSpec prog 171 [.one (.sl fK L),.one (.sl fK L)] [] [] (.b true) []:=by
 refine a7 func171 ?_;refine aY (fun c ρ a w hr=>bV (t:=0) hr rfl) (fun hl0=>?_);repeat' (first|refine av ?_ ?_|(refine aa 10 rfl ?_;first|refine sx (cZ rfl rfl rfl rfl rfl) ?_|refine sx (c5 rfl rfl rfl rfl rfl) ?_)|refine aq ?_|exact aw|(refine ap fun hb=>?_;first|(exact absurd rfl hb)|skip))
 refine ab (fun i=>i<=L.length) (fun i=>bP [] [(0,.c (.sl fK L)),(1,.c (.sl fK L)),(5,.i i)] []) (fun i=>L.length-i) 0 (Nat.zero_le _) aT ?_;intro i hi;by_cases hlt:i<L.length
 ·obtain ⟨o,ho⟩:∃o,L[i]? = some o:=⟨_,qGg hlt⟩;repeat' (first|refine av ?_ ?_|(refine aa 10 rfl ?_;first|refine sx (cZ rfl rfl rfl rfl rfl) ?_|refine sx (c5 rfl rfl rfl rfl rfl) ?_)|refine aq ?_|exact aw|(refine ap fun hb=>?_;first|(exact absurd rfl hb)|skip))
  exact UZ
 ·exact UG
theorem I3 (L:List Ev):FSpec prog 18 [.one (.sl fX L),.one (.sl fX L)] [] [] (.b true) []:=by
 refine a7 func18 ?_;refine aY (fun c ρ a w hr=>bV (t:=0) hr rfl) (fun hl0=>?_);repeat' (first|refine av ?_ ?_|(refine aa 10 rfl ?_;first|refine sx (cZ rfl rfl rfl rfl rfl) ?_|refine sx (c5 rfl rfl rfl rfl rfl) ?_)|refine aq ?_|exact aw|(refine ap fun hb=>?_;first|(exact absurd rfl hb)|skip))
 refine ab (fun i=>i<=L.length) (fun i=>bP [] [(0,.c (.sl fX L)),(1,.c (.sl fX L)),(5,.i i)] []) (fun i=>L.length-i) 0 (Nat.zero_le _) aT ?_;intro i hi;by_cases hlt:i<L.length
 ·obtain ⟨o,ho⟩:∃o,L[i]? = some o:=⟨_,qGg hlt⟩;repeat' (first|refine av ?_ ?_|(refine aa 10 rfl ?_;first|refine sx (cZ rfl rfl rfl rfl rfl) ?_|refine sx (c5 rfl rfl rfl rfl rfl) ?_)|refine aq ?_|exact aw|(refine ap fun hb=>?_;first|(exact absurd rfl hb)|skip))
  exact UZ
 ·exact UG
theorem Rz (q:Qu):FSpec prog 99 [q.a,q.a] [] [] (.b true) []:=by
 exact U7
theorem RA (L:List Qu):FSpec prog 53 [.one (.sl eh L),.one (.sl eh L)] [] [] (.b true) []:=by
 refine a7 func53 ?_;refine aY (fun c ρ a w hr=>bV (t:=0) hr rfl) (fun hl0=>?_);repeat' (first|refine av ?_ ?_|(refine aa 10 rfl ?_;first|refine sx (cZ rfl rfl rfl rfl rfl) ?_|refine sx (c5 rfl rfl rfl rfl rfl) ?_)|refine aq ?_|exact aw|(refine ap fun hb=>?_;first|(exact absurd rfl hb)|skip))
 refine ab (fun i=>i<=L.length) (fun i=>bP [] [(0,.c (.sl eh L)),(1,.c (.sl eh L)),(5,.i i)] []) (fun i=>L.length-i) 0 (Nat.zero_le _) aT ?_;intro i hi;by_cases hlt:i<L.length
 ·obtain ⟨o,ho⟩:∃o,L[i]? = some o:=⟨_,qGg hlt⟩;have kQ:=Rz o;repeat' (first|refine av ?_ ?_|refine aa 9 rfl (cB [] kQ ?_)|(refine aa 10 rfl ?_;first|refine sx (cZ rfl rfl rfl rfl rfl) ?_|refine sx (c5 rfl rfl rfl rfl rfl) ?_)|refine aq ?_|exact aw|(refine ap fun hb=>?_;first|(exact absurd rfl hb)|skip))
  exact UZ
 ·exact UG
theorem Pn (g:Lg):FSpec prog 100 [g.a,g.a] [] [] (.b true) []:=by
 refine a7 func100 ?_;refine aY (fun c ρ a w hr=>d7 (t:=0) (i:=0) hr rfl rfl) (fun hl0_0=>?_);refine aY (fun c ρ a w hr=>d7 (t:=0) (i:=1) hr rfl rfl) (fun hl0_1=>?_);repeat' (first|refine av ?_ ?_|(refine aa 10 rfl ?_;first|refine sx (cZ rfl rfl rfl rfl rfl) ?_|refine sx (c5 rfl rfl rfl rfl rfl) ?_)|refine aq ?_|exact aw|(refine ap fun hb=>?_;first|(exact absurd rfl hb)|skip))
 refine ab (fun i=>i<=g.entries.length) (fun i=>bP [2,3] [(2,.c (.ptr 2 0)),(3,.c (.ptr 3 0)),(5,.i i)] [(2,.box 80 [.sl ke g.entries,.sl lS g.saves]),(3,.box 80 [.sl ke g.entries,.sl lS g.saves])]) (fun i=>g.entries.length-i) 0 (Nat.zero_le _) aT ?_;intro i hi;by_cases hlt:i<g.entries.length
 ·obtain ⟨o,ho⟩:∃o,g.entries[i]? = some o:=⟨_,qGg hlt⟩;repeat' (first|refine av ?_ ?_|(refine aa 10 rfl ?_;first|refine sx (cZ rfl rfl rfl rfl rfl) ?_|refine sx (c5 rfl rfl rfl rfl rfl) ?_)|refine aq ?_|exact aw|(refine ap fun hb=>?_;first|(exact absurd rfl hb)|skip))
  exact UZ
 refine ao ?_;refine ab (fun i=>i<=g.saves.length) (fun i=>bP [2,3] [(2,.c (.ptr 2 0)),(3,.c (.ptr 3 0)),(6,.i i)] [(2,.box 80 [.sl ke g.entries,.sl lS g.saves]),(3,.box 80 [.sl ke g.entries,.sl lS g.saves])]) (fun i=>g.saves.length-i) 0 (Nat.zero_le _) aT ?_;clear hi hlt;intro i hi;by_cases hlt:i<g.saves.length
 ·obtain ⟨o,ho⟩:∃o,g.saves[i]? = some o:=⟨_,qGg hlt⟩;repeat' (first|refine av ?_ ?_|(refine aa 10 rfl ?_;first|refine sx (cZ rfl rfl rfl rfl rfl) ?_|refine sx (c5 rfl rfl rfl rfl rfl) ?_)|refine aq ?_|exact aw|(refine ap fun hb=>?_;first|(exact absurd rfl hb)|skip))
  exact UZ
 ·exact UG
theorem Po:∀(x:Ex) (d:Nat),FSpec prog 172 [x.a d,x.a d] [] [] (.b true) []:=by
 refine Ex.ind (fun k a l ih=>?_);intro d;show FSpec prog 172 [.ag (Ai d k a l),.ag (Ai d k a l)] [] [] (.b true) [];refine a7 func172 ?_;refine aY (fun c ρ a w hr=>jP (t:=0) (i:=4) hr rfl rfl) (fun hx=>?_);obtain ⟨hlen,hne⟩:=hx;rcases Nat.eq_zero_or_pos l.length with h0|h0
 ·obtain rfl:l=[]:=List.length_eq_zero_iff.1 h0;repeat' (first|refine av ?_ ?_|(refine aa 10 rfl ?_;first|refine sx (cZ rfl rfl rfl rfl rfl) ?_|refine sx (c5 rfl rfl rfl rfl rfl) ?_)|refine aq ?_|exact aw|(refine ap fun hb=>?_;first|(exact absurd rfl hb)|skip))
  refine ab (fun _:Unit=>True) (fun _=>bP [2,3] [(2,.c (.ptr 2 0)),(3,.c (.ptr 3 0)),(5,.i (0:Nat))] [(2,.box 47 (Ai d k a [])),(3,.box 47 (Ai d k a []))]) (fun _=>0) () trivial aT ?_;rintro _ -
  exact UG
 ·obtain ⟨e,rfl⟩:=hne h0;clear hne;repeat' (first|refine av ?_ ?_|(refine aa 10 rfl ?_;first|refine sx (cZ rfl rfl rfl rfl rfl) ?_|refine sx (c5 rfl rfl rfl rfl rfl) ?_)|refine aq ?_|exact aw|(refine ap fun hb=>?_;first|(exact absurd rfl hb)|skip))
  refine ab (fun i=>i<=l.length) (fun i=>bP [2,3] [(2,.c (.ptr 2 0)),(3,.c (.ptr 3 0)),(5,.i i)] [(2,.box 47 (Ai (e+1) k a l)),(3,.box 47 (Ai (e+1) k a l))]) (fun i=>l.length-i) 0 (Nat.zero_le _) aT ?_;intro i hi;by_cases hlt:i<l.length
  ·have kS:=ih l[i] (List.getElem_mem hlt) e;clear ih;repeat' (first|refine av ?_ ?_|refine aa 9 rfl (cB [] kS ?_)|(refine aa 10 rfl ?_;first|refine sx (cZ rfl rfl rfl rfl rfl) ?_|refine sx (c5 rfl rfl rfl rfl rfl) ?_)|refine aq ?_|exact aw|(refine ap fun hb=>?_;first|(exact absurd rfl hb)|skip))
   exact U0
  ·exact UG
theorem Pp (d:Nat) (r:Rq):FSpec prog 101 [r.a d,r.a d] [] [] (.b true) []:=by
 refine a7 func101 ?_;have kS:=Po r.expr d;repeat' (first|refine av ?_ ?_|refine aa 9 rfl (cB [] kS ?_)|(refine aa 10 rfl ?_;first|refine sx (cZ rfl rfl rfl rfl rfl) ?_|refine sx (c5 rfl rfl rfl rfl rfl) ?_|refine sx (I0 underlying4 rfl rfl rfl) ?_)|refine aq ?_|exact aw|(refine ap fun hb=>?_;first|(exact absurd rfl hb)|skip))
 all_goals (refine eU ?_;simp)
theorem Pq (d:Nat) (x:Pc):FSpec prog 54 [x.a d,x.a d] [] [] (.b true) []:=by
 refine a7 func54 ?_;have k1:=Pn x.led;have k2:=Pp d x.req;repeat' (first|refine av ?_ ?_|(refine aa 9 rfl ?_;first|(refine cB [] k1 ?_)|(refine cB [] k2 ?_))|(refine aa 10 rfl ?_;first|refine sx (cZ rfl rfl rfl rfl rfl) ?_|refine sx (c5 rfl rfl rfl rfl rfl) ?_|refine sx (I0 underlying4 rfl rfl rfl) ?_)|refine aq ?_|exact aw|(refine ap fun hb=>?_;first|(exact absurd rfl hb)|skip))
 all_goals (refine eU ?_;simp)
theorem Ha (d:Nat) (c:Cs):FSpec prog 17 [c.a d,c.a d] [] [] (.b true) []:=by
 refine a7 func17 ?_;refine aY (fun c ρ a w hr=>d7 (t:=0) (i:=2) hr rfl rfl) (fun hl0_2=>?_);have k1:=RA c.queues;repeat' (first|refine av ?_ ?_|refine aa 9 rfl (cB [] k1 ?_)|(refine aa 10 rfl ?_;first|refine sx (cZ rfl rfl rfl rfl rfl) ?_|refine sx (c5 rfl rfl rfl rfl rfl) ?_)|refine aq ?_|exact aw|(refine ap fun hb=>?_;first|(exact absurd rfl hb)|skip))
 refine ab (fun i=>i<=c.procs.length) (fun i=>bP [2,3] [(2,.c (.ptr 2 0)),(3,.c (.ptr 3 0)),(5,.i i)] [(2,.box 32 (c.d d)),(3,.box 32 (c.d d))]) (fun i=>c.procs.length-i) 0 (Nat.zero_le _) aT ?_;intro i hi;by_cases hlt:i<c.procs.length
 ·obtain ⟨x,hx⟩:∃x,c.procs[i]? = some x:=⟨_,qGg hlt⟩;have kP:=Pq d x;repeat' (first|refine av ?_ ?_|refine aa 9 rfl (cB [] kP ?_)|(refine aa 10 rfl ?_;first|refine sx (cZ rfl rfl rfl rfl rfl) ?_|refine sx (c5 rfl rfl rfl rfl rfl) ?_)|refine aq ?_|exact aw|(refine ap fun hb=>?_;first|(exact absurd rfl hb)|skip))
  exact UZ
 ·exact UG
theorem FB (l:List Int):FSpec prog 3 [.one (.sl km l)] [] [] (.b true) []:=by
 refine a7 func3 ?_;have kA:=jF;obtain ⟨bl,hbl⟩:∃b,decide (l.length<=300)=b:=⟨_,rfl⟩;have kL:=ka l hbl;cases bl with
 | false =>
  exact UG
 | true =>
  have hl:=of_decide_eq_true hbl;have hc:=jV l;obtain ⟨R,hR⟩:=qGe (fb l);rw [hR] at hc;have kS:=Fw l hl hR;have kN:=P3 2 R.1 (CZ.2 hc) (Q:=R.1.map gI) rfl;have kM:=P9 2 R.1 hc;clear hR;obtain ⟨C,ks⟩:=R;dsimp only at *
  refine ao ?_;refine ab (fun y:Nat×Cs=>y.1<=ks.length) (fun y=>bP [5,7] [(4,.c (.sl (Pk 2) ks)),(5,.c (.ptr 5 0)),(7,.c (.ptr 7 0)),(9,.i y.1)] [(5,.box 32 (y.2.d 2)),(7,.box 32 (y.2.d 2))]) (fun y=>ks.length-y.1) (0,⟨0,C.map gI,[]⟩) (Nat.zero_le _) aT ?_;clear kS kN kM kL hbl hl hc;rintro ⟨i,c⟩ hi;dsimp only at *
  refine aY (fun c ρ a w hr=>bV (t:=4) hr rfl) (fun hl4=>?_);by_cases hlt:i<ks.length
  ·obtain ⟨k,hk⟩:∃k,ks[i]? = some k:=⟨_,qGg hlt⟩;obtain ⟨R,hR⟩:=qGe (cy c k);have kP:=FJ 2 c k hR;have kD:=Ur 2 c k hR;clear hR;obtain ⟨X,E,e⟩:=R;have kS:=Ha 2 X;have kE:=I3 E;by_cases h0:e=0
   ·subst h0;refine ao ?_;refine ⟨(i+1,X),by dsimp only;omega,by dsimp only;omega,?_⟩;exact aT
   ·refine ao ?_;refine ⟨(i+1,c),by dsimp only;omega,by dsimp only;omega,?_⟩;exact aT
  ·have kS:=Ha 2 c;exact UG
end Go.Proofs.YthpgjkjgkhjjlaaGreatDoor
