/- Part 27 of 56 of the proof of both_hold (no condition). -/
import Derived.Test.YtcgpepnbohejfaaGreatDoorK26
set_option linter.unusedVariables false
set_option linter.unusedSimpArgs false
set_option maxRecDepth 100000
set_option maxHeartbeats 64000000
namespace Go.Proofs.YtcgpepnbohejfaaGreatDoor
open Go.RowKit Go.Proofs.Tryz
instance stExC (d:Nat):ST prog (mn (d+1)) 45 47 64:=⟨ElTB.mk' underlying45 (.agg #[.int .i64 0,.string ⟨#[]⟩,.int .i64 0,.int .i64 0,.slice none 0 0]) 5 64 (by kernel_rfl) rfl rfl⟩
theorem Ir (d:Nat) (x:Pc) (p:Pr):FSpec prog 57 [x.a d,.one (.ptr 9 0)] [iK 9 p] [] (.b (decide (bC x.proc p=0))) [(9,some (iK 9 p).2)]:=by
 refine aT func57 ?_;have kC:=g4 x.proc p;repeat' (first|refine af ?_ ?_|refine aa 9 rfl (cB [] (kC) ?_)|refine ae ?_|exact ah|refine ab fun hb=>?_|exact bB|fail)
theorem FC (d:Nat) (x:Pc) (p:Pr) {b:Bool} (hb:decide (x.proc=p)=b):FSpec prog 57 [x.a d,.one (.ptr 9 0)] [iK 9 p] [] (.b b) [(9,some (iK 9 p).2)]:=by
 have h:=Ir d x p;have e:decide (bC x.proc p=0)=b:=by
  rw [←hb];by_cases h1:x.proc=p
  ·rw [decide_eq_true h1,decide_eq_true ((jw _ _).2 h1)]
  ·rw [decide_eq_false h1,decide_eq_false (fun h2=>h1 ((jw _ _).1 h2))]
 rw [e] at h;exact h
theorem Is (d:Nat) (l:List Pc) (p:Pr) (hl:l.length≤100000) {z:Int} (hz:cD p 0 l=z):FSpec prog 56 [.one (.own 1),.one (.clo 57 [9])] [(1,.arr 66 (fu d) l),iK 9 p] [] (.i z) [(1,some (.arr 66 (fu d) l)),(9,some (iK 9 p).2)]:=by
 refine aT func56 ?_;repeat' (first|refine af ?_ ?_|refine ae ?_|exact ah|refine ab fun hb=>?_)
 refine ak (fun i=>i≤l.length∧cD p i (l.drop i)=z) (fun i=>cq [1,9] [(0,.c (.own 1)),(1,.c (.clo 57 [9])),(7,.i l.length),(8,.i i)] [(1,.arr 66 (fu d) l),iK 9 p]) (fun i=>l.length-i) 0 ⟨Nat.zero_le _,hz⟩ a7 ?_;rintro i ⟨hi,hs⟩;by_cases hlt:i<l.length
 ·obtain ⟨x,hx⟩:∃x,l[i]=x:=⟨_,rfl⟩;have hgx:l[i]? = some x:=by rw [List.getElem?_eq_getElem hlt,hx]
  rw [List.drop_eq_getElem_cons hlt,hx] at hs;have hs:(bif decide (x.proc=p) then (i:Int) else cD p (i+1) (l.drop (i+1)))=z:=hs;obtain ⟨b,hb1⟩:∃b,decide (x.proc=p)=b:=⟨_,rfl⟩;have kS:=FC d x p hb1;rw [hb1] at hs;cases b with
  | true =>
   obtain rfl:(i:Int)=z:=hs;repeat' (first|refine af ?_ ?_|(refine aa 9 rfl ?_;refine jW 1 [9] (qf [(1,1),(9,9)]) (kS) ?_)|refine ae ?_|exact ah|refine ab fun hb=>?_|exact bB|fail)
  | false =>
   repeat' (first|refine af ?_ ?_|(refine aa 9 rfl ?_;refine jW 1 [9] (qf [(1,1),(9,9)]) (kS) ?_)|refine ae ?_|exact ah|refine ab fun hb=>?_)
   refine ⟨i+1,⟨by omega,hs⟩,by omega,?_⟩;exact a7
 ·rw [List.drop_eq_nil_of_le (by omega)] at hs;obtain rfl : -1=z:=hs;repeat' (first|refine af ?_ ?_|refine ae ?_|exact ah|refine ab fun hb=>?_|exact bB|fail)
theorem uO (d:Nat) (l:List Pc) (p:Pr) (hl:l.length≤100000) {z:Int} (hz:cD p 0 l=z):FSpec prog 33 [.one (.own 1),p.a] [(1,.arr 66 (fu d) l)] [] (.i z) [(1,some (.arr 66 (fu d) l))]:=by
 refine aT func33 ?_;have kF:=Is d l p hl hz;repeat' (first|refine af ?_ ?_|(refine aa 0 rfl ?_;refine sx (cl (ks:=[3]) rfl rfl) ?_)|refine aa 9 rfl (cH (qf [(1,1),(9,3)]) (kF) ?_)|refine ae ?_|exact ah|refine ab fun hb=>?_|exact bB|fail)
theorem E7 (x:Ex):1≤x.cnt:=by
 obtain ⟨k,a,l⟩:=x;rw [Ex.cnt_mk];omega
theorem zq:∀(l:List Ex),l.length≤gz l∧∀x∈l,x.cnt≤gz l
 | []=>⟨Nat.zero_le _,fun _ h=>absurd h (by simp)⟩
 | y :: l=>by
  have ih:=zq l;have h1:=E7 y;rw [eS];refine ⟨by rw [List.length_cons];omega,fun x hx=>?_⟩;rcases List.mem_cons.1 hx with rfl|hx
  ·omega
  ·have:=ih.2 x hx;omega
theorem zr:∀(x:Ex) (d:Nat),x.cnt≤1000→FSpec prog 72 [x.a d] [] [] (.v (x.a d)) []:=by
 refine Ex.ind (fun k a l ih=>?_);intro d hcnt;rw [Ex.cnt_mk] at hcnt;have hcl:=zq l;show FSpec prog 72 [.ag (xL d k a l)] [] [] (.v (.ag (xL d k a l))) [];refine aT func72 ?_;refine bd (fun c ρ a w hr=>iy (t:=0) (i:=4) hr rfl rfl) (fun hx=>?_);obtain ⟨hlen,hne⟩:=hx;rcases Nat.eq_zero_or_pos l.length with h0|h0
 ·obtain rfl:l=[]:=List.length_eq_zero_iff.1 h0;repeat' (first|refine af ?_ ?_|refine ae ?_|exact ah|refine ab fun hb=>?_)
  refine ak (fun i=>i=0) (fun i=>cq [1,2] [(1,.c (.ptr 1 0)),(2,.c (.ptr 2 0)),(3,.c (.sc (.slice none 0 0))),(7,.c (.sl (mn d) [])),(8,.i 0),(9,.i i)] [(1,.box 47 (xL d k a [])),(2,.box 47 [.sc (.int .i64 0),.sc (.string ⟨#[]⟩),.sc (.int .i64 0),.sc (.int .i64 0),.sc (.slice none 0 0)])]) (fun _=>0) 0 rfl a7 ?_;rintro i rfl;repeat' (first|refine af ?_ ?_|refine ae ?_|exact ah|(refine ab fun hb=>?_;first|(exfalso;omega)|skip)|exact bB|fail)
 ·obtain ⟨e,rfl⟩:=hne h0;clear hne;repeat' (first|refine af ?_ ?_|refine ae ?_|exact ah|refine ab fun hb=>?_)
  refine cZ 3 1000 47 (mn (e+1)) rfl rfl rfl ?_;refine ak (fun i=>i≤l.length) (fun i=>cq [1,2,1000] [(1,.c (.ptr 1 0)),(2,.c (.ptr 2 0)),(3,.c (.own 1000)),(7,.c (.sl (mn (e+1)) l)),(8,.i l.length),(9,.i i)] [(1,.box 47 (xL (e+1) k a l)),(2,.box 47 [.sc (.int .i64 0),.sc (.string ⟨#[]⟩),.sc (.int .i64 0),.sc (.int .i64 0),.sc (.slice none 0 0)]),(1000,.arr 47 (mn (e+1)) (l.take i))]) (fun i=>l.length-i) 0 (Nat.zero_le _) a7 ?_;intro i hi;have hti:(l.take i).length=i:=by simp;omega
  by_cases hlt:i<l.length
  ·have kS:=ih l[i] (List.getElem_mem hlt) e (by have:=hcl.2 _ (List.getElem_mem hlt);omega);have hl9:l.length≤1000:=by have:=hcl.1;omega
   have e2:l.take (i+1)=l.take i++[l[i]]:=List.take_succ_eq_append_getElem hlt;clear ih hcl;repeat' (first|refine af ?_ ?_|(refine aa 8 rfl ?_;refine bh (ap rfl rfl (aH rfl rfl) (aL [l[i]] rfl rfl rfl rfl) rfl aK aK) rfl rfl rfl ?_)|refine aa 9 rfl (cC [] (kS) ?_)|refine ae ?_|exact ah|refine ab fun hb=>?_)
   refine ⟨i+1,by omega,by omega,?_⟩;rw [e2];exact bw (qf [(1000,17)])
  ·have e2:l.take i=l:=List.take_of_length_le (by omega);rw [e2];repeat' (first|refine af ?_ ?_|refine ae ?_|exact ah|refine ab fun hb=>?_|exact bB|fail)
theorem E9 (q:Qu) (h1:q.holds.length≤100000) (h2:q.convs.length≤100000) (h3:q.waits.length≤100000):FSpec prog 43 [q.a] [] [] (.v q.a) []:=by
 refine aT func43 ?_;repeat' (first|refine af ?_ ?_|refine ae ?_|exact ah|refine ab fun hb=>?_|exact bB|fail)
theorem zu (d:Nat) (x:Pc) (h1:x.led.entries.length≤100000) (h2:x.led.saves.length≤100000) (h3:x.req.expr.cnt≤1000):FSpec prog 39 [x.a d] [] [] (.v (x.a d)) []:=by
 refine aT func39 ?_;have kE:=zr x.req.expr d h3;repeat' (first|refine af ?_ ?_|refine aa 9 rfl (cC [] (kE) ?_)|refine ae ?_|exact ah|refine ab fun hb=>?_|exact bB|fail)
def JL (c:Cs):Prop:=c.queues.length≤100000∧c.procs.length≤100000∧(∀q∈c.queues,q.holds.length≤100000∧q.convs.length≤100000∧q.waits.length≤100000)∧∀x∈c.procs,x.led.entries.length≤100000∧x.led.saves.length≤100000∧x.req.expr.cnt≤1000
theorem Fa (d:Nat) (c:Cs) (h:JL c):FSpec prog 25 [.ag [.sc (.int .i64 c.now),.sl eX c.queues,.sl (fu d) c.procs]] [] [1] (.v (.ag [.sc (.int .i64 c.now),.sl eX c.queues,.own 1])) [(1,some (.arr 66 (fu d) c.procs))]:=by
 refine aT func25 ?_;obtain ⟨now,Q,P⟩:=c;obtain ⟨h1,h2,h3,h4⟩:=h;dsimp only at *
 repeat' (first|refine af ?_ ?_|refine ae ?_|exact ah|refine ab fun hb=>?_)
 refine lM 3 1 1000 58 eX rfl rfl rfl rfl ?_;refine lM 3 2 1001 66 (fu d) rfl rfl rfl rfl ?_;refine ak (fun i=>i≤Q.length) (fun i=>cq [1,2,3,1000,1001] [(1,.c (.ptr 1 0)),(2,.c (.ptr 2 0)),(3,.c (.ptr 3 0)),(12,.c (.sl eX Q)),(13,.i Q.length),(14,.i i)] [(1,.box 32 [.sc (.int .i64 now),.sl eX Q,.sl (fu d) P]),(2,.box 32 [.sc (.int .i64 0),.sc (.slice none 0 0),.sc (.slice none 0 0)]),(3,.box 32 [.sc (.int .i64 now),.own 1000,.own 1001]),(1000,.arr 58 eX (Q.take i)),(1001,.arr 66 (fu d) [])]) (fun i=>Q.length-i) 0 (Nat.zero_le _) a7 ?_;intro i hi;have hti:(Q.take i).length=i:=by simp;omega
 by_cases hlt:i<Q.length
 ·obtain ⟨q,hq⟩:∃q,Q[i]=q:=⟨_,rfl⟩;have hgq:Q[i]? = some q:=by rw [List.getElem?_eq_getElem hlt,hq]
  obtain ⟨j1,j2,j3⟩:=h3 q (hq▸List.getElem_mem hlt);have kQ:=E9 q j1 j2 j3;have e2:Q.take (i+1)=Q.take i++[q]:=by rw [List.take_succ_eq_append_getElem hlt,hq]
  clear h3 h4;repeat' (first|refine af ?_ ?_|(refine aa 8 rfl ?_;refine bh (ap rfl rfl (aH rfl rfl) (aL [q] rfl rfl rfl rfl) rfl aK aK) rfl rfl rfl ?_)|refine aa 9 rfl (cC [] (kQ) ?_)|refine ae ?_|exact ah|refine ab fun hb=>?_)
  refine ⟨i+1,by omega,by omega,?_⟩;rw [e2];exact bw (qf [(1000,23)])
 have e2:Q.take i=Q:=List.take_of_length_le (by omega);rw [e2];clear h3 hti e2;repeat' (first|refine af ?_ ?_|refine ae ?_|exact ah|refine ab fun hb=>?_)
 refine ak (fun i=>i≤P.length) (fun i=>cq [1,2,3,1000,1001] [(1,.c (.ptr 1 0)),(2,.c (.ptr 2 0)),(3,.c (.ptr 3 0)),(27,.c (.sl (fu d) P)),(28,.i P.length),(29,.i i)] [(1,.box 32 [.sc (.int .i64 now),.sl eX Q,.sl (fu d) P]),(2,.box 32 [.sc (.int .i64 0),.sc (.slice none 0 0),.sc (.slice none 0 0)]),(3,.box 32 [.sc (.int .i64 now),.own 1000,.own 1001]),(1000,.arr 58 eX Q),(1001,.arr 66 (fu d) (P.take i))]) (fun i=>P.length-i) 0 (Nat.zero_le _) a7 ?_;clear hi hlt;intro i hi;have hti:(P.take i).length=i:=by simp;omega
 by_cases hlt:i<P.length
 ·obtain ⟨x,hx⟩:∃x,P[i]=x:=⟨_,rfl⟩;have hgx:P[i]? = some x:=by rw [List.getElem?_eq_getElem hlt,hx]
  obtain ⟨j1,j2,j3⟩:=h4 x (hx▸List.getElem_mem hlt);have kP:=zu d x j1 j2 j3;have e2:P.take (i+1)=P.take i++[x]:=by rw [List.take_succ_eq_append_getElem hlt,hx]
  clear h4;repeat' (first|refine af ?_ ?_|(refine aa 8 rfl ?_;refine bh (ap rfl rfl (aH rfl rfl) (aL [x] rfl rfl rfl rfl) rfl aK aK) rfl rfl rfl ?_)|refine aa 9 rfl (cC [] (kP) ?_)|refine ae ?_|exact ah|refine ab fun hb=>?_)
  refine ⟨i+1,by omega,by omega,?_⟩;rw [e2];exact bw (qf [(1001,38)])
 have e2:P.take i=P:=List.take_of_length_le (by omega);rw [e2];repeat' (first|refine af ?_ ?_|refine ae ?_|exact ah|refine ab fun hb=>?_|(refine ct (qf [(1,1001)]) ?_;exact aw))
theorem Dj (d:Nat) (l:List Rs) {v:Bool} (hv:GS l=v) {Q:List Qu} (hQ:(bif v then l.map fp else [])=Q):FSpec prog 8 [.one (.sl dS l)] [] [] (.tup [.ag [.sc (.int .i64 0),.sl eX Q,.sl (fu d) []],iV (bif v then 0 else 1)]) []:=by
 have kN:=Io l hv;rw [hQ] at kN;refine aT func8 ?_;cases v with
 | true =>
  repeat' (first|refine af ?_ ?_|refine aa 9 rfl (cC [] (kN) ?_)|refine ae ?_|exact ah|(refine ab fun hb=>?_;first|(exact absurd rfl hb)|skip)|(refine gC (qf []) ?_;exact aw))
 | false =>
  obtain rfl:[]=Q:=hQ;repeat' (first|refine af ?_ ?_|refine aa 9 rfl (cC [] (kN) ?_)|refine ae ?_|exact ah|(refine ab fun hb=>?_;first|(exact absurd hb (by decide))|skip)|(refine gC (qf []) ?_;exact aw))
theorem Fb (l:List Ex):(((l.length:Nat):Int) == 0)=l.isEmpty:=by
 cases l with
 | nil=>rfl
 | cons x l =>
  show _=false;rw [beq_eq_false_iff_ne];simp only [List.length_cons];omega
theorem GW (d:Nat) (r:Rq) {b:Bool} (hb0:Gc r=b):FSpec prog 113 [r.a d] [] [] (.b b) []:=by
 refine aT func113 ?_;have he:Gc r=(decide (r.prio=0) && decide (r.limit=0) && decide (r.expr.k=0) && decide (r.expr.atom=gN) && r.expr.kids.isEmpty):=by
  unfold Gc IE;cases decide (r.expr.k=0) <;> cases decide (r.expr.atom=gN) <;> cases r.expr.kids.isEmpty <;> cases decide (r.prio=0) <;> cases decide (r.limit=0) <;> rfl
 rw [he] at hb0;clear he;repeat' (first|refine af ?_ ?_|refine ae ?_|exact ah|refine ab fun hb=>?_)
 all_goals (refine fm ?_;rw [←hb0];simp [*];try exact Fb _)
def FE (n:ByteArray):Nat→List Tm→Int
 | _,[]=>-1
 | k,a :: l=>bif aZ a.name n then (k:Int) else FE n (k+1) l
theorem Jp (a:Tm) (q:Qu):FSpec prog 159 [a.a,.one (.ptr 9 0)] [(9,.box 58 q.d)] [] (.b (aZ a.name q.res.name)) [(9,some (.box 58 q.d))]:=by
 refine aT func159 ?_;repeat' (first|refine af ?_ ?_|refine ae ?_|exact ah|refine ab fun hb=>?_|exact bB|fail)
theorem FF (L:List Tm) (q:Qu) (hl:L.length≤100000) {z:Int} (hz:FE q.res.name 0 L=z):FSpec prog 158 [.one (.sl c7 L),.one (.clo 159 [9])] [(9,.box 58 q.d)] [] (.i z) [(9,some (.box 58 q.d))]:=by
 refine aT func158 ?_;repeat' (first|refine af ?_ ?_|refine ae ?_|exact ah|refine ab fun hb=>?_)
 refine ak (fun i=>i≤L.length∧FE q.res.name i (L.drop i)=z) (fun i=>cq [9] [(0,.c (.sl c7 L)),(1,.c (.clo 159 [9])),(7,.i L.length),(8,.i i)] [(9,.box 58 q.d)]) (fun i=>L.length-i) 0 ⟨Nat.zero_le _,hz⟩ a7 ?_;rintro i ⟨hi,hs⟩;by_cases hlt:i<L.length
 ·obtain ⟨a,ha⟩:∃a,L[i]=a:=⟨_,rfl⟩;have hga:L[i]? = some a:=by rw [List.getElem?_eq_getElem hlt,ha]
  rw [List.drop_eq_getElem_cons hlt,ha] at hs;have hs:(bif aZ a.name q.res.name then (i:Int) else FE q.res.name (i+1) (L.drop (i+1)))=z:=hs;have kS:=Jp a q;obtain ⟨b,hb1⟩:∃b,aZ a.name q.res.name=b:=⟨_,rfl⟩;rw [hb1] at hs kS;cases b with
  | true =>
   obtain rfl:(i:Int)=z:=hs;repeat' (first|refine af ?_ ?_|(refine aa 9 rfl ?_;refine jW 1 [9] (qf [(9,9)]) (kS) ?_)|refine ae ?_|exact ah|refine ab fun hb=>?_|exact bB|fail)
  | false =>
   repeat' (first|refine af ?_ ?_|(refine aa 9 rfl ?_;refine jW 1 [9] (qf [(9,9)]) (kS) ?_)|refine ae ?_|exact ah|refine ab fun hb=>?_)
   refine ⟨i+1,⟨by omega,hs⟩,by omega,?_⟩;exact a7
 ·rw [List.drop_eq_nil_of_le (by omega)] at hs;obtain rfl : -1=z:=hs;repeat' (first|refine af ?_ ?_|refine ae ?_|exact ah|refine ab fun hb=>?_|exact bB|fail)
def GX (q:Qu) (x:Pc) (a:Tm):Bool :=
 bif !(ai q x.proc).isSome then decide (ao q.holds x.proc=bN q.res (ay x.led.entries q.res.name) a.am) else
 bif q.waits.any (fun y=>decide (y.proc=x.proc) && !decide (y.prio=x.req.prio)) then false else
 decide (ao q.holds x.proc=ay x.led.entries q.res.name) && decide (ai q x.proc=some (bN q.res (ay x.led.entries q.res.name) a.am))
theorem wP (q:Qu) (x:Pc) (a:Tm) (l:List Tm):cN q x (a :: l)=bif !aZ a.name q.res.name || a8 q.res (ay x.led.entries q.res.name) a.am then cN q x l else GX q x a:=rfl
theorem zv {q:Qu} {x:Pc}:∀{l:List Tm},(∀a∈l,a.name≠q.res.name)→cN q x l=cN q x []
 | [],_=>rfl
 | a :: l,h=>by
  rw [wP,bJ.2 (h a (by simp))];exact zv fun b hb=>h b (by simp [hb])
theorem zw {q:Qu} {x:Pc}:∀(L:List Tm) (k:Nat),A8 L→(FE q.res.name k L = -1∧cN q x L=cN q x [])∨
  ∃(i:Nat) (a:Tm),FE q.res.name k L=((k+i:Nat):Int)∧L[i]? = some a∧cN q x L=bif a8 q.res (ay x.led.entries q.res.name) a.am then cN q x [] else GX q x a
 | [],k,_=>.inl ⟨rfl,rfl⟩
 | a :: l,k,h=>by
  obtain ⟨h1,h2⟩:=List.pairwise_cons.1 h;have e:FE q.res.name k (a :: l)=bif aZ a.name q.res.name then (k:Int) else FE q.res.name (k+1) l:=rfl;rw [e,wP];cases hn:aZ a.name q.res.name with
  | true =>
   have hn:=aP.1 hn;refine .inr ⟨0,a,rfl,rfl,?_⟩;rw [zv (l:=l) fun b hb=>by rw [←hn];exact fun e=>h1 b hb e.symm];cases a8 q.res (ay x.led.entries q.res.name) a.am <;> rfl
  | false =>
   rcases zw l (k+1) h2 with h3|⟨i,b,q1,q2,q3⟩
   ·exact .inl h3
   ·exact .inr ⟨i+1,b,by rw [cond_false,q1];omega,q2,q3⟩
end Go.Proofs.YtcgpepnbohejfaaGreatDoor
