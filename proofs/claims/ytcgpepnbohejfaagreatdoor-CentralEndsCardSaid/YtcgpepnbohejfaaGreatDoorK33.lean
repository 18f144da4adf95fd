/- Part 33 of 56 of the proof of both_hold (no condition). -/
import Derived.Test.YtcgpepnbohejfaaGreatDoorK31
import Derived.Test.YtcgpepnbohejfaaGreatDoorK32
set_option linter.unusedVariables false
set_option linter.unusedSimpArgs false
set_option maxRecDepth 100000
set_option maxHeartbeats 64000000
namespace Go.Proofs.YtcgpepnbohejfaaGreatDoor
open Go.RowKit Go.Proofs.Tryz
theorem IK {c:Cs} (h:CI c):JL c:=by
 have h8:=(bE h.tv).1;have hl:=h.len;refine ⟨by omega,by omega,fun q hq=>?_,fun x hx=>?_⟩
 ·obtain ⟨q1,q2,q3⟩:=cR (cj h.tv hq);exact ⟨by omega,by omega,by omega⟩
 ·have hinv:=h.inv x hx;have hl:=gv (fc.2 hinv.stat.led);refine ⟨by omega,by omega,?_⟩;cases hw:x.waiting with
  | false=>rw [(hinv.run hw).1];decide
  | true =>
   have hq:=(hinv.wat hw).1.rq;have hv:kf x.req.expr=true:=by unfold sV at hq;simp only [Bool.and_eq_true] at hq;exact hq.1.1.1.1
   simp [kf,wW] at hv;omega
theorem G2 (d:Nat) (c:Cs) (k:Cm) {R:Cs×List Ev×Int} (hR:fO c k=R):FSpec prog 9 [c.a d,k.a d] [] [] (JW d R) []:=by
 refine aT func9 ?_;unfold fO at hR;obtain ⟨v,hv⟩:∃v,cM c=v:=⟨_,rfl⟩;have kV:=oo d c hv;rw [hv] at hR;cases v with
 | false =>
  obtain rfl:(ID,[],2)=R:=hR;repeat' (first|refine af ?_ ?_|refine aa 9 rfl (cB [] (kV) ?_)|refine ae ?_|exact ah|refine ab fun hb=>?_|(refine fB (qf []) ?_;exact aw))
 | true =>
  rw [Bool.not_true,cond_false] at hR;obtain ⟨hci,hun⟩:=bU.1 hv;obtain ⟨Z,hZ⟩:∃Z,oc ⟨c,[]⟩ k=Z:=⟨_,rfl⟩;have kD:=GV d ⟨c,[]⟩ k hci (fun x hx=>mP (hun x hx)) (by simp) hZ;have kC:=Fa d c (IK hci);rw [hZ] at hR;repeat' (first|refine af ?_ ?_|(refine aa 9 rfl ?_;first|(refine cB [] (kV) ?_)|(refine cH (qf [(1,1001)]) (kC) ?_))|((fail_if_success (first|refine lP 4 ?_|refine lQ 4 ?_));refine ae ?_)|exact ah|refine ab fun hb=>?_)
  refine lM 16 3 1003 79 iQ rfl rfl rfl rfl ?_;by_cases h0:Z.2=0
  ·rw [decide_eq_true h0] at hR;obtain rfl:R=(Z.1.c,Z.1.ev,0):=hR.symm;repeat' (first|refine af ?_ ?_|refine aa 9 rfl (cH (qf [(0,16),(1,1001),(2,1003),(3,1004),(4,1005)]) (kD) ?_)|(refine aa 21 rfl ?_;first|refine sx (aq rfl rfl) ?_|refine sx (aE rfl rfl) ?_)|refine ae ?_|exact ah|(refine ab fun hb=>?_;first|(exact absurd h0 hb)|skip)|(refine fB (qf []) ?_;exact aw))
  ·rw [decide_eq_false h0] at hR;obtain rfl:R=(ID,[],Z.2):=hR.symm;repeat' (first|refine af ?_ ?_|refine aa 9 rfl (cH (qf [(0,16),(1,1001),(2,1003),(3,1004),(4,1005)]) (kD) ?_)|(refine aa 21 rfl ?_;first|refine sx (aq rfl rfl) ?_|refine sx (aE rfl rfl) ?_)|refine ae ?_|exact ah|(refine ab fun hb=>?_;first|(exact absurd hb h0)|skip)|(refine fB (qf []) ?_;exact aw))
theorem It (d:Nat) (c:Cs) (p:Pr) {i:Nat} {x:Pc} (hi:cD p 0 c.procs=i) (hx:c.procs[i]? = some x) (h1:x.led.entries.length≤100000) (h2:x.led.saves.length≤100000) (h3:x.req.expr.cnt≤1000):FSpec prog 19 [c.a d,p.a] [] [] (.tup [x.a d,.one (.sc (.bool true))]) []:=by
 refine aT func19 ?_;have hlt:=(List.getElem?_eq_some_iff.1 hx).1;have kI:=uP d c.procs p hi;have kC:=zu d x h1 h2 h3;repeat' (first|refine af ?_ ?_|(refine aa 9 rfl ?_;first|(refine cB [] (kI) ?_)|(refine cC [] (kC) ?_))|refine ae ?_|exact ah|(refine ab fun hb=>?_;first|(exfalso;omega)|skip)|(refine gC (qf []) ?_;exact aw))
theorem tC (d:Nat) (c:Cs) (p:Pr) {i:Nat} {x:Pc} (hi:cD p 0 c.procs=i) (hx:c.procs[i]? = some x) (hw:x.waiting=true) (hv:cM c=true) {B:List Bool} (hB:bo c.queues x.proc x.req.expr=B):FSpec prog 13 [c.a d,p.a] [] [] (.c (.sl c9 B)) []:=by
 refine aT func13 ?_;have hlt:=(List.getElem?_eq_some_iff.1 hx).1;have kI:=uP d c.procs p hi;have kV:=oo d c hv;have kG:=mf d c.queues x hB;repeat' (first|refine af ?_ ?_|(refine aa 9 rfl ?_;first|(refine cB [] (kI) ?_)|(refine cB [] (kV) ?_)|(refine cC [] (kG) ?_))|refine ae ?_|exact ah|(refine ab fun hb=>?_;first|(cases hw.symm.trans hb;done)|(exfalso;omega)|skip)|exact bB|fail)
def DD (d:Nat):El Cm where
 n:=13
 pos:=by decide
 rep:=fun w S k cs=>∃A c,cs=[.int .i64 k.kind,.int .i64 k.proc.site,.int .i64 k.proc.inc,.int .i64 k.proc.num,.int .i64 k.req.expr.k,.string k.req.expr.atom.name,.int .i64 k.req.expr.atom.am.mode,.int .i64 k.req.expr.atom.am.units,.slice A k.req.expr.kids.length c,.int .i64 k.req.prio,.int .i64 k.req.limit,.string k.name,.int .i64 k.n]∧
  RowsAt (mn d) w S A k.req.expr.kids∧(k.req.expr.kids.length≤c∧c≤maxLen)
 len:=fun h=>by obtain ⟨A,c,rfl,_⟩:=h;rfl
 one:=fun h=>by obtain ⟨A,c,rfl,_⟩:=h;intro u hu;simp at hu;rcases hu with rfl|rfl|rfl|rfl|rfl|rfl|rfl|rfl|rfl|rfl|rfl|rfl|rfl <;> rfl
 same:=fun h hk hS=>by
  obtain ⟨A,c,e,h1,h2⟩:=h;exact ⟨A,c,e,h1.same hk hS,h2⟩
instance (d:Nat):Dp (DD d) where
 deep:=Cm.d d
 get:=by
  rintro w F ρ x cs ⟨A,c,rfl,h1,h2⟩;exact ⟨rfl,rfl,rfl,rfl,rfl,rfl,rfl,rfl,⟨A,c,rfl,h2,h1⟩,rfl,rfl,rfl,rfl,trivial⟩
 put:=by
  intro w F ρ x cs h
  match cs,h with
  | [_,_,_,_,_,_,_,_,_,_,_,_,_],⟨rfl,rfl,rfl,rfl,rfl,rfl,rfl,rfl,⟨A,c,rfl,h2,h1⟩,rfl,rfl,rfl,rfl,_⟩=>exact ⟨A,c,rfl,h1,h2⟩
 nok:=fun _ _=>rfl
instance (d:Nat):ST prog (DD d) 26 51 136:=⟨ElTB.mk' underlying26 (.agg #[.int .i64 0,.int .i64 0,.int .i64 0,.int .i64 0,.int .i64 0,.string ⟨#[]⟩,.int .i64 0,.int .i64 0,.slice none 0 0,.int .i64 0,.int .i64 0,.string ⟨#[]⟩,.int .i64 0]) 13 136 (by kernel_rfl) rfl rfl⟩
theorem zA {l:List Rs} {t:Tp} (h:(mQ t).1=l):l.length=6∧∀r∈l,1≤r.units∧r.units≤1000:=by
 subst h;refine ⟨rfl,fun r hr=>?_⟩;have h1:=t.s.s.s.s.v_in (m:=8) (by omega);have h2:=t.s.s.s.s.s.s.v_in (m:=3) (by omega);simp only [mQ,List.mem_cons,List.not_mem_nil,or_false] at hr;rcases hr with rfl|rfl|rfl|rfl|rfl|rfl <;> dsimp only <;> omega
theorem Du (t:Tp):Adv t (mQ t).2:=by
 have h:=(Adv.s t).ss.ss.ss.ss.ss.ss.ss;unfold mQ;dsimp only;exact h
def JM (a b c d e:Tp):Nat→Tp
 | 0=>a
 | 1=>b
 | 2=>c
 | 3=>d
 | _=>e
def yh (p0 p1 p2 p3:Pr) (v0 v1 v2 v3:Int):List Cm:=[⟨1,p0,Rq.zero,⟨#[]⟩,1+v0⟩,⟨1,p1,Rq.zero,⟨#[]⟩,1+v1⟩,⟨1,p2,Rq.zero,⟨#[]⟩,1+v2⟩,⟨1,p3,Rq.zero,⟨#[]⟩,1+v3⟩]
theorem ql (cat:List Rs) (n:Nat) (t:Tp):pZ cat (n+1) t=bif decide (t.at_<t.l.length) then (uy t cat).1 :: pZ cat n (uy t cat).2 else []:=rfl
theorem wR (l:List Int) (hl:l.length≤300) {R:List Rs×List Cm} (hR:jN l=R):FSpec prog 7 [.one (.sl ov l)] [] [] (.tup [.one (.sl dS R.1),.one (.sl (DD 2) R.2)]) []:=by
 refine aT func7 ?_;unfold jN at hR;dsimp only at hR;have h0:TOk ⟨l,0⟩:=⟨Nat.zero_le _,by show l.length≤_;omega⟩;have kC:=Iv ⟨l,0⟩ h0;have hadv:=Du ⟨l,0⟩;obtain ⟨C,hC⟩:∃C,(mQ ⟨l,0⟩).1=C:=⟨_,rfl⟩;obtain ⟨u0,hu0⟩:∃u,(mQ ⟨l,0⟩).2=u:=⟨_,rfl⟩;obtain ⟨hc6,hcu⟩:=zA hC;rw [hC,hu0] at hR kC;rw [hu0] at hadv;have t0:=h0.adv hadv;have hul:u0.l=l:=hadv.l;clear hC hu0 hadv;repeat' (first|refine af ?_ ?_|refine aa 9 rfl (cH (qf [(0,10)]) (kC) ?_)|refine ae ?_|exact ah|refine ab fun hb=>?_)
 refine cZ 6 1000 51 (DD 2) rfl rfl rfl ?_;obtain ⟨v0,u1,a1,a2,t1,a3,a4,n0⟩:=nx u0 9 t0 (by omega) (by omega);obtain ⟨v1,u2,b1,b2,t2,b3,b4,n1⟩:=nx u1 9 t1 (by omega) (by omega);obtain ⟨v2,u3,c1,c2,t3,c3,c4,n2⟩:=nx u2 9 t2 (by omega) (by omega);obtain ⟨v3,u4,d1,d2,t4,d3,d4,n3⟩:=nx u3 9 t3 (by omega) (by omega);obtain ⟨p0,q0⟩:∃p,bg 0=p:=⟨_,rfl⟩;obtain ⟨p1,q1⟩:∃p,bg 1=p:=⟨_,rfl⟩;obtain ⟨p2,q2⟩:∃p,bg 2=p:=⟨_,rfl⟩;obtain ⟨p3,q3⟩:∃p,bg 3=p:=⟨_,rfl⟩;have m0:=lf 0;have m1:=lf 1;have m2:=lf 2;have m3:=lf 3;rw [q0] at m0;rw [q1] at m1;rw [q2] at m2;rw [q3] at m3;have hul4:u4.l=l:=by rw [←d2,Tp.s_l,←c2,Tp.s_l,←b2,Tp.s_l,←a2,Tp.s_l,hul]
 have hR:(C,yh p0 p1 p2 p3 v0 v1 v2 v3++pZ C l.length u4)=R:=by
  rw [←hR];unfold wA yh;rw [a1,a2,b1,b2,c1,c2,d1,d2,q0,q1,q2,q3]
 clear a1 a2 b1 b2 c1 c2 d1 d2 q0 q1 q2 q3;refine ak (fun i:Nat=>i≤4) (fun i=>cq [10,1000] [(4,.c (.ptr 10 0)),(5,.c (.sl dS C)),(6,.c (.own 1000)),(7,.i i)] [(10,.box 82 (G3 (JM u0 u1 u2 u3 u4 i))),(1000,.arr 51 (DD 2) ((yh p0 p1 p2 p3 v0 v1 v2 v3).take i))]) (fun i=>4-i) 0 (Nat.zero_le _) a7 ?_;rintro i hi;obtain rfl|rfl|rfl|rfl|rfl:i=0∨i=1∨i=2∨i=3∨i=4:=by omega
 ·repeat' (first
   | refine af ?_ ?_
   | (refine aa 8 rfl ?_;refine sx (ap rfl rfl (aH rfl rfl) (wc [⟨1,p0,Rq.zero,⟨#[]⟩,1+v0⟩] rfl rfl rfl) rfl aK aK) ?_)
   | (refine aa 9 rfl ?_;first|(refine cH (qf [(0,10)]) (n0) ?_)|(refine cB [] (m0) ?_))
   | refine ae ?_
   | exact ah|refine ab fun hb=>?_)
  refine ⟨1,by decide,by decide,?_⟩;exact bw (qf [(1000,25)])
 ·repeat' (first
   | refine af ?_ ?_
   | (refine aa 8 rfl ?_;refine sx (ap rfl rfl (aH rfl rfl) (wc [⟨1,p1,Rq.zero,⟨#[]⟩,1+v1⟩] rfl rfl rfl) rfl aK aK) ?_)
   | (refine aa 9 rfl ?_;first|(refine cH (qf [(0,10)]) (n1) ?_)|(refine cB [] (m1) ?_))
   | refine ae ?_
   | exact ah|refine ab fun hb=>?_)
  refine ⟨2,by decide,by decide,?_⟩;exact bw (qf [(1000,25)])
 ·repeat' (first
   | refine af ?_ ?_
   | (refine aa 8 rfl ?_;refine sx (ap rfl rfl (aH rfl rfl) (wc [⟨1,p2,Rq.zero,⟨#[]⟩,1+v2⟩] rfl rfl rfl) rfl aK aK) ?_)
   | (refine aa 9 rfl ?_;first|(refine cH (qf [(0,10)]) (n2) ?_)|(refine cB [] (m2) ?_))
   | refine ae ?_
   | exact ah|refine ab fun hb=>?_)
  refine ⟨3,by decide,by decide,?_⟩;exact bw (qf [(1000,25)])
 ·repeat' (first
   | refine af ?_ ?_
   | (refine aa 8 rfl ?_;refine sx (ap rfl rfl (aH rfl rfl) (wc [⟨1,p3,Rq.zero,⟨#[]⟩,1+v3⟩] rfl rfl rfl) rfl aK aK) ?_)
   | (refine aa 9 rfl ?_;first|(refine cH (qf [(0,10)]) (n3) ?_)|(refine cB [] (m3) ?_))
   | refine ae ?_
   | exact ah|refine ab fun hb=>?_)
  refine ⟨4,by decide,by decide,?_⟩;exact bw (qf [(1000,25)])
 ·rw [show JM u0 u1 u2 u3 u4 4=u4 from rfl,show (yh p0 p1 p2 p3 v0 v1 v2 v3).take 4=yh p0 p1 p2 p3 v0 v1 v2 v3 from rfl];have hol:(yh p0 p1 p2 p3 v0 v1 v2 v3).length=4:=rfl;generalize yh p0 p1 p2 p3 v0 v1 v2 v3=O at *
  clear n0 n1 n2 n3 m0 m1 m2 m3;repeat' (first|refine af ?_ ?_|refine ae ?_|exact ah|refine ab fun hb=>?_)
  refine ak (fun y:Nat×Tp×List Cm=>TOk y.2.1∧y.2.1.l=l∧l.length≤y.1+y.2.1.at_∧y.2.2.length+y.1≤304∧(C,y.2.2++pZ C y.1 y.2.1)=R) (fun y=>cq [10,1000] [(4,.c (.ptr 10 0)),(5,.c (.sl dS C)),(6,.c (.own 1000))] [(10,.box 82 (G3 y.2.1)),(1000,.arr 51 (DD 2) y.2.2)]) (fun y=>y.2.1.l.length-y.2.1.at_) (l.length,u4,O) ⟨t4,hul4,by dsimp only;omega,by dsimp only;omega,hR⟩ a7 ?_;clear hR hol O t4 hul4;rintro ⟨n,u,acc⟩ ⟨hu,hul,hn,hal,hs⟩;dsimp only at *
  have kM:=G4 u hu;by_cases hlt:u.at_<u.l.length
  ·rw [decide_eq_true hlt] at kM;obtain ⟨m,rfl⟩:∃m,n=m+1:=⟨n-1,by rw [hul] at hlt;omega⟩;rw [ql,decide_eq_true hlt,cond_true] at hs;obtain ⟨G,hG⟩:∃G,uy u C=G:=⟨_,rfl⟩;have kG:=Ix u C hu (by omega) hcu hG;have ha:=CJ u C;have hs1:=u.s_lt hlt;rw [hG] at ha hs;have hw:=hu.s.adv ha;have hle:=ha.le;have hl2:G.2.l=l:=by rw [ha.l,u.s_l,hul]
   repeat' (first|refine af ?_ ?_|(refine aa 8 rfl ?_;refine bh (ap rfl rfl (aH rfl rfl) (aL [G.1] rfl rfl rfl rfl) rfl aK aK) rfl rfl rfl ?_)|(refine aa 9 rfl ?_;first|(refine cH (qf [(0,10)]) (kM) ?_)|(refine cH (qf [(0,10)]) (kG) ?_))|refine ae ?_|exact ah|refine ab fun hb=>?_)
   refine ⟨(m,G.2,acc++[G.1]),⟨hw,hl2,by dsimp only;omega,by simp;omega,?_⟩,by dsimp only;rw [hl2,hul];rw [hul] at hlt;omega,?_⟩
   ·dsimp only;rw [←hs];simp
   ·exact bw (qf [(1000,33)])
  ·rw [decide_eq_false hlt] at kM;have hm:pZ C n u=[]:=by
    cases n with
    | zero=>rfl
    | succ n=>rw [ql,decide_eq_false hlt];rfl
   rw [hm,List.append_nil] at hs;obtain rfl:R=(C,acc):=hs.symm;repeat' (first|refine af ?_ ?_|refine aa 9 rfl (cH (qf [(0,10)]) (kM) ?_)|refine ae ?_|exact ah|refine ab fun hb=>?_|(refine gC (qf []) ?_;exact aw))
theorem yk {c:Cs} {k:Cm} (he:(fO c k).2.2=0):(fO c k).1.queues.length=c.queues.length:=by
 obtain ⟨hc,h0⟩:=Df he;have h:=congrArg List.length (Ij hc h0);rw [De hc h0];unfold dN at h
 rwa [List.length_map,List.length_map] at h
theorem wS (c:Cs) (k:Cm) (l:List Cm):uz c (k :: l)=uz (bif decide ((fO c k).2.2=0) then (fO c k).1 else c) l:=rfl
theorem wT:∀(l:List Cm) (c:Cs),(uz c l).queues.length=c.queues.length
 | [],_=>rfl
 | k :: l,c=>by
  rw [wS,wT l];by_cases he:(fO c k).2.2=0
  ·rw [decide_eq_true he,cond_true];exact yk he
  ·rw [decide_eq_false he,cond_false]
set_option maxRecDepth 100000
set_option maxHeartbeats 64000000
theorem Ha (l:List Int) (hl:l.length≤300) {R:List Rs×List Cm} (hR:jN l=R) (hc:CatOk R.1) {W:Cs} (hW:uz ⟨0,R.1.map fp,[]⟩ R.2=W):FSpec prog 15 [.one (.sl ov l)] [] [] (.v (W.a 2)) []:=by
 refine aT func15 ?_;have kS:=wR l hl hR;have kN:=Dj 2 R.1 (om.2 hc) (Q:=R.1.map fp) rfl;obtain ⟨C,ks⟩:=R;dsimp only at *
 repeat' (first|refine af ?_ ?_|(refine aa 9 rfl ?_;first|(refine cC [] (kS) ?_)|(refine cC [] (kN) ?_))|refine ae ?_|exact ah|refine ab fun hb=>?_)
 refine ak (fun y:Nat×Cs=>y.1≤ks.length∧uz y.2 (ks.drop y.1)=W) (fun y=>cq [2,5] [(2,.c (.ptr 2 0)),(4,.c (.sl (DD 2) ks)),(5,.c (.ptr 5 0)),(7,.i y.1)] [(2,.box 32 [.sc (.int .i64 0),.sc (.slice none 0 0),.sc (.slice none 0 0)]),(5,.box 32 (y.2.d 2))]) (fun y=>ks.length-y.1) (0,⟨0,C.map fp,[]⟩) ⟨Nat.zero_le _,hW⟩ a7 ?_;clear hW kS kN;rintro ⟨i,c⟩ ⟨hi,hs⟩;dsimp only at *
 refine bd (fun c ρ a w hr=>cV (t:=4) hr rfl) (fun hl4=>?_);by_cases hlt:i<ks.length
 ·obtain ⟨k,hk⟩:∃k,ks[i]? = some k:=⟨_,List.getElem?_eq_getElem hlt⟩;have ek:ks[i]=k:=(List.getElem?_eq_some_iff.1 hk).2;rw [List.drop_eq_getElem_cons hlt,ek,wS] at hs;obtain ⟨R,hR⟩:∃R,fO c k=R:=⟨_,rfl⟩;have kD:=G2 2 c k hR;rw [hR] at hs;clear hR;by_cases h0:R.2.2=0
  ·rw [decide_eq_true h0,cond_true] at hs;repeat' (first|refine af ?_ ?_|refine aa 9 rfl (cC [] (kD) ?_)|refine ae ?_|exact ah|(refine ab fun hb=>?_;first|(exact absurd h0 hb)|skip))
   refine ⟨(i+1,R.1),⟨by dsimp only;omega,hs⟩,by dsimp only;omega,?_⟩;exact a7
  ·rw [decide_eq_false h0,cond_false] at hs;repeat' (first|refine af ?_ ?_|refine aa 9 rfl (cC [] (kD) ?_)|refine ae ?_|exact ah|(refine ab fun hb=>?_;first|(exact absurd hb h0)|skip))
   refine ⟨(i+1,c),⟨by dsimp only;omega,hs⟩,by dsimp only;omega,?_⟩;exact a7
 ·rw [List.drop_eq_nil_of_le (by omega)] at hs;obtain rfl:c=W:=hs;repeat' (first|refine af ?_ ?_|refine ae ?_|exact ah|refine ab fun hb=>?_|exact bB|fail)
def J1 (n:ByteArray) (m:Int):V0:=.ag [.sc (.int .i64 0),.sc (.string n),.sc (.int .i64 m),.sc (.int .i64 0),.sc (.slice none 0 0)]
theorem Ff (n:ByteArray) (m:Int):FSpec prog 18 [.one (.sc (.string n)),.one (.sc (.int .i64 m))] [] [] (.v (J1 n m)) []:=by
 refine aT func18 ?_;repeat' (first|refine af ?_ ?_|refine ae ?_|exact ah|refine ab fun hb=>?_|exact bB|fail)
theorem wV:FSpec prog 6 [] [] [] (.b true) []:=by
 refine aT func6 ?_;have kA:=Ff nA 5;have kP0:=lf 0;have kP1:=lf 1;have kN:=(Dj 0 [Ju] (v:=true) (by decide +kernel) (Q:=[fp Ju]) rfl).lit (e:=54) (n:=1) rfl rfl (by decide);have h1:=oq JX;have h2:=oq JY;have h3:=oq JZ;have h4:=oq JN;have k1:=G2 0 Dv (DE (bg 0)) h1;have k2:=G2 0 yl (DE (bg 1)) h2;have k3:=G2 0 wU (Dw (bg 0)) h3;have k4:=G2 0 ym (Dw (bg 1)) h4;obtain ⟨x,hx,hxw,hxg⟩:∃x,mY.procs[1]? = some x∧x.waiting=true∧(bo mY.queues x.proc x.req.expr).length=1:=by
  have h:=J0;cases hx:mY.procs[1]? with
  | none=>rw [hx] at h;cases h
  | some x =>
   rw [hx] at h;simp only [Option.map_some,Option.some.injEq,Prod.mk.injEq] at h;exact ⟨x,rfl,h.1,h.2⟩
 have hcl:=(IK (bU.1 Jw).1).2.2.2 x (List.mem_of_getElem? hx);have kF:=It 0 mY (bg 1) JO hx hcl.1 hcl.2.1 hcl.2.2;obtain ⟨B,hB⟩:∃B,bo mY.queues x.proc x.req.expr=B:=⟨_,rfl⟩;have kG:=tC 0 mY (bg 1) JO hx hxw Jw hB;have kV:=oo 0 mY Jw;rw [hB] at hxg;obtain ⟨E,hE⟩:∃E,(fO wU (Dw (bg 0))).2.1=E:=⟨_,rfl⟩;have he3:=Jv;rw [hE] at k3 he3;have hEl:E.length=2:=by have:=congrArg List.length he3;simpa using this
 obtain ⟨z,hz⟩:∃z,E[(1:Int).toNat]? = some z:=⟨_,List.getElem?_eq_getElem (by show 1<E.length;omega)⟩;have hzk:z.kind=2:=by
  have h:=congrArg (fun l:List Int=>l[1]?) he3;simp only [List.getElem?_map] at h;have hz':E[1]? = some z:=hz;rw [hz'] at h;simpa using h
 rw [show (fO Dv (DE (bg 0))).1=yl from rfl] at k1;rw [show (fO yl (DE (bg 1))).1=wU from rfl] at k2;rw [show (fO wU (Dw (bg 0))).1=ym from rfl] at k3;rw [show (fO ym (Dw (bg 1))).1=mY from rfl] at k4;obtain ⟨E1,hE1⟩:∃E,(fO Dv (DE (bg 0))).2.1=E:=⟨_,rfl⟩;obtain ⟨E2,hE2⟩:∃E,(fO yl (DE (bg 1))).2.1=E:=⟨_,rfl⟩;obtain ⟨E4,hE4⟩:∃E,(fO ym (Dw (bg 1))).2.1=E:=⟨_,rfl⟩;rw [hE1] at k1;rw [hE2] at k2;rw [hE4] at k4;clear h1 h2 h3 h4 hE hE1 hE2 hE4 he3 hcl hB hx;generalize mY=S4 at *
 generalize ym=S3 at *
 generalize wU=S2 at *
 generalize yl=S1 at *
 generalize bg 0=p0 at *
 generalize bg 1=p1 at *
 repeat' (first|refine af ?_ ?_|(refine aa 9 rfl ?_;first|(refine cH (qf [(0,17)]) (kN) ?_)|(refine cC [] (kP0) ?_)|(refine cC [] (kP1) ?_)|(refine cC [] (kA) ?_)|(refine cC [] (k1) ?_)|(refine cC [] (k2) ?_)|(refine cC [] (k3) ?_)|(refine cC [] (k4) ?_)|(refine cC [] (kF) ?_)|(refine cC [] (kG) ?_)|(refine cB [] (kV) ?_))|refine ae ?_|exact ah|(refine ab fun hb=>?_;first|(cases hxw.symm.trans hb;done)|(exfalso;omega)|skip)|exact bB|fail)
theorem Dy (l:List Int):FSpec prog 3 [.one (.sl ov l)] [] [] (.b true) []:=by
 refine aT func3 ?_;have kA:=wV;obtain ⟨bl,hbl⟩:∃b,decide (l.length≤300)=b:=⟨_,rfl⟩;have kL:=Dx l hbl;cases bl with
 | false =>
  repeat' (first|refine af ?_ ?_|(refine aa 9 rfl ?_;first|(refine cB [] (kL) ?_)|(refine cB [] (kA) ?_))|refine ae ?_|exact ah|refine ab fun hb=>?_|exact bB|fail)
 | true =>
  have hl:=of_decide_eq_true hbl;have hc:=zB l;obtain ⟨R,hR⟩:∃R,jN l=R:=⟨_,rfl⟩;rw [hR] at hc;have kS:=wR l hl hR;have kN:=Dj 2 R.1 (om.2 hc) (Q:=R.1.map fp) rfl;have hs:=nV hc;clear hR;obtain ⟨C,ks⟩:=R;dsimp only at *
  repeat' (first|refine af ?_ ?_|(refine aa 9 rfl ?_;first|(refine cB [] (kL) ?_)|(refine cC [] (kS) ?_)|(refine cC [] (kN) ?_))|refine ae ?_|exact ah|refine ab fun hb=>?_)
  refine ak (fun y:Nat×Cs=>y.1≤ks.length∧cM y.2=true∧y.2.queues.length=C.length) (fun y=>cq [5] [(3,.c (.sl dS C)),(4,.c (.sl (DD 2) ks)),(5,.c (.ptr 5 0)),(7,.i y.1)] [(5,.box 32 (y.2.d 2))]) (fun y=>ks.length-y.1) (0,⟨0,C.map fp,[]⟩) ⟨Nat.zero_le _,hs,List.length_map _⟩ a7 ?_;clear hs kS kN kL hbl hl hc;rintro ⟨i,c⟩ ⟨hi,hc,hq⟩;dsimp only at *
  refine bd (fun c ρ a w hr=>cV (t:=4) hr rfl) (fun hl4=>?_);by_cases hlt:i<ks.length
  ·obtain ⟨k,hk⟩:∃k,ks[i]? = some k:=⟨_,List.getElem?_eq_getElem hlt⟩;obtain ⟨R,hR⟩:∃R,fO c k=R:=⟨_,rfl⟩;have kD:=G2 2 c k hR;by_cases h0:R.2.2=0
   case neg =>
    clear hR;repeat' (first|refine af ?_ ?_|refine aa 9 rfl (cC [] (kD) ?_)|refine ae ?_|exact ah|(refine ab fun hb=>?_;first|(exact absurd hb h0)|skip))
    refine ⟨(i+1,c),⟨by dsimp only;omega,hc,hq⟩,by dsimp only;omega,?_⟩;exact a7
   have h0':(fO c k).2.2=0:=by rw [hR];exact h0
   have hX:=(pY h0').2;have hXl:=yk h0';rw [hR] at hX hXl;obtain ⟨X,E,e⟩:=R;dsimp only at *
   obtain rfl:e=0:=h0;clear hR h0' hc;obtain ⟨hcm,hho⟩:=x6 hX;have hcl:=IK (bU.1 hX).1;have hb1:=hcl.1;have hb2:=hcl.2.1;repeat' (first|refine af ?_ ?_|refine aa 9 rfl (cC [] (kD) ?_)|refine ae ?_|exact ah|refine ab fun hb=>?_)
   refine ak (fun n=>n≤X.queues.length) (fun n=>cq [5] [(3,.c (.sl dS C)),(4,.c (.sl (DD 2) ks)),(5,.c (.ptr 5 0)),(7,.i i),(11,.i n)] [(5,.box 32 (X.d 2))]) (fun n=>X.queues.length-n) 0 (Nat.zero_le _) a7 ?_;clear kD hk;intro n hn;by_cases hln:n<X.queues.length
   ·obtain ⟨q,hqn⟩:∃q,X.queues[n]? = some q:=⟨_,List.getElem?_eq_getElem hln⟩;have hm:=List.mem_of_getElem? hqn;have kAm:=B8 q.holds (hcl.2.2.1 q hm).1;have kCo:=Ew q.res (gp q.holds);rw [hcm q hm] at kCo;repeat' (first|refine af ?_ ?_|(refine aa 9 rfl ?_;first|(refine cC [] (kAm) ?_)|(refine cB [] (kCo) ?_))|refine ae ?_|exact ah|refine ab fun hb=>?_)
    refine ⟨n+1,by omega,by omega,?_⟩;exact a7
   ·repeat' (first
     | refine af ?_ ?_
     | refine ae ?_
     | exact ah|refine ab fun hb=>?_)
    refine ak (fun n=>n≤X.procs.length) (fun n=>cq [5] [(3,.c (.sl dS C)),(4,.c (.sl (DD 2) ks)),(5,.c (.ptr 5 0)),(7,.i i),(12,.i n)] [(5,.box 32 (X.d 2))]) (fun n=>X.procs.length-n) 0 (Nat.zero_le _) a7 ?_;clear hn hln;intro m hm;by_cases hln:m<X.procs.length
    ·obtain ⟨x,hx⟩:∃x,X.procs[m]? = some x:=⟨_,List.getElem?_eq_getElem hln⟩;have ex:X.procs[m]=x:=(List.getElem?_eq_some_iff.1 hx).2;cases hw:x.waiting with
     | false =>
      repeat' (first|refine af ?_ ?_|refine ae ?_|exact ah|(refine ab fun hb=>?_;first|(cases hw.symm.trans hb;done)|skip))
      refine ⟨m+1,by omega,by omega,?_⟩;exact a7
     | true =>
      have hix:=zn (bU.1 hX).1 hln;rw [ex] at hix;obtain ⟨B,hB⟩:∃B,bo X.queues x.proc x.req.expr=B:=⟨_,rfl⟩;have hBl:B.length≤1000:=by have:=dQ x.req.expr;rw [←hB];simp [bo];omega
      have kG:=tC 2 X x.proc hix hx hw hX hB;have kH:=Gp 2 x.req.expr B hBl;have hh:=hho x (List.mem_of_getElem? hx) hw;rw [hB] at hh;rw [hh] at kH;clear hh hB hix ex;repeat' (first|refine af ?_ ?_|(refine aa 9 rfl ?_;first|(refine cC [] (kG) ?_)|(refine cB [] (kH) ?_))|refine ae ?_|exact ah|(refine ab fun hb=>?_;first|(cases hw.symm.trans hb;done)|skip))
      refine ⟨m+1,by omega,by omega,?_⟩;exact a7
    ·repeat' (first
      | refine af ?_ ?_
      | refine ae ?_
      | exact ah|refine ab fun hb=>?_)
     refine ⟨(i+1,X),⟨by dsimp only;omega,hX,by dsimp only;omega⟩,by dsimp only;omega,?_⟩;exact a7
  ·have kV:=oo 2 c hc;repeat' (first|refine af ?_ ?_|(refine aa 9 rfl ?_;first|(refine cB [] (kA) ?_)|(refine cB [] (kV) ?_))|refine ae ?_|exact ah|(refine ab fun hb=>?_;first|(exfalso;omega)|skip))
   refine fm ?_;rw [show ((c.queues.length:Int) == (C.length:Int))=true from by simp [hq]]
theorem Dz (l:List Int) (turn:Int):FSpec prog 4 [.one (.sl ov l),uu turn] [] [] (.b true) []:=by
 refine aT func4 ?_;have kA:=wV;obtain ⟨bl,hbl⟩:∃b,decide (l.length≤300)=b:=⟨_,rfl⟩;have kL:=Dx l hbl;cases bl with
 | false =>
  repeat' (first|refine af ?_ ?_|(refine aa 9 rfl ?_;first|(refine cB [] (kL) ?_)|(refine cB [] (kA) ?_))|refine ae ?_|exact ah|refine ab fun hb=>?_|exact bB|fail)
 | true =>
  have hl:=of_decide_eq_true hbl;have hc:=zB l;obtain ⟨R,hR⟩:∃R,jN l=R:=⟨_,rfl⟩;rw [hR] at hc;obtain ⟨W,hW⟩:∃W,uz ⟨0,R.1.map fp,[]⟩ R.2=W:=⟨_,rfl⟩;have kR:=Ha l hl hR hc hW;have hv:cM W=true:=hW▸uA R.2 _ (nV hc);have hq:0<W.queues.length:=by
   rw [←hW,wT];have h6:=(zA (t:=⟨l,0⟩) rfl).1;have e:(mQ ⟨l,0⟩).1=R.1:=by rw [←hR];rfl
   rw [e] at h6;show 0<(R.1.map fp).length;rw [List.length_map];omega
  have h8:=(bU.1 hv).1.len;clear hR hW hc;repeat' (first|refine af ?_ ?_|(refine aa 9 rfl ?_;first|(refine cB [] (kL) ?_)|(refine cC [] (kR) ?_))|refine ae ?_|exact ah|refine ab fun hb=>?_)
  refine ak (fun y:Nat×Cs=>y.1+y.2.procs.length=W.procs.length∧cM y.2=true∧0<y.2.queues.length) (fun y=>cq [5] [(1,.i turn),(5,.c (.ptr 5 0)),(6,.i W.procs.length),(7,.i y.1)] [(5,.box 32 (y.2.d 2))]) (fun y=>y.2.procs.length) (0,W) ⟨Nat.zero_add _,hv,hq⟩ a7 ?_;clear hq hv kR kL hbl;rintro ⟨i,c⟩ ⟨hi,hc,hq⟩;dsimp only at *
  have h8':=(bU.1 hc).1.len;by_cases hlt:i<W.procs.length
  ·have hpos:1≤(c.procs.length:Int):=by omega
   obtain ⟨hm0,hm1⟩:=lY (n:=turn) hpos;obtain ⟨j,hj⟩:∃j:Nat,g9 turn c.procs.length=j:=⟨(g9 turn c.procs.length).toNat,by omega⟩;have hjl:j<c.procs.length:=by omega
   have kM:=zy turn (c.procs.length:Int) (by omega) hj;obtain ⟨x,hx⟩:∃x,c.procs[j]? = some x:=⟨_,List.getElem?_eq_getElem hjl⟩;have ex:c.procs[j]=x:=(List.getElem?_eq_some_iff.1 hx).2;obtain ⟨R,hR⟩:∃R,fO c ⟨7,x.proc,Rq.zero,⟨#[]⟩,0⟩=R:=⟨_,rfl⟩;have kD:=G2 2 c ⟨7,x.proc,Rq.zero,⟨#[]⟩,0⟩ hR;have ha:=wK (k:=⟨7,x.proc,Rq.zero,⟨#[]⟩,0⟩) rfl hc hjl (by rw [ex]);have hq':=yk ha.1;obtain ⟨h0,hX,hXl,_⟩:=ha;rw [hR] at h0 hX hXl hq';obtain ⟨X,E,e⟩:=R;dsimp only at *
   obtain rfl:e=0:=h0;clear hR hj hm0 hm1 hpos ex hc;repeat' (first|refine af ?_ ?_|(refine aa 9 rfl ?_;first|(refine cB [] (kM) ?_)|(refine cC [] (kD) ?_))|refine ae ?_|exact ah|(refine ab fun hb=>?_;first|(exfalso;omega)|skip))
   refine ⟨(i+1,X),⟨by dsimp only;omega,hX,by dsimp only;omega⟩,by dsimp only;omega,?_⟩;exact a7
  ·have h0:c.procs=[]:=List.length_eq_zero_iff.1 (by omega);have hf:=AO hc h0;have hb1:=(IK (bU.1 hc).1).1;clear h0;repeat' (first|refine af ?_ ?_|refine ae ?_|exact ah|refine ab fun hb=>?_)
   refine ak (fun k=>k≤c.queues.length) (fun k=>cq [5] [(5,.c (.ptr 5 0)),(12,.i k)] [(5,.box 32 (c.d 2))]) (fun k=>c.queues.length-k) 0 (Nat.zero_le _) a7 ?_;clear hlt hi h8';intro k hk;by_cases hlt:k<c.queues.length
   ·obtain ⟨q,hqk⟩:∃q,c.queues[k]? = some q:=⟨_,List.getElem?_eq_getElem hlt⟩;obtain ⟨f1,f2,f3⟩:=hf q (List.mem_of_getElem? hqk);have f1:q.holds.length=0:=congrArg List.length f1;have f2:q.convs.length=0:=congrArg List.length f2;have f3:q.waits.length=0:=congrArg List.length f3;repeat' (first|refine af ?_ ?_|refine ae ?_|exact ah|(refine ab fun hb=>?_;first|(exfalso;omega)|skip))
    refine ⟨k+1,by omega,by omega,?_⟩;exact a7
   ·repeat' (first
     | refine af ?_ ?_
     | refine aa 9 rfl (cB [] (kA) ?_)
     | refine ae ?_
     | exact ah|(refine ab fun hb=>?_;first|(exfalso;omega)|skip))
    refine fm ?_;rw [decide_eq_true (by omega:(0:Int)<(c.queues.length:Int))]
end Go.Proofs.YtcgpepnbohejfaaGreatDoor
