/- Part K37 of a proof of statements of chapter 15 (no condition). -/
import Derived.Test.YthpgjkjgkhjjlaaGreatDoorK33
import Derived.Test.YthpgjkjgkhjjlaaGreatDoorK34
set_option linter.unusedVariables false
set_option linter.unusedSimpArgs false
set_option maxRecDepth 100000
set_option maxHeartbeats 64000000
namespace Go.Proofs.YthpgjkjgkhjjlaaGreatDoor
open Go.RowKit Go.Proofs.Tryz
theorem MP (d:Nat) (w:Wk) (i:Nat) {x:Pc} (n:ByteArray) (hx:w.c.procs[i]? = some x) (hV:di w.c.queues=true) (hn:bd w.c.queues n=true) (hne:(bH w x n).c.queues≠[]) (hl:w.ev.length<=800000) {Z:Wk} (hZ:bH w x n=Z):FSpec prog 205 [go,pp i,.one (.sc (.string n))] (HP d w) [4] (.tup []) (HQ d Z):=by
 refine a7 func205 ?_;obtain ⟨j,hj,hF,hq⟩:=no hn;have hsh:=df (cP hV (List.getElem_mem hj));obtain ⟨l,hL⟩:=qGe (aC x.led.entries n);have kL:=ML x.led n hL;obtain ⟨o,hw⟩:=qGe (aj w.c.queues[j] x.proc);have kW:=fG w.c.queues[j] x.proc hsh.2.1 hsh.2.2 hw;unfold bH at hZ hne;rw [hL] at hZ hne;cases o with
 | none =>
  rw [Option.isSome_none] at kW;rw [show eT w x.proc n=w by unfold eT;rw [hq,hw];rfl] at hZ hne;have kB:=OV d w x.proc n l hn hne (by omega) hZ;repeat' (first|refine av ?_ ?_|(refine aa 9 rfl ?_;first|(refine cB [] (jC w.c.queues n hF) ?_)|(refine cB [] kW ?_)|(refine cB [] kL ?_)|(refine cH (qf [(0,0),(1,1),(2,2),(4,1004)]) kB ?_))|(refine aa 21 rfl ?_;refine sx (aI rfl rfl) ?_)|refine aq ?_|exact aw|(refine ap fun hb=>?_;first|(omega)|skip)|(exact oW (qf [(4,1004)])))
 | some m =>
  rw [Option.isSome_some] at kW;have hcl:=nl w.c.queues x.proc n;obtain ⟨ec,hst,_⟩:=o8 (p:=x.proc) hV hn (by rw [hq,hw];rfl);have h0:(bv w.c.queues x.proc n).2.2=0:=by rw [ec]
  rw [show eT w x.proc n=fv w x.proc n by unfold eT;rw [hq,hw];rfl] at hZ hne;unfold fv at hZ hne;have hn2:bd (w.take (bv w.c.queues x.proc n).1 (bv w.c.queues x.proc n).2.1).c.queues n=true:=by
   show bd (bv w.c.queues x.proc n).1 n=true;rw [hst.hasE];exact hn
  have hev:(w.take (bv w.c.queues x.proc n).1 (bv w.c.queues x.proc n).2.1).ev.length<=900000:=by rw [jS];omega
  have kB:=OV d _ x.proc n l hn2 hne hev hZ;obtain ⟨C,hC⟩:=qGe (bv w.c.queues x.proc n);have kC:=Ml w.c.queues x.proc n hC;rw [hC] at h0 hcl kB;obtain ⟨C1,C2,C3⟩:=C;obtain rfl:C3=0:=h0;have kT:=Iy d w C1 C2 (by dsimp only at hcl;omega);obtain ⟨w1,hw1⟩:=qGe (w.take C1 C2);have hp1:w1.c.procs=w.c.procs:=by rw [<-hw1];rfl
  rw [show (w.take (C1,C2,(0:Int)).1 (C1,C2,(0:Int)).2.1)=w1 from hw1] at kB;rw [hw1] at kT;have hx1:w1.c.procs[i]? = some x:=by rw [hp1];exact hx
  clear hne hZ hst ec hn2 hev hC hw1 hp1;repeat' (first|refine av ?_ ?_|(refine aa 9 rfl ?_;first|(refine cB [] (jC w.c.queues n hF) ?_)|(refine cB [] kW ?_)|(refine cB [] kL ?_)|(refine cC [] kC ?_)|(refine cH (qf [(0,0),(1,1),(2,2),(4,1004)]) kT ?_)|(refine cH (qf [(0,0),(1,1),(2,1004),(4,1006)]) kB ?_))|(refine aa 21 rfl ?_;refine sx (aI rfl rfl) ?_)|refine aq ?_|exact aw|(refine ap fun hb=>?_;first|(omega)|skip)|(exact oW (qf [(4,1006)])))
def TU (x:Pc) (l:List Tm) (w:Wk):Prop:=Gy x l w/\(cS x l w).c.queues≠[]/\w.ev.length+35*l.length<=800000
theorem sO (d:Nat) (w:Wk) (i:Nat) {x:Pc} (hx:w.c.procs[i]? = some x) (hok:bJ x.req.expr=[]\/TU x (bJ x.req.expr) w) {Z:Wk} (hZ:ai w i=Z):FSpec prog 133 [go,pp i] (HP d w) [4] (.tup []) (HQ d Z):=by
 refine a7 func133 ?_;have hi:=(List.getElem?_eq_some_iff.1 hx).1;have hpc:=eI hx;have hW:ai w i=dO (cS x (bJ x.req.expr) w) i:=by unfold ai;rw [hpc]
 rw [hW] at hZ;have h8:=cD x.req.expr;obtain ⟨L,hL⟩:=qGe (bJ x.req.expr);have kA:=mg d x.req.expr hL;rw [hL] at hZ h8 hok;obtain ⟨F,hF⟩:=qGe (cS x L w);have hFp:F.c.procs=w.c.procs:=by rw [<-hF];exact dL x L w
 have hFx:F.c.procs[i]? = some x:=by rw [hFp];exact hx
 rw [hF] at hZ;have kR:=PQ d F.c.procs i hFx;obtain rfl:F.setP i { x with waiting:=false,req:=Rq.zero,since:=0 } = Z:=by rw [<-hZ];unfold dO;rw [eI hFx]
 clear hZ hW;repeat' (first|refine av ?_ ?_|refine aa 9 rfl (cC [] kA ?_)|(refine aa 21 rfl ?_;refine sx (aI rfl rfl) ?_)|refine aq ?_|exact aw|refine ap fun hb=>?_)
 refine ab (fun y:Nat×Wk=>y.1<=L.length/\cS x (L.drop y.1) y.2=F/\y.2.c.procs[i]? = some x/\(L.drop y.1=[]\/TU x (L.drop y.1) y.2)) (fun y=>bP [0,1,2,1011] [(0,.v go),(1,.v (pp i)),(11,.c (.sl c6 L)),(12,.i L.length),(13,.i y.1)] [(0,.box 109 (Ix y.2 1011)),(1,.arr 82 (fR d) y.2.c.procs),(1011,.arr 68 fX y.2.ev)]) (fun y=>L.length-y.1) (0,w) ⟨Nat.zero_le _,hF,hx,hok⟩ (by exact bo (qf [(1011,2)])) ?_;rintro ⟨k,u⟩ ⟨hk,hu,hux,huo⟩;dsimp only at *
 by_cases hlt:k<L.length
 ·rw [qDc hlt] at hu huo;obtain ⟨⟨u1,u2,u3,u4⟩,u5,u6⟩:=huo.resolve_left (List.cons_ne_nil _ _);obtain ⟨a,ha⟩:=qGe (L[k]);have hga:L[k]? = some a:=by rw [qGg hlt,ha]
  rw [ha] at hu u2 u4 u5;have hne:(bH u x a.name).c.queues≠[]:=fun h=>u5 (Bn (l:=L.drop (k+1)) (w:=bH u x a.name) h);have hev:=lp u x a.name;rw [List.length_cons] at u6;obtain ⟨z,hz⟩:=qGe (bH u x a.name);have kL:=MP d u i a.name hux u1 u2 hne (by omega) hz;have hzp:z.c.procs=u.c.procs:=by rw [<-hz];exact ny u x a.name
  have hu:cS x (L.drop (k+1)) z=F:=by rw [<-hz];exact hu
  rw [hz] at u4 hev;have u5:(cS x (L.drop (k+1)) z).c.queues≠[]:=by rw [<-hz];exact u5
  clear hne hok hF hz;repeat' (first|refine av ?_ ?_|refine aa 9 rfl (cH (qf [(0,0),(1,1),(2,1011),(4,1020)]) kL ?_)|refine aq ?_|exact aw|refine ap fun hb=>?_)
  refine ⟨(k+1,z),⟨by dsimp only;omega,hu,by dsimp only;rw [hzp];exact hux,.inr ⟨u4,u5,by dsimp only;omega⟩⟩,by dsimp only;omega,?_⟩;exact VS
 ·rw [qDn (by omega)] at hu;obtain rfl:u=F:=hu;repeat' (first|refine av ?_ ?_|refine aa 9 rfl (cH (qf [(1,1)]) kR ?_)|refine aq ?_|exact aw|refine ap fun hb=>?_|(exact oW (qf [(4,1011)])))
theorem OY (d:Nat) (w:Wk) (i:Nat) {x:Pc} (n:ByteArray) (hx:w.c.procs[i]? = some x) (hn:bd w.c.queues n=true) (hr:ah (bf w.c.queues n).holds x.proc=aC x.led.entries n\/(d8 x.led ⟨n,aC x.led.entries n,ah (bf w.c.queues n).holds x.proc⟩).2=0) (hl:w.ev.length<=900000) {Z:Wk} (hZ:gy w i x.proc n=Z):FSpec prog 261 [go,pp i,.one (.sc (.string n))] (HP d w) [4] (.tup []) (HQ d Z):=by
 refine a7 func261 ?_;obtain ⟨j,hj,hF,hq⟩:=no hn;have hpc:=eI hx;unfold gy at hZ;rw [hpc] at hZ;rw [hq] at hZ hr;obtain ⟨l,hL⟩:=qGe (aC x.led.entries n);have kL:=ML x.led n hL;obtain ⟨h,hh⟩:=qGe (ah w.c.queues[j].holds x.proc);have kH:=fF w.c.queues[j] x.proc;rw [hh] at kH;rw [hL,hh] at hZ hr;by_cases hhl:h=l
 ·rw [qDt hhl] at hZ;obtain rfl:w=Z:=hZ;repeat' (first|refine av ?_ ?_|(refine aa 9 rfl ?_;first|(refine cB [] (jC w.c.queues n hF) ?_)|(refine cB [] kL ?_)|(refine cB [] kH ?_))|(refine aa 21 rfl ?_;refine sx (aI rfl rfl) ?_)|refine aq ?_|exact aw|(refine ap fun hb=>?_;first|(omega)|(exact absurd hhl.symm hb)|skip)|(exact oW (qf [(4,2)])))
 ·rw [qDf hhl,qCf] at hZ;have hr:=hr.resolve_left hhl;obtain ⟨R,hR⟩:=qGe (d8 x.led ⟨n,l,h⟩);rw [hR] at hZ hr;obtain ⟨R1,R2⟩:=R;obtain rfl:R2=0:=hr;obtain rfl:w.setP i { x with led:=R1 } = Z:=hZ;have kR:=MN x.led ⟨n,l,h⟩ hR;repeat' (first|refine av ?_ ?_|(refine aa 9 rfl ?_;first|(refine cB [] (jC w.c.queues n hF) ?_)|(refine cB [] kL ?_)|(refine cB [] kH ?_)|(refine cC [] kR ?_))|(refine aa 21 rfl ?_;refine sx (aI rfl rfl) ?_)|refine aq ?_|(refine aa 4 rfl ?_;refine a8 (ak (z:={ x with led:=R1 }) rfl rfl rfl rfl hx rfl rfl rfl rfl (qNl rfl) rfl rfl) rfl rfl rfl ?_)|exact aw|(refine ap fun hb=>?_;first|(omega)|(exact absurd hb.symm hhl)|(exact absurd rfl hb)|skip)|(exact oW (qf [(4,2)])))
def Un (d:Nat) (w:Wk):List (Nat×Box):=[(9,.box 106 [.ptr 0 0]),(0,.box 109 (Ix w 12)),(1,.arr 82 (fR d) w.c.procs),(12,.arr 68 fX w.ev)]
def HS (d:Nat) (w:Wk):List (Nat×Option Box):=[(9,some (.box 106 [.ptr 0 0])),(0,some (.box 109 (Ix w 12))),(1,some (.arr 82 (fR d) w.c.procs)),(12,some (.arr 68 fX w.ev))]
theorem SX (d:Nat) (w:Wk) (x:Pc) {b:Bool} (hb:dU w.c.queues x=b):FSpec prog 207 [x.a d,.one (.ptr 9 0)] (Un d w) [] (.b b) (HS d w):=by
 refine a7 func207 ?_;unfold dU at hb;obtain ⟨G,hG⟩:=qGe (bk w.c.queues x.proc x.req.expr);have h8:=cD x.req.expr;have hGl:G.length<=1000:=by rw [<-hG];simp [bk];omega
 rw [hG] at hb;have kG:=qr d w.c.queues x hG;obtain ⟨v,hv⟩:=qGe (cM x.req.expr G);have kH:=IE d x.req.expr G hGl hv;rw [hv] at hb;cases hw:x.waiting with
 | false =>
  rw [hw] at hb;obtain rfl:false=b:=hb;repeat' (first|refine av ?_ ?_|(refine aa 21 rfl ?_;refine sx (ba rfl rfl) ?_)|refine aq ?_|exact aw|refine ap fun hb=>?_|exact bg|fail)
 | true =>
  rw [hw] at hb;obtain rfl:v=b:=hb;repeat' (first|refine av ?_ ?_|(refine aa 9 rfl ?_;first|(refine cC [] kG ?_)|(refine cB [] kH ?_))|(refine aa 21 rfl ?_;refine sx (ba rfl rfl) ?_)|refine aq ?_|exact aw|refine ap fun hb=>?_|exact bg|fail)
theorem PX (d:Nat) (w:Wk) (hl:w.c.procs.length<=100000) {o:Option Nat} (ho:dF w.c.queues 0 w.c.procs=o):FSpec prog 108 [.one (.own 1),.one (.clo 207 [9])] (Un d w) [] (.i (PL o)) (HS d w):=by
 refine a7 func108 ?_;obtain ⟨l,hL⟩:=qGe w.c.procs;refine ao ?_;refine ab (fun i=>i<=w.c.procs.length/\dF w.c.queues i (w.c.procs.drop i)=o) (fun i=>bP [0,1,9,12] [(0,.c (.own 1)),(1,.c (.clo 207 [9])),(7,.i w.c.procs.length),(8,.i i)] [(0,.box 109 (Ix w 12)),(1,.arr 82 (fR d) w.c.procs),(9,.box 106 [.ptr 0 0]),(12,.arr 68 fX w.ev)]) (fun i=>w.c.procs.length-i) 0 ⟨Nat.zero_le _,ho⟩ aT ?_;rintro i ⟨hi,hs⟩;by_cases hlt:i<w.c.procs.length
 ·obtain ⟨x,hx⟩:=qGe (w.c.procs[i]);have hgx:w.c.procs[i]? = some x:=by rw [qGg hlt,hx]
  rw [qDc hlt,hx] at hs;have hs:(bif dU w.c.queues x then some i else dF w.c.queues (i+1) (w.c.procs.drop (i+1)))=o:=hs;obtain ⟨b,hb1⟩:=qGe (dU w.c.queues x);have kS:=SX d w x hb1;rw [hb1] at hs;cases b with
  | true =>
   obtain rfl:some i=o:=hs;repeat' (first|refine av ?_ ?_|(refine aa 9 rfl ?_;refine ov 1 [9] (qf [(0,0),(1,1),(12,12),(9,9)]) kS ?_)|refine aq ?_|exact aw|refine ap fun hb=>?_|exact bg|fail)
  | false =>
   repeat' (first|refine av ?_ ?_|(refine aa 9 rfl ?_;refine ov 1 [9] (qf [(0,0),(1,1),(12,12),(9,9)]) kS ?_)|refine aq ?_|exact aw|refine ap fun hb=>?_)
   exact UT
 ·rw [qDn (by omega)] at hs;obtain rfl:none=o:=hs;exact UG
theorem O7 (d:Nat) (w:Wk) (i:Nat) {x:Pc} (hx:w.c.procs[i]? = some x) (hev:w.ev.length<=900000) (hfin:Fq x i (bJ x.req.expr) (bz x.req.expr (bk w.c.queues x.proc x.req.expr)) (w.note 2 x.proc)) {Z:Wk} (hZ:eJ w i=Z):FSpec prog 208 [go,pp i] (HP d w) [4] (.tup []) (HQ d Z):=by
 refine a7 func208 ?_;have hi:=(List.getElem?_eq_some_iff.1 hx).1;have hpc:=eI hx;have h8:=cD x.req.expr;obtain ⟨L,hL⟩:=qGe (bJ x.req.expr);obtain ⟨G,hG⟩:=qGe (bk w.c.queues x.proc x.req.expr);have hGl:G.length=(bJ x.req.expr).length:=by rw [<-hG];simp [bk]
 obtain ⟨K,hK⟩:=qGe (bz x.req.expr G);have hKl:K.length=L.length:=by rw [<-hK,gD,hL]
 have kA:=mg d x.req.expr hL;have kG:=qr d w.c.queues x hG;have kP:=Rb d x.req.expr G hGl hK;have kS:=Q1 d w 2 x.proc (by omega);obtain ⟨F,hF⟩:=qGe (bO x i L K (w.note 2 x.proc));rw [hG,hK,hL] at hfin;have hFl:F.c.procs.length=w.c.procs.length:=by rw [<-hF];exact (qm x i L K (w.note 2 x.proc)).2
 have hZ:aZ (dO F i) i=Z:=by
  rw [<-hZ,<-hF];unfold eJ;rw [hpc,hG,hK,hL]
 obtain ⟨y,hy⟩:∃y,F.c.procs[i]? = some y:=⟨_,qGg (by omega)⟩;have hpy:=eI hy;obtain ⟨z,hz⟩:∃z,z=({ y with waiting:=false,req:=Rq.zero,since:=0 }:Pc):=⟨_,rfl⟩;have hst:dO F i=F.setP i z:=by rw [hz];unfold dO;rw [hpy]
 have hZ:Z=(F.setP i z).setP i { z with gen:=bc z.gen }:=by
  rw [<-hZ,hst];unfold aZ;rw [fa (by omega)]
 have kR:=PQ d F.c.procs i hy;rw [<-hz] at kR;have hzg:(F.c.procs.set i z)[i]? = some z:=gz (by omega) z;subst hZ;have h8':L.length<=8:=by rw [<-hL];exact h8
 clear hG hK hL hst hz hpy hpc h8 hGl;repeat' (first|refine av ?_ ?_|(refine aa 9 rfl ?_;first|(refine cH (qf [(0,0),(1,1),(2,2),(4,1004)]) kS ?_)|(refine cC [] kG ?_)|(refine cC [] kP ?_)|(refine cC [] kA ?_))|(refine aa 21 rfl ?_;first|(refine sx (ba rfl rfl) ?_)|(refine sx (aI rfl rfl) ?_))|refine aq ?_|exact aw|refine ap fun hb=>?_)
 refine ab (fun y:Nat×Wk=>y.1<=L.length/\Fq x i (L.drop y.1) (K.drop y.1) y.2/\bO x i (L.drop y.1) (K.drop y.1) y.2=F) (fun y=>bP [0,1,2,1011] [(0,.v go),(1,.v (pp i)),(4,.c (.sl cJ K)),(33,.c (.sl c6 L)),(34,.i L.length),(35,.i y.1)] [(0,.box 109 (Ix y.2 1011)),(1,.arr 82 (fR d) y.2.c.procs),(1011,.arr 68 fX y.2.ev)]) (fun y=>L.length-y.1) (0,w.note 2 x.proc) ⟨Nat.zero_le _,hfin,hF⟩ (by exact bo (qf [(1011,1004)])) ?_;rintro ⟨k,u⟩ ⟨hk,hu,hg⟩;dsimp only at *
 by_cases hlt:k<L.length
 case neg =>
  obtain rfl:u=F:=by rw [<-hg,qDn (by omega),qDn (by omega)];rfl
  repeat' (first|refine av ?_ ?_|(refine aa 9 rfl ?_;first|(refine cH (qf [(1,1)]) kR ?_)|(refine cB [] (lf z.gen) ?_))|(refine aa 21 rfl ?_;refine sx (aI rfl rfl) ?_)|refine aq ?_|(refine aa 4 rfl ?_;refine a8 (ak (z:={ z with gen:=bc z.gen }) rfl rfl rfl rfl hzg rfl rfl rfl rfl (qNl rfl) rfl rfl) rfl rfl rfl ?_)|exact aw|refine ap fun hb=>?_|(exact oW (qf [(4,1011)])))
 rw [qDc hlt,List.drop_eq_getElem_cons (l:=K) (by omega)] at hu hg;obtain ⟨b,hb1⟩:=qGe (K[k]'(by omega));have hgb:K[k]? = some b:=by rw [qGg (by omega),hb1]
 obtain ⟨a,ha⟩:=qGe (L[k]);have hga:L[k]? = some a:=by rw [qGg hlt,ha]
 rw [hb1,ha] at hu hg;obtain ⟨u1,u2,u3,⟨v,v1,v2,v3,v4⟩,u5,u6⟩:=hu;cases b with
 | false =>
  have u5:=u5 rfl;have e:bH u v a.name=bH u x a.name:=by unfold bH;rw [v2,v3]
  obtain ⟨t,ht⟩:=qGe (bH u x a.name);have kL:=MP d u i a.name v1 u1 u2 (by rw [e];exact u5) u3 (e.trans ht);have u6:Fq x i (L.drop (k+1)) (K.drop (k+1)) t:=by rw [<-ht];exact u6
  have hg:bO x i (L.drop (k+1)) (K.drop (k+1)) t=F:=by rw [<-ht];exact hg
  clear u5 e ht v4 hfin hF;repeat' (first|refine av ?_ ?_|refine aa 9 rfl (cH (qf [(0,0),(1,1),(2,1011),(4,1020)]) kL ?_)|refine aq ?_|exact aw|(refine ap fun hb=>?_;first|(exfalso;omega)|skip))
  refine ⟨(k+1,t),⟨by dsimp only;omega,u6,hg⟩,by dsimp only;omega,?_⟩;exact VS
 | true =>
  have v4:=v4 rfl;obtain ⟨t,ht⟩:=qGe (gy u i x.proc a.name);have kR:=OY d u i a.name v1 u2 (by rw [v2];exact v4) (by omega) (Z:=t) (by rw [v2];exact ht);have u6:Fq x i (L.drop (k+1)) (K.drop (k+1)) t:=by rw [<-ht];exact u6
  have hg:bO x i (L.drop (k+1)) (K.drop (k+1)) t=F:=by rw [<-ht];exact hg
  clear u5 ht v4 hfin hF;repeat' (first|refine av ?_ ?_|refine aa 9 rfl (cH (qf [(0,0),(1,1),(2,1011),(4,1020)]) kR ?_)|refine aq ?_|exact aw|(refine ap fun hb=>?_;first|(exfalso;omega)|skip))
  refine ⟨(k+1,t),⟨by dsimp only;omega,u6,hg⟩,by dsimp only;omega,?_⟩;exact VS
def TW (w:Wk) (b:Nat):List D:=[.sc (.int .i64 w.c.now),.sl eh w.c.queues,.own 50,.own b]
theorem oo (d:Nat) (w:Wk) (n:Nat) (hok:StP n w):FSpec prog 135 [go] [(0,.box 109 (TW w 2)),(50,.arr 82 (fR d) w.c.procs),(2,.arr 68 fX w.ev)] [4] (.tup []) [(0,some (.box 109 (TW (aK n w) 4))),(50,some (.arr 82 (fR d) (aK n w).c.procs)),(4,some (.arr 68 fX (aK n w).ev)),(2,none)]:=by
 refine a7 func135 ?_;obtain ⟨W,hW⟩:=qGe (aK n w);rw [hW];refine ao ?_;refine ab (fun y:Nat×Wk=>StP y.1 y.2/\aK y.1 y.2=W) (fun y=>bP [0,1,2,50,1011] [(1,.c (.ptr 1 0))] [(0,.box 109 (TW y.2 1011)),(1,.box 106 [.ptr 0 0]),(50,.arr 82 (fR d) y.2.c.procs),(1011,.arr 68 fX y.2.ev)]) (fun y=>y.1) (n,w) ⟨hok,hW⟩ (by exact bo (qf [(1011,2)])) ?_;rintro ⟨m,v⟩ ⟨hv,hs⟩;dsimp only at *
 cases ho:dF v.c.queues 0 v.c.procs with
 | none =>
  obtain rfl:v=W:=by
   rw [<-hs];cases m with
   | zero=>rfl
   | succ m=>simp [aK,ho]
  have kI:=PX d v hv.len ho;have hneg:PL none = -1:=rfl;repeat' (first|refine av ?_ ?_|(refine aa 0 rfl ?_;refine sx (dH (ks:=[1]) rfl rfl) ?_)|refine aa 9 rfl (cH (qf [(9,1),(0,0),(1,50),(12,1011)]) kI ?_)|(refine aa 21 rfl ?_;refine sx (ba rfl rfl) ?_)|refine aq ?_|exact aw|(refine ap fun hb=>?_;first|(exact absurd hb (by decide))|skip)|(exact oW (qf [(4,1011)])))
 | some i =>
  cases m with
  | zero=>rw [hv.2] at ho;cases ho
  | succ m =>
   have hl0:=hv.len;obtain ⟨_,hev,hall⟩:=hv;obtain ⟨hi,hfin,hnext⟩:=hall i ho;rw [show aK (m+1) v=aK m (eJ v i) by simp [aK,ho]] at hs;obtain ⟨x,hx⟩:∃x,v.c.procs[i]? = some x:=⟨_,qGg hi⟩;have hpc:=eI hx;rw [hpc] at hfin;obtain ⟨Z,hZ⟩:=qGe (eJ v i);have kF:=O7 d v i hx (by omega) hfin hZ;have kI:=PX d v hl0 ho;rw [hZ] at hs hnext;have hx1:PL (some i)=(i:Int):=rfl;rw [hx1] at kI;clear hall hZ hfin;repeat' (first|refine av ?_ ?_|(refine aa 0 rfl ?_;refine sx (dH (ks:=[1]) rfl rfl) ?_)|(refine aa 9 rfl ?_;first|(refine cH (qf [(9,1),(0,0),(1,50),(12,1011)]) kI ?_)|(refine cH (qf [(0,0),(1,50),(2,1011),(4,1020)]) kF ?_))|(refine aa 21 rfl ?_;refine sx (ba rfl rfl) ?_)|refine aq ?_|exact aw|(refine ap fun hb=>?_;first|(exfalso;omega)|skip))
   refine ⟨(m,Z),⟨hnext,hs⟩,by dsimp only;omega,?_⟩;exact VS
def Uz (w:Wk) (a b:Nat):List D:=[.sc (.int .i64 w.c.now),.sl eh w.c.queues,.own a,.own b]
def HR (d:Nat) (w:Wk):List (Nat×Option Box):=[(0,some (.box 109 (Uz w 3 4))),(3,some (.arr 82 (fR d) w.c.procs)),(4,some (.arr 68 fX w.ev)),(1,none),(2,none)]
theorem Rg (d:Nat) (w:Wk) (i:Nat) {x:Pc} (hx:w.c.procs[i]? = some x) (h:CI w.c) (hev:w.ev.length<=500000) {Z:Wk} (hZ:gT w i=Z):FSpec prog 85 [go,lw i] (HP d w) [3,4] (.i 0) (HR d Z):=by
 refine a7 func85 ?_;have hi:=(List.getElem?_eq_some_iff.1 hx).1;have hpc:=eI hx;have hp8:=h.len;have c2:=qg h hi;rw [show gT w i=aK (J0 w i).c.procs.length (J0 w i) from rfl] at hZ;unfold J0 at hZ c2;rw [hpc] at hZ c2;have hrl:=nE w.c.queues x.proc;obtain ⟨R,hR⟩:=qGe (bS w.c.queues x.proc);have kR:=Mu w.c.queues x.proc hR;rw [hR] at hZ c2 hrl;obtain ⟨R1,R2⟩:=R;dsimp only at hZ c2 hrl;have kT:=Iy d w R1 R2 (by omega);have kD:=Oh d w.c.procs i (by omega) hi rfl;obtain ⟨P,hP⟩:=qGe (w.c.procs.eraseIdx i);rw [hP] at kD hZ c2;have kN:=Q1 d ⟨{ w.c with queues:=R1,procs:=P },w.ev++R2⟩ 5 x.proc (by simp;omega);obtain ⟨S,hS⟩:∃S,Wk.note ⟨{ w.c with queues:=R1,procs:=P },w.ev++R2⟩ 5 x.proc=S:=⟨_,rfl⟩;have hSe:S.ev.length=w.ev.length+R2.length+1:=by rw [<-hS,g6];simp
 have hSp:S.c.procs=P:=by rw [<-hS];rfl
 rw [hS] at kN hZ c2;have kS:=oo d S _ (Ki c2 (by omega));rw [hZ] at kS;clear hS hR hZ c2 hP hpc;repeat' (first|refine av ?_ ?_|(refine aa 9 rfl ?_;first|(refine cC [] kR ?_)|(refine cH (qf [(0,0),(1,1),(2,2),(4,1004)]) kT ?_)|(refine cH (qf [(1,1),(2,1001)]) kD ?_)|(refine cH (qf [(0,0),(1,1001),(2,1004),(4,1005)]) kN ?_)|(refine cH (qf [(0,0),(50,1001),(2,1005),(4,1006)]) kS ?_))|(refine aa 21 rfl ?_;first|refine sx (aI rfl rfl) ?_|refine sx (ba rfl rfl) ?_)|refine aq ?_|exact aw|refine ap fun hb=>?_|(refine cc (qf [(3,1001),(4,1006)]) ?_;exact af))
def SZ (w:World) (n:Nat) (p:Nat->Bool) (e:Ending) (w':World):Prop :=
 ∃k:Nat,e = .returned (.int .i64 (k:Int))/\k<=n/\(∀t,t<k->p t=false)/\(∀t,k<=t->t<n->p t=true)/\Below w.heap.size w w'
theorem GX (g:FuncId) (cb:Array Value) (n:Nat) (p:Nat->Bool) (w:World) (eg:∀args w,(callFunc g args).run prog w = .ok (.enter g args) w) (hn:n<4611686018427387904)
  (hf:∀(i:Nat) W,i<n->Below w.heap.size w W->Calls prog g (#[.int .i64 (i:Int)]++cb) W (uL W (.bool (p i)))) (hmono:∀a b,a<=b->b<n->p a=true->p b=true) :
  Calls prog 318 #[.int .i64 (n:Int),.func (.func g) #[] cb] w (SZ w n p):=by
 have HF:=Lib.hid hf;have HM:=Lib.hid hmono;clear hf hmono
 go_enter func318,ntmps318
 go_wp2_with fail
 go_loopg [5,6] n (fun m v5 v6 wq=>∃lo hi:Nat,v5 = .int .i64 (lo:Int)/\v6 = .int .i64 (hi:Int)/\lo<=hi/\hi<=n/\hi<=lo+m/\Hid ((∀t,t<lo->p t=false)/\(∀t,hi<=t->t<n->p t=true))/\Below w.heap.size w wq)
 case atStart=>exact ⟨0,n,rfl,rfl,Nat.zero_le _,Nat.le_refl _,by omega,Lib.hid ⟨fun _ h=>absurd h (by omega),fun _ h1 h2=>absurd h1 (by omega)⟩,Below.refl _ _⟩
 case round =>
  obtain ⟨lo,hi,rfl,rfl,hlh,hin,hg,hI,hbw⟩:=hrel;by_cases hlt:lo<hi
  ·have hc:=HF.out ((lo+hi) / 2) wr (by omega) hbw;rw [show (((lo+hi) / 2:Nat):Int)=((lo:Int)+(hi:Int)) / 2 by omega] at hc;obtain ⟨q,hq⟩:=qGe (p ((lo+hi) / 2));have HQ:=Lib.hid hq;rw [hq] at hc;have HC:=Lib.hid hc;clear hq hc;cases q with
   | false =>
    go_wp2_with fail
    refine HC.out.mono ?_;rintro e w2 ⟨rfl,hb2⟩;go_wp2_with fail
    go_roundg (hi-((lo+hi) / 2+1))
    case measure=>omega
    case rel =>
     refine ⟨(lo+hi) / 2+1,hi,by go_num,rfl,by omega,hin,by omega,Lib.hid ⟨fun t ht=>?_,hI.out.2⟩,hbw.trans (hb2.mono hbw.size)⟩;cases hpt:p t with
     | false=>rfl
     | true =>
      have:=HM.out t ((lo+hi) / 2) (by omega) (by omega) hpt;rw [HQ.out] at this;cases this
   | true =>
    go_wp2_with fail
    refine HC.out.mono ?_;rintro e w2 ⟨rfl,hb2⟩;go_wp2_with fail
    go_roundg ((lo+hi) / 2-lo)
    case measure=>omega
    case rel =>
     exact ⟨lo,(lo+hi) / 2,rfl,by go_num,by omega,by omega,by omega,Lib.hid ⟨hI.out.1,fun t h1 h2=>HM.out ((lo+hi) / 2) t h1 h2 HQ.out⟩,hbw.trans (hb2.mono hbw.size)⟩
  ·obtain rfl:hi=lo:=by omega
   go_wp2
   go_ret
   exact ⟨hi,rfl,hin,hI.out.1,hI.out.2,hbw⟩
def O8 (l:Ct) (n:Bs):Nat:=l.countP fun r=>decide (r.key<n)
theorem GY (A:Option Addr) (B cap:Nat) (l:Ct) (n:ByteArray) (w:World) (hr:RowsAt dQ w (Lo B) A l) (g1 g2:Nat)
  (h1:w.cell? ⟨g1,0,none⟩=some (.slice A l.length cap)) (h2:w.cell? ⟨g2,0,none⟩=some (.string n)) (k:Nat) (hlt:k<l.length) :
  Calls prog 319 #[.int .i64 (k:Int),.pointer (some ⟨g1,0,none⟩),.pointer (some ⟨g2,0,none⟩)] w (uL w (.bool (!Op.bytesLess l[k].key n.toList))):=by
 obtain ⟨⟨nm,kd,u,h⟩,hx⟩:∃x,l[k]=x:=⟨_,rfl⟩;obtain ⟨b,off,rfl,hbl,hc0,hc1,hc2,hc3⟩:=A4 hr hlt hx;rw [hx];unfold Rs.key;clear hx;have hlti:(k:Int)<(l.length:Int):=by omega
 go_enter func319,ntmps319
 go_wp2
 go_quiet (fail)
 go_wp2
 go_ret
 exact ⟨rfl,cU (Below.refl _ _) _⟩
def PZ (w:World) (l:Ct) (n:Bs) (e:Ending) (w':World):Prop :=
 ∃(k:Nat) (b:Bool),e = .returned (.tuple #[.int .i64 (k:Int),.bool b])/\k<=l.length/\(∀t (h:t<l.length),t<k->l[t].key<n)/\(∀t (h:t<l.length),k<=t->¬l[t].key<n)/\(b=true↔∃h:k<l.length,l[k].key=n)/\Below w.heap.size w w'
theorem Km (A:Option Addr) (B cap:Nat) (l:Ct) (n:ByteArray) (w:World) (hs:Sorted l) (hm:l.length<=1000) (hB:B<=w.heap.size) (hr:RowsAt dQ w (Lo B) A l) :
  Calls prog 262 #[.slice A l.length cap,.string n] w (PZ w l n.toList):=by
 obtain ⟨p,hp⟩:∃p:Nat->Bool,p=fun i=>if h:i<l.length then !Op.bytesLess l[i].key n.toList else true:=⟨_,rfl⟩
 have HS:=Lib.hid hs;have HSr:∀(i:Nat) W,i<l.length->Below (w.heap.size+2) ((w.alloc (.cells #[.slice A l.length cap] 25)).alloc (.cells #[.string n] 9)) W->
   Calls prog 319 (#[.int .i64 (i:Int)] ++ #[.pointer (some ⟨w.heap.size,0,none⟩),.pointer (some ⟨w.heap.size+1,0,none⟩)]) W (uL W (.bool (p i))):=by
  intro i W hi hW;have hb:=((Below.refl w.heap.size w).alloc (Nat.le_refl _) (.cells #[.slice A l.length cap] 25)).alloc (by simp) (.cells #[.string n] 9);have h:=GY A B cap l n W (hr.below (B'':=B) (hb.trans (hW.mono (by omega))) hB (Nat.le_refl _)) w.heap.size (w.heap.size+1) ?_ ?_ i hi
  ·rw [hp];simp only [dif_pos hi];exact h
  ·rw [hW.cell (p:=⟨w.heap.size,0,none⟩) (by show w.heap.size<_;omega),World.cell?_alloc_lt _ _ _ (by simp)];exact kn w _ _ 0
  ·rw [hW.cell (p:=⟨w.heap.size+1,0,none⟩) (by show w.heap.size+1<_;omega)];simp
 have hmono:∀a b,a<=b->b<l.length->p a=true->p b=true:=by
  intro a b hab hb;rw [hp];simp only [dif_pos hb,dif_pos (show a<l.length by omega),bytesLess_eq];simp only [Bool.not_eq_true',decide_eq_false_iff_not];intro h1 h2;rcases Nat.eq_or_lt_of_le hab with rfl|hlt
  ·exact h1 h2
  ·exact h1 (List.lt_trans (hs.lt b a hb hlt) h2)
 have HM:=Lib.hid hmono;have HSR:=Lib.hid HSr;have HP:=Lib.hid hp;have HR:=Lib.hid hr;clear hs HSr hmono hp hr;have hmf:∀(fn:Fn) (first cap:Array Value) (w:World),(Instr.makeFunc fn first cap).run prog w = .ok (.func fn first cap) w:=fun _ _ _ _=>rfl
 go_enter func262,ntmps262
 go_wp2_with fail
 refine (GX 319 _ l.length p _ (fun _ _=>by kernel_rfl) (by omega) (fun i W hi hW=>HSR.out i W hi (by simpa using hW)) HM.out).mono ?_;rintro e w2 ⟨k,rfl,hk,hlo,hhi,hb2⟩;have hb2':Below (w.heap.size+2) ((w.alloc (.cells #[.slice A l.length cap] 25)).alloc (.cells #[.string n] 9)) w2:=by simpa using hb2
 have hbel:Below w.heap.size w w2:=(((Below.refl w.heap.size w).alloc (Nat.le_refl _) _).alloc (by simp) _).trans (hb2'.mono (by omega));have hz0:w2.cell? ⟨w.heap.size,0,none⟩=some (.slice A l.length cap):=by
  rw [hb2'.cell (p:=⟨w.heap.size,0,none⟩) (by show w.heap.size<_;omega),World.cell?_alloc_lt _ _ _ (by simp)];exact kn w _ _ 0
 have hz1:w2.cell? ⟨w.heap.size+1,0,none⟩=some (.string n):=by
  rw [hb2'.cell (p:=⟨w.heap.size+1,0,none⟩) (by show w.heap.size+1<_;omega)];simp
 have hr2:=HR.out.below (B'':=w2.heap.size) hbel hB (Nat.le_trans hB hbel.size);have h1:∀t (h:t<l.length),t<k->l[t].key<n.toList:=by
  intro t ht hlt;have:=hlo t hlt;rw [HP.out] at this;simpa [dif_pos ht,bytesLess_eq] using this
 have h2:∀t (h:t<l.length),k<=t->¬l[t].key<n.toList:=by
  intro t ht hle;have:=hhi t hle ht;rw [HP.out] at this;simpa [dif_pos ht,bytesLess_eq] using this
 have H1:=Lib.hid h1;have H2:=Lib.hid h2;have HBel:=Lib.hid hbel;clear h1 h2 hlo hhi hb2 hb2' hbel;by_cases hlt:k<l.length
 ·obtain ⟨⟨nm,kd,u,h⟩,hx⟩:∃x,l[k]=x:=⟨_,rfl⟩;obtain ⟨b,off,rfl,hbl,hc0,hc1,hc2,hc3⟩:=A4 hr2 hlt hx;have HX:=Lib.hid hx;clear hx hr2;have hlti:(k:Int)<(l.length:Int):=by omega
  go_wp2
  go_quiet (fail)
  go_wp2
  go_ret2
  refine ⟨k,_,rfl,hk,H1.out,H2.out,?_,cU HBel.out _⟩;constructor
  ·intro h;exact ⟨hlt,by rw [HX.out];exact beq_iff_eq.1 h⟩
  ·rintro ⟨_,h⟩;rw [HX.out] at h;exact beq_iff_eq.2 h
 ·have hd:decide (k<l.length)=false:=qDf hlt;have hd2:decide ((k:Int)<(l.length:Int))=false:=qDf (by omega);go_wp2
  go_quiet (fail)
  go_wp2
  go_ret2
  exact ⟨k,false,rfl,hk,H1.out,H2.out,by simp [hlt],cU HBel.out _⟩
theorem C0 (A:Option Addr) (B cap:Nat) (l:Ct) (n:ByteArray) (w:World) (hs:Sorted l) (hm:l.length<=1000) (hB:B<=w.heap.size) (hr:RowsAt dQ w (Lo B) A l) :
  Calls prog 262 #[.slice A l.length cap,.string n] w (PZ w l n.toList):=Km A B cap l n w hs hm hB hr
theorem M0 {l:Ct} {n:Bs} {k:Nat} (hk:k<=l.length) (h1:∀t (h:t<l.length),t<k->l[t].key<n) (h2:∀t (h:t<l.length),k<=t->¬l[t].key<n):O8 l n=k:=by
 have e:=List.countP_append (p:=fun r:Rs=>decide (r.key<n)) (l₁:=l.take k) (l₂:=l.drop k);rw [List.take_append_drop] at e;unfold O8;rw [e];have e1:(l.take k).countP (fun r:Rs=>decide (r.key<n))=(l.take k).length:=List.countP_eq_length.2 fun a ha=>by
  obtain ⟨i,hi,rfl⟩:=List.mem_iff_getElem.1 ha;rw [List.length_take] at hi;rw [List.getElem_take];exact qDt (h1 i (by omega) (by omega))
 have e2:(l.drop k).countP (fun r:Rs=>decide (r.key<n))=0:=List.countP_eq_zero.2 fun a ha=>by
  obtain ⟨i,hi,rfl⟩:=List.mem_iff_getElem.1 ha;rw [List.length_drop] at hi;rw [List.getElem_drop];simpa using h2 (k+i) (by omega) (by omega)
 rw [e1,e2,List.length_take];omega
theorem IP (l:List Rs) (n:ByteArray) (hs:Sorted l) (hm:l.length<=8) {k:Nat} {b:Bool} (hk:O8 l n.toList=k) (hb:b=true↔∃h:k<l.length,l[k].key=n.toList):FSpec prog 262 [.one (.sl dQ l),.one (.sc (.string n))] [] [] (.tup [iV k,.one (.sc (.bool b))]) [] :=
 de (fun b W=>by kernel_rfl) rfl fun w S ρ vs hS h=>by
  match vs,h with
  | [_,_],⟨⟨A,c,rfl,hc,hr⟩,rfl,_⟩ =>
   refine (C0 A w.heap.size c l n w hs (by omega) (Nat.le_refl _) (hr.lo hS)).mono fun e w' h=>?_;obtain ⟨k',b',rfl,q1,q2,q3,q4,q5⟩:=h;obtain rfl:k=k':=by rw [<-hk];exact M0 q1 q2 q3
   obtain rfl:b=b':=by
    cases b with
    | true=>exact (q4.2 (hb.1 rfl)).symm
    | false =>
     cases b' with
     | false=>rfl
     | true=>exact absurd (hb.2 (q4.1 rfl)) (by simp)
   exact ⟨_,rfl,q5,_,rfl,rfl,rfl,trivial⟩
theorem GZ {t:List Qu} (hV:di t=true):∀a b (ha:a<(bI t).length) (hb:b<(bI t).length),a<b->(bI t)[a].key<(bI t)[b].key:=fun a b ha hb hab=>by
 have hp:=(mY (bi hV).2.1).1;have h2:=(List.pairwise_iff_getElem.1 hp) a b (by simpa [ef,bI] using ha) (by simpa [ef,bI] using hb) hab;unfold jN at h2;rw [bytesLess_eq,decide_eq_true_eq] at h2;simpa [ef,bI,Rs.key] using h2
theorem G0 {t:List Qu} (hV:di t=true):Sorted (bI t):=fun i h=>GZ hV i (i+1) (by omega) h (by omega)
def Kn (t:List Qu) (a:Tm):Int:=bif !bd t a.name then 10 else bif !aS (bf t a.name).res a.am then 12 else 0
theorem G4 (t:List Qu) (a:Tm) (l:List Tm):gg t (a :: l)=bif decide (Kn t a=0) then gg t l else Kn t a:=by
 unfold Kn;show (bif !bd t a.name then 10 else bif !aS (bf t a.name).res a.am then 12 else gg t l)=_;cases bd t a.name <;> cases aS (bf t a.name).res a.am <;> rfl
theorem S5 (t:List Qu) (a:Tm) (hV:di t=true) {R:Int} (hR:Kn t a=R):FSpec prog 209 [.one (.sl dQ (bI t)),a.a] [] [] (.i R) []:=by
 refine a7 func209 ?_;have h8:=(bi hV).1;have hcl:(bI t).length=t.length:=by simp [bI]
 have kV:=PY (bI t);rw [CZ.2 (Mm hV)] at kV;have hS:=G0 hV;unfold Kn at hR;cases hh:bd t a.name with
 | false =>
  rw [hh] at hR;obtain rfl:10=R:=hR;have hno:¬∃h:O8 (bI t) a.name.toList<(bI t).length,(bI t)[O8 (bI t) a.name.toList].key=a.name.toList:=by
   rintro ⟨h1,h2⟩;have h3:(t[O8 (bI t) a.name.toList]'(by omega)).res.name=a.name:=by
    apply toList_inj
    simpa [bI,Rs.key] using h2
   have h4:=(gY hV (List.getElem_mem (show O8 (bI t) a.name.toList<t.length by omega))).1;rw [h3,hh] at h4;cases h4
  have kP:=IP (bI t) a.name hS (by omega) (k:=O8 (bI t) a.name.toList) (b:=false) rfl ⟨fun h=>(by cases h),fun h=>absurd h hno⟩;exact UG
 | true =>
  obtain ⟨j,hj,hF,hq⟩:=no hh;obtain ⟨i,hi,h1,h2⟩:=lO (t:=t) (n:=a.name) (k:=0) (by omega);have hij:i=j:=by omega
  subst hij;have aL:(bI t)[i]'(by omega)=t[i].res:=by simp [bI]
  have hplc:O8 (bI t) a.name.toList=i:=by
   have hk0:((bI t)[i]'(by omega)).key=a.name.toList:=by rw [aL];exact congrArg ByteArray.toList h2
   refine M0 (by omega) (fun u hu hlt=>?_) (fun u hu hge=>?_)
   ·rw [<-hk0];exact GZ hV u i hu (by omega) hlt
   ·rw [<-hk0];rcases Nat.eq_or_lt_of_le hge with e|e
    ·subst e;exact List.lt_irrefl _
    ·exact fun h=>List.lt_irrefl _ (List.lt_trans h (GZ hV i u (by omega) hu e))
  have kP:=IP (bI t) a.name hS (by omega) (b:=true) hplc ⟨fun _=>⟨by omega,by rw [aL];exact congrArg ByteArray.toList h2⟩,fun _=>rfl⟩;have hgi:(bI t)[i]? = some t[i].res:=by rw [qGg (by omega),aL]
  have kF:=fp t[i].res a.am;obtain ⟨f,hf⟩:=qGe (aS t[i].res a.am);rw [hh,hq,hf] at hR;rw [hf] at kF;cases f with
  | false =>
   obtain rfl:12=R:=hR;exact UG
  | true =>
   obtain rfl:0=R:=hR;exact UG
theorem P0 (t:List Qu) (hl:t.length<=100000):FSpec prog 138 [.one (.sl eh t)] [] [] (.c (.sl dQ (bI t))) []:=by
 refine a7 func138 ?_;refine ao ?_;refine cj 3 1000 63 dQ rfl rfl rfl ?_;refine ab (fun i=>i<=t.length) (fun i=>bP [1000] [(3,.c (.own 1000)),(6,.c (.sl eh t)),(7,.i t.length),(8,.i i)] [(1000,.arr 63 dQ (bI (t.take i)))]) (fun i=>t.length-i) 0 (Nat.zero_le _) aT ?_;intro i hi;have hlen:(bI (t.take i)).length=i:=by simp [bI,Nat.min_eq_left hi]
 by_cases hlt:i<t.length
 ·repeat' (first
   | refine av ?_ ?_
   | (refine aa 8 rfl ?_;refine be (ae rfl rfl (aH rfl rfl) (aN [(t[i]'(by omega)).res] rfl rfl rfl rfl) rfl aQ aQ) rfl rfl rfl ?_)
   | refine aq ?_
   | exact aw|refine ap fun hb=>?_)
  refine ⟨i+1,by omega,by omega,?_⟩;have e:bI (t.take (i+1))=bI (t.take i)++[(t[i]'(by omega)).res]:=by
   unfold bI;exact Va
  rw [e];exact bo (qf [(1000,16)])
 ·have e:bI (t.take i)=bI t:=by rw [List.take_of_length_le (by omega)]
  rw [e];exact UG
theorem Fs (d:Nat) (t:List Qu) (x:Ex) (hV:di t=true) {R:Int} (hR:fW t x=R):FSpec prog 137 [.one (.sl dQ (bI t)),x.a d] [] [] (.i R) []:=by
 refine a7 func137 ?_;unfold fW at hR;obtain ⟨L,hL⟩:=qGe (bJ x);have kA:=mg d x hL;cases hv:kv x with
 | false =>
  rw [hv] at hR;obtain rfl:1=R:=hR;obtain rfl:L=[]:=by rw [<-hL];exact sd hv
  exact UG
 | true =>
  obtain ⟨_,_,h8,h0,_⟩:=oK hv;rw [hL] at h8 h0;rw [hv,hL] at hR;have hR:gg t L=R:=hR;refine ao ?_;refine ab (fun i=>i<=L.length/\gg t (L.drop i)=R) (fun i=>bP [3] [(0,.c (.sl dQ (bI t))),(3,.c (.ptr 3 0)),(14,.c (.sl c6 L)),(15,.i L.length),(16,.i i)] [(3,.box 47 (x.d d))]) (fun i=>L.length-i) 0 ⟨Nat.zero_le _,hR⟩ aT ?_;rintro i ⟨hi,hs⟩;by_cases hlt:i<L.length
  ·obtain ⟨a,ha⟩:=qGe (L[i]);have hga:L[i]? = some a:=by rw [qGg hlt,ha]
   rw [qDc hlt,ha,G4] at hs;obtain ⟨r,hr⟩:=qGe (Kn t a);have kR:=S5 t a hV hr;rw [hr] at hs;by_cases h00:r=0
   ·subst h00;refine ao ?_;exact UT
   ·rw [qDf h00] at hs;obtain rfl:r=R:=hs;exact UG
  ·rw [qDn (by omega)] at hs;obtain rfl:0=R:=hs;exact UG
end Go.Proofs.YthpgjkjgkhjjlaaGreatDoor
