/- Part K36 of a proof of statements of chapter 15 (no condition). -/
import Derived.Test.YtkkbopkbjacfmaaGreatDoorK30
set_option linter.unusedVariables false
set_option linter.unusedSimpArgs false
set_option maxRecDepth 100000
set_option maxHeartbeats 64000000
namespace Go.Proofs.YtkkbopkbjacfmaaGreatDoor
open Go.RowKit Go.Proofs.Tryz
theorem s6 (w:Wk) (x:Pc) (n:ByteArray):(cg w x n).c.procs=w.c.procs:=by
 unfold cg di;have h1:(iL w x.proc n).c.procs=w.c.procs:=by unfold iL;cases (ah (bG w.c.queues n) x.proc).isSome <;> rfl
 cases decide (af (bG (iL w x.proc n).c.queues n).holds x.proc=aw x.led.entries n)
 ·exact h1
 ·exact h1
theorem dF (x:Pc):∀(l:List Tm) (w:Wk),(fv x l w).c.procs=w.c.procs
 | [],_=>rfl
 | a :: l,w=>(dF x l (cg w x a.name)).trans (s6 w x a.name)
def IU (p:Pr):List Tm->Wk->Prop
 | [],_=>True
 | a :: l,w=>bh w.c.queues a.name=true/\w.ev.length<=900000/\IU p l (di w p a.name a.am)
theorem A8 (w:Wk) (p:Pr) (n:ByteArray) (l:Am):(di w p n l).c.procs=w.c.procs:=by
 unfold di;cases decide (af (bG w.c.queues n).holds p=l) <;> rfl
theorem nN (p:Pr):∀(l:List Tm) (w:Wk),(cz p l w).c.procs=w.c.procs
 | [],_=>rfl
 | a :: l,w=>(nN p l (di w p a.name a.am)).trans (A8 w p a.name a.am)
def MB (w:Wk) (i:Nat) (n:Int):Prop:=i<w.c.procs.length/\((cd (w.pc i).led n).2.2=0->((w.pc i).waiting=true->F7 (w.pc i) (cR (w.pc i).req.expr) w)/\IU (w.pc i).proc (cd (w.pc i).led n).2.1 (AT w i n)/\StOk (re w i n).c.procs.length (re w i n))
theorem A9 (w:Wk) (i:Nat) (n:Int):cu w i n=bif !decide ((cd (w.pc i).led n).2.2=0) then (w,(cd (w.pc i).led n).2.2) else (be (re w i n).c.procs.length (re w i n),0):=rfl
theorem Lw {w:Wk} {i:Nat} {x:Pc} (hx:w.c.procs[i]? = some x):∃y,(rd w i).c.procs[i]? = some y/\y.proc=x.proc:=by
 have hi:=(List.getElem?_eq_some_iff.1 hx).1;unfold rd;cases (w.pc i).waiting with
 | false=>exact ⟨x,hx,rfl⟩
 | true =>
  refine ⟨{ (fv (w.pc i) (cR (w.pc i).req.expr) w).pc i with waiting:=false,req:=Rq.zero,since:=0 },?_,?_⟩
  ·show (List.set _ _ _)[i]? = _;rw [List.getElem?_set_self (by rw [dF];exact hi)]
  ·show ((fv (w.pc i) (cR (w.pc i).req.expr) w).pc i).proc=x.proc;unfold Wk.pc;rw [dF,List.getD_eq_getElem?_getD,hx];rfl
theorem IV (w:Wk) (i:Nat):(rd w i).c.procs.length=w.c.procs.length:=by
 unfold rd;cases (w.pc i).waiting with
 | false=>rfl
 | true=>show (aC w i).c.procs.length=_;unfold aC fh;rw [gX,dF]
theorem F8 (g:Lg) (n:Int):(cd g n).2.1.length<=72:=by
 unfold cd;cases hV:qT g with
 | false=>simp
 | true =>
  have h1:=(gK hV).1;rw [Bool.not_true,qCf];cases (!decide (n=0) && decide (aO n 0 g.saves<0)) with
  | true=>simp
  | false =>
   rw [qCf];simp only [List.length_map];have:=gV (g.entries.drop (bw g n).entries.length) [];simp at this;unfold bt;omega
theorem F9 (d:Nat) (w:Wk) (i:Nat) (n:Int) (hok:MB w i n) {Z:Wk×Int} (hZ:cu w i n=Z):FSpec prog 187 [ls,lD i,lD n] (HI d w) [3,4] (.i Z.2) (HO d Z.1):=by
 refine aS func187 ?_;obtain ⟨hi,hst⟩:=hok;obtain ⟨x,hx⟩:∃x,w.c.procs[i]? = some x:=⟨_,qGg hi⟩;have hpc:=lv hx;rw [A9] at hZ;obtain ⟨y,hy,hyp⟩:=Lw hx;have hyc:=lv hy;have hal:=IV w i;unfold re at hZ hst;unfold AT at hZ hst;rw [hyc,hpc] at hZ hst;obtain ⟨U,hU⟩:=qGe (cd x.led n);rw [hU] at hZ hst;have kU:=My x.led n hU;by_cases h0:U.2.2=0
 case neg =>
  obtain rfl:Z=(w,U.2.2):=by rw [<-hZ,qDf h0];rfl
  refine ao ?_
  (refine cn (qf [(3,1),(4,2)]) ?_;exact ak)
 obtain ⟨hdr,hlw,hs⟩:=hst h0;rw [qDt h0] at hZ;obtain ⟨A,hA⟩:=qGe (rd w i);rw [hA] at hZ hlw hs hy hal;clear hst hyc;have kS:=nh d _ _ hs;obtain ⟨F,hF⟩:∃F,be (bi (cz x.proc U.2.1 (A.setP i { y with led:=U.1 })) i).c.procs.length (bi (cz x.proc U.2.1 (A.setP i { y with led:=U.1 })) i)=F:=⟨_,rfl⟩;obtain rfl:Z=(F,0):=by rw [<-hZ];exact congrArg (fun z=>(z,(0:Int))) hF
 rw [hF] at kS;clear hZ hF hs;obtain ⟨B,hB⟩:∃B,A.setP i { y with led:=U.1 } = B:=⟨_,rfl⟩;rw [hB] at hlw kS;obtain ⟨W,hW⟩:=qGe (cz x.proc U.2.1 B);rw [hW] at kS;have hWl:i<W.c.procs.length:=by rw [<-hW,nN,<-hB,gX,hal];exact hi
 have hyi:i<A.c.procs.length:=by rw [hal];exact hi
 have hUl:U.2.1.length<=72:=by rw [<-hU];exact F8 x.led n
 obtain ⟨L,hL⟩:=qGe U.2.1;rw [hL] at hUl hlw hW;rw [<-hyp] at hlw hW;obtain ⟨Q,hQ⟩:=qGe y.proc;rw [hQ] at hlw hW;cases hw:x.waiting
 case' true =>
  obtain rfl:aC w i=A:=by rw [<-hA];unfold rd;rw [hpc,hw];rfl
  have kW:=rl d w i hi (by rw [hpc];exact hdr hw) (by rw [dF];exact hi);repeat' (first|refine az ?_ ?_|(refine aa 9 rfl ?_;first|(refine cC [] kU ?_)|(refine cH (qf [(3,1003),(4,1004)]) kW ?_))|refine ay ?_|(refine aa 4 rfl ?_;refine bW (aM (z:={ y with led:=U.1 }) rfl rfl rfl rfl hy rfl rfl rfl rfl (qNl rfl) rfl rfl) rfl rfl rfl ?_)|exact aA|(refine ax fun hb=>?_;first|(cases hw.symm.trans hb;done)|(exact absurd h0 hb)|skip))
  refine ab (fun y:Nat×Wk=>y.1<=L.length/\IU Q (L.drop y.1) y.2/\cz Q (L.drop y.1) y.2=W) (fun y=>bC [0,1,2,7,10,1010,1011] [(0,.v ls),(1,.v (lD i)),(8,.c (.sl da L)),(10,.c (.ptr 10 0)),(11,.i y.1)] [(0,.box 163 (GM y.2 1010 1011)),(10,.box 42 [.sc (.int .i64 Q.site),.sc (.int .i64 Q.inc),.sc (.int .i64 Q.num)]),(1010,.arr 121 (wS d) y.2.c.procs),(1011,.arr 355 sR y.2.ev)]) (fun y=>L.length-y.1) (0,B) ⟨Nat.zero_le _,hlw,hW⟩ (by subst hB hL hQ;exact a8 (qf [(1010,1003),(1011,1004)])) ?_
 case' false =>
  obtain rfl:w=A:=by rw [<-hA];unfold rd;rw [hpc,hw];rfl
  have hxy:y=x:=by rw [hx] at hy;exact (Option.some.inj hy).symm
  subst hxy;repeat' (first|refine az ?_ ?_|refine aa 9 rfl (cC [] kU ?_)|refine ay ?_|(refine aa 4 rfl ?_;refine bW (aM (z:={ y with led:=U.1 }) rfl rfl rfl rfl hy rfl rfl rfl rfl (qNl rfl) rfl rfl) rfl rfl rfl ?_)|exact aA|(refine ax fun hb=>?_;first|(cases hw.symm.trans hb;done)|(exact absurd h0 hb)|skip))
  refine ab (fun y:Nat×Wk=>y.1<=L.length/\IU Q (L.drop y.1) y.2/\cz Q (L.drop y.1) y.2=W) (fun y=>bC [0,1,2,7,10,1010,1011] [(0,.v ls),(1,.v (lD i)),(8,.c (.sl da L)),(10,.c (.ptr 10 0)),(11,.i y.1)] [(0,.box 163 (GM y.2 1010 1011)),(10,.box 42 [.sc (.int .i64 Q.site),.sc (.int .i64 Q.inc),.sc (.int .i64 Q.num)]),(1010,.arr 121 (wS d) y.2.c.procs),(1011,.arr 355 sR y.2.ev)]) (fun y=>L.length-y.1) (0,B) ⟨Nat.zero_le _,hlw,hW⟩ (by subst hB hL hQ;exact a8 (qf [(1010,1),(1011,2)])) ?_
 all_goals
  clear kU hU hpc hx hy hB hA hal hdr hyi hw;try clear kW
  rintro ⟨k,v⟩ ⟨hk,hv,hs⟩;dsimp only at *
  by_cases hlt:k<L.length
  case neg =>
   obtain rfl:v=W:=by rw [<-hs,qDn (by omega)];rfl
   repeat' (first|refine az ?_ ?_|(refine aa 9 rfl ?_;first|(refine cH (qf [(1,1010),(2,1011),(3,1020),(4,1021)]) (ov d v i hWl) ?_)|(refine cH (qf [(1,1020),(2,1021),(3,1030),(4,1031)]) kS ?_))|refine ay ?_|exact aA|refine ax fun hb=>?_|(refine cn (qf [(3,1030),(4,1031)]) ?_;exact ak))
  rw [qDc hlt] at hv hs;obtain ⟨a,ha⟩:=qGe (L[k]);have hga:L[k]? = some a:=by rw [qGg hlt,ha]
  rw [ha] at hv hs;obtain ⟨v1,v2,v3⟩:=hv;obtain ⟨j,hj,hFj,hqj⟩:=ze v1;obtain ⟨h,hh⟩:=qGe (af v.c.queues[j].holds Q);have kH:=eT v.c.queues[j] Q;rw [hh] at kH;have hs:cz Q (L.drop (k+1)) (di v Q a.name a.am)=W:=hs;have hbe:di v Q a.name a.am=bif decide (h=a.am) then v else fK v Q ⟨a.name,a.am⟩:=by unfold di;rw [hqj,hh]
  rw [hbe] at v3 hs;by_cases hhl:h=a.am
  ·rw [qDt hhl,qCt] at v3 hs;have:=du v.c.queues a.name hFj;refine ao ?_;refine ⟨(k+1,v),⟨by dsimp only;omega,v3,hs⟩,by dsimp only;omega,?_⟩;exact aL
  ·rw [qDf hhl,qCf] at v3 hs;obtain ⟨R,hR⟩:=qGe (cO v.c.queues Q a);have hll:=gC v.c.queues Q a;rw [hR] at hll;have hlw:fK v Q ⟨a.name,a.am⟩=v.take R.1 R.2.1:=by rw [<-hR];rfl
   rw [hlw] at v3 hs;repeat' (first|refine az ?_ ?_|(refine aa 9 rfl ?_;first|(refine cB [] (du v.c.queues a.name hFj) ?_)|(refine cB [] kH ?_)|(refine cC [] (tV v.c.queues Q a hR) ?_)|(refine cH (qf [(1,1010),(2,1011),(3,1020),(4,1021)]) (sW d v R.1 R.2.1 (by omega)) ?_))|refine ay ?_|exact aA|refine ax fun hb=>?_)
   refine ⟨(k+1,v.take R.1 R.2.1),⟨by dsimp only;omega,v3,hs⟩,by dsimp only;omega,?_⟩;exact a8 (qf [(1010,1020),(1011,1021)])
end Go.Proofs.YtkkbopkbjacfmaaGreatDoor
