/- Part K31 of a proof of statements of chapter 15 (no condition). -/
import Derived.Test.YthpgjkjgkhjjlaaGreatDoorK26
set_option linter.unusedVariables false
set_option linter.unusedSimpArgs false
set_option maxRecDepth 100000
set_option maxHeartbeats 64000000
namespace Go.Proofs.YthpgjkjgkhjjlaaGreatDoor
open Go.RowKit Go.Proofs.Tryz
theorem ny (w:Wk) (x:Pc) (n:ByteArray):(bH w x n).c.procs=w.c.procs:=by
 unfold bH bZ;have h1:(eT w x.proc n).c.procs=w.c.procs:=by unfold eT;cases (aj (bf w.c.queues n) x.proc).isSome <;> rfl
 cases decide (ah (bf (eT w x.proc n).c.queues n).holds x.proc=aC x.led.entries n)
 ·exact h1
 ·exact h1
theorem dL (x:Pc):∀(l:List Tm) (w:Wk),(cS x l w).c.procs=w.c.procs
 | [],_=>rfl
 | a :: l,w=>(dL x l (bH w x a.name)).trans (ny w x a.name)
def CC (p:Pr):List Tm->Wk->Prop
 | [],_=>True
 | a :: l,w=>bd w.c.queues a.name=true/\w.ev.length<=900000/\CC p l (bZ w p a.name a.am)
theorem nz (w:Wk) (p:Pr) (n:ByteArray) (l:Am):(bZ w p n l).c.procs=w.c.procs:=by
 unfold bZ;cases decide (ah (bf w.c.queues n).holds p=l) <;> rfl
theorem iA (p:Pr):∀(l:List Tm) (w:Wk),(bU p l w).c.procs=w.c.procs
 | [],_=>rfl
 | a :: l,w=>(iA p l (bZ w p a.name a.am)).trans (nz w p a.name a.am)
def PP (w:Wk) (i:Nat) (n:Int):Prop:=i<w.c.procs.length/\((cQ (w.pc i).led n).2.2=0->((w.pc i).waiting=true->Gy (w.pc i) (bJ (w.pc i).req.expr) w)/\CC (w.pc i).proc (cQ (w.pc i).led n).2.1 (pf w i n)/\StOk (nu w i n).c.procs.length (nu w i n))
theorem vu (w:Wk) (i:Nat) (n:Int):cu w i n=bif !decide ((cQ (w.pc i).led n).2.2=0) then (w,(cQ (w.pc i).led n).2.2) else (aK (nu w i n).c.procs.length (nu w i n),0):=rfl
theorem Iu {w:Wk} {i:Nat} {x:Pc} (hx:w.c.procs[i]? = some x):∃y,(jI w i).c.procs[i]? = some y/\y.proc=x.proc:=by
 have hi:=(List.getElem?_eq_some_iff.1 hx).1;unfold jI;cases (w.pc i).waiting with
 | false=>exact ⟨x,hx,rfl⟩
 | true =>
  refine ⟨{ (cS (w.pc i) (bJ (w.pc i).req.expr) w).pc i with waiting:=false,req:=Rq.zero,since:=0 },?_,?_⟩
  ·show (List.set _ _ _)[i]? = _;rw [List.getElem?_set_self (by rw [dL];exact hi)]
  ·show ((cS (w.pc i) (bJ (w.pc i).req.expr) w).pc i).proc=x.proc;unfold Wk.pc;rw [dL,List.getD_eq_getElem?_getD,hx];rfl
theorem ES (w:Wk) (i:Nat):(jI w i).c.procs.length=w.c.procs.length:=by
 unfold jI;cases (w.pc i).waiting with
 | false=>rfl
 | true=>show (ai w i).c.procs.length=_;unfold ai dO;rw [iP,dL]
theorem Bi (g:Lg) (n:Int):(cQ g n).2.1.length<=72:=by
 unfold cQ;cases hV:rT g with
 | false=>simp
 | true =>
  have h1:=(eZ hV).1;rw [Bool.not_true,qCf];cases (!decide (n=0) && decide (bb n 0 g.saves<0)) with
  | true=>simp
  | false =>
   rw [qCf];simp only [List.length_map];have:=gG (g.entries.drop (cN g n).entries.length) [];simp at this;unfold cg;omega
theorem J3 (d:Nat) (w:Wk) (i:Nat) (n:Int) (hok:PP w i n) {Z:Wk×Int} (hZ:cu w i n=Z):FSpec prog 97 [go,lw i,lw n] (HI d w) [3,4] (.i Z.2) (HO d Z.1):=by
 refine a7 func97 ?_;obtain ⟨hi,hst⟩:=hok;obtain ⟨x,hx⟩:∃x,w.c.procs[i]? = some x:=⟨_,qGg hi⟩;have hpc:=eI hx;rw [vu] at hZ;obtain ⟨y,hy,hyp⟩:=Iu hx;have hyc:=eI hy;have hal:=ES w i;unfold nu at hZ hst;unfold pf at hZ hst;rw [hyc,hpc] at hZ hst;obtain ⟨U,hU⟩:=qGe (cQ x.led n);rw [hU] at hZ hst;have kU:=SC x.led n hU;by_cases h0:U.2.2=0
 case neg =>
  obtain rfl:Z=(w,U.2.2):=by rw [<-hZ,qDf h0];rfl
  refine ao ?_
  (refine cc (qf [(3,1),(4,2)]) ?_;exact af)
 obtain ⟨hdr,hlw,hs⟩:=hst h0;rw [qDt h0] at hZ;obtain ⟨A,hA⟩:=qGe (jI w i);rw [hA] at hZ hlw hs hy hal;clear hst hyc;have kS:=oh d _ _ hs;obtain ⟨F,hF⟩:∃F,aK (aZ (bU x.proc U.2.1 (A.setP i { y with led:=U.1 })) i).c.procs.length (aZ (bU x.proc U.2.1 (A.setP i { y with led:=U.1 })) i)=F:=⟨_,rfl⟩;obtain rfl:Z=(F,0):=by rw [<-hZ];exact congrArg (fun z=>(z,(0:Int))) hF
 rw [hF] at kS;clear hZ hF hs;obtain ⟨B,hB⟩:∃B,A.setP i { y with led:=U.1 } = B:=⟨_,rfl⟩;rw [hB] at hlw kS;obtain ⟨W,hW⟩:=qGe (bU x.proc U.2.1 B);rw [hW] at kS;have hWl:i<W.c.procs.length:=by rw [<-hW,iA,<-hB,iP,hal];exact hi
 have hyi:i<A.c.procs.length:=by rw [hal];exact hi
 have hUl:U.2.1.length<=72:=by rw [<-hU];exact Bi x.led n
 obtain ⟨L,hL⟩:=qGe U.2.1;rw [hL] at hUl hlw hW;rw [<-hyp] at hlw hW;obtain ⟨Q,hQ⟩:=qGe y.proc;rw [hQ] at hlw hW;cases hw:x.waiting
 case' true =>
  obtain rfl:ai w i=A:=by rw [<-hA];unfold jI;rw [hpc,hw];rfl
  have kW:=sH d w i hi (by rw [hpc];exact hdr hw) (by rw [dL];exact hi);repeat' (first|refine av ?_ ?_|(refine aa 9 rfl ?_;first|(refine cC [] kU ?_)|(refine cH (qf [(3,1003),(4,1004)]) kW ?_))|refine aq ?_|(refine aa 4 rfl ?_;refine a8 (ak (z:={ y with led:=U.1 }) rfl rfl rfl rfl hy rfl rfl rfl rfl (qNl rfl) rfl rfl) rfl rfl rfl ?_)|exact aw|(refine ap fun hb=>?_;first|(cases hw.symm.trans hb;done)|(exact absurd h0 hb)|skip))
  refine ab (fun y:Nat×Wk=>y.1<=L.length/\CC Q (L.drop y.1) y.2/\bU Q (L.drop y.1) y.2=W) (fun y=>bP [0,1,2,7,10,1010,1011] [(0,.v go),(1,.v (lw i)),(8,.c (.sl c6 L)),(10,.c (.ptr 10 0)),(11,.i y.1)] [(0,.box 113 (KB y.2 1010 1011)),(10,.box 40 [.sc (.int .i64 Q.site),.sc (.int .i64 Q.inc),.sc (.int .i64 Q.num)]),(1010,.arr 82 (fR d) y.2.c.procs),(1011,.arr 68 fX y.2.ev)]) (fun y=>L.length-y.1) (0,B) ⟨Nat.zero_le _,hlw,hW⟩ (by subst hB hL hQ;exact bo (qf [(1010,1003),(1011,1004)])) ?_
 case' false =>
  obtain rfl:w=A:=by rw [<-hA];unfold jI;rw [hpc,hw];rfl
  have hxy:y=x:=by rw [hx] at hy;exact (Option.some.inj hy).symm
  subst hxy;repeat' (first|refine av ?_ ?_|refine aa 9 rfl (cC [] kU ?_)|refine aq ?_|(refine aa 4 rfl ?_;refine a8 (ak (z:={ y with led:=U.1 }) rfl rfl rfl rfl hy rfl rfl rfl rfl (qNl rfl) rfl rfl) rfl rfl rfl ?_)|exact aw|(refine ap fun hb=>?_;first|(cases hw.symm.trans hb;done)|(exact absurd h0 hb)|skip))
  refine ab (fun y:Nat×Wk=>y.1<=L.length/\CC Q (L.drop y.1) y.2/\bU Q (L.drop y.1) y.2=W) (fun y=>bP [0,1,2,7,10,1010,1011] [(0,.v go),(1,.v (lw i)),(8,.c (.sl c6 L)),(10,.c (.ptr 10 0)),(11,.i y.1)] [(0,.box 113 (KB y.2 1010 1011)),(10,.box 40 [.sc (.int .i64 Q.site),.sc (.int .i64 Q.inc),.sc (.int .i64 Q.num)]),(1010,.arr 82 (fR d) y.2.c.procs),(1011,.arr 68 fX y.2.ev)]) (fun y=>L.length-y.1) (0,B) ⟨Nat.zero_le _,hlw,hW⟩ (by subst hB hL hQ;exact bo (qf [(1010,1),(1011,2)])) ?_
 all_goals
  clear kU hU hpc hx hy hB hA hal hdr hyi hw;try clear kW
  rintro ⟨k,v⟩ ⟨hk,hv,hs⟩;dsimp only at *
  by_cases hlt:k<L.length
  case neg =>
   obtain rfl:v=W:=by rw [<-hs,qDn (by omega)];rfl
   repeat' (first|refine av ?_ ?_|(refine aa 9 rfl ?_;first|(refine cH (qf [(1,1010),(2,1011),(3,1020),(4,1021)]) (o9 d v i hWl) ?_)|(refine cH (qf [(1,1020),(2,1021),(3,1030),(4,1031)]) kS ?_))|refine aq ?_|exact aw|refine ap fun hb=>?_|(refine cc (qf [(3,1030),(4,1031)]) ?_;exact af))
  rw [qDc hlt] at hv hs;obtain ⟨a,ha⟩:=qGe (L[k]);have hga:L[k]? = some a:=by rw [qGg hlt,ha]
  rw [ha] at hv hs;obtain ⟨v1,v2,v3⟩:=hv;obtain ⟨j,hj,hFj,hqj⟩:=no v1;obtain ⟨h,hh⟩:=qGe (ah v.c.queues[j].holds Q);have kH:=fS v.c.queues[j] Q;rw [hh] at kH;have hs:bU Q (L.drop (k+1)) (bZ v Q a.name a.am)=W:=hs;have hbe:bZ v Q a.name a.am=bif decide (h=a.am) then v else dI v Q ⟨a.name,a.am⟩:=by unfold bZ;rw [hqj,hh]
  rw [hbe] at v3 hs;by_cases hhl:h=a.am
  ·rw [qDt hhl,qCt] at v3 hs;have:=dy v.c.queues a.name hFj;refine ao ?_;refine ⟨(k+1,v),⟨by dsimp only;omega,v3,hs⟩,by dsimp only;omega,?_⟩;exact aT
  ·rw [qDf hhl,qCf] at v3 hs;obtain ⟨R,hR⟩:=qGe (bD v.c.queues Q a);have hll:=fH v.c.queues Q a;rw [hR] at hll;have hlw:dI v Q ⟨a.name,a.am⟩=v.take R.1 R.2.1:=by rw [<-hR];rfl
   rw [hlw] at v3 hs;repeat' (first|refine av ?_ ?_|(refine aa 9 rfl ?_;first|(refine cB [] (dy v.c.queues a.name hFj) ?_)|(refine cB [] kH ?_)|(refine cC [] (xq v.c.queues Q a hR) ?_)|(refine cH (qf [(1,1010),(2,1011),(3,1020),(4,1021)]) (vn d v R.1 R.2.1 (by omega)) ?_))|refine aq ?_|exact aw|refine ap fun hb=>?_)
   refine ⟨(k+1,v.take R.1 R.2.1),⟨by dsimp only;omega,v3,hs⟩,by dsimp only;omega,?_⟩;exact bo (qf [(1010,1020),(1011,1021)])
end Go.Proofs.YthpgjkjgkhjjlaaGreatDoor
