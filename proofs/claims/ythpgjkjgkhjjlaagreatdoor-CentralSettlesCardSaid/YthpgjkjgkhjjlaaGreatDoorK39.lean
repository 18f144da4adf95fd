/- Part K39 of a proof of statements of chapter 15 (no condition). -/
import Derived.Test.YthpgjkjgkhjjlaaGreatDoorCards
import Derived.Test.YthpgjkjgkhjjlaaGreatDoorTie
import Derived.Test.YthpgjkjgkhjjlaaGreatDoorK37
import Derived.Test.YthpgjkjgkhjjlaaGreatDoorK36
import Derived.Test.YthpgjkjgkhjjlaaGreatDoorK38
import Derived.Lib.LaidTab
import Derived.Shelf.Vars
import Derived.LaidMore
import Derived.Lay
import Derived.LaidSub
import Derived.MakeChecks
import Derived.Stop.Joined
import Derived.SevenTiedAt
import Derived.LaidByTextLater
import Derived.LaidOnce
import GoSem.ClaimSeven
set_option linter.unusedVariables false
set_option linter.unusedSimpArgs false
set_option maxRecDepth 100000
set_option maxHeartbeats 64000000
namespace Go.Proofs.YthpgjkjgkhjjlaaGreatDoor
open Go.RowKit Go.Proofs.Tryz
section
open Go.ChangeShapes Go.WideShapes Go.ChangeAt Go.OpenShut
def dC:List (String×DataW Unit):=Rows.centralScriptsRow.laid
set_option maxRecDepth 100000
theorem ie (os:Os) (args:Array Value):laidMetH prog dC ((World.laidAll prog os dC).forCall (fun _ _=>0) ⟨#[],args,[]⟩).memory:=by
 rw [Go.MakeChecks.laidMetH_plain _ _ _ (by kernel_rfl)];exact laidMet_laidAll _ (by kernel_rfl) (by kernel_rfl)
theorem mH {P:Program} {w:World}:∀{l:List (String×DataW Unit)} {ps:List MemPlace},DataW.LaidVars P w l ps->∀n d,(n,d)∈l->
  ∃g t cs fuel p,P.globalNamed n=some g/\(P.globals[g]?).map (·.type)=some t/\w.var? P n=some cs/\DataW.trod (fun _=>()) P w 0 (fun _=>true) false fuel t cs.toList=some (d,p)
 | [],_,_,_,_,hm=>by cases hm
 | (n',d') :: r,ps,h,n,d,hm=>by
  obtain ⟨g,t,cs,fuel,p,q,h1,h2,h3,h4,h5,_⟩:=h;rcases List.mem_cons.1 hm with e|e
  ·cases e
   exact ⟨g,t,cs,fuel,p,h1,h2,h3,h4⟩
  ·exact mH h5 n d e
theorem Jb {P:Program} {w:World} {n:String} {g:Nat} {cs:Array Value} (hg:P.globalNamed n=some g) (h:w.var? P n=some cs) (i:Nat):w.cell? ⟨g,i,none⟩=cs[i]?:=by
 unfold World.var? at h;rw [hg] at h;simp only [Option.bind_some] at h;unfold World.cell?;rcases ho:w.heap[g]? with _|o
 ·rw [ho] at h;cases h
 ·rw [ho] at h;simp only at h ⊢;cases o <;> simp_all
section
variable {H:Type} {enc:TypeId×Value->H} {P:Program} {w:World} {base:Nat} {sp:Nat->Bool} {held:Bool} {fuel:Nat} {t e:TypeId} {n:Nat} {cs:List Value}
theorem KK {bs:List Bool} {p:List MemPlace} (ht:P.underlying t=some (.array n e)) (he:P.underlying e=some .bool) (hc:P.cellsOf e=1) (h:DataW.trod enc P w base sp held fuel t cs=some (.agg (bs.map fun b=>.lit (.bool b)),p)):∀j (hj:j<bs.length),cs[j]? = some (.bool bs[j]):=by
 obtain ⟨xs,m,_,hx,hl,hn,hi⟩:=DataW.trod_array ht h;injection hx with hx _;injection hx with hx;intro j hj;have hlen:bs.length=xs.length:=by have:=congrArg List.length hx;simpa using this
 have h1:=hi j (by omega);rw [hc,Nat.mul_one,qGg (by omega)] at h1;obtain ⟨b,h2,h3⟩:=DataW.trod_bool he h1;have h4:(xs.map (·.1))[j]? = some (.lit (.bool b)):=by rw [List.getElem?_map,qGg (by omega),h3];rfl
 rw [<-hx,List.getElem?_map,qGg hj] at h4;injection h4 with h4;injection h4 with h4;injection h4 with h4;have h5:(cs.drop j)[0]? = some (.bool b):=by
  have:=congrArg (·[0]?) h2;simpa [List.getElem?_take] using this
 rw [List.getElem?_drop,Nat.add_zero] at h5;rw [h5,h4]
theorem KL {bs:List (List Bool)} {p:List MemPlace} {t2:TypeId} {k:Nat} (ht:P.underlying t2=some (.array k t)) (ht2:P.underlying t=some (.array n e)) (he:P.underlying e=some .bool) (hc:P.cellsOf e=1) (hn5:P.cellsOf t=n) (hbs:∀r∈bs,r.length=n)
  (h:DataW.trod enc P w base sp held fuel t2 cs=some (.agg (bs.map fun r=>.agg (r.map fun b=>.lit (.bool b))),p)):∀i j (hi:i<bs.length) (hj:j<bs[i].length),cs[i*n+j]? = some (.bool bs[i][j]):=by
 obtain ⟨xs,m,_,hx,hl,hn,hi⟩:=DataW.trod_array ht h;injection hx with hx _;injection hx with hx;intro i j hil hj;have hlen:bs.length=xs.length:=by have:=congrArg List.length hx;simpa using this
 have h1:=hi i (by omega);rw [hn5,qGg (by omega)] at h1;have h4:(xs.map (·.1))[i]? = some xs[i].1:=by rw [List.getElem?_map,qGg (by omega)];rfl
 rw [<-hx,List.getElem?_map,qGg hil] at h4;injection h4 with h4;have h5:DataW.trod enc P w base sp held m t ((cs.drop (i*n)).take n)=some (.agg (bs[i].map fun b=>.lit (.bool b)),xs[i].2):=by rw [h1];exact congrArg some (Prod.ext h4.symm rfl)
 have h6:=KK ht2 he hc h5 j hj;have h7:j<n:=by have:=hbs _ (List.getElem_mem hil);omega
 rw [List.getElem?_take,if_pos h7,List.getElem?_drop] at h6;exact h6
end
theorem Qd {W:World} (h:laidMetH prog dC W):Tog W:=by
 rw [Go.MakeChecks.laidMetH_plain _ _ _ (by kernel_rfl)] at h;obtain ⟨_,hv,_⟩:=h;obtain ⟨g',t',cs,fuel,p,h1,h2,h3,h4⟩:=mH hv "clusterlocks/mode.together" Rows.laid_clusterlocks_mode_together (by simp [dC,Rows.centralScriptsRow]);have hg:prog.globalNamed "clusterlocks/mode.together" = some 1:=by kernel_rfl
 have ht:(prog.globals[1]?).map (·.type)=some 323:=by kernel_rfl
 obtain rfl:=Option.some.inj (hg.symm.trans h1);obtain rfl:=Option.some.inj (ht.symm.trans h2);have h5:=KL (bs:=[[true,true,true,true,false],[true,true,false,false,false],[true,false,true,false,false],[true,false,false,false,false],[false,false,false,false,false]]) (k:=5) (n:=5) (e:=4) (t:=322) underlying323 underlying322 underlying4 (by kernel_rfl) (by kernel_rfl) (by decide) h4;refine ⟨fun i j hi hj=>?_⟩;rw [Jb hg h3,<-Array.getElem?_toList]
 match i,hi,j,hj with
 | 0,_,0,_=>exact h5 0 0 (by decide) (by decide)
 | 0,_,1,_=>exact h5 0 1 (by decide) (by decide)
 | 0,_,2,_=>exact h5 0 2 (by decide) (by decide)
 | 0,_,3,_=>exact h5 0 3 (by decide) (by decide)
 | 0,_,4,_=>exact h5 0 4 (by decide) (by decide)
 | 1,_,0,_=>exact h5 1 0 (by decide) (by decide)
 | 1,_,1,_=>exact h5 1 1 (by decide) (by decide)
 | 1,_,2,_=>exact h5 1 2 (by decide) (by decide)
 | 1,_,3,_=>exact h5 1 3 (by decide) (by decide)
 | 1,_,4,_=>exact h5 1 4 (by decide) (by decide)
 | 2,_,0,_=>exact h5 2 0 (by decide) (by decide)
 | 2,_,1,_=>exact h5 2 1 (by decide) (by decide)
 | 2,_,2,_=>exact h5 2 2 (by decide) (by decide)
 | 2,_,3,_=>exact h5 2 3 (by decide) (by decide)
 | 2,_,4,_=>exact h5 2 4 (by decide) (by decide)
 | 3,_,0,_=>exact h5 3 0 (by decide) (by decide)
 | 3,_,1,_=>exact h5 3 1 (by decide) (by decide)
 | 3,_,2,_=>exact h5 3 2 (by decide) (by decide)
 | 3,_,3,_=>exact h5 3 3 (by decide) (by decide)
 | 3,_,4,_=>exact h5 3 4 (by decide) (by decide)
 | 4,_,0,_=>exact h5 4 0 (by decide) (by decide)
 | 4,_,1,_=>exact h5 4 1 (by decide) (by decide)
 | 4,_,2,_=>exact h5 4 2 (by decide) (by decide)
 | 4,_,3,_=>exact h5 4 3 (by decide) (by decide)
 | 4,_,4,_=>exact h5 4 4 (by decide) (by decide)
theorem ly {W:World} (h:laidMetH prog dC W) (_:W.ShapedOpen prog):Tog W:=Qd h
end
theorem IN {t t':List Qu} (h:ef t'=ef t) (ht:t≠[]):t'≠[]:=fun e=>by
 subst e;cases t with
 | nil=>exact ht rfl
 | cons q l=>cases h
theorem TX {w:Wk} {i:Nat} (h:CI w.c) (hi:i<w.c.procs.length) (hw:(w.pc i).waiting=true) (hev:w.ev.length<=700000):bJ (w.pc i).req.expr=[]\/TU (w.pc i) (bJ (w.pc i).req.expr) w:=by
 have hd:=lY h hi hw;have h8:=cD (w.pc i).req.expr;obtain ⟨_,_,hk,_,_⟩:=b9 h hi hw;have hn:ef (cS (w.pc i) (bJ (w.pc i).req.expr) w).c.queues=ef w.c.queues:=hk.nm;cases hL:bJ (w.pc i).req.expr with
 | nil=>exact .inl rfl
 | cons a l =>
  right
  rw [hL] at hd hn h8;exact ⟨hd.ok (by omega),IN hn (zm hd.2.1),by omega⟩
theorem MZ (d:Nat) (w:Wk) (i:Nat) {x:Pc} (hx:w.c.procs[i]? = some x) (h:CI w.c) (hev:w.ev.length<=500000) {Z:Wk×Int} (hZ:(bif !x.waiting then (w,14) else (bw (aZ (ai w i) i),0))=Z):FSpec prog 81 [go,pp i] (HP d w) [4] (.i Z.2) (HQ d Z.1):=by
 refine a7 func81 ?_;have hi:=(List.getElem?_eq_some_iff.1 hx).1;have hpc:=eI hx;cases hw:x.waiting with
 | false =>
  rw [hw] at hZ;obtain rfl:(w,14)=Z:=hZ;exact Vf
 | true =>
  rw [hw] at hZ;have hw':(w.pc i).waiting=true:=by rw [hpc];exact hw
  obtain ⟨c1,_,hk,hps,_⟩:=b9 h hi hw';have hdr:=TX h hi hw' (by omega);have hev1:=dM w i;have hlen:=hk.len;rw [hpc] at hdr hps;obtain ⟨V,hV⟩:=qGe (ai w i);have kW:=sO d w i hx hdr hV;rw [hV] at c1 hps hev1 hZ hlen;obtain ⟨y,hy⟩:∃y,V.c.procs[i]? = some y:=⟨_,qGg (by omega)⟩;have hyw:y.waiting=false:=by
   have:=hy;rw [hps,List.getElem?_set_self hi] at this;obtain rfl:=Option.some.inj this;rfl
  have hpy:=eI hy;have hN:aZ V i=V.setP i { y with gen:=bc y.gen }:=by unfold aZ;rw [hpy]
  obtain ⟨c2,_⟩:=eL c1 (by omega:i<V.c.procs.length) (by rw [hpy];exact hyw);rw [hN] at hZ c2;obtain ⟨F,hF⟩:∃F,bw (V.setP i { y with gen:=bc y.gen })=F:=⟨_,rfl⟩;have kS:=oo d (V.setP i { y with gen:=bc y.gen }) _ (Ki c2 (by show V.ev.length<=_;omega));rw [show aK (V.setP i { y with gen:=bc y.gen }).c.procs.length (V.setP i { y with gen:=bc y.gen })=F from hF] at kS;obtain rfl:(F,(0:Int))=Z:=by rw [<-hZ];exact congrArg (fun z=>(z,(0:Int))) hF.symm
  clear hZ hN hF hps hV hdr c1 c2;repeat' (first|refine av ?_ ?_|(refine aa 9 rfl ?_;first|(refine cH (qf [(0,0),(1,1),(2,2),(4,1004)]) kW ?_)|(refine cB [] (lf y.gen) ?_)|(refine cH (qf [(0,0),(50,1),(2,1004),(4,1006)]) kS ?_))|(refine aa 21 rfl ?_;refine sx (aI rfl rfl) ?_)|refine aq ?_|(refine aa 4 rfl ?_;refine a8 (ak (z:={ y with gen:=bc y.gen }) rfl rfl rfl rfl hy rfl rfl rfl rfl (qNl rfl) rfl rfl) rfl rfl rfl ?_)|exact aw|refine ap fun hb=>?_|(refine cc (qf [(4,1006)]) ?_;exact af))
theorem Rf (d:Nat) (w:Wk) (i:Nat) (n:Int) {x:Pc} (hx:w.c.procs[i]? = some x) {Z:Wk×Int} (hZ:(bif x.waiting then (w,14) else bif !decide ((da x.led n).2=0) then (w,(da x.led n).2) else (aZ (w.setP i { x with led:=(da x.led n).1 }) i,0))=Z):FSpec prog 83 [go,pp i,lw n] (HP d w) [4] (.i Z.2) (HQ d Z.1):=by
 refine a7 func83 ?_;have hi:=(List.getElem?_eq_some_iff.1 hx).1;cases hw:x.waiting with
 | true =>
  rw [hw] at hZ;obtain rfl:(w,14)=Z:=hZ;exact Vf
 | false =>
  rw [hw,qCf] at hZ;obtain ⟨R,hR⟩:=qGe (da x.led n);rw [hR] at hZ;have kS:=Q8 x.led n hR;obtain ⟨g,e⟩:=R;by_cases he:e=0
  ·subst he;have hZ:(aZ (w.setP i { x with led:=g }) i,(0:Int))=Z:=by rw [<-hZ,qDt rfl,hw];rfl
   have hyi:=gz hi { x with led:=g };have hN:aZ (w.setP i { x with led:=g }) i=(w.setP i { x with led:=g }).setP i { x with led:=g,gen:=bc x.gen }:=by
    unfold aZ;rw [fa hi]
   rw [hN] at hZ;subst hZ;clear hR hN;repeat' (first|refine av ?_ ?_|(refine aa 9 rfl ?_;first|(refine cC [] kS ?_)|(refine cB [] (lf x.gen) ?_))|(refine aa 21 rfl ?_;refine sx (aI rfl rfl) ?_)|refine aq ?_|(refine aa 4 rfl ?_;first|(refine a8 (ak (z:={ x with led:=g }) rfl rfl rfl rfl hx rfl rfl rfl rfl (qNl rfl) rfl rfl) rfl rfl rfl ?_)|(refine a8 (ak (z:={ x with led:=g,gen:=bc x.gen }) rfl rfl rfl rfl hyi rfl rfl rfl rfl (qNl rfl) rfl rfl) rfl rfl rfl ?_))|exact aw|(refine ap fun hb=>?_;first|(exact absurd rfl hb)|skip)|(refine cc (qf [(4,2)]) ?_;exact af))
  ·rw [qDf he] at hZ;obtain rfl:(w,e)=Z:=hZ;repeat' (first|refine av ?_ ?_|refine aa 9 rfl (cC [] kS ?_)|(refine aa 21 rfl ?_;refine sx (aI rfl rfl) ?_)|refine aq ?_|exact aw|(refine ap fun hb=>?_;first|(exact absurd hb he)|skip)|(refine cc (qf [(4,2)]) ?_;exact af))
theorem Kj {g:Lg} (h:Ld g) {n:ByteArray} (hn:aC g.entries n=⟨0,0⟩):g.entries.filter (oth n)=g.entries:=by
 have h1:=(D6 h.ents n).1;rw [hn,show Ly ⟨0,0⟩=0 from by decide] at h1;have h2:(g.entries.filter fun e=>bC e.name n)=[]:=List.length_eq_zero_iff.1 (by omega);rw [List.filter_eq_nil_iff] at h2;exact List.filter_eq_self.2 fun e he=>by
  have:=h2 e he;simpa [oth] using this
theorem GS {g:Lg} (h:Ld g) {n:ByteArray}:(ic g n).2 = !decide (aC g.entries n=⟨0,0⟩):=by
 have hV:=eK.2 h;unfold ic;rw [hV,Bool.not_true,qCf];by_cases hn:aC g.entries n=⟨0,0⟩
 ·rw [qDt hn];have hf:g.entries.filter (oth n)=g.entries:=Kj h hn;rw [show (gS g n).entries=g.entries from hf,qDt rfl];rfl
 ·rw [qDf hn];have hne:(gS g n).entries.length≠g.entries.length:=by
   intro e;have h1:g.entries.filter (oth n)=g.entries:=List.Sublist.eq_of_length List.filter_sublist e;have h2:=jb n n g.entries;rw [h1,if_pos rfl] at h2;exact hn h2
  rw [qDf hne];rfl
theorem Kk (d:Nat) (w:Wk) (i:Nat) (n:ByteArray) {x:Pc} (hx:w.c.procs[i]? = some x) (h:CI w.c) (hev:w.ev.length<=500000) {Z:Wk×Int} (hZ:dG w i n=Z):FSpec prog 82 [go,pp i,.one (.sc (.string n))] (HP d w) [4] (.i Z.2) (HQ d Z.1):=by
 refine a7 func82 ?_;have hi:=(List.getElem?_eq_some_iff.1 hx).1;have hpc:=eI hx;rw [yU] at hZ;cases hw:x.waiting with
 | true =>
  rw [hpc,hw] at hZ;obtain rfl:(w,14)=Z:=hZ;exact Vf
 | false =>
  have hw':(w.pc i).waiting=false:=by rw [hpc];exact hw
  have hinv:=h.inv _ (List.getElem_mem hi);rw [<-bh hi,hpc] at hinv;obtain ⟨_,_,hrun⟩:=hinv.run hw;have hD2:=GS hinv.stat.led (n:=n);obtain ⟨R,hR⟩:=qGe (ic x.led n);have kD:=Q9 x.led n hR;rw [hR] at hD2;by_cases h0:aC x.led.entries n=⟨0,0⟩
  ·rw [hpc,hw,h0,qDt rfl] at hZ;obtain rfl:(w,10)=Z:=hZ;rw [h0,qDt rfl] at hD2;obtain ⟨g,e⟩:=R;obtain rfl:e=false:=hD2;repeat' (first|refine av ?_ ?_|refine aa 9 rfl (cC [] kD ?_)|(refine aa 21 rfl ?_;refine sx (aI rfl rfl) ?_)|refine aq ?_|exact aw|refine ap fun hb=>?_|(refine cc (qf [(4,2)]) ?_;exact af))
  ·have hn:=(hinv.stat.hf n h0).1;have hg:=(hrun n hn).h;obtain ⟨c2,_,_,hnm⟩:=jQ h hi hw' (by rw [hpc];exact h0);unfold qd at hZ c2 hnm;rw [hpc] at hZ c2 hnm;rw [hw,qDf h0,qCf,qCf] at hZ;rw [qDf h0] at hD2;obtain ⟨g,e⟩:=R;obtain rfl:e=true:=hD2;rw [hR] at hZ c2 hnm;have hdb:bZ w x.proc n ⟨0,0⟩=dI w x.proc ⟨n,⟨0,0⟩⟩:=by
    unfold bZ;rw [hg,qDf h0];rfl
   have hne:(bZ w x.proc n ⟨0,0⟩).c.queues≠[]:=by rw [hdb];exact IN hnm (zm hn)
   have hev1:=ql w x.proc n ⟨0,0⟩;obtain ⟨V,hV⟩:=qGe (bZ w x.proc n ⟨0,0⟩);have kL:=OV d w x.proc n ⟨0,0⟩ hn hne (by omega) hV;have hVp:V.c.procs=w.c.procs:=by rw [<-hV];exact nz w x.proc n ⟨0,0⟩
   rw [<-hdb,hV] at hZ c2;rw [hV] at hev1;have hy:V.c.procs[i]? = some x:=by rw [hVp];exact hx
   have hiV:i<V.c.procs.length:=by rw [hVp];exact hi
   have hN:aZ (V.setP i { x with led:=g }) i=(V.setP i { x with led:=g }).setP i { x with led:=g,gen:=bc x.gen }:=by
    unfold aZ;rw [fa hiV]
   dsimp only at hZ c2;have hyi:=gz hiV { x with led:=g };rw [hN] at hZ c2;obtain ⟨Y,hY⟩:∃Y,aK ((V.setP i { x with led:=g }).setP i { x with led:=g,gen:=bc x.gen }).c.procs.length ((V.setP i { x with led:=g }).setP i { x with led:=g,gen:=bc x.gen })=Y:=⟨_,rfl⟩;have kS:=oo d ((V.setP i { x with led:=g }).setP i { x with led:=g,gen:=bc x.gen }) _ (Ki c2 (by show V.ev.length<=_;omega));rw [hY] at kS;obtain rfl:(Y,(0:Int))=Z:=by rw [<-hZ];exact congrArg (fun z=>(z,(0:Int))) hY.symm
   clear hZ hN hY hV hdb hne hnm c2 hrun hinv hR;repeat' (first|refine av ?_ ?_|(refine aa 9 rfl ?_;first|(refine cC [] kD ?_)|(refine cH (qf [(0,0),(1,1),(2,2),(4,1004)]) kL ?_)|(refine cB [] (lf x.gen) ?_)|(refine cH (qf [(0,0),(50,1),(2,1004),(4,1006)]) kS ?_))|(refine aa 21 rfl ?_;refine sx (aI rfl rfl) ?_)|refine aq ?_|(refine aa 4 rfl ?_;first|(refine a8 (ak (z:={ x with led:=g }) rfl rfl rfl rfl hy rfl rfl rfl rfl (qNl rfl) rfl rfl) rfl rfl rfl ?_)|(refine a8 (ak (z:={ x with led:=g,gen:=bc x.gen }) rfl rfl rfl rfl hyi rfl rfl rfl rfl (qNl rfl) rfl rfl) rfl rfl rfl ?_))|exact aw|refine ap fun hb=>?_|(refine cc (qf [(4,1006)]) ?_;exact af))
theorem GT (p:Pr) (n:ByteArray) (l:Am) (w:Wk) (i:Nat) (z:Pc):bZ (w.setP i z) p n l=(bZ w p n l).setP i z:=by
 unfold bZ dI;show (bif decide (ah (bf w.c.queues n).holds p=l) then w.setP i z else _)=_;cases decide (ah (bf w.c.queues n).holds p=l) <;> rfl
theorem sR (p:Pr) (i:Nat) (z:Pc):∀(l:List Tm) (w:Wk),bU p l (w.setP i z)=(bU p l w).setP i z/\(CC p l w->CC p l (w.setP i z))
 | [],w=>⟨rfl,fun _=>trivial⟩
 | a :: l,w=>by
  have ih:=sR p i z l (bZ w p a.name a.am);have e:=GT p a.name a.am w i z;refine ⟨?_,fun h=>⟨h.1,h.2.1,?_⟩⟩
  ·show bU p l (bZ (w.setP i z) p a.name a.am)=_;rw [e];exact ih.1
  ·rw [e];exact ih.2 h.2.2
theorem GU (d:Nat) (w:Wk) (i:Nat) (n:Int) {x:Pc} (hx:w.c.procs[i]? = some x) (h:CI w.c) (hev:w.ev.length<=400000) {Z:Wk×Int} (hZ:cu w i n=Z):FSpec prog 84 [go,pp i,lw n] (HP d w) [4] (.i Z.2) (HQ d Z.1):=by
 refine a7 func84 ?_;have hi:=(List.getElem?_eq_some_iff.1 hx).1;have hpc:=eI hx;rw [vu] at hZ;obtain ⟨U,hU⟩:=qGe (cQ x.led n);have kU:=SR x.led n hU;by_cases h0:U.2.2=0
 case neg =>
  rw [hpc,hU,qDf h0] at hZ;obtain rfl:(w,U.2.2)=Z:=hZ;obtain ⟨g,L,e⟩:=U;repeat' (first|refine av ?_ ?_|refine aa 9 rfl (cC [] kU ?_)|(refine aa 21 rfl ?_;refine sx (aI rfl rfl) ?_)|refine aq ?_|exact aw|(refine ap fun hb=>?_;first|(exact absurd hb h0)|skip)|(refine cc (qf [(4,2)]) ?_;exact af))
 obtain ⟨hlw,c2,hkp,_⟩:=je (n:=n) h hi (by rw [hpc,hU];exact h0);have hrest:=Im h hi;have hUl:=Bi x.led n;obtain ⟨y,hy,hyp⟩:=Iu hx;have hyc:=eI hy;have hev1:(jI w i).ev.length<=w.ev.length+280:=by
  unfold jI;cases (w.pc i).waiting with
  | false=>rw [qCf];omega
  | true=>exact dM w i
 have hnmA:ef (jI w i).c.queues=ef w.c.queues:=hrest.kp.nm;have hWev:(nu w i n).ev.length<=(jI w i).ev.length+18*U.2.1.length:=by
  have:=me (w.pc i).proc (cQ (w.pc i).led n).2.1 (pf w i n);rw [hpc,hU] at this;show (bU (w.pc i).proc (cQ (w.pc i).led n).2.1 (pf w i n)).ev.length<=_;rw [hpc,hU];exact this
 have hnmS:=hkp.nm;have hlw:=hlw.ok (by rw [hpc,hU];show (jI w i).ev.length+_<=_;rw [hU] at hUl;omega);rw [hpc,hU] at hlw;rw [hU] at hUl;obtain ⟨A,hA⟩:=qGe (jI w i);have hBB:pf w i n=A.setP i { y with led:=U.1 }:=by
  unfold pf;rw [hA,hpc,hU,<-hA,hyc]
 rw [hBB] at hlw;have hiA:i<A.c.procs.length:=by rw [<-hA,ES];exact hi
 have hSS:nu w i n=bU x.proc U.2.1 ((A.setP i { y with led:=U.1 }).setP i { y with led:=U.1,gen:=bc y.gen }):=by
  unfold nu;rw [hBB,hpc,hU,(sR x.proc i { y with led:=U.1,gen:=bc y.gen } U.2.1 (A.setP i { y with led:=U.1 })).1];unfold aZ;have:(bU x.proc U.2.1 (A.setP i { y with led:=U.1 })).pc i = { y with led:=U.1 }:=by
   unfold Wk.pc;rw [iA];exact fa hiA _
  rw [this]
 have hlw2:=(sR x.proc i { y with led:=U.1,gen:=bc y.gen } U.2.1 (A.setP i { y with led:=U.1 })).2 hlw;rw [hpc,hU,qDt h0] at hZ;rw [hSS] at c2 hZ hnmS hWev;rw [hA] at hy hev1 hWev hnmA;have hyi:=gz hiA { y with led:=U.1 };obtain ⟨B,hB⟩:∃B,(A.setP i { y with led:=U.1 }).setP i { y with led:=U.1,gen:=bc y.gen } = B:=⟨_,rfl⟩;have hBq:B.c.queues=A.c.queues:=by rw [<-hB];rfl
 obtain ⟨W,hW⟩:=qGe (bU x.proc U.2.1 B);rw [hB] at hlw2;rw [hB,hW] at c2 hZ hnmS hWev;obtain ⟨L,hL⟩:=qGe U.2.1;rw [hL] at hlw2 hW hWev hUl;have hWne:L=[]\/W.c.queues≠[]:=by
  cases L with
  | nil=>exact .inl rfl
  | cons a l =>
   have h1:=hlw2.1;rw [hBq] at h1;exact .inr (IN (hnmS.trans hnmA.symm) (zm h1))
 obtain ⟨F,hF⟩:=qGe (aK W.c.procs.length W);have kS:=oo d W _ (Ki c2 (by omega));rw [hF] at kS hZ;obtain rfl:(F,(0:Int))=Z:=hZ;have hWp:i<W.c.procs.length:=by rw [<-hW,iA,<-hB];show i<(List.set _ _ _).length;rw [List.length_set];exact (by rw [show (A.setP i { y with led:=U.1 }).c.procs=A.c.procs.set i { y with led:=U.1 } from rfl,List.length_set];exact hiA)
 have hBp:∃v,B.c.procs[i]? = some v/\v.proc=x.proc:=⟨{ y with led:=U.1,gen:=bc y.gen },by rw [<-hB];exact gz (by show i<(A.c.procs.set i _).length;rw [List.length_set];exact hiA) _,hyp⟩;have hdr:=fun hw=>TX h hi hw (by omega);rw [hpc] at hdr;obtain ⟨g,L2,e⟩:=U;obtain rfl:L2=L:=hL;obtain rfl:e=0:=h0;dsimp only at hB hyi;have kW:=fun hw=>sO d w i hx (hdr hw) rfl;have hA2:A=bif x.waiting then ai w i else w:=by rw [<-hA];unfold jI;rw [hpc]
 clear hlw hSS hBB hA hF hdr hrest hkp c2 hnmS hnmA hU;subst hB;cases hw:x.waiting
 case' false =>
  rw [hw,qCf] at hA2;subst hA2;clear kW;obtain rfl:x=y:=Option.some.inj (hx.symm.trans hy);repeat' (first|refine av ?_ ?_|(refine aa 9 rfl ?_;first|(refine cC [] kU ?_)|(refine cB [] (lf x.gen) ?_))|(refine aa 21 rfl ?_;refine sx (aI rfl rfl) ?_)|refine aq ?_|(refine aa 4 rfl ?_;first|(refine a8 (ak (z:={ x with led:=g }) rfl rfl rfl rfl hy rfl rfl rfl rfl (qNl rfl) rfl rfl) rfl rfl rfl ?_)|(refine a8 (ak (z:={ x with led:=g,gen:=bc x.gen }) rfl rfl rfl rfl hyi rfl rfl rfl rfl (qNl rfl) rfl rfl) rfl rfl rfl ?_))|exact aw|(refine ap fun hb=>?_;first|(exact absurd rfl hb)|skip))
 case' true =>
  rw [hw,qCt] at hA2;have kW:=kW (by rw [hw]);rw [<-hA2] at kW;repeat' (first|refine av ?_ ?_|(refine aa 9 rfl ?_;first|(refine cC [] kU ?_)|(refine cH (qf [(0,0),(1,1),(2,2),(4,1004)]) kW ?_)|(refine cB [] (lf y.gen) ?_))|(refine aa 21 rfl ?_;refine sx (aI rfl rfl) ?_)|refine aq ?_|(refine aa 4 rfl ?_;first|(refine a8 (ak (z:={ y with led:=g }) rfl rfl rfl rfl hy rfl rfl rfl rfl (qNl rfl) rfl rfl) rfl rfl rfl ?_)|(refine a8 (ak (z:={ y with led:=g,gen:=bc y.gen }) rfl rfl rfl rfl hyi rfl rfl rfl rfl (qNl rfl) rfl rfl) rfl rfl rfl ?_))|exact aw|(refine ap fun hb=>?_;first|(exact absurd rfl hb)|skip))
 case' false=>refine ab (fun y:Nat×Wk=>y.1<=L2.length/\bU x.proc (L2.drop y.1) y.2=W/\CC x.proc (L2.drop y.1) y.2/\∃v,y.2.c.procs[i]? = some v/\v.proc=x.proc) (fun y=>bP [0,1,2,1011] [(0,.v go),(1,.v (pp i)),(44,.c (.sl c6 L2)),(45,.i L2.length),(46,.i y.1)] [(0,.box 109 (Ix y.2 1011)),(1,.arr 82 (fR d) y.2.c.procs),(1011,.arr 68 fX y.2.ev)]) (fun y=>L2.length-y.1) (0,(A.setP i { x with led:=g }).setP i { x with led:=g,gen:=bc x.gen }) ⟨Nat.zero_le _,hW,hlw2,hBp⟩ (by exact bo (qf [(1011,2)])) ?_
 case' true=>refine ab (fun y:Nat×Wk=>y.1<=L2.length/\bU x.proc (L2.drop y.1) y.2=W/\CC x.proc (L2.drop y.1) y.2/\∃v,y.2.c.procs[i]? = some v/\v.proc=x.proc) (fun y=>bP [0,1,2,1011] [(0,.v go),(1,.v (pp i)),(44,.c (.sl c6 L2)),(45,.i L2.length),(46,.i y.1)] [(0,.box 109 (Ix y.2 1011)),(1,.arr 82 (fR d) y.2.c.procs),(1011,.arr 68 fX y.2.ev)]) (fun y=>L2.length-y.1) (0,(A.setP i { y with led:=g }).setP i { y with led:=g,gen:=bc y.gen }) ⟨Nat.zero_le _,hW,hlw2,hBp⟩ (by exact bo (qf [(1011,1004)])) ?_
 all_goals
  clear hy hyi hyc;rintro ⟨k,u⟩ ⟨hk,hu,hul,v,hv1,hv2⟩;dsimp only at *
  by_cases hlt:k<L2.length
  ·rw [qDc hlt] at hu hul;obtain ⟨u1,u2,u3⟩:=hul;obtain ⟨a,ha⟩:=qGe (L2[k]);have hga:L2[k]? = some a:=by rw [qGg hlt,ha]
   rw [ha] at hu u1 u3;have hu:bU x.proc (L2.drop (k+1)) (bZ u x.proc a.name a.am)=W:=hu;have hne:(bZ u x.proc a.name a.am).c.queues≠[]:=fun e=>by
    have h9:=yX (p:=x.proc) (l:=L2.drop (k+1)) e;rw [hu] at h9;rcases hWne with e2|e2
    ·rw [e2] at hlt;exact absurd hlt (by simp)
    ·exact e2 h9
   have hzp:=nz u x.proc a.name a.am;obtain ⟨z,hz⟩:=qGe (bZ u x.proc a.name a.am);have kL:=OV d u x.proc a.name a.am u1 hne u2 hz;rw [hz] at hu u3 hzp;rw [<-hv2] at kL;clear hne hz;repeat' (first|refine av ?_ ?_|refine aa 9 rfl (cH (qf [(0,0),(1,1),(2,1011),(4,1020)]) kL ?_)|(refine aa 21 rfl ?_;refine sx (aI rfl rfl) ?_)|refine aq ?_|exact aw|refine ap fun hb=>?_)
   refine ⟨(k+1,z),⟨by dsimp only;omega,hu,u3,v,by dsimp only;rw [hzp];exact hv1,hv2⟩,by dsimp only;omega,?_⟩;exact VS
  ·exact Vp
theorem Rj (d:Nat) (w:Wk) (n:Int) (h:CI w.c) (hs:∀x∈w.c.procs,dU w.c.queues x=false) (he:w.ev.length<=1000) {Z:Wk×Int} (hZ:gi w n=Z):FSpec prog 79 [go,lw n] (HP d w) [4] (.i Z.2) (HQ d Z.1):=by
 refine a7 func79 ?_;rw [Iv] at hZ;have hnow:=h.now;by_cases h1:0<=n/\n<=1000
 case neg =>
  obtain rfl:(w,1)=Z:=by
   rw [<-hZ,show (decide (0<=n) && decide (n<=1000))=false by rw [Bool.and_eq_false_iff];simp;omega];rfl
  repeat' (first|refine av ?_ ?_|(refine aa 21 rfl ?_;refine sx (ba rfl rfl) ?_)|refine aq ?_|exact aw|refine ap fun hb=>?_|(refine cc (qf [(4,2)]) ?_;exact af))
  all_goals (exfalso;omega)
 obtain ⟨h1,h2⟩:=h1;rw [qDt h1,qDt h2] at hZ;by_cases h3:1073741824-n<w.c.now
 ·obtain rfl:(w,16)=Z:=by rw [<-hZ,qDt h3];rfl
  repeat' (first|refine av ?_ ?_|(refine aa 21 rfl ?_;refine sx (ba rfl rfl) ?_)|refine aq ?_|exact aw|(refine ap fun hb=>?_;first|(exfalso;omega)|skip)|(refine cc (qf [(4,2)]) ?_;exact af))
 obtain ⟨W,hW⟩:=qGe (cI w.c.procs.length (Ny w n));obtain rfl:(W,0)=Z:=by rw [<-hZ,qDf h3,hW];rfl
 have hA:CI (Ny w n).c:=h.later h1 (by omega);have kL:=P2 d (Ny w n) (by have:=hA.len;omega) (Tn hA) rfl;repeat' (first|refine av ?_ ?_|refine aa 9 rfl (cH (qf [(0,0),(1,1),(2,2)]) kL ?_)|(refine aa 21 rfl ?_;refine sx (ba rfl rfl) ?_)|refine aq ?_|exact aw|(refine ap fun hb=>?_;first|(exfalso;omega)|skip))
 refine ab (fun y:Nat×Wk=>CI y.2.c/\(∀x∈y.2.c.procs,dU y.2.c.queues x=false)/\ct y.2.c.procs<=y.1/\y.2.ev.length+3000*y.1<=300000/\cI y.1 y.2=W) (fun y=>bP [0,1,2,1011] [(0,.v go),(5,.i (cA y.2))] [(0,.box 109 (Ix y.2 1011)),(1,.arr 82 (fR d) y.2.c.procs),(1011,.arr 68 fX y.2.ev)]) (fun y=>y.1) (w.c.procs.length,Ny w n) ⟨hA,hs,gj _,(by show w.ev.length+_<=_;have:=h.len;omega),hW⟩ (by exact bo (qf [(1011,2)])) ?_;clear hZ hW hA kL hs h he hnow h3;rintro ⟨m,v⟩ ⟨hc,hsv,hwc,hev,hs⟩;dsimp only at *
 obtain ⟨e,he⟩:=qGe (cA v);rw [he];by_cases hneg:e<0
 ·obtain rfl:v=W:=by
   rw [<-hs];cases m with
   | zero=>rfl
   | succ m=>rw [ma,he,qDt hneg];rfl
  refine ao ?_
  (refine cc (qf [(4,1011)]) ?_;exact af)
 obtain ⟨hi,hl1,_⟩:=(gF v).2 (by omega);have hwt:(v.pc (cA v).toNat).waiting=true:=by rw [bh hi];exact hl1
 cases m with
 | zero=>exact absurd (jo hi hl1) (by omega)
 | succ m =>
  have hts:OS v=aZ (ai (v.note 4 (v.pc (cA v).toNat).proc) (cA v).toNat) (cA v).toNat:=rfl;rw [ma,he,qDf hneg,qCf,hts,he] at hs;clear hl1;rw [he] at hi hwt;clear hts;obtain ⟨i,hei⟩:∃i:Nat,e=(i:Int):=⟨e.toNat,by omega⟩;subst hei;simp only [Int.toNat_natCast] at hi hwt hs;obtain ⟨x,hx⟩:∃x,v.c.procs[i]? = some x:=⟨_,qGg hi⟩;have hpc:=eI hx;have hc0:CI (v.note 4 x.proc).c:=hc;have hp0:(v.note 4 x.proc).pc i=x:=hpc;have hw0:((v.note 4 x.proc).pc i).waiting=true:=by rw [hp0,<-hpc];exact hwt
  obtain ⟨k1,k2,k3,k4,_⟩:=b9 hc0 hi hw0;have hdr:=TX hc0 hi hw0 (by rw [g6];omega);have hevw:=dM (v.note 4 x.proc) i;rw [g6] at hevw;rw [hp0] at hdr;rw [hpc] at hs;have kN:=Q1 d v 4 x.proc (by omega);obtain ⟨V,hV⟩:=qGe (ai (v.note 4 x.proc) i);have kW:=sO d (v.note 4 x.proc) i hx hdr hV;rw [hV] at k1 k2 k3 k4 hevw hs;have hi2:i<V.c.procs.length:=by rw [k3.len];exact hi
  obtain ⟨y,hy⟩:∃y,V.c.procs[i]? = some y:=⟨_,qGg hi2⟩;have hrun:(V.pc i).waiting=false:=by rw [bh hi2];simp [k4]
  obtain ⟨n1,n2,n3⟩:=eL k1 hi2 hrun;have hN:aZ V i=V.setP i { y with gen:=bc y.gen }:=by unfold aZ;rw [eI hy]
  obtain ⟨q1,q2,q3,q4,q5,q6,_⟩:=ir n1;have k2':ct V.c.procs+1=ct v.c.procs:=k2;have he3:=sJ n1;have he2:(aZ V i).ev.length<=v.ev.length+281:=by
   show V.ev.length<=_;omega
  have kS:=oo d (aZ V i) _ (Ki n1 (by omega));obtain ⟨F,hF⟩:=qGe (aK (aZ V i).c.procs.length (aZ V i));rw [show bw (aZ V i)=F from hF] at q1 q2 q5;rw [hF] at kS hs he3;rw [hN] at kS he3;have kX:=P2 d F (by have:=q1.len;omega) (Tn q1) rfl;have he4:(V.setP i { y with gen:=bc y.gen }).ev.length=V.ev.length:=rfl;have f1:ct F.c.procs<=m:=by omega
  have f2:F.ev.length+3000*m<=300000:=by omega
  clear hF hN hV k4 hdr n1 n2 he2 k3 k1 hp0 hc0 hw0 he4 hrun hwt hevw k2 k2' he3 hwc hsv hev q5 n3 q3 q4 q6;repeat' (first|refine av ?_ ?_|(refine aa 9 rfl ?_;first|(refine cH (qf [(0,0),(1,1),(2,1011),(4,1020)]) kN ?_)|(refine cH (qf [(0,0),(1,1),(2,1020),(4,1030)]) kW ?_)|(refine cB [] (lf y.gen) ?_)|(refine cH (qf [(0,0),(50,1),(2,1030),(4,1040)]) kS ?_)|(refine cH (qf [(0,0),(1,1),(2,1040)]) kX ?_))|(refine aa 21 rfl ?_;first|refine sx (aI rfl rfl) ?_|refine sx (ba rfl rfl) ?_)|refine aq ?_|(refine aa 4 rfl ?_;refine a8 (ak (z:={ y with gen:=bc y.gen }) rfl rfl rfl rfl hy rfl rfl rfl rfl (qNl rfl) rfl rfl) rfl rfl rfl ?_)|exact aw|(refine ap fun hb=>?_;first|(exfalso;omega)|skip))
  refine ⟨(m,F),⟨q1,q2,f1,f2,hs⟩,by dsimp only;omega,?_⟩;dsimp only;exact bo (qf [(1011,1040)])
theorem Ko (d:Nat) (w:Wk) (i:Nat) (r:Rq) {x:Pc} (hx:w.c.procs[i]? = some x) (h:CI w.c) (hev:w.ev.length<=400000) {Z:Wk×Int} (hZ:bX w i r=Z):FSpec prog 80 [go,pp i,r.a d] (HP d w) [4] (.i Z.2) (HQ d Z.1):=by
 refine a7 func80 ?_;have hi:=(List.getElem?_eq_some_iff.1 hx).1;have hpc:=eI hx;rw [yV] at hZ;cases hw:x.waiting with
 | true =>
  rw [hpc,hw] at hZ;obtain rfl:(w,14)=Z:=hZ;repeat' (first|refine av ?_ ?_|(refine aa 21 rfl ?_;first|refine sx (aI rfl rfl) ?_|refine sx (ba rfl rfl) ?_)|refine aq ?_|exact aw|refine ap fun hb=>?_|(refine cc (qf [(4,2)]) ?_;exact af))
 | false =>
 have hw':(w.pc i).waiting=false:=by rw [hpc];exact hw
 rw [hpc,hw,qCf] at hZ;cases hq:m6 r with
 | false =>
  rw [hq] at hZ;obtain rfl:(w,1)=Z:=hZ;have kV:=zo d r hq;repeat' (first|refine av ?_ ?_|refine aa 9 rfl (cB [] kV ?_)|(refine aa 21 rfl ?_;first|refine sx (aI rfl rfl) ?_|refine sx (ba rfl rfl) ?_)|refine aq ?_|exact aw|refine ap fun hb=>?_|(refine cc (qf [(4,2)]) ?_;exact af))
 | true =>
 have kV:=zo d r hq;rw [hq,Bool.not_true,qCf] at hZ;have hV:=h.tv;have kM:=P0 w.c.queues (by have:=(bi hV).1;omega);obtain ⟨c,hc⟩:=qGe (fW w.c.queues r.expr);have kR:=Fs d w.c.queues r.expr hV hc;by_cases h0:c=0
 case neg =>
  rw [hc,qDf h0] at hZ;obtain rfl:(w,c)=Z:=hZ;repeat' (first|refine av ?_ ?_|(refine aa 9 rfl ?_;first|(refine cB [] kV ?_)|(refine cC [] kM ?_)|(refine cB [] kR ?_))|(refine aa 21 rfl ?_;first|refine sx (aI rfl rfl) ?_|refine sx (ba rfl rfl) ?_)|refine aq ?_|exact aw|(refine ap fun hb=>?_;first|(exact absurd hb h0)|skip)|(refine cc (qf [(4,2)]) ?_;exact af))
 subst h0;obtain ⟨c2,_,_,hnm⟩:=iM h hi hw' hq hc;rw [hc,qDt rfl] at hZ;have hv:kv r.expr=true:=by unfold m6 at hq;simp only [qBa] at hq;exact hq.1.1.1.1
 have h24:r.expr.cnt<=24:=by have h:=hv;simp [kv,Ds] at h;exact h.1.2
 obtain ⟨_,hrsl⟩:=nr hc;have h8:=cD r.expr;obtain ⟨L,hL⟩:=qGe (bJ r.expr);have kA:=mg d r.expr hL;have kE:=IR r.expr d (by omega);have s1:=gz hi { x with waiting:=true };have l1:i<(w.c.procs.set i { x with waiting:=true }).length:=by rw [List.length_set];exact hi
 have s2:=gz l1 { x with waiting:=true,req:=r };have l2:i<((w.c.procs.set i { x with waiting:=true }).set i { x with waiting:=true,req:=r }).length:=by rw [List.length_set];exact l1
 have s3:=gz l2 { x with waiting:=true,req:=r,since:=w.c.now };obtain ⟨B,hB⟩:∃B,B=(((w.setP i { x with waiting:=true }).setP i { x with waiting:=true,req:=r }).setP i { x with waiting:=true,req:=r,since:=w.c.now }).setP i { x with waiting:=true,req:=r,since:=w.c.now,gen:=bc x.gen }:=⟨_,rfl⟩;have hBe:KC w i r=B:=by
  unfold KC;rw [hpc];unfold aZ;rw [fa hi,fP,hB,fP,fP,fP]
 have hS:zY w i r=cO x.proc r.prio L B:=by
  unfold zY;rw [hBe,hpc,hL]
 have hev2:=md x.proc r.prio L B;have hBev:B.ev.length=w.ev.length:=by rw [hB];rfl
 have hBq:B.c.queues=w.c.queues:=by rw [hB];rfl
 have hBp:∃v,B.c.procs[i]? = some v/\v.proc=x.proc:=⟨{ x with waiting:=true,req:=r,since:=w.c.now,gen:=bc x.gen },by rw [hB];exact gz (by rw [show ((((w.setP i { x with waiting:=true }).setP i { x with waiting:=true,req:=r }).setP i { x with waiting:=true,req:=r,since:=w.c.now }).c.procs)=((w.c.procs.set i { x with waiting:=true }).set i { x with waiting:=true,req:=r }).set i { x with waiting:=true,req:=r,since:=w.c.now } from rfl,List.length_set];exact l2) _,rfl⟩;rw [hS] at hZ c2 hnm;rw [hL] at hrsl h8;obtain ⟨W,hW⟩:=qGe (cO x.proc r.prio L B);rw [hW] at hZ c2 hnm hev2;have hWne:L=[]\/W.c.queues≠[]:=by
  cases L with
  | nil=>exact .inl rfl
  | cons a l=>exact .inr (IN hnm (zm (hrsl a (by simp)).1))
 obtain ⟨F,hF⟩:=qGe (aK W.c.procs.length W);have kS:=oo d W _ (Ki c2 (by omega));rw [hF] at kS hZ;obtain rfl:(F,(0:Int))=Z:=hZ;have hBl:B.ev.length+18*L.length<=500000:=by omega
 clear hS hBe hc c2 hnm hrsl hF hv hq hV hL hw' hpc hev2 hBev hBq h24;subst hB;repeat' (first|refine av ?_ ?_|(refine aa 9 rfl ?_;first|(refine cB [] kV ?_)|(refine cC [] kM ?_)|(refine cB [] kR ?_)|(refine cC [] kE ?_)|(refine cB [] (lf x.gen) ?_)|(refine cC [] kA ?_))|(refine aa 21 rfl ?_;first|refine sx (aI rfl rfl) ?_|refine sx (ba rfl rfl) ?_)|refine aq ?_|(refine aa 4 rfl ?_;first|(refine a8 (ak (z:={ x with waiting:=true }) rfl rfl rfl rfl hx rfl rfl rfl rfl (qNl rfl) rfl rfl) rfl rfl rfl ?_)|(refine a8 (ak (z:={ x with waiting:=true,req:=r }) rfl rfl rfl rfl s1 rfl rfl rfl rfl (qNl rfl) rfl rfl) rfl rfl rfl ?_)|(refine a8 (lT (z:={ x with waiting:=true,req:=r }) rfl rfl rfl rfl s1 rfl rfl rfl rfl (qNl rfl) (by (repeat' (first|exact trivial|exact .same _|exact .nil|refine ⟨?_,?_⟩));first|done|fail) rfl) rfl rfl rfl ?_)|(refine a8 (ak (z:={ x with waiting:=true,req:=r,since:=w.c.now }) rfl rfl rfl rfl s2 rfl rfl rfl rfl (qNl rfl) rfl rfl) rfl rfl rfl ?_)|(refine a8 (ak (z:={ x with waiting:=true,req:=r,since:=w.c.now,gen:=bc x.gen }) rfl rfl rfl rfl s3 rfl rfl rfl rfl (qNl rfl) rfl rfl) rfl rfl rfl ?_))|exact aw|(refine ap fun hb=>?_;first|(exact absurd rfl hb)|skip))
 refine ab (fun y:Nat×Wk=>y.1<=L.length/\cO x.proc r.prio (L.drop y.1) y.2=W/\y.2.ev.length+18*(L.length-y.1)<=500000/\∃v,y.2.c.procs[i]? = some v/\v.proc=x.proc) (fun y=>bP [0,1,2,5,1011] [(0,.v go),(1,.v (pp i)),(5,.c (.ptr 5 0)),(58,.c (.sl c6 L)),(59,.i L.length),(60,.i y.1)] [(0,.box 109 (Ix y.2 1011)),(1,.arr 82 (fR d) y.2.c.procs),(5,.box 49 (r.d d)),(1011,.arr 68 fX y.2.ev)]) (fun y=>L.length-y.1) (0,(((w.setP i { x with waiting:=true }).setP i { x with waiting:=true,req:=r }).setP i { x with waiting:=true,req:=r,since:=w.c.now }).setP i { x with waiting:=true,req:=r,since:=w.c.now,gen:=bc x.gen }) ⟨Nat.zero_le _,hW,hBl,hBp⟩ (by exact bo (qf [(1011,2)])) ?_;clear hx s1 s2 s3 l1 l2 hW hBl hBp kA kE kR kM kV;rintro ⟨k,u⟩ ⟨hk,hu,hue,v,hv1,hv2⟩;dsimp only at *
 by_cases hlt:k<L.length
 ·rw [qDc hlt] at hu;obtain ⟨a,ha⟩:=qGe (L[k]);have hga:L[k]? = some a:=by rw [qGg hlt,ha]
  rw [ha] at hu;obtain ⟨R,hR⟩:=qGe (bt u.c.queues x.proc a r.prio);have hRl:=mb u.c.queues x.proc a r.prio;have hu:cO x.proc r.prio (L.drop (k+1)) (u.take R.1 R.2.1)=W:=by rw [<-hR];exact hu
  have h00:R.2.2=0:=Classical.byContradiction fun hne=>by
   have e1:R.1=[]:=by rw [<-hR];exact GD (by rw [hR];exact hne)
   have e2:=yY (p:=x.proc) (prio:=r.prio) (l:=L.drop (k+1)) (w:=u.take R.1 R.2.1) e1;rw [hu] at e2;rcases hWne with e3|e3
   ·rw [e3] at hlt;exact absurd hlt (by simp)
   ·exact e3 e2
  have kC:=OL u.c.queues x.proc a r.prio hR;rw [hR] at hRl;obtain ⟨R1,R2,R3⟩:=R;obtain rfl:R3=0:=h00;have kT:=Iy d u R1 R2 (by dsimp only at hRl;omega);obtain ⟨z,hz⟩:=qGe (u.take R1 R2);have hzp:z.c.procs=u.c.procs:=by rw [<-hz];rfl
  have hze:z.ev.length=u.ev.length+R2.length:=by rw [<-hz,jS]
  have hu:cO x.proc r.prio (L.drop (k+1)) z=W:=by rw [<-hz];exact hu
  rw [hz] at kT;rw [<-hv2] at kC;dsimp only at hRl;have hz2:z.ev.length+18*(L.length-(k+1))<=500000:=by omega
  clear hz hze hue hRl hR;repeat' (first|refine av ?_ ?_|(refine aa 9 rfl ?_;first|(refine cC [] kC ?_)|(refine cH (qf [(0,0),(1,1),(2,1011),(4,1020)]) kT ?_))|(refine aa 21 rfl ?_;first|refine sx (aI rfl rfl) ?_|refine sx (ba rfl rfl) ?_)|refine aq ?_|exact aw|refine ap fun hb=>?_)
  refine ⟨(k+1,z),⟨by dsimp only;omega,hu,hz2,v,by dsimp only;rw [hzp];exact hv1,hv2⟩,by dsimp only;omega,?_⟩;exact VS
 ·exact Vp
def Uq (d:Nat) (R:Cs×List Ev×Int):TV:=.tup [R.1.a d,.one (.sl fX R.2.1),.one (.sc (.int .i64 R.2.2))]
theorem Ur (d:Nat) (c:Cs) (k:Cm) {R:Cs×List Ev×Int} (hR:cy c k=R):FSpec prog 16 [c.a d,k.a d] [] [] (Uq d R) []:=by
 refine a7 func16 ?_;unfold cy at hR;obtain ⟨v,hv⟩:=qGe (cG c);have kV:=Pi d c hv;rw [hv] at hR;cases v with
 | false =>
  obtain rfl:R=(LA,[],2):=hR.symm;refine ao ?_
  (refine dP (qf []) ?_;exact af)
 | true =>
  rw [Bool.not_true,qCf] at hR;obtain ⟨hci,hun⟩:=aV.1 hv;obtain ⟨Z,hZ⟩:=qGe (g8 ⟨c,[]⟩ k);have kD:=TY d ⟨c,[]⟩ k hci (fun x hx=>iv (hun x hx)) (by simp) hZ;have kC:=Ro d c (by have:=(bi hci.tv).1;omega) (by have:=hci.len;omega);rw [hZ] at hR;repeat' (first|refine av ?_ ?_|(refine aa 9 rfl ?_;first|(refine cB [] kV ?_)|(refine cH (qf [(1,1001),(2,1002)]) kC ?_))|((fail_if_success (first|refine m8 4 ?_|refine m9 4 ?_));refine aq ?_)|exact aw|refine ap fun hb=>?_)
  refine gU 1001 rfl ?_;refine LK 16 2 1002 rfl rfl rfl rfl ?_;refine lU 16 3 1003 68 fX rfl rfl rfl rfl ?_;by_cases h0:Z.2=0
  ·rw [qDt h0] at hR;obtain rfl:R=(Z.1.c,Z.1.ev,0):=hR.symm;exact VF
  ·rw [qDf h0] at hR;obtain rfl:R=(LA,[],Z.2):=hR.symm;exact VF
end Go.Proofs.YthpgjkjgkhjjlaaGreatDoor
