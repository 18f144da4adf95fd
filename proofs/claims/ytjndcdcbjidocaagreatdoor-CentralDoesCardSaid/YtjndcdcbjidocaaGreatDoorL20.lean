/- Part 20 of 33 of the proof of centralDoes_holds (no condition). -/
import Derived.Test.YtjndcdcbjidocaaGreatDoorL19
set_option linter.unusedVariables false
set_option linter.unusedSimpArgs false
set_option maxRecDepth 100000
set_option maxHeartbeats 64000000
namespace Go.Proofs.YtjndcdcbjidocaaGreatDoor
open Go.RowKit Go.Proofs.Tryz
instance:ST prog cg 68 4 1:=⟨ElTB.mk' underlying68 (.bool false) 1 1 (by kernel_rfl) rfl rfl⟩
theorem At (d:Nat) (x:Ex) (L:List Tm) (set:List Bool) (hL:L.length≤1000) (hset:set.length≤1000):FSpec prog 193 [x.a d,.one (.sl cw L),.one (.sl cg set)] [] [] (.b (pm (cf L set) x)) [] :=
 cz (fun b W=>by kernel_rfl) rfl fun w S ρ vs hS h=>by
  match vs,h with
  | [_,_,_],⟨h1,h2,h3,_⟩ =>
   obtain ⟨A,c,rfl,hr,hc⟩:=Ex.open h1;obtain ⟨A2,c2,rfl,hc2,hr2⟩:=h2;obtain ⟨A3,c3,rfl,hc3,hr3⟩:=h3;exact (AZ d x A A2 A3 c c2 c3 w.heap.size L set w ⟨Nat.le_trans hc.1 hc.2,Nat.le_refl _,hr.lo hS⟩ (hr2.lo hS) hL (hr3.lo hS) hset).mono fun _ _=>gT
theorem Au (d:Nat) (x:Ex) (set:List Bool) (hset:set.length≤1000) {b:Bool} (hb:dD x set=b):FSpec prog 119 [x.a d,.one (.sl cg set)] [] [] (.b b) []:=by
 refine aP func119 ?_;unfold dD at hb;have h8:=cd x;obtain ⟨L,hL⟩:∃L,cy x=L:=⟨_,rfl⟩;rw [hL] at hb h8;have kA:=jR d x hL;have kh:=At d x L set (by omega) hset;obtain ⟨v,hv⟩:∃v,pm (cf L set) x=v:=⟨_,rfl⟩;rw [hv] at hb kh;cases hx:kv x with
 | false =>
  obtain rfl:[]=L:=by rw [←hL,ov hx]
  obtain rfl:false=b:=by rw [←hb,hx];rfl
  repeat' (first|refine af ?_ ?_|refine aa 9 rfl (cC [] (kA) ?_)|refine ae ?_|exact ah|(refine ab fun hb=>?_;first|(exfalso;simp at hb;done)|skip)|exact aX|fail)
 | true =>
  obtain ⟨_,_,_,h0,_⟩:=mI hx;rw [hL] at h0;obtain rfl:v=b:=by rw [←hb,hx];rfl
  repeat' (first|refine af ?_ ?_|(refine aa 9 rfl ?_;first|(refine cC [] (kA) ?_)|(refine cB [] (kh) ?_))|refine ae ?_|exact ah|(refine ab fun hb=>?_;first|(exfalso;omega)|skip)|exact aX|fail)
theorem BV {set:List Bool} {n:Nat} (h:set.length=n):((List.range n).map fun i=>set.getD i false)=set:=by
 apply List.ext_getElem
 ·simp [h]
 ·intro i h1 h2;simp [List.getD_eq_getElem?_getD,h2]
theorem I2 (d:Nat) (x:Ex) (set:List Bool) (hset:set.length=(cy x).length) {P:List Bool} (hP:bX x set=P):FSpec prog 277 [x.a d,.one (.sl cg set)] [] [] (.c (.sl cg P)) []:=by
 refine aP func277 ?_;have hmk:prog.underlying 68=some (.slice 4):=underlying68;have hib:(prog.info? 4).map (fun i=>(i.zero,i.size,i.bytes))=some (some (.bool false),1,1):=by kernel_rfl
 cases hv:kv x with
 | false =>
  have hL:=ov hv;obtain rfl:[]=P:=by rw [←hP];simp [bX,dD,hv,hL]
  repeat' (first|refine af ?_ ?_|refine aa 9 rfl (cC [] (jR d x hL) ?_)|(refine aa 20 rfl ?_;refine aV (f9 (E:=cg) (y0:=false) hmk hib rfl (by decide) rfl (fun _ _=>rfl) rfl rfl rfl rfl (by first|omega|simp)) rfl rfl rfl ?_)|refine ae ?_|exact ah|(refine ab fun hb=>?_;first|(exact absurd rfl hb)|skip)|exact aX|fail)
 | true =>
  obtain ⟨hsh,_,h8,h0,_⟩:=mI hv;obtain ⟨L,hL⟩:∃L,cy x=L:=⟨_,rfl⟩;rw [hL] at h8 h0 hset;have kA:=jR d x hL;have kh:=fun s (hs:s.length=L.length)=>At d x L s (by omega) (by omega);cases hh:pm (cf L set) x with
  | false =>
   obtain rfl:List.replicate L.length false=P:=by rw [←hP];simp [bX,dD,hv,hL,hh]
   have k1:=kh set hset;rw [hh] at k1;repeat' (first|refine af ?_ ?_|(refine aa 9 rfl ?_;first|(refine cC [] (kA) ?_)|(refine cB [] (k1) ?_))|(refine aa 20 rfl ?_;refine aV (f9 (E:=cg) (y0:=false) hmk hib rfl (by decide) rfl (fun _ _=>rfl) rfl rfl rfl rfl (by first|omega|simp)) rfl rfl rfl ?_)|refine ae ?_|exact ah|refine ab fun hb=>?_|exact aX|fail)
  | true =>
   have hp:fA x L L.length set=P:=by rw [←hP];unfold bX dD;rw [hv,hL,hh,BV hset];rfl
   have k1:=kh set hset;rw [hh] at k1;have hcp:set++(List.replicate L.length false).drop set.length=set:=by rw [List.drop_eq_nil_of_le (by simp;omega),List.append_nil]
   repeat' (first|refine af ?_ ?_|(refine aa 9 rfl ?_;first|(refine sx (ua rfl rfl rfl (qN rfl) (by simp;omega) (by simp;omega) hcp) ?_)|(refine cC [] (kA) ?_)|(refine cB [] (k1) ?_))|(refine aa 20 rfl ?_;refine aV (f9 (E:=cg) (y0:=false) hmk hib rfl (by decide) rfl (fun _ _=>rfl) rfl rfl rfl rfl (by first|omega|simp)) rfl rfl rfl ?_)|refine ae ?_|exact ah|(refine ab fun hb=>?_;first|(exfalso;omega)|skip))
   refine ai (fun y:Nat×List Bool=>y.1≤L.length∧y.2.length=L.length∧fA x L y.1 y.2=P) (fun y=>bt [2,1000] [(2,.c (.ptr 2 0)),(5,.c (.sl cw L)),(6,.c (.own 1000)),(7,.i ((y.1:Int)-1))] [(2,.box 42 (x.d d)),(1000,.arr 4 cg y.2)]) (fun y=>y.1) (L.length,set) ⟨Nat.le_refl _,hset,hp⟩ (by exact a8 (qf [(1000,12)])) ?_;rintro ⟨k,out⟩ ⟨hk,hol,hs⟩;dsimp only at *
   rcases Nat.eq_zero_or_pos k with h0|h0
   ·subst h0;obtain rfl:out=P:=hs;repeat' (first|refine af ?_ ?_|refine ae ?_|exact ah|refine ab fun hb=>?_|exact aX|fail)
   ·obtain ⟨j,rfl⟩:∃j,k=j+1:=⟨k-1,by omega⟩;obtain ⟨z,hz⟩:∃z,(((j+1:Nat):Int)-1).toNat=z:=⟨_,rfl⟩;have hzj:z=j:=by omega
    obtain ⟨v,hgv⟩:∃v,out[(((j+1:Nat):Int)-1).toNat]? = some v:=⟨_,List.getElem?_eq_getElem (by omega)⟩;have hgj:out.getD j false=v:=by rw [hz,hzj] at hgv;simp [List.getD_eq_getElem?_getD,hgv]
    have hstep:fA x L (j+1) out=fA x L j (bif out.getD j false then out.set j (!pm (cf L (out.set j false)) x) else out):=rfl;rw [hstep,hgj] at hs;cases v with
    | false =>
     repeat' (first|refine af ?_ ?_|refine ae ?_|exact ah|refine ab fun hb=>?_)
     refine ⟨(j,out),⟨by dsimp only;omega,hol,hs⟩,by dsimp only;omega,?_⟩;exact aN
    | true =>
     obtain ⟨o1,ho1⟩:∃o1,out.set (((j+1:Nat):Int)-1).toNat false=o1:=⟨_,rfl⟩;have hl1:o1.length=L.length:=by rw [←ho1,List.length_set,hol]
     have hg1:o1[(((j+1:Nat):Int)-1).toNat]? = some false:=by rw [←ho1,List.getElem?_set_self (by omega)]
     have hs1:o1.set (((j+1:Nat):Int)-1).toNat true=out.set j true:=by rw [←ho1,List.set_set,hz,hzj]
     rw [show out.set j false=o1 by rw [←ho1,hz,hzj]] at hs;have k2:=kh o1 hl1;cases he:pm (cf L o1) x with
     | true =>
      rw [he] at hs k2;rw [←ho1] at k2 hg1;repeat' (first|refine af ?_ ?_|refine aa 9 rfl (cB [1000] (k2) ?_)|refine ae ?_|(refine aa 4 rfl ?_;refine aR (aq (z:=false) rfl rfl rfl rfl hgv rfl rfl rfl rfl (Nat.le_of_ble_eq_true rfl) rfl rfl) rfl rfl rfl ?_)|exact ah|refine ab fun hb=>?_)
      refine ⟨(j,o1),⟨by dsimp only;omega,hl1,by rw [←hs,←ho1,hz,hzj];rfl⟩,by dsimp only;omega,?_⟩;dsimp only;rw [←ho1];exact aN
     | false =>
      rw [he] at hs k2;rw [←ho1] at k2 hg1;repeat' (first|refine af ?_ ?_|refine aa 9 rfl (cB [1000] (k2) ?_)|refine ae ?_|(refine aa 4 rfl ?_;first|(refine aR (aq (z:=false) rfl rfl rfl rfl hgv rfl rfl rfl rfl (Nat.le_of_ble_eq_true rfl) rfl rfl) rfl rfl rfl ?_)|(refine aR (aq (z:=true) rfl rfl rfl rfl hg1 rfl rfl rfl rfl (Nat.le_of_ble_eq_true rfl) rfl rfl) rfl rfl rfl ?_))|exact ah|refine ab fun hb=>?_)
      refine ⟨(j,out.set j true),⟨by dsimp only;omega,by simp [hol],hs⟩,by dsimp only;omega,?_⟩;dsimp only;rw [←hs1,←ho1];exact aN
theorem od (d:Nat) (t:List Qu) (x:Pc) {B:List Bool} (hB:aZ t x.proc x.req.expr=B):FSpec prog 42 [.one (.sl dC t),x.a d] [] [] (.c (.sl cg B)) []:=by
 refine aP func42 ?_;have h8:=cd x.req.expr;obtain ⟨L,hL⟩:∃L,cy x.req.expr=L:=⟨_,rfl⟩;have kA:=jR d x.req.expr hL;have hBl:B.length=L.length:=by rw [←hB];simp [aZ,hL]
 have hBg:∀i (h:i<L.length),B[i]'(by omega)=(aW t L[i].name && bg (be t L[i].name).res (ao (be t L[i].name).holds x.proc) L[i].am):=by
  intro i h;simp only [←hB,aZ,hL,List.getElem_map]
 rw [hL] at h8;clear hB hL;repeat' (first|refine af ?_ ?_|refine aa 9 rfl (cC [] (kA) ?_)|refine ae ?_|exact ah|refine ab fun hb=>?_)
 refine bV 5 1000 4 cg rfl rfl rfl ?_;refine ai (fun i=>i≤L.length) (fun i=>bt [3,1000] [(0,.c (.sl dC t)),(3,.c (.ptr 3 0)),(5,.c (.own 1000)),(12,.c (.sl cw L)),(13,.i L.length),(14,.i i)] [(3,.box 63 (x.d d)),(1000,.arr 4 cg (B.take i))]) (fun i=>L.length-i) 0 (Nat.zero_le _) aN ?_;intro i hi;have hol:(B.take i).length=i:=by simp;omega
 by_cases hlt:i<L.length
 ·have hb1:=hBg i hlt;have hst:B.take (i+1)=B.take i++[B[i]'(by omega)]:=List.take_succ_eq_append_getElem _;obtain ⟨a,ha⟩:∃a,L[i]=a:=⟨_,rfl⟩;have hga:L[i]? = some a:=by rw [List.getElem?_eq_getElem hlt,ha]
  rw [ha] at hb1;rw [hb1] at hst;by_cases hf:bk a.name 0 t<0
  ·rw [show aW t a.name=false by simp [aW];omega,Bool.false_and] at hst;have kF:=ir t a.name rfl;repeat' (first|refine af ?_ ?_|(refine aa 8 rfl ?_;refine aV (ak rfl rfl (aB rfl rfl) (aD [false] rfl rfl rfl rfl) rfl aL aL) rfl rfl rfl ?_)|refine aa 9 rfl (cB [] (kF) ?_)|refine ae ?_|exact ah|(refine ab fun hb=>?_;first|(exfalso;omega)|skip))
   refine ⟨i+1,by omega,by omega,?_⟩;rw [hst];exact a8 (qf [(1000,43)])
  ·obtain ⟨j,hj,hF,hq,hx⟩:=d8 hf;rw [show aW t a.name=true by simp [aW,Int.not_lt.1 hf],Bool.true_and,show be t a.name=t[j] from hq] at hst;have kF:=ir t a.name hF;obtain ⟨h,hh⟩:∃h,ao t[j].holds x.proc=h:=⟨_,rfl⟩;have kH:=eJ t[j] x.proc;rw [hh] at kH hst;have kC:=fS t[j].res h a.am;obtain ⟨c,hc⟩:∃c,bg t[j].res h a.am=c:=⟨_,rfl⟩;rw [hc] at kC hst;repeat' (first|refine af ?_ ?_|(refine aa 8 rfl ?_;refine aV (ak rfl rfl (aB rfl rfl) (aD [c] rfl rfl rfl rfl) rfl aL aL) rfl rfl rfl ?_)|(refine aa 9 rfl ?_;first|(refine cB [] (kF) ?_)|(refine cB [] (kH) ?_)|(refine cB [] (kC) ?_))|refine ae ?_|exact ah|(refine ab fun hb=>?_;first|(exfalso;omega)|skip))
   refine ⟨i+1,by omega,by omega,?_⟩;rw [hst];exact a8 (qf [(1000,43)])
 ·have e:B.take i=B:=List.take_of_length_le (by omega);rw [e];repeat' (first|refine af ?_ ?_|refine ae ?_|exact ah|refine ab fun hb=>?_|exact aX|fail)
theorem EK {t:List Qu} {p:Pr} {e:Ex} {k:Nat} (hk:k<(cy e).length):(aZ t p e).getD k false=(aW t (cy e)[k].name && bg (be t (cy e)[k].name).res (ao (be t (cy e)[k].name).holds p) (cy e)[k].am):=by
 unfold aZ;rw [List.getD_eq_getElem?_getD,List.getElem?_map,List.getElem?_eq_getElem hk];rfl
theorem Kk {w:Wk} {i:Nat} {x y:Pc} {n:ByteArray} {a:Am} (hv:du w.c.queues=true) (hn:aW w.c.queues n=true) (hl:LedOf w.c.queues x y) (hlh:gD y n=gD x n) (ha:aF (be w.c.queues n).res a=true) (hf:FitA w.c.queues n x a)
  (hc:bg (be w.c.queues n).res (ao (be w.c.queues n).holds x.proc) a=true) :
  ao (be w.c.queues n).holds x.proc=ax y.led.entries n∨(dz y.led ⟨n,ax y.led.entries n,ao (be w.c.queues n).holds x.proc⟩).2=0:=by
 rcases hf with ⟨_,h⟩|⟨hc2,⟨h1,h2⟩|⟨h1,h2,_⟩⟩
 ·exact .inl (h.h.trans hlh.symm)
 ·right
  obtain ⟨j1,j2,_,j4⟩:=DI (l9 hv hn) ha hc2 (by rw [←hlh];exact lx hl.stat n);have hgr:dg (gD x n) (jn w.c.queues n x a)=true:=xn j1 j2 j4 (by rw [←hlh];exact lx hl.stat n);obtain ⟨e1,e2⟩:=tK (g:=y.led) hl.stat.led (e:=⟨n,gD x n,jn w.c.queues n x a⟩) (zU hv hn) (by show gD x n=ax y.led.entries n;exact hlh.symm) hgr (ns:=fk w.c.queues) (by unfold fk;rw [List.length_map];exact (bf hv).1) (tR hl.stat) (by obtain ⟨h3,h4⟩:=dL hn;exact List.mem_map.2 ⟨_,h3,h4⟩);rw [h1,show ax y.led.entries n=gD x n from hlh,e1]
 ·rw [h1,hc2] at hc;cases hc
theorem rS {t:List Qu} {n:ByteArray} (h:aW t n=true):t≠[]:=fun e=>by rw [e] at h;cases h
def xX (x:Pc) (i:Nat):List Tm→List Bool→Wk→Prop
 | a :: l,b :: bs,w=>du w.c.queues=true∧aW w.c.queues a.name=true∧w.ev.length≤800000∧
   (∃y,w.c.procs[i]? = some y∧y.proc=x.proc∧ax y.led.entries a.name=ax x.led.entries a.name∧(b=true→ao (be w.c.queues a.name).holds x.proc=ax y.led.entries a.name∨(dz y.led ⟨a.name,ax y.led.entries a.name,ao (be w.c.queues a.name).holds x.proc⟩).2=0))∧
   (b=false→(bo w x a.name).c.queues≠[])∧xX x i l bs (bif b then gI w i x.proc a.name else bo w x a.name)
 | _,_,_=>True
theorem vI:∀(l:List Tm) (bs:List Bool) (w:Wk) (i:Nat) (x y:Pc),l.length=bs.length→du w.c.queues=true→w.pc i=y→i<w.c.procs.length→PStat w.c.queues x→LedOf w.c.queues x y→(∀a∈l,gD y a.name=gD x a.name)→B9 l→Rsl w.c.queues l→
  (∀n,aW w.c.queues n=true→(∀a,dq l n=some a→FitA w.c.queues n x a.am)∧(dq l n=none→FitR w.c.queues n y))→
  (∀k (h:k<l.length),bs.getD k false=true→bg (be w.c.queues l[k].name).res (ao (be w.c.queues l[k].name).holds x.proc) l[k].am=true)→
  w.ev.length+35*l.length≤800000→xX x i l bs w
 | [],bs,w,i,x,y,_,_,hy,_,_,_,_,_,_,_,_,_=>by cases bs <;> trivial
 | a :: l,[],w,i,x,y,hlen,_,_,_,_,_,_,_,_,_,_,_=>by simp at hlen
 | a :: l,b :: bs,w,i,x,y,hlen,hv,hy,hi,hsx,hl,hlh,hnd,hr,hf,hc,hev=>by
  obtain ⟨h1,h2⟩:=List.pairwise_cons.1 hnd;obtain ⟨ha1,ha2⟩:=hr a (by simp);have hfa:FitA w.c.queues a.name x a.am:=(hf a.name ha1).1 a (by rw [di,bb.2 rfl];rfl);have hr2:Rsl w.c.queues l:=fun b hb=>hr b (by simp [hb]);have hat:∀n,n≠a.name→dq (a :: l) n=dq l n:=fun n hn=>by rw [di,bZ.2 (fun h=>hn h.symm)];rfl
  have hnone:dq l a.name=none:=ip.2 fun b hb e=>h1 b hb e.symm;have hgy:w.c.procs[i]? = some y:=by rw [List.getElem?_eq_getElem hi,←bU hi,hy]
  rw [List.length_cons] at hev;cases b with
  | true =>
   have hcv:=hc 0 (by simp) (by simp);simp only [List.getElem_cons_zero] at hcv;obtain ⟨y1,e1,k1,k2,k3⟩:=DL hv ha1 hy hi hl (hlh a (by simp)) ha2 hfa hcv;refine ⟨hv,ha1,by omega,⟨y,hgy,hl.proc,hlh a (by simp),fun _=>Kk (i:=i) hv ha1 hl (hlh a (by simp)) ha2 hfa hcv⟩,(fun h=>by cases h),?_⟩;rw [cond_true,e1];exact vI l bs (w.setP i y1) i x y1 (by simpa using hlen) hv (fQ hi y1) (by show i<(w.c.procs.set i y1).length;simpa using hi) hsx k1 (fun b hb=>by rw [k3 _ (fun e=>h1 b hb e.symm)];exact hlh b (by simp [hb])) h2 hr2
    (fun n hn=>by
     by_cases en:n=a.name
     ·subst en;exact ⟨fun b hb=>(by rw [hnone] at hb;cases hb),fun _=>k2⟩
     ·have h3:=hf n hn;rw [hat n en] at h3;exact ⟨h3.1,fun h4=>(h3.2 h4).led (by rw [k1.proc,hl.proc]) (k3 n en)⟩)
    (fun k hk hb=>by
     have h5:=hc (k+1) (by simpa using hk) (by simpa using hb);simp only [List.getElem_cons_succ] at h5;exact h5)
    (by show w.ev.length+_≤_;omega)
  | false =>
   obtain ⟨k1,k2⟩:=ro hv ha1 hsx ha2 hfa;refine ⟨hv,ha1,by omega,⟨y,hgy,hl.proc,hlh a (by simp),fun h=>by cases h⟩,fun _=>rS (n:=a.name) (by rw [k1.tp.hasE];exact ha1),?_⟩;rw [cond_false];have hev2:=je w x a.name;exact vI l bs (bo w x a.name) i x y (by simpa using hlen) k1.tp.v (by unfold Wk.pc at hy ⊢;rw [k1.procs];exact hy) (by rw [k1.procs];exact hi) (hsx.tp k1.tp) ⟨hl.eq,hl.stat.tp k1.tp,hl.gr⟩ (fun b hb=>hlh b (by simp [hb])) h2 (hr2.tp k1.tp)
    (fun n hn=>by
     rw [k1.tp.hasE] at hn;by_cases en:n=a.name
     ·subst en;exact ⟨fun b hb=>(by rw [hnone] at hb;cases hb),fun _=>k2.led hl.proc (hlh a (by simp))⟩
     ·have h3:=hf n hn;rw [hat n en] at h3;have e1:=k1.oth n en hn;exact ⟨fun b hb=>(h3.1 b hb).eq e1,fun h4=>(h3.2 h4).eq e1⟩)
    (fun k hk hb=>by
     have h5:=hc (k+1) (by simpa using hk) (by simpa using hb);simp only [List.getElem_cons_succ] at h5;have hm:l[k]∈l:=List.getElem_mem hk;rw [k1.oth l[k].name (fun e=>h1 _ hm e.symm) (hr2 _ hm).1];exact h5)
    (by omega)
theorem Kl {w:Wk} {i:Nat} (h:CI w.c) (hi:i<w.c.procs.length) (hw:(w.pc i).waiting=true) (hev:w.ev.length≤700000) :
  xX (w.pc i) i (cy (w.pc i).req.expr) (bX (w.pc i).req.expr (aZ w.c.queues (w.pc i).proc (w.pc i).req.expr)) (w.note 2 (w.pc i).proc):=by
 have hpc:=bU hi;have hinv:=h.inv _ (List.getElem_mem hi);rw [←hpc] at hinv;obtain ⟨hwt,hfit⟩:=hinv.wat hw;obtain ⟨hve,hrsl⟩:=oM hwt.rs;have h8:=cd (w.pc i).req.expr;exact vI (cy (w.pc i).req.expr) (bX (w.pc i).req.expr (aZ w.c.queues (w.pc i).proc (w.pc i).req.expr)) (w.note 2 (w.pc i).proc) i (w.pc i) (w.pc i) (ma _ _).symm h.tv rfl hi hinv.stat (LedOf.refl hinv.stat) (fun _ _=>rfl) (mZ _) hrsl
  (fun n hn=>by
   have:=hfit n hn;unfold FitW at this;exact ⟨fun a ha=>by rw [ha] at this;exact this,fun ha=>by rw [ha] at this;exact this⟩)
  (fun k hk hb=>by
   have h1:=tS hb;rw [EK hk,Bool.and_eq_true] at h1;exact h1.2)
  (by rw [gU];omega)
def StP:Nat→Wk→Prop
 | 0,v=>v.c.procs.length≤100000∧dI v.c.queues 0 v.c.procs=none
 | n+1,v=>v.c.procs.length≤100000∧v.ev.length≤800000∧∀i,dI v.c.queues 0 v.c.procs=some i→i<v.c.procs.length∧
   xX (v.pc i) i (cy (v.pc i).req.expr) (bX (v.pc i).req.expr (aZ v.c.queues (v.pc i).proc (v.pc i).req.expr)) (v.note 2 (v.pc i).proc)∧StP n (gS v i)
theorem StP.len {n:Nat} {v:Wk} (h:StP n v):v.c.procs.length≤100000:=by cases n <;> exact h.1
theorem LG:∀(n:Nat) (w:Wk),CI w.c→cJ w.c.procs≤n→w.ev.length+281*n≤700000→StP n w
 | 0,w,h,hn,_=>by
  refine ⟨by have:=h.len;omega,?_⟩;cases hs:dI w.c.queues 0 w.c.procs with
  | none=>rfl
  | some i =>
   obtain ⟨j,hj,_,h2⟩:=gg hs;unfold dA at h2;rw [Bool.and_eq_true] at h2;have:=g9 hj h2.1;omega
 | n+1,w,h,hn,he=>by
  refine ⟨by have:=h.len;omega,by omega,fun i hs=>?_⟩;obtain ⟨j,hj,e,h2⟩:=gg hs;have e':i=j:=by omega
  subst e';have hwt:(w.pc i).waiting=true:=by
   rw [bU hj];unfold dA at h2;rw [Bool.and_eq_true] at h2;exact h2.1
  obtain ⟨k1,k2,_⟩:=yQ h hj hwt;have hfe:=vu w i;exact ⟨hj,Kl h hj hwt (by omega),LG n (gS w i) k1 (by omega) (by omega)⟩
theorem BW {w:Wk} (h:CI w.c) (he:w.ev.length≤600000):StP w.c.procs.length w:=LG _ _ h (i8 _) (by have:=h.len;omega)
def LH (d:Nat) (w:Wk):List (Nat×Box):=[(9,.box 82 [.ptr 0 0]),(0,.box 85 (An w 12)),(1,.arr 63 (eI d) w.c.procs),(12,.arr 67 fG w.ev)]
def HS (d:Nat) (w:Wk):List (Nat×Option Box):=[(9,some (.box 82 [.ptr 0 0])),(0,some (.box 85 (An w 12))),(1,some (.arr 63 (eI d) w.c.procs)),(12,some (.arr 67 fG w.ev))]
theorem Km (d:Nat) (w:Wk) (x:Pc) {b:Bool} (hb:dA w.c.queues x=b):FSpec prog 219 [x.a d,.one (.ptr 9 0)] (LH d w) [] (.b b) (HS d w):=by
 refine aP func219 ?_;unfold dA at hb;obtain ⟨G,hG⟩:∃G,aZ w.c.queues x.proc x.req.expr=G:=⟨_,rfl⟩;have h8:=cd x.req.expr;have hGl:G.length≤1000:=by rw [←hG];simp [aZ];omega
 rw [hG] at hb;have kG:=od d w.c.queues x hG;obtain ⟨v,hv⟩:∃v,dD x.req.expr G=v:=⟨_,rfl⟩;have kH:=Au d x.req.expr G hGl hv;rw [hv] at hb;cases hw:x.waiting with
 | false =>
  rw [hw] at hb;obtain rfl:false=b:=hb;repeat' (first|refine af ?_ ?_|(refine aa 21 rfl ?_;refine sx (aO rfl rfl) ?_)|refine ae ?_|exact ah|refine ab fun hb=>?_|exact aX|fail)
 | true =>
  rw [hw] at hb;obtain rfl:v=b:=hb;repeat' (first|refine af ?_ ?_|(refine aa 9 rfl ?_;first|(refine cC [] (kG) ?_)|(refine cB [] (kH) ?_))|(refine aa 21 rfl ?_;refine sx (aO rfl rfl) ?_)|refine ae ?_|exact ah|refine ab fun hb=>?_|exact aX|fail)
theorem Hn (d:Nat) (w:Wk) (hl:w.c.procs.length≤100000) {o:Option Nat} (ho:dI w.c.queues 0 w.c.procs=o):FSpec prog 57 [.one (.own 1),.one (.clo 219 [9])] (LH d w) [] (.i (Hc o)) (HS d w):=by
 refine aP func57 ?_;obtain ⟨l,hL⟩:∃l,w.c.procs=l:=⟨_,rfl⟩;repeat' (first|refine af ?_ ?_|refine ae ?_|exact ah|refine ab fun hb=>?_)
 refine ai (fun i=>i≤w.c.procs.length∧dI w.c.queues i (w.c.procs.drop i)=o) (fun i=>bt [0,1,9,12] [(0,.c (.own 1)),(1,.c (.clo 219 [9])),(7,.i w.c.procs.length),(8,.i i)] [(0,.box 85 (An w 12)),(1,.arr 63 (eI d) w.c.procs),(9,.box 82 [.ptr 0 0]),(12,.arr 67 fG w.ev)]) (fun i=>w.c.procs.length-i) 0 ⟨Nat.zero_le _,ho⟩ aN ?_;rintro i ⟨hi,hs⟩;by_cases hlt:i<w.c.procs.length
 ·obtain ⟨x,hx⟩:∃x,w.c.procs[i]=x:=⟨_,rfl⟩;have hgx:w.c.procs[i]? = some x:=by rw [List.getElem?_eq_getElem hlt,hx]
  rw [List.drop_eq_getElem_cons hlt,hx] at hs;have hs:(bif dA w.c.queues x then some i else dI w.c.queues (i+1) (w.c.procs.drop (i+1)))=o:=hs;obtain ⟨b,hb1⟩:∃b,dA w.c.queues x=b:=⟨_,rfl⟩;have kS:=Km d w x hb1;rw [hb1] at hs;cases b with
  | true =>
   obtain rfl:some i=o:=hs;repeat' (first|refine af ?_ ?_|(refine aa 9 rfl ?_;refine mt 1 [9] (qf [(0,0),(1,1),(12,12),(9,9)]) (kS) ?_)|refine ae ?_|exact ah|refine ab fun hb=>?_|exact aX|fail)
  | false =>
   repeat' (first|refine af ?_ ?_|(refine aa 9 rfl ?_;refine mt 1 [9] (qf [(0,0),(1,1),(12,12),(9,9)]) (kS) ?_)|refine ae ?_|exact ah|refine ab fun hb=>?_)
   refine ⟨i+1,⟨by omega,hs⟩,by omega,?_⟩;exact aN
 ·rw [List.drop_eq_nil_of_le (by omega)] at hs;obtain rfl:none=o:=hs;repeat' (first|refine af ?_ ?_|refine ae ?_|exact ah|refine ab fun hb=>?_|exact aX|fail)
theorem GK (d:Nat) (w:Wk) (i:Nat) {x:Pc} (hx:w.c.procs[i]? = some x) (hev:w.ev.length≤900000) (hfin:xX x i (cy x.req.expr) (bX x.req.expr (aZ w.c.queues x.proc x.req.expr)) (w.note 2 x.proc)) {Z:Wk} (hZ:gS w i=Z):FSpec prog 220 [gA,pp i] (HP d w) [4] (.tup []) (HQ d Z):=by
 refine aP func220 ?_;have hi:=(List.getElem?_eq_some_iff.1 hx).1;have hpc:=dJ hx;have h8:=cd x.req.expr;obtain ⟨L,hL⟩:∃L,cy x.req.expr=L:=⟨_,rfl⟩;obtain ⟨G,hG⟩:∃G,aZ w.c.queues x.proc x.req.expr=G:=⟨_,rfl⟩;have hGl:G.length=(cy x.req.expr).length:=by rw [←hG];simp [aZ]
 obtain ⟨K,hK⟩:∃K,bX x.req.expr G=K:=⟨_,rfl⟩;have hKl:K.length=L.length:=by rw [←hK,ma,hL]
 have kA:=jR d x.req.expr hL;have kG:=od d w.c.queues x hG;have kP:=I2 d x.req.expr G hGl hK;have kS:=IT d w 2 x.proc (by omega);obtain ⟨F,hF⟩:∃F,cR x i L K (w.note 2 x.proc)=F:=⟨_,rfl⟩;rw [hG,hK,hL] at hfin;have hFl:F.c.procs.length=w.c.procs.length:=by rw [←hF];exact (nZ x i L K (w.note 2 x.proc)).2
 have hZ:aU (dQ F i) i=Z:=by
  rw [←hZ,←hF];unfold gS;rw [hpc,hG,hK,hL]
 obtain ⟨y,hy⟩:∃y,F.c.procs[i]? = some y:=⟨_,List.getElem?_eq_getElem (by omega)⟩;have hpy:=dJ hy;obtain ⟨z,hz⟩:∃z,z=({ y with waiting:=false,req:=Rq.zero,since:=0 }:Pc):=⟨_,rfl⟩;have hst:dQ F i=F.setP i z:=by rw [hz];unfold dQ;rw [hpy]
 have hZ:Z=(F.setP i z).setP i { z with gen:=aS z.gen }:=by
  rw [←hZ,hst];unfold aU;rw [fQ (by omega)]
 have kR:=Hk d F.c.procs i hy;rw [←hz] at kR;have hzg:(F.c.procs.set i z)[i]? = some z:=fB (by omega) z;subst hZ;have h8':L.length≤8:=by rw [←hL];exact h8
 clear hG hK hL hst hz hpy hpc h8 hGl;repeat' (first|refine af ?_ ?_|(refine aa 9 rfl ?_;first|(refine cH (qf [(0,0),(1,1),(2,2),(4,1004)]) (kS) ?_)|(refine cC [] (kG) ?_)|(refine cC [] (kP) ?_)|(refine cC [] (kA) ?_))|(refine aa 21 rfl ?_;first|(refine sx (aO rfl rfl) ?_)|(refine sx (ay rfl rfl) ?_))|refine ae ?_|exact ah|refine ab fun hb=>?_)
 refine ai (fun y:Nat×Wk=>y.1≤L.length∧xX x i (L.drop y.1) (K.drop y.1) y.2∧cR x i (L.drop y.1) (K.drop y.1) y.2=F) (fun y=>bt [0,1,2,1011] [(0,.v gA),(1,.v (pp i)),(4,.c (.sl cg K)),(33,.c (.sl cw L)),(34,.i L.length),(35,.i y.1)] [(0,.box 85 (An y.2 1011)),(1,.arr 63 (eI d) y.2.c.procs),(1011,.arr 67 fG y.2.ev)]) (fun y=>L.length-y.1) (0,w.note 2 x.proc) ⟨Nat.zero_le _,hfin,hF⟩ (by exact a8 (qf [(1011,1004)])) ?_;rintro ⟨k,u⟩ ⟨hk,hu,hg⟩;dsimp only at *
 by_cases hlt:k<L.length
 case neg =>
  obtain rfl:u=F:=by rw [←hg,List.drop_eq_nil_of_le (by omega),List.drop_eq_nil_of_le (by omega)];rfl
  repeat' (first|refine af ?_ ?_|(refine aa 9 rfl ?_;first|(refine cH (qf [(1,1)]) (kR) ?_)|(refine cB [] (ji z.gen) ?_))|(refine aa 21 rfl ?_;refine sx (ay rfl rfl) ?_)|refine ae ?_|(refine aa 4 rfl ?_;refine aR (aq (z:={ z with gen:=aS z.gen }) rfl rfl rfl rfl hzg rfl rfl rfl rfl (Nat.le_of_ble_eq_true rfl) rfl rfl) rfl rfl rfl ?_)|exact ah|refine ab fun hb=>?_|(exact mS (qf [(4,1011)])))
 rw [List.drop_eq_getElem_cons hlt,List.drop_eq_getElem_cons (l:=K) (by omega)] at hu hg;obtain ⟨b,hb1⟩:∃b,K[k]'(by omega)=b:=⟨_,rfl⟩;have hgb:K[k]? = some b:=by rw [List.getElem?_eq_getElem (by omega),hb1]
 obtain ⟨a,ha⟩:∃a,L[k]=a:=⟨_,rfl⟩;have hga:L[k]? = some a:=by rw [List.getElem?_eq_getElem hlt,ha]
 rw [hb1,ha] at hu hg;obtain ⟨u1,u2,u3,⟨v,v1,v2,v3,v4⟩,u5,u6⟩:=hu;cases b with
 | false =>
  have u5:=u5 rfl;have e:bo u v a.name=bo u x a.name:=by unfold bo;rw [v2,v3]
  obtain ⟨t,ht⟩:∃t,bo u x a.name=t:=⟨_,rfl⟩;have kL:=EJ d u i a.name v1 u1 u2 (by rw [e];exact u5) u3 (e.trans ht);have u6:xX x i (L.drop (k+1)) (K.drop (k+1)) t:=by rw [←ht];exact u6
  have hg:cR x i (L.drop (k+1)) (K.drop (k+1)) t=F:=by rw [←ht];exact hg
  clear u5 e ht v4 hfin hF;repeat' (first|refine af ?_ ?_|refine aa 9 rfl (cH (qf [(0,0),(1,1),(2,1011),(4,1020)]) (kL) ?_)|refine ae ?_|exact ah|(refine ab fun hb=>?_;first|(exfalso;omega)|skip))
  refine ⟨(k+1,t),⟨by dsimp only;omega,u6,hg⟩,by dsimp only;omega,?_⟩;dsimp only;exact a8 (qf [(1011,1020)])
 | true =>
  have v4:=v4 rfl;obtain ⟨t,ht⟩:∃t,gI u i x.proc a.name=t:=⟨_,rfl⟩;have kR:=GJ d u i a.name v1 u2 (by rw [v2];exact v4) (by omega) (Z:=t) (by rw [v2];exact ht);have u6:xX x i (L.drop (k+1)) (K.drop (k+1)) t:=by rw [←ht];exact u6
  have hg:cR x i (L.drop (k+1)) (K.drop (k+1)) t=F:=by rw [←ht];exact hg
  clear u5 ht v4 hfin hF;repeat' (first|refine af ?_ ?_|refine aa 9 rfl (cH (qf [(0,0),(1,1),(2,1011),(4,1020)]) (kR) ?_)|refine ae ?_|exact ah|(refine ab fun hb=>?_;first|(exfalso;omega)|skip))
  refine ⟨(k+1,t),⟨by dsimp only;omega,u6,hg⟩,by dsimp only;omega,?_⟩;dsimp only;exact a8 (qf [(1011,1020)])
def Lq (w:Wk) (b:Nat):List D:=[.sc (.int .i64 w.c.now),.sl dC w.c.queues,.own 50,.own b]
theorem ml (d:Nat) (w:Wk) (n:Nat) (hok:StP n w):FSpec prog 154 [gA] [(0,.box 85 (Lq w 2)),(50,.arr 63 (eI d) w.c.procs),(2,.arr 67 fG w.ev)] [4] (.tup []) [(0,some (.box 85 (Lq (aQ n w) 4))),(50,some (.arr 63 (eI d) (aQ n w).c.procs)),(4,some (.arr 67 fG (aQ n w).ev)),(2,none)]:=by
 refine aP func154 ?_;obtain ⟨W,hW⟩:∃W,aQ n w=W:=⟨_,rfl⟩;rw [hW];repeat' (first|refine af ?_ ?_|refine ae ?_|exact ah|refine ab fun hb=>?_)
 refine ai (fun y:Nat×Wk=>StP y.1 y.2∧aQ y.1 y.2=W) (fun y=>bt [0,1,2,50,1011] [(1,.c (.ptr 1 0))] [(0,.box 85 (Lq y.2 1011)),(1,.box 82 [.ptr 0 0]),(50,.arr 63 (eI d) y.2.c.procs),(1011,.arr 67 fG y.2.ev)]) (fun y=>y.1) (n,w) ⟨hok,hW⟩ (by exact a8 (qf [(1011,2)])) ?_;rintro ⟨m,v⟩ ⟨hv,hs⟩;dsimp only at *
 cases ho:dI v.c.queues 0 v.c.procs with
 | none =>
  obtain rfl:v=W:=by
   rw [←hs];cases m with
   | zero=>rfl
   | succ m=>simp [aQ,ho]
  have kI:=Hn d v hv.len ho;have hneg:Hc none = -1:=rfl;repeat' (first|refine af ?_ ?_|(refine aa 0 rfl ?_;refine sx (cS (ks:=[1]) rfl rfl) ?_)|refine aa 9 rfl (cH (qf [(9,1),(0,0),(1,50),(12,1011)]) (kI) ?_)|(refine aa 21 rfl ?_;refine sx (aO rfl rfl) ?_)|refine ae ?_|exact ah|(refine ab fun hb=>?_;first|(exact absurd hb (by decide))|skip)|(exact mS (qf [(4,1011)])))
 | some i =>
  cases m with
  | zero=>rw [hv.2] at ho;cases ho
  | succ m =>
   have hl0:=hv.len;obtain ⟨_,hev,hall⟩:=hv;obtain ⟨hi,hfin,hnext⟩:=hall i ho;rw [show aQ (m+1) v=aQ m (gS v i) by simp [aQ,ho]] at hs;obtain ⟨x,hx⟩:∃x,v.c.procs[i]? = some x:=⟨_,List.getElem?_eq_getElem hi⟩;have hpc:=dJ hx;rw [hpc] at hfin;obtain ⟨Z,hZ⟩:∃Z,gS v i=Z:=⟨_,rfl⟩;have kF:=GK d v i hx (by omega) hfin hZ;have kI:=Hn d v hl0 ho;rw [hZ] at hs hnext;have hx1:Hc (some i)=(i:Int):=rfl;rw [hx1] at kI;clear hall hZ hfin;repeat' (first|refine af ?_ ?_|(refine aa 0 rfl ?_;refine sx (cS (ks:=[1]) rfl rfl) ?_)|(refine aa 9 rfl ?_;first|(refine cH (qf [(9,1),(0,0),(1,50),(12,1011)]) (kI) ?_)|(refine cH (qf [(0,0),(1,50),(2,1011),(4,1020)]) (kF) ?_))|(refine aa 21 rfl ?_;refine sx (aO rfl rfl) ?_)|refine ae ?_|exact ah|(refine ab fun hb=>?_;first|(exfalso;omega)|skip))
   refine ⟨(m,Z),⟨hnext,hs⟩,by dsimp only;omega,?_⟩;dsimp only;exact a8 (qf [(1011,1020)])
theorem Av {t t':List Qu} (h:fk t'=fk t) (ht:t≠[]):t'≠[]:=fun e=>by
 subst e;cases t with
 | nil=>exact ht rfl
 | cons q l=>cases h
theorem Lr {w:Wk} {i:Nat} (h:CI w.c) (hi:i<w.c.procs.length) (hw:(w.pc i).waiting=true) (hev:w.ev.length≤700000):cy (w.pc i).req.expr=[]∨Lp (w.pc i) (cy (w.pc i).req.expr) w:=by
 have hd:=jL h hi hw;have h8:=cd (w.pc i).req.expr;obtain ⟨_,_,hk,_,_⟩:=dV h hi hw;have hn:fk (cU (w.pc i) (cy (w.pc i).req.expr) w).c.queues=fk w.c.queues:=hk.nm;cases hL:cy (w.pc i).req.expr with
 | nil=>exact .inl rfl
 | cons a l =>
  right
  rw [hL] at hd hn h8;exact ⟨hd.ok (by omega),Av hn (rS hd.2.1),by omega⟩
theorem EL (d:Nat) (w:Wk) (i:Nat) {x:Pc} (hx:w.c.procs[i]? = some x) (h:CI w.c) (hev:w.ev.length≤500000) {Z:Wk×Int} (hZ:(bif !x.waiting then (w,14) else (bS (aU (az w i) i),0))=Z):FSpec prog 82 [gA,pp i] (HP d w) [4] (.i Z.2) (HQ d Z.1):=by
 refine aP func82 ?_;have hi:=(List.getElem?_eq_some_iff.1 hx).1;have hpc:=dJ hx;cases hw:x.waiting with
 | false =>
  rw [hw] at hZ;obtain rfl:(w,14)=Z:=hZ;repeat' (first|refine af ?_ ?_|(refine aa 21 rfl ?_;refine sx (ay rfl rfl) ?_)|refine ae ?_|exact ah|refine ab fun hb=>?_|(refine bP (qf [(4,2)]) ?_;exact aj))
 | true =>
  rw [hw] at hZ;have hw':(w.pc i).waiting=true:=by rw [hpc];exact hw
  obtain ⟨c1,_,hk,hps,_⟩:=dV h hi hw';have hdr:=Lr h hi hw' (by omega);have hev1:=eQ w i;have hlen:=hk.len;rw [hpc] at hdr hps;obtain ⟨V,hV⟩:∃V,az w i=V:=⟨_,rfl⟩;have kW:=oZ d w i hx hdr hV;rw [hV] at c1 hps hev1 hZ hlen;obtain ⟨y,hy⟩:∃y,V.c.procs[i]? = some y:=⟨_,List.getElem?_eq_getElem (by omega)⟩;have hyw:y.waiting=false:=by
   have:=hy;rw [hps,List.getElem?_set_self hi] at this;obtain rfl:=Option.some.inj this;rfl
  have hpy:=dJ hy;have hN:aU V i=V.setP i { y with gen:=aS y.gen }:=by unfold aU;rw [hpy]
  obtain ⟨c2,_⟩:=iI c1 (by omega:i<V.c.procs.length) (by rw [hpy];exact hyw);rw [hN] at hZ c2;obtain ⟨F,hF⟩:∃F,bS (V.setP i { y with gen:=aS y.gen })=F:=⟨_,rfl⟩;have kS:=ml d (V.setP i { y with gen:=aS y.gen }) _ (BW c2 (by show V.ev.length≤_;omega));rw [show aQ (V.setP i { y with gen:=aS y.gen }).c.procs.length (V.setP i { y with gen:=aS y.gen })=F from hF] at kS;obtain rfl:(F,(0:Int))=Z:=by rw [←hZ];exact congrArg (fun z=>(z,(0:Int))) hF.symm
  clear hZ hN hF hps hV hdr c1 c2;repeat' (first|refine af ?_ ?_|(refine aa 9 rfl ?_;first|(refine cH (qf [(0,0),(1,1),(2,2),(4,1004)]) (kW) ?_)|(refine cB [] (ji y.gen) ?_)|(refine cH (qf [(0,0),(50,1),(2,1004),(4,1006)]) (kS) ?_))|(refine aa 21 rfl ?_;refine sx (ay rfl rfl) ?_)|refine ae ?_|(refine aa 4 rfl ?_;refine aR (aq (z:={ y with gen:=aS y.gen }) rfl rfl rfl rfl hy rfl rfl rfl rfl (Nat.le_of_ble_eq_true rfl) rfl rfl) rfl rfl rfl ?_)|exact ah|refine ab fun hb=>?_|(refine bP (qf [(4,1006)]) ?_;exact aj))
theorem I3 (d:Nat) (w:Wk) (i:Nat) (n:Int) {x:Pc} (hx:w.c.procs[i]? = some x) {Z:Wk×Int} (hZ:(bif x.waiting then (w,14) else bif !decide ((dP x.led n).2=0) then (w,(dP x.led n).2) else (aU (w.setP i { x with led:=(dP x.led n).1 }) i,0))=Z):FSpec prog 84 [gA,pp i,oK n] (HP d w) [4] (.i Z.2) (HQ d Z.1):=by
 refine aP func84 ?_;have hi:=(List.getElem?_eq_some_iff.1 hx).1;cases hw:x.waiting with
 | true =>
  rw [hw] at hZ;obtain rfl:(w,14)=Z:=hZ;repeat' (first|refine af ?_ ?_|(refine aa 21 rfl ?_;refine sx (ay rfl rfl) ?_)|refine ae ?_|exact ah|refine ab fun hb=>?_|(refine bP (qf [(4,2)]) ?_;exact aj))
 | false =>
  rw [hw,cond_false] at hZ;obtain ⟨R,hR⟩:∃R,dP x.led n=R:=⟨_,rfl⟩;rw [hR] at hZ;have kS:=I0 x.led n hR;obtain ⟨g,e⟩:=R;by_cases he:e=0
  ·subst he;have hZ:(aU (w.setP i { x with led:=g }) i,(0:Int))=Z:=by rw [←hZ,decide_eq_true rfl,hw];rfl
   have hyi:=fB hi { x with led:=g };have hN:aU (w.setP i { x with led:=g }) i=(w.setP i { x with led:=g }).setP i { x with led:=g,gen:=aS x.gen }:=by
    unfold aU;rw [fQ hi]
   rw [hN] at hZ;subst hZ;clear hR hN;repeat' (first|refine af ?_ ?_|(refine aa 9 rfl ?_;first|(refine cC [] (kS) ?_)|(refine cB [] (ji x.gen) ?_))|(refine aa 21 rfl ?_;refine sx (ay rfl rfl) ?_)|refine ae ?_|(refine aa 4 rfl ?_;first|(refine aR (aq (z:={ x with led:=g }) rfl rfl rfl rfl hx rfl rfl rfl rfl (Nat.le_of_ble_eq_true rfl) rfl rfl) rfl rfl rfl ?_)|(refine aR (aq (z:={ x with led:=g,gen:=aS x.gen }) rfl rfl rfl rfl hyi rfl rfl rfl rfl (Nat.le_of_ble_eq_true rfl) rfl rfl) rfl rfl rfl ?_))|exact ah|(refine ab fun hb=>?_;first|(exact absurd rfl hb)|skip)|(refine bP (qf [(4,2)]) ?_;exact aj))
  ·rw [decide_eq_false he] at hZ;obtain rfl:(w,e)=Z:=hZ;repeat' (first|refine af ?_ ?_|refine aa 9 rfl (cC [] (kS) ?_)|(refine aa 21 rfl ?_;refine sx (ay rfl rfl) ?_)|refine ae ?_|exact ah|(refine ab fun hb=>?_;first|(exact absurd hb he)|skip)|(refine bP (qf [(4,2)]) ?_;exact aj))
theorem BX {g:Lg} (h:Ld g) {n:ByteArray} (hn:ax g.entries n=⟨0,0⟩):g.entries.filter (oth n)=g.entries:=by
 have h1:=(wT h.ents n).1;rw [hn,show Db ⟨0,0⟩=0 from by decide] at h1;have h2:(g.entries.filter fun e=>ba e.name n)=[]:=List.length_eq_zero_iff.1 (by omega);rw [List.filter_eq_nil_iff] at h2;exact List.filter_eq_self.2 fun e he=>by
  have:=h2 e he;simpa [oth] using this
theorem zd {g:Lg} (h:Ld g) {n:ByteArray}:(fY g n).2 = !decide (ax g.entries n=⟨0,0⟩):=by
 have hV:=fm.2 h;unfold fY;rw [hV,Bool.not_true,cond_false];by_cases hn:ax g.entries n=⟨0,0⟩
 ·rw [decide_eq_true hn];have hf:g.entries.filter (oth n)=g.entries:=BX h hn;rw [show (fO g n).entries=g.entries from hf,decide_eq_true rfl];rfl
 ·rw [decide_eq_false hn];have hne:(fO g n).entries.length≠g.entries.length:=by
   intro e;have h1:g.entries.filter (oth n)=g.entries:=List.Sublist.eq_of_length List.filter_sublist e;have h2:=gQ n n g.entries;rw [h1,if_pos rfl] at h2;exact hn h2
  rw [decide_eq_false hne];rfl
theorem BY (d:Nat) (w:Wk) (i:Nat) (n:ByteArray) {x:Pc} (hx:w.c.procs[i]? = some x) (h:CI w.c) (hev:w.ev.length≤500000) {Z:Wk×Int} (hZ:dR w i n=Z):FSpec prog 83 [gA,pp i,.one (.sc (.string n))] (HP d w) [4] (.i Z.2) (HQ d Z.1):=by
 refine aP func83 ?_;have hi:=(List.getElem?_eq_some_iff.1 hx).1;have hpc:=dJ hx;rw [rE] at hZ;cases hw:x.waiting with
 | true =>
  rw [hpc,hw] at hZ;obtain rfl:(w,14)=Z:=hZ;repeat' (first|refine af ?_ ?_|(refine aa 21 rfl ?_;refine sx (ay rfl rfl) ?_)|refine ae ?_|exact ah|refine ab fun hb=>?_|(refine bP (qf [(4,2)]) ?_;exact aj))
 | false =>
  have hw':(w.pc i).waiting=false:=by rw [hpc];exact hw
  have hinv:=h.inv _ (List.getElem_mem hi);rw [←bU hi,hpc] at hinv;obtain ⟨_,_,hrun⟩:=hinv.run hw;have hD2:=zd hinv.stat.led (n:=n);obtain ⟨R,hR⟩:∃R,fY x.led n=R:=⟨_,rfl⟩;have kD:=I1 x.led n hR;rw [hR] at hD2;by_cases h0:ax x.led.entries n=⟨0,0⟩
  ·rw [hpc,hw,h0,decide_eq_true rfl] at hZ;obtain rfl:(w,10)=Z:=hZ;rw [h0,decide_eq_true rfl] at hD2;obtain ⟨g,e⟩:=R;obtain rfl:e=false:=hD2;repeat' (first|refine af ?_ ?_|refine aa 9 rfl (cC [] (kD) ?_)|(refine aa 21 rfl ?_;refine sx (ay rfl rfl) ?_)|refine ae ?_|exact ah|refine ab fun hb=>?_|(refine bP (qf [(4,2)]) ?_;exact aj))
  ·have hn:=(hinv.stat.hf n h0).1;have hg:=(hrun n hn).h;obtain ⟨c2,_,_,hnm⟩:=lB h hi hw' (by rw [hpc];exact h0);unfold oN at hZ c2 hnm;rw [hpc] at hZ c2 hnm;rw [hw,decide_eq_false h0,cond_false,cond_false] at hZ;rw [decide_eq_false h0] at hD2;obtain ⟨g,e⟩:=R;obtain rfl:e=true:=hD2;rw [hR] at hZ c2 hnm;have hdb:bL w x.proc n ⟨0,0⟩=d5 w x.proc ⟨n,⟨0,0⟩⟩:=by
    unfold bL;rw [hg,decide_eq_false h0];rfl
   have hne:(bL w x.proc n ⟨0,0⟩).c.queues≠[]:=by rw [hdb];exact Av hnm (rS hn)
   have hev1:=nY w x.proc n ⟨0,0⟩;obtain ⟨V,hV⟩:∃V,bL w x.proc n ⟨0,0⟩=V:=⟨_,rfl⟩;have kL:=GH d w x.proc n ⟨0,0⟩ hn hne (by omega) hV;have hVp:V.c.procs=w.c.procs:=by rw [←hV];exact lD w x.proc n ⟨0,0⟩
   rw [←hdb,hV] at hZ c2;rw [hV] at hev1;have hy:V.c.procs[i]? = some x:=by rw [hVp];exact hx
   have hiV:i<V.c.procs.length:=by rw [hVp];exact hi
   have hN:aU (V.setP i { x with led:=g }) i=(V.setP i { x with led:=g }).setP i { x with led:=g,gen:=aS x.gen }:=by
    unfold aU;rw [fQ hiV]
   dsimp only at hZ c2;have hyi:=fB hiV { x with led:=g };rw [hN] at hZ c2;obtain ⟨Y,hY⟩:∃Y,aQ ((V.setP i { x with led:=g }).setP i { x with led:=g,gen:=aS x.gen }).c.procs.length ((V.setP i { x with led:=g }).setP i { x with led:=g,gen:=aS x.gen })=Y:=⟨_,rfl⟩;have kS:=ml d ((V.setP i { x with led:=g }).setP i { x with led:=g,gen:=aS x.gen }) _ (BW c2 (by show V.ev.length≤_;omega));rw [hY] at kS;obtain rfl:(Y,(0:Int))=Z:=by rw [←hZ];exact congrArg (fun z=>(z,(0:Int))) hY.symm
   clear hZ hN hY hV hdb hne hnm c2 hrun hinv hR;repeat' (first|refine af ?_ ?_|(refine aa 9 rfl ?_;first|(refine cC [] (kD) ?_)|(refine cH (qf [(0,0),(1,1),(2,2),(4,1004)]) (kL) ?_)|(refine cB [] (ji x.gen) ?_)|(refine cH (qf [(0,0),(50,1),(2,1004),(4,1006)]) (kS) ?_))|(refine aa 21 rfl ?_;refine sx (ay rfl rfl) ?_)|refine ae ?_|(refine aa 4 rfl ?_;first|(refine aR (aq (z:={ x with led:=g }) rfl rfl rfl rfl hy rfl rfl rfl rfl (Nat.le_of_ble_eq_true rfl) rfl rfl) rfl rfl rfl ?_)|(refine aR (aq (z:={ x with led:=g,gen:=aS x.gen }) rfl rfl rfl rfl hyi rfl rfl rfl rfl (Nat.le_of_ble_eq_true rfl) rfl rfl) rfl rfl rfl ?_))|exact ah|refine ab fun hb=>?_|(refine bP (qf [(4,1006)]) ?_;exact aj))
theorem ze (p:Pr) (n:ByteArray) (l:Am) (w:Wk) (i:Nat) (z:Pc):bL (w.setP i z) p n l=(bL w p n l).setP i z:=by
 unfold bL d5;show (bif decide (ao (be w.c.queues n).holds p=l) then w.setP i z else _)=_;cases decide (ao (be w.c.queues n).holds p=l) <;> rfl
theorem o0 (p:Pr) (i:Nat) (z:Pc):∀(l:List Tm) (w:Wk),br p l (w.setP i z)=(br p l w).setP i z∧(vq p l w→vq p l (w.setP i z))
 | [],w=>⟨rfl,fun _=>trivial⟩
 | a :: l,w=>by
  have ih:=o0 p i z l (bL w p a.name a.am);have e:=ze p a.name a.am w i z;refine ⟨?_,fun h=>⟨h.1,h.2.1,?_⟩⟩
  ·show br p l (bL (w.setP i z) p a.name a.am)=_;rw [e];exact ih.1
  ·rw [e];exact ih.2 h.2.2
theorem zf (d:Nat) (w:Wk) (i:Nat) (n:Int) {x:Pc} (hx:w.c.procs[i]? = some x) (h:CI w.c) (hev:w.ev.length≤400000) {Z:Wk×Int} (hZ:cP w i n=Z):FSpec prog 85 [gA,pp i,oK n] (HP d w) [4] (.i Z.2) (HQ d Z.1):=by
 refine aP func85 ?_;have hi:=(List.getElem?_eq_some_iff.1 hx).1;have hpc:=dJ hx;rw [pH] at hZ;obtain ⟨U,hU⟩:∃U,cu x.led n=U:=⟨_,rfl⟩;have kU:=Ki x.led n hU;by_cases h0:U.2.2=0
 case neg =>
  rw [hpc,hU,decide_eq_false h0] at hZ;obtain rfl:(w,U.2.2)=Z:=hZ;obtain ⟨g,L,e⟩:=U;repeat' (first|refine af ?_ ?_|refine aa 9 rfl (cC [] (kU) ?_)|(refine aa 21 rfl ?_;refine sx (ay rfl rfl) ?_)|refine ae ?_|exact ah|(refine ab fun hb=>?_;first|(exact absurd hb h0)|skip)|(refine bP (qf [(4,2)]) ?_;exact aj))
 obtain ⟨hlw,c2,hkp,_⟩:=jM (n:=n) h hi (by rw [hpc,hU];exact h0);have hrest:=z7 h hi;have hUl:=tW x.led n;obtain ⟨y,hy,hyp⟩:=z8 hx;have hyc:=dJ hy;have hev1:(jb w i).ev.length≤w.ev.length+280:=by
  unfold jb;cases (w.pc i).waiting with
  | false=>rw [cond_false];omega
  | true=>exact eQ w i
 have hnmA:fk (jb w i).c.queues=fk w.c.queues:=hrest.kp.nm;have hWev:(mr w i n).ev.length≤(jb w i).ev.length+18*U.2.1.length:=by
  have:=m7 (w.pc i).proc (cu (w.pc i).led n).2.1 (pU w i n);rw [hpc,hU] at this;show (br (w.pc i).proc (cu (w.pc i).led n).2.1 (pU w i n)).ev.length≤_;rw [hpc,hU];exact this
 have hnmS:=hkp.nm;have hlw:=hlw.ok (by rw [hpc,hU];show (jb w i).ev.length+_≤_;rw [hU] at hUl;omega);rw [hpc,hU] at hlw;rw [hU] at hUl;obtain ⟨A,hA⟩:∃A,jb w i=A:=⟨_,rfl⟩;have hBB:pU w i n=A.setP i { y with led:=U.1 }:=by
  unfold pU;rw [hA,hpc,hU,←hA,hyc]
 rw [hBB] at hlw;have hiA:i<A.c.procs.length:=by rw [←hA,xB];exact hi
 have hSS:mr w i n=br x.proc U.2.1 ((A.setP i { y with led:=U.1 }).setP i { y with led:=U.1,gen:=aS y.gen }):=by
  unfold mr;rw [hBB,hpc,hU,(o0 x.proc i { y with led:=U.1,gen:=aS y.gen } U.2.1 (A.setP i { y with led:=U.1 })).1];unfold aU;have:(br x.proc U.2.1 (A.setP i { y with led:=U.1 })).pc i = { y with led:=U.1 }:=by
   unfold Wk.pc;rw [gl];exact fQ hiA _
  rw [this]
 have hlw2:=(o0 x.proc i { y with led:=U.1,gen:=aS y.gen } U.2.1 (A.setP i { y with led:=U.1 })).2 hlw;rw [hpc,hU,decide_eq_true h0] at hZ;rw [hSS] at c2 hZ hnmS hWev;rw [hA] at hy hev1 hWev hnmA;have hyi:=fB hiA { y with led:=U.1 };obtain ⟨B,hB⟩:∃B,(A.setP i { y with led:=U.1 }).setP i { y with led:=U.1,gen:=aS y.gen } = B:=⟨_,rfl⟩;have hBq:B.c.queues=A.c.queues:=by rw [←hB];rfl
 obtain ⟨W,hW⟩:∃W,br x.proc U.2.1 B=W:=⟨_,rfl⟩;rw [hB] at hlw2;rw [hB,hW] at c2 hZ hnmS hWev;obtain ⟨L,hL⟩:∃L,U.2.1=L:=⟨_,rfl⟩;rw [hL] at hlw2 hW hWev hUl;have hWne:L=[]∨W.c.queues≠[]:=by
  cases L with
  | nil=>exact .inl rfl
  | cons a l =>
   have h1:=hlw2.1;rw [hBq] at h1;exact .inr (Av (hnmS.trans hnmA.symm) (rS h1))
 obtain ⟨F,hF⟩:∃F,aQ W.c.procs.length W=F:=⟨_,rfl⟩;have kS:=ml d W _ (BW c2 (by omega));rw [hF] at kS hZ;obtain rfl:(F,(0:Int))=Z:=hZ;have hWp:i<W.c.procs.length:=by rw [←hW,gl,←hB];show i<(List.set _ _ _).length;rw [List.length_set];exact (by rw [show (A.setP i { y with led:=U.1 }).c.procs=A.c.procs.set i { y with led:=U.1 } from rfl,List.length_set];exact hiA)
 have hBp:∃v,B.c.procs[i]? = some v∧v.proc=x.proc:=⟨{ y with led:=U.1,gen:=aS y.gen },by rw [←hB];exact fB (by show i<(A.c.procs.set i _).length;rw [List.length_set];exact hiA) _,hyp⟩;have hdr:=fun hw=>Lr h hi hw (by omega);rw [hpc] at hdr;obtain ⟨g,L2,e⟩:=U;obtain rfl:L2=L:=hL;obtain rfl:e=0:=h0;dsimp only at hB hyi;have kW:=fun hw=>oZ d w i hx (hdr hw) rfl;have hA2:A=bif x.waiting then az w i else w:=by rw [←hA];unfold jb;rw [hpc]
 clear hlw hSS hBB hA hF hdr hrest hkp c2 hnmS hnmA hU;subst hB;cases hw:x.waiting
 case' false =>
  rw [hw,cond_false] at hA2;subst hA2;clear kW;obtain rfl:x=y:=Option.some.inj (hx.symm.trans hy);repeat' (first|refine af ?_ ?_|(refine aa 9 rfl ?_;first|(refine cC [] (kU) ?_)|(refine cB [] (ji x.gen) ?_))|(refine aa 21 rfl ?_;refine sx (ay rfl rfl) ?_)|refine ae ?_|(refine aa 4 rfl ?_;first|(refine aR (aq (z:={ x with led:=g }) rfl rfl rfl rfl hy rfl rfl rfl rfl (Nat.le_of_ble_eq_true rfl) rfl rfl) rfl rfl rfl ?_)|(refine aR (aq (z:={ x with led:=g,gen:=aS x.gen }) rfl rfl rfl rfl hyi rfl rfl rfl rfl (Nat.le_of_ble_eq_true rfl) rfl rfl) rfl rfl rfl ?_))|exact ah|(refine ab fun hb=>?_;first|(exact absurd rfl hb)|skip))
 case' true =>
  rw [hw,cond_true] at hA2;have kW:=kW (by rw [hw]);rw [←hA2] at kW;repeat' (first|refine af ?_ ?_|(refine aa 9 rfl ?_;first|(refine cC [] (kU) ?_)|(refine cH (qf [(0,0),(1,1),(2,2),(4,1004)]) (kW) ?_)|(refine cB [] (ji y.gen) ?_))|(refine aa 21 rfl ?_;refine sx (ay rfl rfl) ?_)|refine ae ?_|(refine aa 4 rfl ?_;first|(refine aR (aq (z:={ y with led:=g }) rfl rfl rfl rfl hy rfl rfl rfl rfl (Nat.le_of_ble_eq_true rfl) rfl rfl) rfl rfl rfl ?_)|(refine aR (aq (z:={ y with led:=g,gen:=aS y.gen }) rfl rfl rfl rfl hyi rfl rfl rfl rfl (Nat.le_of_ble_eq_true rfl) rfl rfl) rfl rfl rfl ?_))|exact ah|(refine ab fun hb=>?_;first|(exact absurd rfl hb)|skip))
 case' false=>refine ai (fun y:Nat×Wk=>y.1≤L2.length∧br x.proc (L2.drop y.1) y.2=W∧vq x.proc (L2.drop y.1) y.2∧∃v,y.2.c.procs[i]? = some v∧v.proc=x.proc) (fun y=>bt [0,1,2,1011] [(0,.v gA),(1,.v (pp i)),(44,.c (.sl cw L2)),(45,.i L2.length),(46,.i y.1)] [(0,.box 85 (An y.2 1011)),(1,.arr 63 (eI d) y.2.c.procs),(1011,.arr 67 fG y.2.ev)]) (fun y=>L2.length-y.1) (0,(A.setP i { x with led:=g }).setP i { x with led:=g,gen:=aS x.gen }) ⟨Nat.zero_le _,hW,hlw2,hBp⟩ (by exact a8 (qf [(1011,2)])) ?_
 case' true=>refine ai (fun y:Nat×Wk=>y.1≤L2.length∧br x.proc (L2.drop y.1) y.2=W∧vq x.proc (L2.drop y.1) y.2∧∃v,y.2.c.procs[i]? = some v∧v.proc=x.proc) (fun y=>bt [0,1,2,1011] [(0,.v gA),(1,.v (pp i)),(44,.c (.sl cw L2)),(45,.i L2.length),(46,.i y.1)] [(0,.box 85 (An y.2 1011)),(1,.arr 63 (eI d) y.2.c.procs),(1011,.arr 67 fG y.2.ev)]) (fun y=>L2.length-y.1) (0,(A.setP i { y with led:=g }).setP i { y with led:=g,gen:=aS y.gen }) ⟨Nat.zero_le _,hW,hlw2,hBp⟩ (by exact a8 (qf [(1011,1004)])) ?_
 all_goals
  clear hy hyi hyc;rintro ⟨k,u⟩ ⟨hk,hu,hul,v,hv1,hv2⟩;dsimp only at *
  by_cases hlt:k<L2.length
  ·rw [List.drop_eq_getElem_cons hlt] at hu hul;obtain ⟨u1,u2,u3⟩:=hul;obtain ⟨a,ha⟩:∃a,L2[k]=a:=⟨_,rfl⟩;have hga:L2[k]? = some a:=by rw [List.getElem?_eq_getElem hlt,ha]
   rw [ha] at hu u1 u3;have hu:br x.proc (L2.drop (k+1)) (bL u x.proc a.name a.am)=W:=hu;have hne:(bL u x.proc a.name a.am).c.queues≠[]:=fun e=>by
    have h9:=rN (p:=x.proc) (l:=L2.drop (k+1)) e;rw [hu] at h9;rcases hWne with e2|e2
    ·rw [e2] at hlt;exact absurd hlt (by simp)
    ·exact e2 h9
   have hzp:=lD u x.proc a.name a.am;obtain ⟨z,hz⟩:∃z,bL u x.proc a.name a.am=z:=⟨_,rfl⟩;have kL:=GH d u x.proc a.name a.am u1 hne u2 hz;rw [hz] at hu u3 hzp;rw [←hv2] at kL;clear hne hz;repeat' (first|refine af ?_ ?_|refine aa 9 rfl (cH (qf [(0,0),(1,1),(2,1011),(4,1020)]) (kL) ?_)|(refine aa 21 rfl ?_;refine sx (ay rfl rfl) ?_)|refine ae ?_|exact ah|refine ab fun hb=>?_)
   refine ⟨(k+1,z),⟨by dsimp only;omega,hu,u3,v,by dsimp only;rw [hzp];exact hv1,hv2⟩,by dsimp only;omega,?_⟩;dsimp only;exact a8 (qf [(1011,1020)])
  ·rw [List.drop_eq_nil_of_le (by omega)] at hu;obtain rfl:u=W:=hu;repeat' (first|refine af ?_ ?_|refine aa 9 rfl (cH (qf [(0,0),(50,1),(2,1011),(4,1020)]) (kS) ?_)|refine ae ?_|exact ah|refine ab fun hb=>?_|(refine bP (qf [(4,1020)]) ?_;exact aj))
def LV (w:Wk) (a b:Nat):List D:=[.sc (.int .i64 w.c.now),.sl dC w.c.queues,.own a,.own b]
def HR (d:Nat) (w:Wk):List (Nat×Option Box):=[(0,some (.box 85 (LV w 3 4))),(3,some (.arr 63 (eI d) w.c.procs)),(4,some (.arr 67 fG w.ev)),(1,none),(2,none)]
theorem I4 (d:Nat) (w:Wk) (i:Nat) {x:Pc} (hx:w.c.procs[i]? = some x) (h:CI w.c) (hev:w.ev.length≤500000) {Z:Wk} (hZ:gy w i=Z):FSpec prog 86 [gA,oK i] (HP d w) [3,4] (.i 0) (HR d Z):=by
 refine aP func86 ?_;have hi:=(List.getElem?_eq_some_iff.1 hx).1;have hpc:=dJ hx;have hp8:=h.len;have c2:=rD h hi;rw [show gy w i=aQ (DN w i).c.procs.length (DN w i) from rfl] at hZ;unfold DN at hZ c2;rw [hpc] at hZ c2;have hrl:=pK w.c.queues x.proc;obtain ⟨R,hR⟩:∃R,bR w.c.queues x.proc=R:=⟨_,rfl⟩;have kR:=Es w.c.queues x.proc hR;rw [hR] at hZ c2 hrl;obtain ⟨R1,R2⟩:=R;dsimp only at hZ c2 hrl;have kT:=Ao d w R1 R2 (by omega);have kD:=Gs d w.c.procs i (by omega) hi rfl;obtain ⟨P,hP⟩:∃P,w.c.procs.eraseIdx i=P:=⟨_,rfl⟩;rw [hP] at kD hZ c2;have kN:=IT d ⟨{ w.c with queues:=R1,procs:=P },w.ev++R2⟩ 5 x.proc (by simp;omega);obtain ⟨S,hS⟩:∃S,Wk.note ⟨{ w.c with queues:=R1,procs:=P },w.ev++R2⟩ 5 x.proc=S:=⟨_,rfl⟩;have hSe:S.ev.length=w.ev.length+R2.length+1:=by rw [←hS,gU];simp
 have hSp:S.c.procs=P:=by rw [←hS];rfl
 rw [hS] at kN hZ c2;have kS:=ml d S _ (BW c2 (by omega));rw [hZ] at kS;clear hS hR hZ c2 hP hpc;repeat' (first|refine af ?_ ?_|(refine aa 9 rfl ?_;first|(refine cC [] (kR) ?_)|(refine cH (qf [(0,0),(1,1),(2,2),(4,1004)]) (kT) ?_)|(refine cH (qf [(1,1),(2,1001)]) (kD) ?_)|(refine cH (qf [(0,0),(1,1001),(2,1004),(4,1005)]) (kN) ?_)|(refine cH (qf [(0,0),(50,1001),(2,1005),(4,1006)]) (kS) ?_))|(refine aa 21 rfl ?_;first|refine sx (ay rfl rfl) ?_|refine sx (aO rfl rfl) ?_)|refine ae ?_|exact ah|refine ab fun hb=>?_|(refine bP (qf [(3,1001),(4,1006)]) ?_;exact aj))
def zg:Option ByteArray→List Rs→Bool
 | _,[]=>true
 | o,r :: l=>mm r && AU o r.name && zg (some r.name) l
theorem ul (o:Option ByteArray) (r:Rs) (l:List Rs):zg o (r :: l)=(mm r && AU o r.name && zg (some r.name) l):=rfl
def I5 (l:List Rs):Bool:=decide (l.length≤8) && zg none l
def um (l:List Rs) (k:Nat):Option ByteArray:=if k=0 then none else (l[k-1]?).map (·.name)
theorem zh (l:List Rs):um l 0=none:=rfl
theorem rT {l:List Rs} {k:Nat} {x:Rs} (h:k<l.length) (hx:l[k]=x):um l (k+1)=some x.name:=by
 unfold um;rw [if_neg (by omega),Nat.add_sub_cancel,List.getElem?_eq_getElem h,hx];rfl
theorem BZ {l:List Rs} {k:Nat} {x:Rs} (h0:0<k) (h:k-1<l.length) (hx:l[k-1]=x):um l k=some x.name:=by
 unfold um;rw [if_neg (by omega),List.getElem?_eq_getElem h,hx];rfl
theorem xY:∀(l:List Rs) (o:Option ByteArray),zg o l=true↔(∀x∈l,mm x=true)∧(∀i (h:i+1<l.length),jo (l[i]'(by omega)).name l[i+1].name=true)∧∀n,o=some n→∀x,l.head? = some x→jo n x.name=true
 | [],o=>by simp [zg]
 | x :: l,o=>by
  rw [ul,Bool.and_eq_true,Bool.and_eq_true,xY l (some x.name)];constructor
  ·rintro ⟨⟨h1,h2⟩,h3,h4,h5⟩;refine ⟨fun y hy=>?_,fun i hi=>?_,fun n hn y hy=>?_⟩
   ·rcases List.mem_cons.1 hy with rfl|hy
    ·exact h1
    ·exact h3 y hy
   ·cases i with
    | zero =>
     cases l with
     | nil=>simp at hi
     | cons z l=>exact h5 x.name rfl z rfl
    | succ i =>
     have:=h4 i (by simpa using hi);simpa using this
   ·subst hn;simp only [List.head?_cons,Option.some.injEq] at hy;subst hy;exact h2
  ·rintro ⟨h1,h2,h3⟩;refine ⟨⟨h1 x (by simp),?_⟩,fun y hy=>h1 y (by simp [hy]),fun i hi=>?_,fun n hn y hy=>?_⟩
   ·cases o with
    | none=>rfl
    | some n=>exact h3 n rfl x rfl
   ·have:=h2 (i+1) (by simpa using hi);simpa using this
   ·injection hn with hn;subst hn;cases l with
    | nil=>cases hy
    | cons z l =>
     simp only [List.head?_cons,Option.some.injEq] at hy;subst hy;have:=h2 0 (by simp);simpa using this
theorem Aw {l:List Rs}:I5 l=true↔CatOk l:=by
 unfold I5;rw [Bool.and_eq_true,decide_eq_true_eq,xY];exact ⟨fun ⟨h1,h2,h3,_⟩=>⟨h1,h2,h3⟩,fun h=>⟨h.len,h.ok,h.asc,fun _ h=>by cases h⟩⟩
theorem Hp (l:List Rs):FSpec prog 37 [.one (.sl eT l)] [] [] (.b (I5 l)) []:=by
  obtain ⟨v,hv⟩:∃v,I5 l=v:=⟨_,rfl⟩;rw [hv];unfold I5 at hv;refine aP func37 ?_;refine aM (fun c ρ a w hr=>bz (t:=0) hr rfl) (fun hl0=>?_);by_cases h8:8<l.length
  · rw [decide_eq_false (by omega)] at hv
    obtain rfl:false=v:=hv;repeat' (first|refine af ?_ ?_|refine ae ?_|exact ah|refine ab fun hb=>?_|exact aX|fail)
  rw [decide_eq_true (by omega),Bool.true_and] at hv;repeat' (first|refine af ?_ ?_|refine ae ?_|exact ah|refine ab fun hb=>?_)
  refine ai (fun i=>i≤l.length∧zg (um l i) (l.drop i)=v) (fun i=>bt [] [(0,.c (.sl eT l)),(8,.c (.sl eT l)),(9,.i l.length),(10,.i i)] []) (fun i=>l.length-i) 0 ⟨Nat.zero_le _,hv⟩ aN ?_;rintro i ⟨hi,hs⟩;by_cases hlt:i<l.length
  · rw [List.drop_eq_getElem_cons hlt,ul] at hs
    rcases Nat.eq_zero_or_pos i with h0|h0
    · subst h0
      rw [zh] at hs;repeat' (first|refine af ?_ ?_|refine aa 9 rfl (cB [] (xL l[0]) ?_)|refine ae ?_|exact ah|(refine ab fun hb=>?_;first|(simp at hb;done)|skip))
      all_goals first
        | (obtain rfl:false=v
           · (rw [←hs];simp [*];done)
           refine bP (qf []) ?_;exact aj)
        | (refine ⟨1,⟨by omega,by rw [←hs,rT hlt rfl];simp [*,AU]⟩,by omega,?_⟩
           exact aN)
    · obtain ⟨m,hm⟩:∃m,l[i-1]=m:=⟨_,rfl⟩
      have hgm:l[((i:Int)-1).toNat]? = some m:=by rw [show ((i:Int)-1).toNat=i-1 by omega,List.getElem?_eq_getElem (by omega),hm]
      rw [BZ h0 (by omega) hm] at hs;repeat' (first|refine af ?_ ?_|refine aa 9 rfl (cB [] (xL l[i]) ?_)|refine ae ?_|exact ah|(refine ab fun hb=>?_;first|(omega)|skip))
      all_goals first
        | (obtain rfl:false=v
           · (rw [←hs];simp [*,AU];done)
           refine bP (qf []) ?_;exact aj)
        | (refine ⟨i+1,⟨by omega,by rw [←hs,rT hlt rfl];simp [*,AU]⟩,by omega,?_⟩
           exact aN)
  · rw [List.drop_eq_nil_of_le (by omega)] at hs
    obtain rfl:true=v:=hs;repeat' (first|refine af ?_ ?_|refine ae ?_|exact ah|refine ab fun hb=>?_|exact aX|fail)
theorem Kn (l:List Rs) {v:Bool} (hv:I5 l=v):FSpec prog 15 [.one (.sl eT l)] [] [] (.tup [.one (.sl dC (bif v then l.map xQ else [])),iV (bif v then 0 else 1)]) []:=by
 have kV:=Hp l;rw [hv] at kV;refine aP func15 ?_;cases v with
 | false =>
  repeat' (first|refine af ?_ ?_|refine aa 9 rfl (cB [] (kV) ?_)|refine ae ?_|exact ah|refine ab fun hb=>?_|(refine fe (qf []) ?_;exact aj))
 | true =>
  have hc:=Aw.1 hv;have h8:=hc.len;repeat' (first|refine af ?_ ?_|refine aa 9 rfl (cB [] (kV) ?_)|refine ae ?_|exact ah|refine ab fun hb=>?_)
  refine bV 4 1000 81 dC rfl rfl rfl ?_;refine ai (fun y:Nat×List Qu=>y.1≤l.length∧y.2=(l.take y.1).map xQ) (fun y=>bt [1000] [(4,.c (.own 1000)),(12,.c (.sl eT l)),(13,.i l.length),(14,.i y.1)] [(1000,.arr 81 dC y.2)]) (fun y=>l.length-y.1) (0,[]) ⟨Nat.zero_le _,rfl⟩ aN ?_;rintro ⟨i,T⟩ ⟨hi,hT⟩;dsimp only at *
  have hTl:T.length=i:=by rw [hT];simp;omega
  by_cases hlt:i<l.length
  ·obtain ⟨r,hr⟩:∃r,l[i]? = some r:=⟨_,List.getElem?_eq_getElem hlt⟩;have er:l[i]=r:=(List.getElem?_eq_some_iff.1 hr).2;have kN:=Kf r (er▸hc.ok _ (List.getElem_mem hlt));repeat' (first|refine af ?_ ?_|(refine aa 8 rfl ?_;refine sx (ak rfl rfl (aB rfl rfl) (JN [xQ r] rfl rfl rfl) rfl aL aL) ?_)|refine aa 9 rfl (cC [] (kN) ?_)|refine ae ?_|exact ah|(refine ab fun hb=>?_;first|(exact absurd hb (by decide))|skip))
   refine ⟨(i+1,T++[xQ r]),⟨by dsimp only;omega,?_⟩,by dsimp only;omega,?_⟩
   ·dsimp only;rw [hT,List.take_succ_eq_append_getElem hlt,er];simp
   ·exact a8 (qf [(1000,29)])
  ·obtain rfl:T=l.map xQ:=by rw [hT,List.take_of_length_le (by omega)]
   repeat' (first|refine af ?_ ?_|refine ae ?_|exact ah|refine ab fun hb=>?_|(refine fe (qf []) ?_;exact aj))
def Ko (w:World) (n:Nat) (p:Nat→Bool) (e:Ending) (w':World):Prop :=
 ∃k:Nat,e = .returned (.int .i64 (k:Int))∧k≤n∧(∀t,t<k→p t=false)∧(∀t,k≤t→t<n→p t=true)∧Below w.heap.size w w'
theorem zi (g:FuncId) (cb:Array Value) (n:Nat) (p:Nat→Bool) (w:World) (eg:∀args w,(callFunc g args).run prog w = .ok (.enter g args) w) (hn:n<4611686018427387904)
  (hf:∀(i:Nat) W,i<n→Below w.heap.size w W→Calls prog g (#[.int .i64 (i:Int)]++cb) W (o9 W (.bool (p i)))) (hmono:∀a b,a≤b→b<n→p a=true→p b=true) :
  Calls prog 309 #[.int .i64 (n:Int),.func (.func g) #[] cb] w (Ko w n p):=by
 have HF:=Lib.hid hf;have HM:=Lib.hid hmono;clear hf hmono
 go_enter func309,ntmps309
 go_wp2_with fail
 go_loopg [5,6] n (fun m v5 v6 wq=>∃lo hi:Nat,v5 = .int .i64 (lo:Int)∧v6 = .int .i64 (hi:Int)∧lo≤hi∧hi≤n∧hi≤lo+m∧Hid ((∀t,t<lo→p t=false)∧(∀t,hi≤t→t<n→p t=true))∧Below w.heap.size w wq)
 case atStart=>exact ⟨0,n,rfl,rfl,Nat.zero_le _,Nat.le_refl _,by omega,Lib.hid ⟨fun _ h=>absurd h (by omega),fun _ h1 h2=>absurd h1 (by omega)⟩,Below.refl _ _⟩
 case round =>
  obtain ⟨lo,hi,rfl,rfl,hlh,hin,hg,hI,hbw⟩:=hrel;by_cases hlt:lo<hi
  ·have hc:=HF.out ((lo+hi) / 2) wr (by omega) hbw;rw [show (((lo+hi) / 2:Nat):Int)=((lo:Int)+(hi:Int)) / 2 by omega] at hc;obtain ⟨q,hq⟩:∃q,p ((lo+hi) / 2)=q:=⟨_,rfl⟩;have HQ:=Lib.hid hq;rw [hq] at hc;have HC:=Lib.hid hc;clear hq hc;cases q with
   | false =>
    go_wp2_with fail
    refine HC.out.mono ?_;rintro e w2 ⟨rfl,hb2⟩;go_wp2_with fail
    go_roundg (hi-((lo+hi) / 2+1))
    case measure=>omega
    case rel =>
     refine ⟨(lo+hi) / 2+1,hi,by go_num,rfl,by omega,hin,by omega,Lib.hid ⟨fun t ht=>?_,hI.out.2⟩,hbw.trans (hb2.mono hbw.size)⟩;cases hpt:p t with
     | false=>rfl
     | true =>
      have:=HM.out t ((lo+hi) / 2) (by omega) (by omega) hpt;rw [HQ.out] at this;cases this
   | true =>
    go_wp2_with fail
    refine HC.out.mono ?_;rintro e w2 ⟨rfl,hb2⟩;go_wp2_with fail
    go_roundg ((lo+hi) / 2-lo)
    case measure=>omega
    case rel =>
     exact ⟨lo,(lo+hi) / 2,rfl,by go_num,by omega,by omega,by omega,Lib.hid ⟨hI.out.1,fun t h1 h2=>HM.out ((lo+hi) / 2) t h1 h2 HQ.out⟩,hbw.trans (hb2.mono hbw.size)⟩
  ·obtain rfl:hi=lo:=by omega
   go_wp2
   go_ret
   exact ⟨hi,rfl,hin,hI.out.1,hI.out.2,hbw⟩
def GL (l:Ct) (n:Bs):Nat:=l.countP fun r=>decide (r.key<n)
theorem zk (A:Option Addr) (B cap:Nat) (l:Ct) (n:ByteArray) (w:World) (hr:RowsAt eT w (Lo B) A l) (g1 g2:Nat)
  (h1:w.cell? ⟨g1,0,none⟩=some (.slice A l.length cap)) (h2:w.cell? ⟨g2,0,none⟩=some (.string n)) (k:Nat) (hlt:k<l.length) :
  Calls prog 310 #[.int .i64 (k:Int),.pointer (some ⟨g1,0,none⟩),.pointer (some ⟨g2,0,none⟩)] w (o9 w (.bool (!Op.bytesLess l[k].key n.toList))):=by
 obtain ⟨⟨nm,kd,u,h⟩,hx⟩:∃x,l[k]=x:=⟨_,rfl⟩;obtain ⟨b,off,rfl,hbl,hc0,hc1,hc2,hc3⟩:=ub hr hlt hx;rw [hx];unfold Rs.key;clear hx;have hlti:(k:Int)<(l.length:Int):=by omega
 go_enter func310,ntmps310
 go_wp2
 go_quiet (fail)
 go_wp2
 go_ret
 exact ⟨rfl,b9 (Below.refl _ _) _⟩
def Hq (w:World) (l:Ct) (n:Bs) (e:Ending) (w':World):Prop :=
 ∃(k:Nat) (b:Bool),e = .returned (.tuple #[.int .i64 (k:Int),.bool b])∧k≤l.length∧(∀t (h:t<l.length),t<k→l[t].key<n)∧(∀t (h:t<l.length),k≤t→¬l[t].key<n)∧(b=true↔∃h:k<l.length,l[k].key=n)∧Below w.heap.size w w'
theorem B0 (A:Option Addr) (B cap:Nat) (l:Ct) (n:ByteArray) (w:World) (hs:Sorted l) (hm:l.length≤1000) (hB:B≤w.heap.size) (hr:RowsAt eT w (Lo B) A l) :
  Calls prog 257 #[.slice A l.length cap,.string n] w (Hq w l n.toList):=by
 obtain ⟨p,hp⟩:∃p:Nat→Bool,p=fun i=>if h:i<l.length then !Op.bytesLess l[i].key n.toList else true:=⟨_,rfl⟩
 have HS:=Lib.hid hs;have HSr:∀(i:Nat) W,i<l.length→Below (w.heap.size+2) ((w.alloc (.cells #[.slice A l.length cap] 22)).alloc (.cells #[.string n] 9)) W→
   Calls prog 310 (#[.int .i64 (i:Int)] ++ #[.pointer (some ⟨w.heap.size,0,none⟩),.pointer (some ⟨w.heap.size+1,0,none⟩)]) W (o9 W (.bool (p i))):=by
  intro i W hi hW;have hb:=((Below.refl w.heap.size w).alloc (Nat.le_refl _) (.cells #[.slice A l.length cap] 22)).alloc (by simp) (.cells #[.string n] 9);have h:=zk A B cap l n W (hr.below (B'':=B) (hb.trans (hW.mono (by omega))) hB (Nat.le_refl _)) w.heap.size (w.heap.size+1) ?_ ?_ i hi
  ·rw [hp];simp only [dif_pos hi];exact h
  ·rw [hW.cell (p:=⟨w.heap.size,0,none⟩) (by show w.heap.size<_;omega),World.cell?_alloc_lt _ _ _ (by simp)];exact iS w _ _ 0
  ·rw [hW.cell (p:=⟨w.heap.size+1,0,none⟩) (by show w.heap.size+1<_;omega)];simp
 have hmono:∀a b,a≤b→b<l.length→p a=true→p b=true:=by
  intro a b hab hb;rw [hp];simp only [dif_pos hb,dif_pos (show a<l.length by omega),bytesLess_eq];simp only [Bool.not_eq_true',decide_eq_false_iff_not];intro h1 h2;rcases Nat.eq_or_lt_of_le hab with rfl|hlt
  ·exact h1 h2
  ·exact h1 (List.lt_trans (hs.lt b a hb hlt) h2)
 have HM:=Lib.hid hmono;have HSR:=Lib.hid HSr;have HP:=Lib.hid hp;have HR:=Lib.hid hr;clear hs HSr hmono hp hr;have hmf:∀(fn:Fn) (first cap:Array Value) (w:World),(Instr.makeFunc fn first cap).run prog w = .ok (.func fn first cap) w:=fun _ _ _ _=>rfl
 go_enter func257,ntmps257
 go_wp2_with fail
 refine (zi 310 _ l.length p _ (fun _ _=>by kernel_rfl) (by omega) (fun i W hi hW=>HSR.out i W hi (by simpa using hW)) HM.out).mono ?_;rintro e w2 ⟨k,rfl,hk,hlo,hhi,hb2⟩;have hb2':Below (w.heap.size+2) ((w.alloc (.cells #[.slice A l.length cap] 22)).alloc (.cells #[.string n] 9)) w2:=by simpa using hb2
 have hbel:Below w.heap.size w w2:=(((Below.refl w.heap.size w).alloc (Nat.le_refl _) _).alloc (by simp) _).trans (hb2'.mono (by omega));have hz0:w2.cell? ⟨w.heap.size,0,none⟩=some (.slice A l.length cap):=by
  rw [hb2'.cell (p:=⟨w.heap.size,0,none⟩) (by show w.heap.size<_;omega),World.cell?_alloc_lt _ _ _ (by simp)];exact iS w _ _ 0
 have hz1:w2.cell? ⟨w.heap.size+1,0,none⟩=some (.string n):=by
  rw [hb2'.cell (p:=⟨w.heap.size+1,0,none⟩) (by show w.heap.size+1<_;omega)];simp
 have hr2:=HR.out.below (B'':=w2.heap.size) hbel hB (Nat.le_trans hB hbel.size);have h1:∀t (h:t<l.length),t<k→l[t].key<n.toList:=by
  intro t ht hlt;have:=hlo t hlt;rw [HP.out] at this;simpa [dif_pos ht,bytesLess_eq] using this
 have h2:∀t (h:t<l.length),k≤t→¬l[t].key<n.toList:=by
  intro t ht hle;have:=hhi t hle ht;rw [HP.out] at this;simpa [dif_pos ht,bytesLess_eq] using this
 have H1:=Lib.hid h1;have H2:=Lib.hid h2;have HBel:=Lib.hid hbel;clear h1 h2 hlo hhi hb2 hb2' hbel;by_cases hlt:k<l.length
 ·obtain ⟨⟨nm,kd,u,h⟩,hx⟩:∃x,l[k]=x:=⟨_,rfl⟩;obtain ⟨b,off,rfl,hbl,hc0,hc1,hc2,hc3⟩:=ub hr2 hlt hx;have HX:=Lib.hid hx;clear hx hr2;have hlti:(k:Int)<(l.length:Int):=by omega
  go_wp2
  go_quiet (fail)
  go_wp2
  go_ret2
  refine ⟨k,_,rfl,hk,H1.out,H2.out,?_,b9 HBel.out _⟩;constructor
  ·intro h;exact ⟨hlt,by rw [HX.out];exact beq_iff_eq.1 h⟩
  ·rintro ⟨_,h⟩;rw [HX.out] at h;exact beq_iff_eq.2 h
 ·have hd:decide (k<l.length)=false:=decide_eq_false hlt;have hd2:decide ((k:Int)<(l.length:Int))=false:=decide_eq_false (by omega);go_wp2
  go_quiet (fail)
  go_wp2
  go_ret2
  exact ⟨k,false,rfl,hk,H1.out,H2.out,by simp [hlt],b9 HBel.out _⟩
theorem vJ (A:Option Addr) (B cap:Nat) (l:Ct) (n:ByteArray) (w:World) (hs:Sorted l) (hm:l.length≤1000) (hB:B≤w.heap.size) (hr:RowsAt eT w (Lo B) A l) :
  Calls prog 257 #[.slice A l.length cap,.string n] w (Hq w l n.toList):=B0 A B cap l n w hs hm hB hr
theorem EM {l:Ct} {n:Bs} {k:Nat} (hk:k≤l.length) (h1:∀t (h:t<l.length),t<k→l[t].key<n) (h2:∀t (h:t<l.length),k≤t→¬l[t].key<n):GL l n=k:=by
 have e:=List.countP_append (p:=fun r:Rs=>decide (r.key<n)) (l₁:=l.take k) (l₂:=l.drop k);rw [List.take_append_drop] at e;unfold GL;rw [e];have e1:(l.take k).countP (fun r:Rs=>decide (r.key<n))=(l.take k).length:=List.countP_eq_length.2 fun a ha=>by
  obtain ⟨i,hi,rfl⟩:=List.mem_iff_getElem.1 ha;rw [List.length_take] at hi;rw [List.getElem_take];exact decide_eq_true (h1 i (by omega) (by omega))
 have e2:(l.drop k).countP (fun r:Rs=>decide (r.key<n))=0:=List.countP_eq_zero.2 fun a ha=>by
  obtain ⟨i,hi,rfl⟩:=List.mem_iff_getElem.1 ha;rw [List.length_drop] at hi;rw [List.getElem_drop];simpa using h2 (k+i) (by omega) (by omega)
 rw [e1,e2,List.length_take];omega
theorem Ax (l:List Rs) (n:ByteArray) (hs:Sorted l) (hm:l.length≤8) {k:Nat} {b:Bool} (hk:GL l n.toList=k) (hb:b=true↔∃h:k<l.length,l[k].key=n.toList):FSpec prog 257 [.one (.sl eT l),.one (.sc (.string n))] [] [] (.tup [iV k,.one (.sc (.bool b))]) [] :=
 cz (fun b W=>by kernel_rfl) rfl fun w S ρ vs hS h=>by
  match vs,h with
  | [_,_],⟨⟨A,c,rfl,hc,hr⟩,rfl,_⟩ =>
   refine (vJ A w.heap.size c l n w hs (by omega) (Nat.le_refl _) (hr.lo hS)).mono fun e w' h=>?_;obtain ⟨k',b',rfl,q1,q2,q3,q4,q5⟩:=h;obtain rfl:k=k':=by rw [←hk];exact EM q1 q2 q3
   obtain rfl:b=b':=by
    cases b with
    | true=>exact (q4.2 (hb.1 rfl)).symm
    | false =>
     cases b' with
     | false=>rfl
     | true=>exact absurd (hb.2 (q4.1 rfl)) (by simp)
   exact ⟨_,rfl,q5,_,rfl,rfl,rfl,trivial⟩
theorem zl {t:List Qu} (hV:du t=true):∀a b (ha:a<(b8 t).length) (hb:b<(b8 t).length),a<b→(b8 t)[a].key<(b8 t)[b].key:=fun a b ha hb hab=>by
 have hp:=(lj (bf hV).2.1).1;have h2:=(List.pairwise_iff_getElem.1 hp) a b (by simpa [fk,b8] using ha) (by simpa [fk,b8] using hb) hab;unfold jo at h2;rw [bytesLess_eq,decide_eq_true_eq] at h2;simpa [fk,b8,Rs.key] using h2
theorem zm {t:List Qu} (hV:du t=true):Sorted (b8 t):=fun i h=>zl hV i (i+1) (by omega) h (by omega)
def B1 (t:List Qu) (a:Tm):Int:=bif !aW t a.name then 10 else bif !aF (be t a.name).res a.am then 12 else 0
theorem zn (t:List Qu) (a:Tm) (l:List Tm):fc t (a :: l)=bif decide (B1 t a=0) then fc t l else B1 t a:=by
 unfold B1;show (bif !aW t a.name then 10 else bif !aF (be t a.name).res a.am then 12 else fc t l)=_;cases aW t a.name <;> cases aF (be t a.name).res a.am <;> rfl
theorem Kq (t:List Qu) (a:Tm) (hV:du t=true) {R:Int} (hR:B1 t a=R):FSpec prog 192 [.one (.sl eT (b8 t)),a.a] [] [] (.i R) []:=by
 refine aP func192 ?_;have h8:=(bf hV).1;have hcl:(b8 t).length=t.length:=by simp [b8]
 have kV:=Hp (b8 t);rw [Aw.2 (DP hV)] at kV;have hS:=zm hV;unfold B1 at hR;cases hh:aW t a.name with
 | false =>
  rw [hh] at hR;obtain rfl:10=R:=hR;have hno:¬∃h:GL (b8 t) a.name.toList<(b8 t).length,(b8 t)[GL (b8 t) a.name.toList].key=a.name.toList:=by
   rintro ⟨h1,h2⟩;have h3:(t[GL (b8 t) a.name.toList]'(by omega)).res.name=a.name:=by
    apply toList_inj
    simpa [b8,Rs.key] using h2
   have h4:=(lZ hV (List.getElem_mem (show GL (b8 t) a.name.toList<t.length by omega))).1;rw [h3,hh] at h4;cases h4
  have kP:=Ax (b8 t) a.name hS (by omega) (k:=GL (b8 t) a.name.toList) (b:=false) rfl ⟨fun h=>(by cases h),fun h=>absurd h hno⟩;repeat' (first|refine af ?_ ?_|(refine aa 9 rfl ?_;first|(refine cB [] (kV) ?_)|(refine cC [] (kP) ?_))|refine ae ?_|exact ah|refine ab fun hb=>?_|exact aX|fail)
 | true =>
  obtain ⟨j,hj,hF,hq⟩:=lz hh;obtain ⟨i,hi,h1,h2⟩:=jC (t:=t) (n:=a.name) (k:=0) (by omega);have hij:i=j:=by omega
  subst hij;have aA:(b8 t)[i]'(by omega)=t[i].res:=by simp [b8]
  have hplc:GL (b8 t) a.name.toList=i:=by
   have hk0:((b8 t)[i]'(by omega)).key=a.name.toList:=by rw [aA];exact congrArg ByteArray.toList h2
   refine EM (by omega) (fun u hu hlt=>?_) (fun u hu hge=>?_)
   ·rw [←hk0];exact zl hV u i hu (by omega) hlt
   ·rw [←hk0];rcases Nat.eq_or_lt_of_le hge with e|e
    ·subst e;exact List.lt_irrefl _
    ·exact fun h=>List.lt_irrefl _ (List.lt_trans h (zl hV i u (by omega) hu e))
  have kP:=Ax (b8 t) a.name hS (by omega) (b:=true) hplc ⟨fun _=>⟨by omega,by rw [aA];exact congrArg ByteArray.toList h2⟩,fun _=>rfl⟩;have hgi:(b8 t)[i]? = some t[i].res:=by rw [List.getElem?_eq_getElem (by omega),aA]
  have kF:=eo t[i].res a.am;obtain ⟨f,hf⟩:∃f,aF t[i].res a.am=f:=⟨_,rfl⟩;rw [hh,hq,hf] at hR;rw [hf] at kF;cases f with
  | false =>
   obtain rfl:12=R:=hR;repeat' (first|refine af ?_ ?_|(refine aa 9 rfl ?_;first|(refine cB [] (kV) ?_)|(refine cC [] (kP) ?_)|(refine cB [] (kF) ?_))|refine ae ?_|exact ah|refine ab fun hb=>?_|exact aX|fail)
  | true =>
   obtain rfl:0=R:=hR;repeat' (first|refine af ?_ ?_|(refine aa 9 rfl ?_;first|(refine cB [] (kV) ?_)|(refine cC [] (kP) ?_)|(refine cB [] (kF) ?_))|refine ae ?_|exact ah|refine ab fun hb=>?_|exact aX|fail)
theorem Hr (t:List Qu) (hl:t.length≤100000):FSpec prog 118 [.one (.sl dC t)] [] [] (.c (.sl eT (b8 t))) []:=by
 refine aP func118 ?_;repeat' (first|refine af ?_ ?_|refine ae ?_|exact ah|refine ab fun hb=>?_)
 refine bV 3 1000 55 eT rfl rfl rfl ?_;refine ai (fun i=>i≤t.length) (fun i=>bt [1000] [(3,.c (.own 1000)),(6,.c (.sl dC t)),(7,.i t.length),(8,.i i)] [(1000,.arr 55 eT (b8 (t.take i)))]) (fun i=>t.length-i) 0 (Nat.zero_le _) aN ?_;intro i hi;have hlen:(b8 (t.take i)).length=i:=by simp [b8,Nat.min_eq_left hi]
 by_cases hlt:i<t.length
 ·repeat' (first
   | refine af ?_ ?_
   | (refine aa 8 rfl ?_;refine aV (ak rfl rfl (aB rfl rfl) (aD [(t[i]'(by omega)).res] rfl rfl rfl rfl) rfl aL aL) rfl rfl rfl ?_)
   | refine ae ?_
   | exact ah|refine ab fun hb=>?_)
  refine ⟨i+1,by omega,by omega,?_⟩;have e:b8 (t.take (i+1))=b8 (t.take i)++[(t[i]'(by omega)).res]:=by
   unfold b8;rw [List.take_succ_eq_append_getElem (by omega),List.map_append];rfl
  rw [e];exact a8 (qf [(1000,16)])
 ·have e:b8 (t.take i)=b8 t:=by rw [List.take_of_length_le (by omega)]
  rw [e];repeat' (first|refine af ?_ ?_|refine ae ?_|exact ah|refine ab fun hb=>?_|exact aX|fail)
theorem xZ (d:Nat) (t:List Qu) (x:Ex) (hV:du t=true) {R:Int} (hR:gw t x=R):FSpec prog 117 [.one (.sl eT (b8 t)),x.a d] [] [] (.i R) []:=by
 refine aP func117 ?_;unfold gw at hR;obtain ⟨L,hL⟩:∃L,cy x=L:=⟨_,rfl⟩;have kA:=jR d x hL;cases hv:kv x with
 | false =>
  rw [hv] at hR;obtain rfl:1=R:=hR;obtain rfl:L=[]:=by rw [←hL];exact ov hv
  repeat' (first|refine af ?_ ?_|refine aa 9 rfl (cC [] (kA) ?_)|refine ae ?_|exact ah|(refine ab fun hb=>?_;first|(exact absurd rfl hb)|skip)|exact aX|fail)
 | true =>
  obtain ⟨_,_,h8,h0,_⟩:=mI hv;rw [hL] at h8 h0;rw [hv,hL] at hR;have hR:fc t L=R:=hR;repeat' (first|refine af ?_ ?_|refine aa 9 rfl (cC [] (kA) ?_)|refine ae ?_|exact ah|(refine ab fun hb=>?_;first|(exfalso;omega)|skip))
  refine ai (fun i=>i≤L.length∧fc t (L.drop i)=R) (fun i=>bt [3] [(0,.c (.sl eT (b8 t))),(3,.c (.ptr 3 0)),(14,.c (.sl cw L)),(15,.i L.length),(16,.i i)] [(3,.box 42 (x.d d))]) (fun i=>L.length-i) 0 ⟨Nat.zero_le _,hR⟩ aN ?_;rintro i ⟨hi,hs⟩;by_cases hlt:i<L.length
  ·obtain ⟨a,ha⟩:∃a,L[i]=a:=⟨_,rfl⟩;have hga:L[i]? = some a:=by rw [List.getElem?_eq_getElem hlt,ha]
   rw [List.drop_eq_getElem_cons hlt,ha,zn] at hs;obtain ⟨r,hr⟩:∃r,B1 t a=r:=⟨_,rfl⟩;have kR:=Kq t a hV hr;rw [hr] at hs;by_cases h00:r=0
   ·subst h00;repeat' (first|refine af ?_ ?_|refine aa 9 rfl (cB [] (kR) ?_)|refine ae ?_|exact ah|(refine ab fun hb=>?_;first|(exact absurd rfl hb)|skip))
    refine ⟨i+1,⟨by omega,hs⟩,by omega,?_⟩;exact aN
   ·rw [decide_eq_false h00] at hs;obtain rfl:r=R:=hs;repeat' (first|refine af ?_ ?_|refine aa 9 rfl (cB [] (kR) ?_)|refine ae ?_|exact ah|(refine ab fun hb=>?_;first|(exact absurd hb h00)|skip)|exact aX|fail)
  ·rw [List.drop_eq_nil_of_le (by omega)] at hs;obtain rfl:0=R:=hs;repeat' (first|refine af ?_ ?_|refine ae ?_|exact ah|refine ab fun hb=>?_|exact aX|fail)
end Go.Proofs.YtjndcdcbjidocaaGreatDoor
