/- Part K28 of a proof of statements of chapter 15 (no condition). -/
import Derived.Test.YthpgjkjgkhjjlaaGreatDoorK25
import Derived.Test.YthpgjkjgkhjjlaaGreatDoorK26
import Derived.Test.YthpgjkjgkhjjlaaGreatDoorK27
set_option linter.unusedVariables false
set_option linter.unusedSimpArgs false
set_option maxRecDepth 100000
set_option maxHeartbeats 64000000
namespace Go.Proofs.YthpgjkjgkhjjlaaGreatDoor
open Go.RowKit Go.Proofs.Tryz
theorem mb (t:List Qu) (p:Pr) (a:Tm) (prio:Int):(bt t p a prio).2.1.length<=18:=by
 unfold bt;cases hV:di t with
 | false=>simp [dE]
 | true =>
  by_cases hf:bG a.name 0 t<0
  ·simp [hf,dE]
  ·obtain ⟨i,hi,hF,hq,hx⟩:=eC hf;have:=oZ (cP hV (List.getElem_mem hi)) p a.am prio;rw [hq];generalize (decide ((aO t).length=8) && !decide (p∈aO t))=b;cases b <;> cases decide ((bL t[i] p a.am prio).2.2=0) <;> simp [hf,dE,iL] <;> omega
def OT (p:Pr) (prio:Int):List Tm->Wk->Prop
 | [],_=>True
 | a :: l,w=>w.ev.length<=900000/\OT p prio l (w.take (bt w.c.queues p a prio).1 (bt w.c.queues p a prio).2.1)
def SH (w:Wk) (i:Nat) (r:Rq):Prop:=i<w.c.procs.length/\di w.c.queues=true/\w.c.queues.length<=100000/\((w.pc i).waiting=false->m6 r=true->fW w.c.queues r.expr=0->OT (w.pc i).proc r.prio (bJ r.expr) (KC w i r)/\StOk (zY w i r).c.procs.length (zY w i r))
theorem yV (w:Wk) (i:Nat) (r:Rq):bX w i r=bif (w.pc i).waiting then (w,14) else bif !m6 r then (w,1) else bif !decide (fW w.c.queues r.expr=0) then (w,fW w.c.queues r.expr) else (aK (zY w i r).c.procs.length (zY w i r),0):=rfl
theorem Mx (d:Nat) (w:Wk) (i:Nat) (r:Rq) (hok:SH w i r) {Z:Wk×Int} (hZ:bX w i r=Z):FSpec prog 91 [go,lw i,r.a d] (HI d w) [3,4] (.i Z.2) (HO d Z.1):=by
 refine a7 func91 ?_;obtain ⟨hi,hV,hq8,hst⟩:=hok;obtain ⟨x,hx⟩:∃x,w.c.procs[i]? = some x:=⟨_,qGg hi⟩;have hpc:=eI hx;rw [yV] at hZ;unfold zY at hZ hst;unfold KC at hZ hst;rw [hpc] at hZ hst;have kV:=Ey d r;cases hw:x.waiting with
 | true =>
  obtain rfl:Z=(w,14):=by rw [<-hZ,hw];rfl
  refine ao ?_
  (refine cc (qf [(3,1),(4,2)]) ?_;exact af)
 | false =>
  rw [hw,qCf] at hZ;cases hr:m6 r with
  | false =>
   obtain rfl:Z=(w,1):=by rw [<-hZ,hr];rfl
   rw [hr] at kV;refine ao ?_
   (refine cc (qf [(3,1),(4,2)]) ?_;exact af)
  | true =>
   rw [hr,Bool.not_true,qCf] at hZ;rw [hr] at kV;have kC:=EA w.c.queues hq8;have kR:=SG d w.c.queues r.expr hV;obtain ⟨e,he⟩:=qGe (fW w.c.queues r.expr);rw [he] at hZ hst kR;by_cases h0:e=0
   case neg =>
    obtain rfl:Z=(w,e):=by rw [<-hZ,qDf h0];rfl
    refine ao ?_
    (refine cc (qf [(3,1),(4,2)]) ?_;exact af)
   obtain ⟨hcl,hs⟩:=hst hw hr h0;rw [qDt h0,Bool.not_true,qCf] at hZ;obtain ⟨A,hA⟩:∃A,w.setP i { x with waiting:=true,req:=r,since:=w.c.now } = A:=⟨_,rfl⟩;rw [hA] at hZ hcl hs;have hAi:i<A.c.procs.length:=by rw [<-hA,iP];exact hi
   obtain ⟨z,hz,hzp⟩:∃z,(aZ A i).c.procs[i]? = some z/\z.proc=x.proc:=by
    refine ⟨{ A.pc i with gen:=bc (A.pc i).gen },?_,?_⟩
    ·show (List.set _ _ _)[i]? = _;rw [List.getElem?_set_self hAi]
    ·show (A.pc i).proc=x.proc;rw [<-hA];unfold Wk.pc Wk.setP;rw [List.getD_eq_getElem?_getD,List.getElem?_set_self hi];rfl
   have h8:=cD r.expr;obtain ⟨L,hL⟩:=qGe (bJ r.expr);rw [hL] at hZ hcl hs h8;have hs1:=gz hi { x with waiting:=true };have hl1:(w.c.procs.set i { x with waiting:=true }).length=w.c.procs.length:=List.length_set;have hs2:=gz (hl1▸hi) { x with waiting:=true,req:=r };have hl2:((w.c.procs.set i { x with waiting:=true }).set i { x with waiting:=true,req:=r }).length=w.c.procs.length:=by rw [List.length_set,hl1]
   have eA:A=⟨{ w.c with procs:=((w.c.procs.set i { x with waiting:=true }).set i { x with waiting:=true,req:=r }).set i { x with waiting:=true,req:=r,since:=w.c.now } },w.ev⟩:=by
    rw [<-hA];unfold Wk.setP;rw [List.set_set,List.set_set]
   have kX:=o9 d A i hAi;obtain ⟨B,hB⟩:=qGe (aZ A i);rw [hB] at hZ hcl hs hz kX;rw [eA] at kX;obtain ⟨W,hW⟩:=qGe (cO x.proc r.prio L B);rw [hW] at hZ hs;have kS:=oh d W _ hs;obtain ⟨F,hF⟩:=qGe (aK W.c.procs.length W);rw [hF] at hZ kS;obtain rfl:Z=(F,0):=hZ.symm;rw [<-hzp] at hcl hW;obtain ⟨Q,hQ⟩:=qGe z.proc;rw [hQ] at hcl hW;repeat' (first|refine av ?_ ?_|(refine aa 9 rfl ?_;first|(refine cB [] kV ?_)|(refine cC [] kC ?_)|(refine cB [] kR ?_)|(refine cH (qf [(1,1),(2,2),(3,1003),(4,1004)]) kX ?_)|(refine cC [] (lg d r.expr hL) ?_))|refine aq ?_|(refine aa 4 rfl ?_;first|(refine a8 (ak (z:={ x with waiting:=true }) rfl rfl rfl rfl hx rfl rfl rfl rfl (qNl rfl) rfl rfl) rfl rfl rfl ?_)|(refine a8 (ak (z:={ x with waiting:=true,req:=r }) rfl rfl rfl rfl hs1 rfl rfl rfl rfl (qNl rfl) rfl rfl) rfl rfl rfl ?_)|(refine a8 (ak (z:={ x with waiting:=true,req:=r,since:=w.c.now }) rfl rfl rfl rfl hs2 rfl rfl rfl rfl (qNl rfl) rfl rfl) rfl rfl rfl ?_))|exact aw|(refine ap fun hb=>?_;first|(cases hw.symm.trans hb;done)|(exact absurd h0 hb)|skip))
   refine ab (fun y:Nat×Wk=>y.1<=L.length/\y.2.c.procs=B.c.procs/\OT Q r.prio (L.drop y.1) y.2/\cO Q r.prio (L.drop y.1) y.2=W) (fun y=>bP [0,1,2,5,1010,1011] [(0,.v go),(1,.v (lw i)),(5,.c (.ptr 5 0)),(8,.c (.sl c6 L)),(9,.i y.1)] [(0,.box 113 (KB y.2 1010 1011)),(5,.box 49 (r.d d)),(1010,.arr 82 (fR d) y.2.c.procs),(1011,.arr 68 fX y.2.ev)]) (fun y=>L.length-y.1) (0,B) ⟨Nat.zero_le _,rfl,hcl,hW⟩ (by exact bo (qf [(1010,1003),(1011,1004)])) ?_;rintro ⟨k,v⟩ ⟨hk,hp,hv,hg⟩;dsimp only at *
   by_cases hlt:k<L.length
   case neg =>
    obtain rfl:v=W:=by rw [<-hg,qDn (by omega)];rfl
    repeat' (first|refine av ?_ ?_|refine aa 9 rfl (cH (qf [(1,1010),(2,1011),(3,1020),(4,1021)]) kS ?_)|refine aq ?_|exact aw|refine ap fun hb=>?_|(refine cc (qf [(3,1020),(4,1021)]) ?_;exact af))
   rw [qDc hlt] at hv hg;obtain ⟨a,ha⟩:=qGe (L[k]);have hga:L[k]? = some a:=by rw [qGg hlt,ha]
   rw [ha] at hv hg;obtain ⟨v1,v2⟩:=hv;have hg:cO Q r.prio (L.drop (k+1)) (v.take (bt v.c.queues Q a r.prio).1 (bt v.c.queues Q a r.prio).2.1)=W:=hg;obtain ⟨R,hR⟩:=qGe (bt v.c.queues Q a r.prio);have hll:=mb v.c.queues Q a r.prio;rw [hR] at hll v2 hg;have hzv:v.c.procs[i]? = some z:=by rw [hp];exact hz
   have hiv:=(List.getElem?_eq_some_iff.1 hzv).1;have kT:=OB v.c.queues Q a r.prio hR;rw [<-hQ] at kT;repeat' (first|refine av ?_ ?_|(refine aa 9 rfl ?_;first|(refine cC [] kT ?_)|(refine cH (qf [(1,1010),(2,1011),(3,1020),(4,1021)]) (vn d v R.1 R.2.1 (by omega)) ?_))|refine aq ?_|exact aw|refine ap fun hb=>?_)
   refine ⟨(k+1,v.take R.1 R.2.1),⟨by dsimp only;omega,hp,v2,hg⟩,by dsimp only;omega,?_⟩;exact bo (qf [(1010,1020),(1011,1021)])
instance (d:Nat):ST prog (fR d) 30 82 184:=⟨ElTB.mk' underlying30 (.agg #[.int .i64 0,.int .i64 0,.int .i64 0,.int .i64 0,.slice none 0 0,.slice none 0 0,.bool false,.int .i64 0,.string ⟨#[]⟩,.int .i64 0,.int .i64 0,.slice none 0 0,.int .i64 0,.int .i64 0,.int .i64 0,.int .i64 0]) 16 184 (by kernel_rfl) rfl rfl⟩
def SI (w:Wk) (i:Nat):Prop:=i<w.c.procs.length/\w.c.procs.length<=100000/\w.ev.length<=900000/\(bS w.c.queues (w.pc i).proc).2.length<=1000/\StOk (J0 w i).c.procs.length (J0 w i)
theorem OU (w:Wk) (i:Nat):gT w i=aK (J0 w i).c.procs.length (J0 w i):=rfl
theorem SJ (d:Nat) (w:Wk) (i:Nat) (hok:SI w i):FSpec prog 98 [go,lw i] (HI d w) [3,4] (.tup []) (HO d (gT w i)):=by
 refine a7 func98 ?_;obtain ⟨hi,hp8,hev,hrl,hs⟩:=hok;obtain ⟨x,hx⟩:∃x,w.c.procs[i]? = some x:=⟨_,qGg hi⟩;have hpc:=eI hx;rw [OU];unfold J0 at hs ⊢;rw [hpc] at hs hrl ⊢;obtain ⟨R,hR⟩:=qGe (bS w.c.queues x.proc);rw [hR] at hs hrl ⊢;have kR:=Mg w.c.queues x.proc hR;have hcut:w.c.procs.take i++w.c.procs.drop (i+1)=w.c.procs.eraseIdx i:=(List.eraseIdx_eq_take_drop_succ ..).symm;have kN:=Mi d ⟨{ w.c with queues:=R.1,procs:=w.c.procs.eraseIdx i },w.ev++R.2⟩ 5 x.proc (by simp;omega);have kS:=oh d _ _ hs;have hlq:(w.take R.1 R.2).c.procs.length=w.c.procs.length:=rfl;repeat' (first|refine av ?_ ?_|(refine aa 9 rfl ?_;first|(refine cC [] kR ?_)|(refine cH (qf [(3,1003),(4,1004)]) (vn d w R.1 R.2 (by omega)) ?_)|(refine cH (qf [(1,42),(2,1004),(3,1005),(4,1006)]) kN ?_)|(refine cH (qf [(1,1005),(2,1006),(3,1007),(4,1008)]) kS ?_))|refine aq ?_|exact aw|refine ap fun hb=>?_|(refine be (LC rfl rfl rfl rfl rfl rfl (by first|omega|(show _<=w.c.procs.length;omega)) (by first|omega|(show 0<w.c.procs.length;omega))) rfl rfl rfl ?_)|(refine be (LD (j:=i+1) rfl rfl rfl rfl rfl (by first|omega|(show _<=w.c.procs.length;omega)) (by first|omega|(show 0<w.c.procs.length;omega))) rfl rfl rfl ?_)|(refine be (Gg rfl rfl rfl rfl rfl rfl (by first|omega|(show _<=w.c.procs.length;omega)) (by first|omega|(show _<=w.c.procs.length;omega)) hcut (by simp only [maxLen];omega) (by omega)) rfl rfl rfl ?_)|(exact oW (qf [(3,1007),(4,1008)])))
theorem Q7 (g:Lg) (i j:Nat) (hi:i<=g.entries.length) (hj:j<=g.saves.length) (h1:g.entries.length<=100000) (h2:g.saves.length<=100000) {E':List En} {S':List Sv} (hE:g.entries.take i=E') (hS:g.saves.take j=S'):FSpec prog 215 [g.a,.one (.sc (.int .i64 i)),.one (.sc (.int .i64 j))] [] [1,2] (.v (.ag [.own 1,.own 2])) [(1,some (.arr 132 ke E')),(2,some (.arr 207 lS S'))]:=by
 refine a7 func215 ?_;have hEl:E'.length<=100000:=by rw [<-hE];simp;omega
 have hSl:S'.length<=100000:=by rw [<-hS];simp;omega
 have hE2:(g.entries.take i).drop 0=E':=hE;have hS2:(g.saves.take j).drop 0=S':=hS;repeat' (first|refine av ?_ ?_|(refine aa 14 rfl ?_;first|refine sx (yi rfl rfl rfl (.inr ⟨rfl,rfl⟩) rfl rfl (Nat.zero_le _) hi hE2) ?_|refine sx (yi rfl rfl rfl (.inr ⟨rfl,rfl⟩) rfl rfl (Nat.zero_le _) hj hS2) ?_)|refine aq ?_|exact aw|refine ap fun hb=>?_|(refine cc (qf [(1,12),(2,18)]) ?_;exact af))
theorem EZ {l:List En} {N:List ByteArray} (h:N.Perm ((fT l).map (·.1))):fJ N=cg l:=by
 have hnd:N.Nodup:=(h.nodup_iff).2 (jf l [] (by simp));have hp:=List.mergeSort_perm N fun x y=>!(ltOf lq) y x;have hs:(fJ N).Pairwise fun a b=>(!(ltOf lq) b a)=true:=List.pairwise_mergeSort (fun a b c h1 h2=>by
  simp only [Bool.not_eq_true'] at *
  exact jE.ntrans c b a h2 h1) (fun a b=>by
  cases h1:ltOf lq b a with
  | false=>rfl
  | true =>
   cases h2:ltOf lq a b with
   | false=>rfl
   | true=>have:=jE.trans _ _ _ h1 h2;rw [jE.irrefl] at this;cases this) N
 have hn2:(fJ N).Nodup:=(hp.nodup_iff).2 hnd;refine y5 ?_ (gx l) fun x=>?_
 ·refine (hs.and hn2).imp fun {a b} ⟨h1,h2⟩=>?_;rw [Bu,Bool.not_eq_true'] at h1;exact pO h1 (fun e=>h2 e.symm)
 ·show x∈N.mergeSort (fun x y=>!(ltOf lq) y x)↔_;rw [hp.mem_iff,h.mem_iff,dY];show x∈(fu [] l).map (·.1)↔_;rw [mh];simp
theorem SR (g:Lg) (n:Int) {R:Lg×List Tm×Int} (hR:cQ g n=R):FSpec prog 144 [g.a,.one (.sc (.int .i64 n))] [] [] (SB R) []:=by
 refine a7 func144 ?_;obtain ⟨v,hv⟩:=qGe (mx g.entries g.saves);have kV:=IA g.entries g.saves hv;have hV:rT g=v:=hv;cases v with
 | false =>
  obtain rfl:R=(.zero,[],2):=by rw [<-hR];simp [cQ,hV]
  refine ao ?_
  (refine dP (qf []) ?_;exact af)
 | true =>
  obtain ⟨h1,h2⟩:=eZ hV;have hat:=Cz hv;by_cases hf:n≠0/\bb n 0 g.saves<0
  case pos =>
   obtain ⟨hn0,hf⟩:=hf;obtain rfl:R=(.zero,[],10):=by rw [<-hR];simp [cQ,hV,hn0,hf]
   have kP:=sM g.saves n rfl;refine ao ?_
   (refine dP (qf []) ?_;exact af)
  obtain ⟨a,sv,hX,ha,hsv,hcase⟩:∃(a sv:Nat),cN g n=⟨g.entries.take a,g.saves.take sv⟩/\a<=g.entries.length/\sv<=g.saves.length/\((n=0/\a=0/\sv=0)\/(n≠0/\∃(i:Nat) (lab:Int),g.saves[i]? = some (⟨lab,(a:Int)⟩:Sv)/\bb n 0 g.saves=(i:Int)/\sv=i+1)):=by
   by_cases hn:n=0
   ·exact ⟨0,0,by simp [cN,hn],by omega,by omega,.inl ⟨hn,rfl,rfl⟩⟩
   ·obtain ⟨i,hi,he,_⟩:=jO (n:=n) (l:=g.saves) (k:=0) (by by_cases h:bb n 0 g.saves<0;exact absurd ⟨hn,h⟩ hf;omega);have he2:bb n 0 g.saves=(i:Int):=by rw [he];simp
    have:=hat _ (List.getElem_mem hi);have e9:((g.saves[i].at_.toNat:Nat):Int)=g.saves[i].at_:=Int.toNat_of_nonneg this.1;exact ⟨g.saves[i].at_.toNat,i+1,by simp [cN,hn,he2,hi,List.getD_eq_getElem?_getD],by omega,by omega,.inr ⟨hn,i,g.saves[i].label,by rw [e9];exact qGg hi,he2,rfl⟩⟩
  have hl1:(g.entries.take a).length=a:=by simp;omega
  obtain ⟨E',hE'⟩:∃E',g.entries.take a=E':=⟨_,rfl⟩;obtain ⟨S',hS'⟩:∃S',g.saves.take sv=S':=⟨_,rfl⟩;obtain ⟨D',hD'⟩:∃D',g.entries.drop a=D':=⟨_,rfl⟩;have hD2:g.entries.drop ((a:Int)).toNat=D':=by rw [Int.toNat_natCast];exact hD'
  obtain ⟨H,hH⟩:∃H:ByteArray->Am,aC E'=H:=⟨_,rfl⟩;obtain ⟨M,hM⟩:=qGe ((cg D').map (rU H));obtain rfl:R=(⟨E',S'⟩,M,0):=by
   rw [<-hR,<-hM];unfold cQ;rw [hX,hV,hl1,hE',hS',hD'];rcases hcase with ⟨rfl,_⟩|⟨h0,i,_,hi,he,_⟩
   ·simp [rU,<-hH]
   ·have hi0:¬((i:Int)<0):=by omega
    simp [h0,he,hi0,rU,<-hH]
  have kC:=Q7 g a sv ha hsv (by omega) (by omega) hE' hS';have k1:=Iz E';have k2:=Iz D';have hg:∀x,sK x (fT E')=H x:=fun x=>by rw [jq,hH]
  obtain ⟨m,hm⟩:=qGe (fT D');have hfin:∀seen:List Nat,seen.Nodup->(∀j∈seen,j<m.length)->(∀j,j<m.length->j∈seen)->(fJ (jT m seen)).map (rU H)=M:=fun seen q1 q2 q3=>by
   rw [<-hM,<-EZ (N:=jT m seen) (by rw [hm];exact EY q1 q2 q3)]
  have hm9:m.length<=100000:=by
   have q1:=qo D';have q2:=gG D' [];have q3:D'.length<=72:=by rw [<-hD'];simp;omega
   rw [hm] at q1;unfold cg at q1;simp at q2;omega
  rw [hm] at k2;generalize fT E'=m0 at *
  clear hR hf hX hV hv hat hl1 hM hm hH hE' hS' hD';rcases hcase with ⟨rfl,rfl,rfl⟩|⟨h0,i,lab,hi,he,rfl⟩
  case' inl =>
   repeat' (first|refine av ?_ ?_|(refine aa 9 rfl ?_;first|(refine cB [] kV ?_)|(refine cH (qf [(1,1001),(2,1002)]) kC ?_))|((fail_if_success (first|refine m8 10 ?_|refine m9 10 ?_));refine aq ?_)|exact aw|refine ap fun hb=>?_)
  case' inr =>
   have kP:=sM g.saves n he;have hi9:i<g.saves.length:=(List.getElem?_eq_some_iff.1 hi).1;repeat' (first|refine av ?_ ?_|(refine aa 9 rfl ?_;first|(refine cB [] kV ?_)|(refine cB [] kP ?_)|(refine cH (qf [(1,1001),(2,1002)]) kC ?_))|((fail_if_success (first|refine m8 10 ?_|refine m9 10 ?_));refine aq ?_)|exact aw|refine ap fun hb=>?_)
  all_goals
   refine gU 1001 rfl ?_;refine gU 1002 rfl ?_;repeat' (first|refine av ?_ ?_|(refine aa 9 rfl ?_;first|(refine cH (qf [(0,1003)]) k1 ?_)|(refine cH (qf [(0,1004)]) k2 ?_))|(refine aa 14 rfl ?_;first|refine sx (oV (z:=((0:Nat):Int)) rfl rfl rfl rfl (by omega) (by omega) hD2) ?_|refine sx (oV (z:=(a:Int)) rfl rfl rfl rfl (by omega) (by omega) hD2) ?_)|(refine aa 25 rfl ?_;refine sx (Bt y4 rfl rfl rfl rfl) ?_)|refine aq ?_|exact aw|refine ap fun hb=>?_)
   refine cj 12 1000 44 c6 rfl rfl rfl ?_;refine ab (fun seen:List Nat=>seen.Nodup/\∀j∈seen,j<m.length) (fun seen=>bP [4,10,47,1000,1003,1004] [(4,.c (.ptr 4 0)),(10,.c (.ptr 10 0)),(11,.c (.own 1003)),(12,.c (.own 1000)),(47,.c (.own 47))] [(4,.box 80 [.sc (.slice none 0 0),.sc (.slice none 0 0)]),(10,.box 80 [.sl ke E',.sl lS S']),(47,.it 1004 (CH m).length seen),(1000,.arr 44 c6 ((jT m seen).map (rU H))),(1003,.mp (CH m0)),(1004,.mp (CH m))]) (fun seen=>m.length-seen.length) [] ⟨by simp,by simp⟩ aT ?_;rintro seen ⟨hn,hs⟩;refine sj (IB (L:=CH m) (n:=(CH m).length) rfl rfl rfl rfl rfl rfl rfl rfl rfl rfl rfl rfl (fun j hj hjs=>?_) (fun hall=>?_))
   ·have hj:j<m.length:=by simpa [mt] using hj
    obtain ⟨x,hx⟩:∃x,m[j]? = some x:=⟨_,qGg hj⟩;have hx2:(CH m)[j]? = some (.string x.1,Q3 x.2):=by simp [mt,hx]
    have hT:=J9 (seen:=seen) hx;have hls:=lr hn hs;have hn2:(seen++[j]).Nodup:=List.nodup_append.2 ⟨hn,by simp,fun b hb c hc=>by rw [List.mem_singleton] at hc;subst hc;exact fun e=>hjs (e▸hb)⟩;have hs2:∀k∈seen++[j],k<m.length:=fun k hk=>by
     rcases List.mem_append.1 hk with hk|hk
     ·exact hs k hk
     ·rw [List.mem_singleton] at hk;subst hk;exact hj
    have hls2:=lr hn2 hs2;have hcl:((jT m seen).map (rU H)).length<=100000:=by
     unfold jT;have:=List.length_filterMap_le (fun j=>m[j]?) seen;simp;omega
    generalize hC:(jT m seen).map (rU H)=C at *
    show AW _ _ _ _ _ _;repeat' (first|refine av ?_ ?_|(refine aa 8 rfl ?_;refine be (ae rfl rfl (aH rfl rfl) (aN [rU H x.1] rfl rfl rfl rfl) rfl aQ aQ) rfl rfl rfl ?_)|(refine aa 23 rfl ?_;refine sx (ol _ _ y4 GF CL rfl rfl rfl rfl (hg x.1)) ?_)|(refine aa 27 rfl ?_;refine sx (sN (y:=x.2.a) rfl rfl rfl rfl rfl hx2 (fun _ _ _=>⟨_,rfl,rfl,rfl,trivial⟩) (fun _=>rfl)) ?_)|refine aq ?_|exact aw|refine ap fun hb=>?_)
    refine ⟨seen++[j],⟨hn2,hs2⟩,by simp at hls2 ⊢;omega,?_⟩;rw [hT,List.map_append,hC];exact bo (qf [(1000,59)])
   ·have hM:=hfin seen hn hs fun j hj=>hall j (by simpa [mt] using hj);have kS:=MM H (jT m seen) (by
     unfold jT;have:=List.length_filterMap_le (fun j=>m[j]?) seen;have:=lr hn hs;simp;omega)
    rw [hM] at kS;show AW _ _ _ _ _ _;repeat' (first|refine av ?_ ?_|refine aa 9 rfl (cH (qf [(0,1000)]) kS ?_)|refine aq ?_|exact aw|refine ap fun hb=>?_|(refine dP (qf []) ?_;exact af))
theorem E0 (l:List Pc) (d:Nat) (p:Pr):FSpec prog 62 [.one (.sl (fR d) l),.ag [.sc (.int .i64 p.site),.sc (.int .i64 p.inc),.sc (.int .i64 p.num)]] [] [] (.i (bM p 0 l)) []:=by
 refine iF func62 rfl (fun b W=>by kernel_rfl) rfl (qNl rfl) ?_;refine aY (fun c ρ a w hr=>bV (t:=0) hr rfl) (fun hl=>?_);refine ao ?_;refine ab (fun i=>i<=l.length/\bM p i (l.drop i)=bM p 0 l) (fun i=>bP [3] [(0,.c (.sl (fR d) l)),(3,.c (.ptr 3 0)),(5,.i i)] [(3,.box 40 [.sc (.int .i64 p.site),.sc (.int .i64 p.inc),.sc (.int .i64 p.num)])]) (fun i=>l.length-i) 0 ⟨Nat.zero_le _,rfl⟩
  (by refine Lm (qf []) rfl ?_ ?_ <;> repeat' (first|exact trivial|exact lM rfl|exact ⟨_,rfl,iG rfl⟩|refine ⟨?_,?_⟩)) ?_
 rintro i ⟨hi,hs⟩;repeat' (first|refine av ?_ ?_|refine aq ?_|exact aw|refine ap fun hb=>?_)
 ·refine F8 (.inr rfl) rfl rfl ?_;rw [<-hs,qDc (by omega)];simp [bM,hb]
 ·refine ⟨i+1,⟨by omega,?_⟩,by omega,?_⟩
  ·rw [<-hs,List.drop_eq_getElem_cons (i:=i) (by omega)];simp [bM,hb]
  ·refine Lm (qf []) rfl ?_ ?_ <;> repeat' (first|exact trivial|exact lM rfl|exact ⟨_,rfl,iG rfl⟩|refine ⟨?_,?_⟩)
 ·refine F8 (.inr rfl) rfl rfl ?_;rw [<-hs,qDn (by omega)];rfl
def Ra (p:Pr) (P:List Pc):Prop:=∀i j (hi:i<P.length) (hj:j<P.length),i<=j->0<cl P[i].proc p->0<cl P[j].proc p
theorem GH (x:Pc):∀(P:List Pc) (k:Nat),k<=P.length->(∀j (hj:j<P.length),j<k->¬0<cl P[j].proc x.proc)->(∀j (hj:j<P.length),k<=j->0<cl P[j].proc x.proc)->my x P=P.take k++x :: P.drop k
 | [],k,hk,_,_=>by
  obtain rfl:k=0:=by simpa using hk
  rfl
 | y :: P,0,_,_,h2=>by
  have:=h2 0 (by simp) (Nat.le_refl _);simp only [List.getElem_cons_zero] at this;simp [my,this]
 | y :: P,k+1,hk,h1,h2=>by
  have h3:=h1 0 (by simp) (by omega);simp only [List.getElem_cons_zero] at h3;have ih:=GH x P k (by simpa using hk) (fun j hj hjk=>by have:=h1 (j+1) (by simpa using hj) (by omega);simpa using this) (fun j hj hjk=>by have:=h2 (j+1) (by simpa using hj) (by omega);simpa using this);simp [my,h3,ih]
theorem OX {P:List Pc} {x:Pc} {k:Nat} (hk:k<P.length):((P.take (k+1)++x :: P.drop (k+1)).set (k+1) P[k]).set k x=P.take k++x :: P.drop k:=by
 have hl:(P.take k).length=k:=by simp;omega
 rw [List.take_succ_eq_append_getElem hk,qDc hk,List.append_assoc,List.singleton_append];generalize P.take k=A at *
 generalize P.drop (k+1)=B at *
 generalize P[k]=z at *
 rw [List.set_append_right _ _ (by omega),show k+1-A.length=1 by omega,List.set_cons_succ,List.set_cons_zero,List.set_append_right _ _ (by omega),show k-A.length=0 by omega,List.set_cons_zero]
theorem qp (l:List Pc) (d:Nat) (p:Pr) {z:Int} (h:bM p 0 l=z):FSpec prog 62 [.one (.sl (fR d) l),p.a] [] [] (.i z) []:=h▸E0 l d p
theorem SU (d:Nat) (w:Wk) (p:Pr) (cost:Int) (h8:w.c.procs.length<=100000) (hup:Ra p w.c.procs) {Z:Wk×Int} (hZ:iZ w p cost=Z):FSpec prog 89 [go,p.a,lw cost] (HI d w) [3,4] (.i Z.2) (HO d Z.1):=by
 refine a7 func89 ?_;unfold iZ at hZ;have kV:=im p;obtain ⟨bA,hA⟩:∃b,(jW p && decide (1<=cost) && decide (cost<=1000))=b:=⟨_,rfl⟩;rw [hA] at hZ;cases bA with
 | false =>
  obtain rfl:Z=(w,1):=by rw [<-hZ];rfl
  obtain ⟨v,hv⟩:=qGe (jW p);rw [hv] at kV hA;cases v with
  | false =>
   refine ao ?_
   (refine cc (qf [(3,1),(4,2)]) ?_;exact af)
  | true =>
   simp only [Bool.true_and,Bool.and_eq_false_iff,decide_eq_false_iff_not] at hA;by_cases h1:1<=cost
   ·refine ao ?_
    (refine cc (qf [(3,1),(4,2)]) ?_;exact af)
   ·refine ao ?_
    (refine cc (qf [(3,1),(4,2)]) ?_;exact af)
 | true =>
  simp only [qBa,decide_eq_true_eq] at hA;obtain ⟨⟨hv,h1⟩,h2⟩:=hA;rw [hv] at kV;rw [Bool.not_true,qCf] at hZ;obtain ⟨ix,hix⟩:=qGe (bM p 0 w.c.procs);have kI:=qp w.c.procs d p hix;rw [hix] at hZ;by_cases h0:0<=ix
  ·obtain rfl:Z=(w,11):=by rw [<-hZ,qDt h0];rfl
   exact VC
  ·rw [qDf h0,qCf] at hZ;by_cases hl:w.c.procs.length=8
   ·obtain rfl:Z=(w,4):=by rw [<-hZ,qDt hl];rfl
    exact VC
   ·rw [qDf hl,qCf] at hZ;obtain ⟨R0,hR0⟩:∃R0,w.c.procs++[{ FI with proc:=p,cost:=cost }]=R0:=⟨_,rfl⟩;obtain ⟨P,hP⟩:=qGe w.c.procs;have hR0l:R0.length=P.length+1:=by rw [<-hR0,hP];simp
    have hPl:P.length<=100000:=hP▸h8;repeat' (first|refine av ?_ ?_|(refine aa 9 rfl ?_;first|(refine cB [] kV ?_)|(refine cB [1] kI ?_))|refine aq ?_|exact aw|refine ap fun hb=>?_|(refine be (MO rfl rfl rfl rfl (Ee [{ FI with proc:=p,cost:=cost }] rfl rfl (by (repeat' (first|exact trivial|exact .same _|exact .nil|refine ⟨?_,?_⟩));first|done|fail) rfl) hR0 (by simp) (by simp only [List.length_cons,List.length_nil,maxLen];omega) (by simp only [List.length_cons,List.length_nil];omega)) rfl rfl rfl ?_))
    obtain ⟨x,hx⟩:∃x,({ FI with proc:=p,cost:=cost }:Pc)=x:=⟨_,rfl⟩;have hxp:x.proc=p:=by rw [<-hx]
    have hR0':R0=P.take P.length++x :: P.drop P.length:=by rw [<-hR0,hP,hx];simp
    have hZ:((⟨{ w.c with procs:=my x w.c.procs },w.ev⟩,0):Wk×Int)=Z:=by rw [<-hx];exact hZ
    clear hR0 hx hix kI kV;rw [hP] at hup;refine ab (fun y:Nat×List Pc=>y.1<=P.length/\y.2=P.take y.1++x :: P.drop y.1/\∀j (hj:j<P.length),y.1<=j->0<cl P[j].proc p) (fun y=>bP [0,1,2,4,1010] [(0,.v go),(4,.c (.ptr 4 0)),(7,.c (.ocut 1010)),(8,.i y.1)] [(0,.box 113 (KB w 1 2)),(2,.arr 68 fX w.ev),(4,.box 40 [.sc (.int .i64 p.site),.sc (.int .i64 p.inc),.sc (.int .i64 p.num)]),(1010,.arr 82 (fR d) y.2)]) (fun y=>y.1) (P.length,R0) ⟨Nat.le_refl _,hR0',fun j hj h=>absurd hj (by dsimp only at h;omega)⟩ (by exact bo (qf [(1010,45)])) ?_;clear hR0' hR0l R0;rintro ⟨k,R⟩ ⟨hk,hR,hgt⟩;dsimp only at *
    have hRl:R.length=P.length+1:=by rw [hR];simp;omega
    have hRk:R[k]? = some x:=by
     rw [hR,List.getElem?_append_right (by simp;omega)];simp;rw [Nat.min_eq_left hk];simp
    have fin:(∀j (hj:j<P.length),j<k->¬0<cl P[j].proc p)->R=my x w.c.procs:=fun h=>by
     rw [hR,hP];exact (GH x P k hk (by rw [hxp];exact h) (by rw [hxp];exact hgt)).symm
    cases k with
    | zero =>
     have hf:=fin (fun j _ h=>absurd h (by omega));rw [<-hf] at hZ;obtain rfl:Z=(⟨{ w.c with procs:=R },w.ev⟩,0):=hZ.symm;refine ao ?_
     (refine cc (qf [(3,1010),(4,2)]) ?_;exact af)
    | succ j =>
     have hj:j<P.length:=hk;obtain ⟨z,hz⟩:=qGe (P[j]);have ej:(((j+1:Nat):Int)-1).toNat=j:=by omega
     have hRj:R[(((j+1:Nat):Int)-1).toNat]? = some z:=by
      rw [ej,hR,List.getElem?_append_left (by simp;omega),List.getElem?_take,if_pos (by omega),qGg hj,hz]
     obtain ⟨e,he⟩:=qGe (cl z.proc x.proc);have kC:=kY z.proc x.proc;rw [he] at kC;by_cases h0:0<e
     ·have hR1:(R.set (j+1) z)[(((j+1:Nat):Int)-1).toNat]? = some z:=by
       rw [List.getElem?_set_ne (by omega)];exact hRj
      have hl1:(R.set (j+1) z).length=R.length:=List.length_set;repeat' (first|refine av ?_ ?_|refine aa 9 rfl (cB [1010] kC ?_)|refine aq ?_|(refine aa 4 rfl ?_;first|(refine a8 (ak (z:=z) rfl rfl rfl rfl hRk rfl rfl rfl rfl (qNl rfl) rfl rfl) rfl rfl rfl ?_)|(refine a8 (ak (z:=x) rfl rfl rfl rfl hR1 rfl rfl rfl rfl (qNl rfl) rfl rfl) rfl rfl rfl ?_))|exact aw|refine ap fun hb=>?_)
      refine ⟨(j,(R.set (j+1) z).set (((j+1:Nat):Int)-1).toNat x),⟨by dsimp only;omega,?_,fun i hi hij=>?_⟩,by dsimp only;omega,?_⟩
      ·dsimp only;rw [ej,hR,<-hz];exact OX hj
      ·dsimp only at hij;by_cases e2:i=j
       ·subst e2;rw [hz,<-hxp,he];exact h0
       ·exact hgt i hi (by omega)
      ·exact aT
     ·have hf:=fin (fun i hi hij hpos=>h0 (by
       have:=hup i j hi hj (by omega) hpos;rw [hz,<-hxp,he] at this;exact this))
      rw [<-hf] at hZ;obtain rfl:Z=(⟨{ w.c with procs:=R },w.ev⟩,0):=hZ.symm;repeat' (first|refine av ?_ ?_|refine aa 9 rfl (cB [1010] kC ?_)|refine aq ?_|exact aw|refine ap fun hb=>?_|(refine cc (qf [(3,1010),(4,2)]) ?_;exact af))
theorem ka (l:List Int) {b:Bool} (hb0:decide (l.length<=300)=b):FSpec prog 10 [.one (.sl km l)] [] [] (.b b) []:=by
 refine a7 func10 ?_;refine ao ?_;refine eU ?_;rw [<-hb0];congr 1
 exact decide_eq_decide.2 (by omega)
end Go.Proofs.YthpgjkjgkhjjlaaGreatDoor
