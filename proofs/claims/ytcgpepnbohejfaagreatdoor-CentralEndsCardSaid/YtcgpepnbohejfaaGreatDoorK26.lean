/- Part 26 of 56 of the proof of both_hold (no condition). -/
import Derived.Test.YtcgpepnbohejfaaGreatDoorK24
import Derived.Test.YtcgpepnbohejfaaGreatDoorK25
set_option linter.unusedVariables false
set_option linter.unusedSimpArgs false
set_option maxRecDepth 100000
set_option maxHeartbeats 64000000
namespace Go.Proofs.YtcgpepnbohejfaaGreatDoor
open Go.RowKit Go.Proofs.Tryz
def JJ (d:Nat) (w:Wk):List (Nat×Box):=[(9,.box 88 [.ptr 0 0]),(0,.box 91 (ze w 12)),(1,.arr 66 (fu d) w.c.procs),(12,.arr 79 iQ w.ev)]
def HS (d:Nat) (w:Wk):List (Nat×Option Box):=[(9,some (.box 88 [.ptr 0 0])),(0,some (.box 91 (ze w 12))),(1,some (.arr 66 (fu d) w.c.procs)),(12,some (.arr 79 iQ w.ev))]
theorem Im (d:Nat) (w:Wk) (x:Pc) {b:Bool} (hb:dP w.c.queues x=b):FSpec prog 127 [x.a d,.one (.ptr 9 0)] (JJ d w) [] (.b b) (HS d w):=by
 refine aT func127 ?_;unfold dP at hb;obtain ⟨G,hG⟩:∃G,bo w.c.queues x.proc x.req.expr=G:=⟨_,rfl⟩;have h8:=dQ x.req.expr;have hGl:G.length≤1000:=by rw [←hG];simp [bo];omega
 rw [hG] at hb;have kG:=mf d w.c.queues x hG;obtain ⟨v,hv⟩:∃v,dE x.req.expr G=v:=⟨_,rfl⟩;have kH:=zm d x.req.expr G hGl hv;rw [hv] at hb;cases hw:x.waiting with
 | false =>
  rw [hw] at hb;obtain rfl:false=b:=hb;repeat' (first|refine af ?_ ?_|(refine aa 21 rfl ?_;refine sx (aE rfl rfl) ?_)|refine ae ?_|exact ah|refine ab fun hb=>?_|exact bB|fail)
 | true =>
  rw [hw] at hb;obtain rfl:v=b:=hb;repeat' (first|refine af ?_ ?_|(refine aa 9 rfl ?_;first|(refine cC [] (kG) ?_)|(refine cB [] (kH) ?_))|(refine aa 21 rfl ?_;refine sx (aE rfl rfl) ?_)|refine ae ?_|exact ah|refine ab fun hb=>?_|exact bB|fail)
theorem Fx (d:Nat) (w:Wk) (hl:w.c.procs.length≤100000) {o:Option Nat} (ho:gh w.c.queues 0 w.c.procs=o):FSpec prog 56 [.one (.own 1),.one (.clo 127 [9])] (JJ d w) [] (.i (Ji o)) (HS d w):=by
 refine aT func56 ?_;obtain ⟨l,hL⟩:∃l,w.c.procs=l:=⟨_,rfl⟩;repeat' (first|refine af ?_ ?_|refine ae ?_|exact ah|refine ab fun hb=>?_)
 refine ak (fun i=>i≤w.c.procs.length∧gh w.c.queues i (w.c.procs.drop i)=o) (fun i=>cq [0,1,9,12] [(0,.c (.own 1)),(1,.c (.clo 127 [9])),(7,.i w.c.procs.length),(8,.i i)] [(0,.box 91 (ze w 12)),(1,.arr 66 (fu d) w.c.procs),(9,.box 88 [.ptr 0 0]),(12,.arr 79 iQ w.ev)]) (fun i=>w.c.procs.length-i) 0 ⟨Nat.zero_le _,ho⟩ a7 ?_;rintro i ⟨hi,hs⟩;by_cases hlt:i<w.c.procs.length
 ·obtain ⟨x,hx⟩:∃x,w.c.procs[i]=x:=⟨_,rfl⟩;have hgx:w.c.procs[i]? = some x:=by rw [List.getElem?_eq_getElem hlt,hx]
  rw [List.drop_eq_getElem_cons hlt,hx] at hs;have hs:(bif dP w.c.queues x then some i else gh w.c.queues (i+1) (w.c.procs.drop (i+1)))=o:=hs;obtain ⟨b,hb1⟩:∃b,dP w.c.queues x=b:=⟨_,rfl⟩;have kS:=Im d w x hb1;rw [hb1] at hs;cases b with
  | true =>
   obtain rfl:some i=o:=hs;repeat' (first|refine af ?_ ?_|(refine aa 9 rfl ?_;refine jW 1 [9] (qf [(0,0),(1,1),(12,12),(9,9)]) (kS) ?_)|refine ae ?_|exact ah|refine ab fun hb=>?_|exact bB|fail)
  | false =>
   repeat' (first|refine af ?_ ?_|(refine aa 9 rfl ?_;refine jW 1 [9] (qf [(0,0),(1,1),(12,12),(9,9)]) (kS) ?_)|refine ae ?_|exact ah|refine ab fun hb=>?_)
   refine ⟨i+1,⟨by omega,hs⟩,by omega,?_⟩;exact a7
 ·rw [List.drop_eq_nil_of_le (by omega)] at hs;obtain rfl:none=o:=hs;repeat' (first|refine af ?_ ?_|refine ae ?_|exact ah|refine ab fun hb=>?_|exact bB|fail)
theorem E5 (d:Nat) (w:Wk) (i:Nat) {x:Pc} (hx:w.c.procs[i]? = some x) (hev:w.ev.length≤900000) (hfin:wM x i (cJ x.req.expr) (cY x.req.expr (bo w.c.queues x.proc x.req.expr)) (w.note 2 x.proc)) {Z:Wk} (hZ:gX w i=Z):FSpec prog 128 [iS,pp i] (HP d w) [4] (.tup []) (HQ d Z):=by
 refine aT func128 ?_;have hi:=(List.getElem?_eq_some_iff.1 hx).1;have hpc:=fI hx;have h8:=dQ x.req.expr;obtain ⟨L,hL⟩:∃L,cJ x.req.expr=L:=⟨_,rfl⟩;obtain ⟨G,hG⟩:∃G,bo w.c.queues x.proc x.req.expr=G:=⟨_,rfl⟩;have hGl:G.length=(cJ x.req.expr).length:=by rw [←hG];simp [bo]
 obtain ⟨K,hK⟩:∃K,cY x.req.expr G=K:=⟨_,rfl⟩;have hKl:K.length=L.length:=by rw [←hK,mJ,hL]
 have kA:=iC d x.req.expr hL;have kG:=mf d w.c.queues x hG;have kP:=GO d x.req.expr G hGl hK;have kS:=GF d w 2 x.proc (by omega);obtain ⟨F,hF⟩:∃F,da x i L K (w.note 2 x.proc)=F:=⟨_,rfl⟩;rw [hG,hK,hL] at hfin;have hFl:F.c.procs.length=w.c.procs.length:=by rw [←hF];exact (p7 x i L K (w.note 2 x.proc)).2
 have hZ:aY (gg F i) i=Z:=by
  rw [←hZ,←hF];unfold gX;rw [hpc,hG,hK,hL]
 obtain ⟨y,hy⟩:∃y,F.c.procs[i]? = some y:=⟨_,List.getElem?_eq_getElem (by omega)⟩;have hpy:=fI hy;obtain ⟨z,hz⟩:∃z,z=({ y with waiting:=false,req:=Rq.zero,since:=0 }:Pc):=⟨_,rfl⟩;have hst:gg F i=F.setP i z:=by rw [hz];unfold gg;rw [hpy]
 have hZ:Z=(F.setP i z).setP i { z with gen:=aJ z.gen }:=by
  rw [←hZ,hst];unfold aY;rw [eM (by omega)]
 have kR:=Fu d F.c.procs i hy;rw [←hz] at kR;have hzg:(F.c.procs.set i z)[i]? = some z:=gl (by omega) z;subst hZ;have h8':L.length≤8:=by rw [←hL];exact h8
 clear hG hK hL hst hz hpy hpc h8 hGl;repeat' (first|refine af ?_ ?_|(refine aa 9 rfl ?_;first|(refine cH (qf [(0,0),(1,1),(2,2),(4,1004)]) (kS) ?_)|(refine cC [] (kG) ?_)|(refine cC [] (kP) ?_)|(refine cC [] (kA) ?_))|(refine aa 21 rfl ?_;first|(refine sx (aE rfl rfl) ?_)|(refine sx (aq rfl rfl) ?_))|refine ae ?_|exact ah|refine ab fun hb=>?_)
 refine ak (fun y:Nat×Wk=>y.1≤L.length∧wM x i (L.drop y.1) (K.drop y.1) y.2∧da x i (L.drop y.1) (K.drop y.1) y.2=F) (fun y=>cq [0,1,2,1011] [(0,.v iS),(1,.v (pp i)),(4,.c (.sl c9 K)),(33,.c (.sl c7 L)),(34,.i L.length),(35,.i y.1)] [(0,.box 91 (ze y.2 1011)),(1,.arr 66 (fu d) y.2.c.procs),(1011,.arr 79 iQ y.2.ev)]) (fun y=>L.length-y.1) (0,w.note 2 x.proc) ⟨Nat.zero_le _,hfin,hF⟩ (by exact bw (qf [(1011,1004)])) ?_;rintro ⟨k,u⟩ ⟨hk,hu,hg⟩;dsimp only at *
 by_cases hlt:k<L.length
 case neg =>
  obtain rfl:u=F:=by rw [←hg,List.drop_eq_nil_of_le (by omega),List.drop_eq_nil_of_le (by omega)];rfl
  repeat' (first|refine af ?_ ?_|(refine aa 9 rfl ?_;first|(refine cH (qf [(1,1)]) (kR) ?_)|(refine cB [] (g6 z.gen) ?_))|(refine aa 21 rfl ?_;refine sx (aq rfl rfl) ?_)|refine ae ?_|(refine aa 4 rfl ?_;refine bc (aA (z:={ z with gen:=aJ z.gen }) rfl rfl rfl rfl hzg rfl rfl rfl rfl (Nat.le_of_ble_eq_true rfl) rfl rfl) rfl rfl rfl ?_)|exact ah|refine ab fun hb=>?_|(exact sX (qf [(4,1011)])))
 rw [List.drop_eq_getElem_cons hlt,List.drop_eq_getElem_cons (l:=K) (by omega)] at hu hg;obtain ⟨b,hb1⟩:∃b,K[k]'(by omega)=b:=⟨_,rfl⟩;have hgb:K[k]? = some b:=by rw [List.getElem?_eq_getElem (by omega),hb1]
 obtain ⟨a,ha⟩:∃a,L[k]=a:=⟨_,rfl⟩;have hga:L[k]? = some a:=by rw [List.getElem?_eq_getElem hlt,ha]
 rw [hb1,ha] at hu hg;obtain ⟨u1,u2,u3,⟨v,v1,v2,v3,v4⟩,u5,u6⟩:=hu;cases b with
 | false =>
  have u5:=u5 rfl;have e:bq u v a.name=bq u x a.name:=by unfold bq;rw [v2,v3]
  obtain ⟨t,ht⟩:∃t,bq u x a.name=t:=⟨_,rfl⟩;have kL:=Dd d u i a.name v1 u1 u2 (by rw [e];exact u5) u3 (e.trans ht);have u6:wM x i (L.drop (k+1)) (K.drop (k+1)) t:=by rw [←ht];exact u6
  have hg:da x i (L.drop (k+1)) (K.drop (k+1)) t=F:=by rw [←ht];exact hg
  clear u5 e ht v4 hfin hF;repeat' (first|refine af ?_ ?_|refine aa 9 rfl (cH (qf [(0,0),(1,1),(2,1011),(4,1020)]) (kL) ?_)|refine ae ?_|exact ah|(refine ab fun hb=>?_;first|(exfalso;omega)|skip))
  refine ⟨(k+1,t),⟨by dsimp only;omega,u6,hg⟩,by dsimp only;omega,?_⟩;dsimp only;exact bw (qf [(1011,1020)])
 | true =>
  have v4:=v4 rfl;obtain ⟨t,ht⟩:∃t,gW u i x.proc a.name=t:=⟨_,rfl⟩;have kR:=E0 d u i a.name v1 u2 (by rw [v2];exact v4) (by omega) (Z:=t) (by rw [v2];exact ht);have u6:wM x i (L.drop (k+1)) (K.drop (k+1)) t:=by rw [←ht];exact u6
  have hg:da x i (L.drop (k+1)) (K.drop (k+1)) t=F:=by rw [←ht];exact hg
  clear u5 ht v4 hfin hF;repeat' (first|refine af ?_ ?_|refine aa 9 rfl (cH (qf [(0,0),(1,1),(2,1011),(4,1020)]) (kR) ?_)|refine ae ?_|exact ah|(refine ab fun hb=>?_;first|(exfalso;omega)|skip))
  refine ⟨(k+1,t),⟨by dsimp only;omega,u6,hg⟩,by dsimp only;omega,?_⟩;dsimp only;exact bw (qf [(1011,1020)])
def Jm (w:Wk) (b:Nat):List D:=[.sc (.int .i64 w.c.now),.sl eX w.c.queues,.own 50,.own b]
theorem jP (d:Nat) (w:Wk) (n:Nat) (hok:StP n w):FSpec prog 80 [iS] [(0,.box 91 (Jm w 2)),(50,.arr 66 (fu d) w.c.procs),(2,.arr 79 iQ w.ev)] [4] (.tup []) [(0,some (.box 91 (Jm (aW n w) 4))),(50,some (.arr 66 (fu d) (aW n w).c.procs)),(4,some (.arr 79 iQ (aW n w).ev)),(2,none)]:=by
 refine aT func80 ?_;obtain ⟨W,hW⟩:∃W,aW n w=W:=⟨_,rfl⟩;rw [hW];repeat' (first|refine af ?_ ?_|refine ae ?_|exact ah|refine ab fun hb=>?_)
 refine ak (fun y:Nat×Wk=>StP y.1 y.2∧aW y.1 y.2=W) (fun y=>cq [0,1,2,50,1011] [(1,.c (.ptr 1 0))] [(0,.box 91 (Jm y.2 1011)),(1,.box 88 [.ptr 0 0]),(50,.arr 66 (fu d) y.2.c.procs),(1011,.arr 79 iQ y.2.ev)]) (fun y=>y.1) (n,w) ⟨hok,hW⟩ (by exact bw (qf [(1011,2)])) ?_;rintro ⟨m,v⟩ ⟨hv,hs⟩;dsimp only at *
 cases ho:gh v.c.queues 0 v.c.procs with
 | none =>
  obtain rfl:v=W:=by
   rw [←hs];cases m with
   | zero=>rfl
   | succ m=>simp [aW,ho]
  have kI:=Fx d v hv.len ho;have hneg:Ji none = -1:=rfl;repeat' (first|refine af ?_ ?_|(refine aa 0 rfl ?_;refine sx (cl (ks:=[1]) rfl rfl) ?_)|refine aa 9 rfl (cH (qf [(9,1),(0,0),(1,50),(12,1011)]) (kI) ?_)|(refine aa 21 rfl ?_;refine sx (aE rfl rfl) ?_)|refine ae ?_|exact ah|(refine ab fun hb=>?_;first|(exact absurd hb (by decide))|skip)|(exact sX (qf [(4,1011)])))
 | some i =>
  cases m with
  | zero=>rw [hv.2] at ho;cases ho
  | succ m =>
   have hl0:=hv.len;obtain ⟨_,hev,hall⟩:=hv;obtain ⟨hi,hfin,hnext⟩:=hall i ho;rw [show aW (m+1) v=aW m (gX v i) by simp [aW,ho]] at hs;obtain ⟨x,hx⟩:∃x,v.c.procs[i]? = some x:=⟨_,List.getElem?_eq_getElem hi⟩;have hpc:=fI hx;rw [hpc] at hfin;obtain ⟨Z,hZ⟩:∃Z,gX v i=Z:=⟨_,rfl⟩;have kF:=E5 d v i hx (by omega) hfin hZ;have kI:=Fx d v hl0 ho;rw [hZ] at hs hnext;have hx1:Ji (some i)=(i:Int):=rfl;rw [hx1] at kI;clear hall hZ hfin;repeat' (first|refine af ?_ ?_|(refine aa 0 rfl ?_;refine sx (cl (ks:=[1]) rfl rfl) ?_)|(refine aa 9 rfl ?_;first|(refine cH (qf [(9,1),(0,0),(1,50),(12,1011)]) (kI) ?_)|(refine cH (qf [(0,0),(1,50),(2,1011),(4,1020)]) (kF) ?_))|(refine aa 21 rfl ?_;refine sx (aE rfl rfl) ?_)|refine ae ?_|exact ah|(refine ab fun hb=>?_;first|(exfalso;omega)|skip))
   refine ⟨(m,Z),⟨hnext,hs⟩,by dsimp only;omega,?_⟩;dsimp only;exact bw (qf [(1011,1020)])
theorem Di {l:Ct} {n:Bs} {k:Nat} (hk:k≤l.length) (h1:∀t (h:t<l.length),t<k→l[t].key<n) (h2:∀t (h:t<l.length),k≤t→¬l[t].key<n):E6 l n=k:=by
 have e:=List.countP_append (p:=fun r:Rs=>decide (r.key<n)) (l₁:=l.take k) (l₂:=l.drop k);rw [List.take_append_drop] at e;unfold E6;rw [e];have e1:(l.take k).countP (fun r:Rs=>decide (r.key<n))=(l.take k).length:=List.countP_eq_length.2 fun a ha=>by
  obtain ⟨i,hi,rfl⟩:=List.mem_iff_getElem.1 ha;rw [List.length_take] at hi;rw [List.getElem_take];exact decide_eq_true (h1 i (by omega) (by omega))
 have e2:(l.drop k).countP (fun r:Rs=>decide (r.key<n))=0:=List.countP_eq_zero.2 fun a ha=>by
  obtain ⟨i,hi,rfl⟩:=List.mem_iff_getElem.1 ha;rw [List.length_drop] at hi;rw [List.getElem_drop];simpa using h2 (k+i) (by omega) (by omega)
 rw [e1,e2,List.length_take];omega
theorem zp (l:List Rs) (n:ByteArray) (hs:Sorted l) (hm:l.length≤8) {k:Nat} {b:Bool} (hk:E6 l n.toList=k) (hb:b=true↔∃h:k<l.length,l[k].key=n.toList):FSpec prog 168 [.one (.sl dS l),.one (.sc (.string n))] [] [] (.tup [iV k,.one (.sc (.bool b))]) [] :=
 cP (fun b W=>by kernel_rfl) rfl fun w S ρ vs hS h=>by
  match vs,h with
  | [_,_],⟨⟨A,c,rfl,hc,hr⟩,rfl,_⟩ =>
   refine (uN A w.heap.size c l n w hs (by omega) (Nat.le_refl _) (hr.lo hS)).mono fun e w' h=>?_;obtain ⟨k',b',rfl,q1,q2,q3,q4,q5⟩:=h;obtain rfl:k=k':=by rw [←hk];exact Di q1 q2 q3
   obtain rfl:b=b':=by
    cases b with
    | true=>exact (q4.2 (hb.1 rfl)).symm
    | false =>
     cases b' with
     | false=>rfl
     | true=>exact absurd (hb.2 (q4.1 rfl)) (by simp)
   exact ⟨_,rfl,q5,_,rfl,rfl,rfl,trivial⟩
theorem ye {t:List Qu} (hV:dl t=true):∀a b (ha:a<(cU t).length) (hb:b<(cU t).length),a<b→(cU t)[a].key<(cU t)[b].key:=fun a b ha hb hab=>by
 have hp:=(jh (bE hV).2.1).1;have h2:=(List.pairwise_iff_getElem.1 hp) a b (by simpa [dN,cU] using ha) (by simpa [dN,cU] using hb) hab;unfold jE at h2;rw [bytesLess_eq,decide_eq_true_eq] at h2;simpa [dN,cU,Rs.key] using h2
theorem yf {t:List Qu} (hV:dl t=true):Sorted (cU t):=fun i h=>ye hV i (i+1) (by omega) h (by omega)
def AV (t:List Qu) (a:Tm):Int:=bif !aS t a.name then 10 else bif !aC (a6 t a.name).res a.am then 12 else 0
theorem yg (t:List Qu) (a:Tm) (l:List Tm):gV t (a :: l)=bif decide (AV t a=0) then gV t l else AV t a:=by
 unfold AV;show (bif !aS t a.name then 10 else bif !aC (a6 t a.name).res a.am then 12 else gV t l)=_;cases aS t a.name <;> cases aC (a6 t a.name).res a.am <;> rfl
theorem Iq (t:List Qu) (a:Tm) (hV:dl t=true) {R:Int} (hR:AV t a=R):FSpec prog 129 [.one (.sl dS (cU t)),a.a] [] [] (.i R) []:=by
 refine aT func129 ?_;have h8:=(bE hV).1;have hcl:(cU t).length=t.length:=by simp [cU]
 have kV:=Fy (cU t);rw [om.2 (GC hV)] at kV;have hS:=yf hV;unfold AV at hR;cases hh:aS t a.name with
 | false =>
  rw [hh] at hR;obtain rfl:10=R:=hR;have hno:¬∃h:E6 (cU t) a.name.toList<(cU t).length,(cU t)[E6 (cU t) a.name.toList].key=a.name.toList:=by
   rintro ⟨h1,h2⟩;have h3:(t[E6 (cU t) a.name.toList]'(by omega)).res.name=a.name:=by
    apply toList_inj
    simpa [cU,Rs.key] using h2
   have h4:=(jH hV (List.getElem_mem (show E6 (cU t) a.name.toList<t.length by omega))).1;rw [h3,hh] at h4;cases h4
  have kP:=zp (cU t) a.name hS (by omega) (k:=E6 (cU t) a.name.toList) (b:=false) rfl ⟨fun h=>(by cases h),fun h=>absurd h hno⟩;repeat' (first|refine af ?_ ?_|(refine aa 9 rfl ?_;first|(refine cB [] (kV) ?_)|(refine cC [] (kP) ?_))|refine ae ?_|exact ah|refine ab fun hb=>?_|exact bB|fail)
 | true =>
  obtain ⟨j,hj,hF,hq⟩:=uw hh;obtain ⟨i,hi,h1,h2⟩:=ir (t:=t) (n:=a.name) (k:=0) (by omega);have hij:i=j:=by omega
  subst hij;have ax:(cU t)[i]'(by omega)=t[i].res:=by simp [cU]
  have hplc:E6 (cU t) a.name.toList=i:=by
   have hk0:((cU t)[i]'(by omega)).key=a.name.toList:=by rw [ax];exact congrArg ByteArray.toList h2
   refine Di (by omega) (fun u hu hlt=>?_) (fun u hu hge=>?_)
   ·rw [←hk0];exact ye hV u i hu (by omega) hlt
   ·rw [←hk0];rcases Nat.eq_or_lt_of_le hge with e|e
    ·subst e;exact List.lt_irrefl _
    ·exact fun h=>List.lt_irrefl _ (List.lt_trans h (ye hV i u (by omega) hu e))
  have kP:=zp (cU t) a.name hS (by omega) (b:=true) hplc ⟨fun _=>⟨by omega,by rw [ax];exact congrArg ByteArray.toList h2⟩,fun _=>rfl⟩;have hgi:(cU t)[i]? = some t[i].res:=by rw [List.getElem?_eq_getElem (by omega),ax]
  have kF:=dy t[i].res a.am;obtain ⟨f,hf⟩:∃f,aC t[i].res a.am=f:=⟨_,rfl⟩;rw [hh,hq,hf] at hR;rw [hf] at kF;cases f with
  | false =>
   obtain rfl:12=R:=hR;repeat' (first|refine af ?_ ?_|(refine aa 9 rfl ?_;first|(refine cB [] (kV) ?_)|(refine cC [] (kP) ?_)|(refine cB [] (kF) ?_))|refine ae ?_|exact ah|refine ab fun hb=>?_|exact bB|fail)
  | true =>
   obtain rfl:0=R:=hR;repeat' (first|refine af ?_ ?_|(refine aa 9 rfl ?_;first|(refine cB [] (kV) ?_)|(refine cC [] (kP) ?_)|(refine cB [] (kF) ?_))|refine ae ?_|exact ah|refine ab fun hb=>?_|exact bB|fail)
theorem FB (t:List Qu) (hl:t.length≤100000):FSpec prog 83 [.one (.sl eX t)] [] [] (.c (.sl dS (cU t))) []:=by
 refine aT func83 ?_;repeat' (first|refine af ?_ ?_|refine ae ?_|exact ah|refine ab fun hb=>?_)
 refine cZ 3 1000 54 dS rfl rfl rfl ?_;refine ak (fun i=>i≤t.length) (fun i=>cq [1000] [(3,.c (.own 1000)),(6,.c (.sl eX t)),(7,.i t.length),(8,.i i)] [(1000,.arr 54 dS (cU (t.take i)))]) (fun i=>t.length-i) 0 (Nat.zero_le _) a7 ?_;intro i hi;have hlen:(cU (t.take i)).length=i:=by simp [cU,Nat.min_eq_left hi]
 by_cases hlt:i<t.length
 ·repeat' (first
   | refine af ?_ ?_
   | (refine aa 8 rfl ?_;refine bh (ap rfl rfl (aH rfl rfl) (aL [(t[i]'(by omega)).res] rfl rfl rfl rfl) rfl aK aK) rfl rfl rfl ?_)
   | refine ae ?_
   | exact ah|refine ab fun hb=>?_)
  refine ⟨i+1,by omega,by omega,?_⟩;have e:cU (t.take (i+1))=cU (t.take i)++[(t[i]'(by omega)).res]:=by
   unfold cU;rw [List.take_succ_eq_append_getElem (by omega),List.map_append];rfl
  rw [e];exact bw (qf [(1000,16)])
 ·have e:cU (t.take i)=cU t:=by rw [List.take_of_length_le (by omega)]
  rw [e];repeat' (first|refine af ?_ ?_|refine ae ?_|exact ah|refine ab fun hb=>?_|exact bB|fail)
theorem wO (d:Nat) (t:List Qu) (x:Ex) (hV:dl t=true) {R:Int} (hR:iP t x=R):FSpec prog 82 [.one (.sl dS (cU t)),x.a d] [] [] (.i R) []:=by
 refine aT func82 ?_;unfold iP at hR;obtain ⟨L,hL⟩:∃L,cJ x=L:=⟨_,rfl⟩;have kA:=iC d x hL;cases hv:kf x with
 | false =>
  rw [hv] at hR;obtain rfl:1=R:=hR;obtain rfl:L=[]:=by rw [←hL];exact oL hv
  repeat' (first|refine af ?_ ?_|refine aa 9 rfl (cC [] (kA) ?_)|refine ae ?_|exact ah|(refine ab fun hb=>?_;first|(exact absurd rfl hb)|skip)|exact bB|fail)
 | true =>
  obtain ⟨_,_,h8,h0,_⟩:=mt hv;rw [hL] at h8 h0;rw [hv,hL] at hR;have hR:gV t L=R:=hR;repeat' (first|refine af ?_ ?_|refine aa 9 rfl (cC [] (kA) ?_)|refine ae ?_|exact ah|(refine ab fun hb=>?_;first|(exfalso;omega)|skip))
  refine ak (fun i=>i≤L.length∧gV t (L.drop i)=R) (fun i=>cq [3] [(0,.c (.sl dS (cU t))),(3,.c (.ptr 3 0)),(14,.c (.sl c7 L)),(15,.i L.length),(16,.i i)] [(3,.box 47 (x.d d))]) (fun i=>L.length-i) 0 ⟨Nat.zero_le _,hR⟩ a7 ?_;rintro i ⟨hi,hs⟩;by_cases hlt:i<L.length
  ·obtain ⟨a,ha⟩:∃a,L[i]=a:=⟨_,rfl⟩;have hga:L[i]? = some a:=by rw [List.getElem?_eq_getElem hlt,ha]
   rw [List.drop_eq_getElem_cons hlt,ha,yg] at hs;obtain ⟨r,hr⟩:∃r,AV t a=r:=⟨_,rfl⟩;have kR:=Iq t a hV hr;rw [hr] at hs;by_cases h00:r=0
   ·subst h00;repeat' (first|refine af ?_ ?_|refine aa 9 rfl (cB [] (kR) ?_)|refine ae ?_|exact ah|(refine ab fun hb=>?_;first|(exact absurd rfl hb)|skip))
    refine ⟨i+1,⟨by omega,hs⟩,by omega,?_⟩;exact a7
   ·rw [decide_eq_false h00] at hs;obtain rfl:r=R:=hs;repeat' (first|refine af ?_ ?_|refine aa 9 rfl (cB [] (kR) ?_)|refine ae ?_|exact ah|(refine ab fun hb=>?_;first|(exact absurd hb h00)|skip)|exact bB|fail)
  ·rw [List.drop_eq_nil_of_le (by omega)] at hs;obtain rfl:0=R:=hs;repeat' (first|refine af ?_ ?_|refine ae ?_|exact ah|refine ab fun hb=>?_|exact bB|fail)
end Go.Proofs.YtcgpepnbohejfaaGreatDoor
