/- Part K25 of a proof of statements of chapter 15 (no condition). -/
import Derived.Test.YtkkbopkbjacfmaaGreatDoorK20
import Derived.Test.YtkkbopkbjacfmaaGreatDoorK22
import Derived.Test.YtkkbopkbjacfmaaGreatDoorK21
import Derived.Test.YtkkbopkbjacfmaaGreatDoorK16
set_option linter.unusedVariables false
set_option linter.unusedSimpArgs false
set_option maxRecDepth 100000
set_option maxHeartbeats 64000000
namespace Go.Proofs.YtkkbopkbjacfmaaGreatDoor
open Go.RowKit Go.Proofs.Tryz
theorem xL:∀(n:Nat) (q:Qu) (acc:List Ho),(fg n q acc).2.length<=acc.length+n
 | 0,q,acc=>Nat.le_refl _
 | n+1,q,acc=>by
  unfold fg;cases dv q with
  | none=>dsimp only;omega
  | some x =>
   dsimp only;cases gi q.res q.holds x.proc x.am with
   | true =>
    have:=xL n (g4 q x) (acc++[⟨x.proc,x.am⟩]);simp at this ⊢;omega
   | false=>simp
theorem py (q:Qu):(eN q).2.length<=q.convs.length+q.waits.length:=by
 have:=xL (fO q) q [];simpa [eN,o9,fO] using this
theorem Ix (l:List Wt) (w:Wt):(nv l w).2.length<=l.length+1:=by
 unfold nv;cases fe l <;> cases (uc w && decide (w.passed=0)) <;> cases decide (0<=dM l w.proc) <;> cases decide (l.length=8) <;> simp [An]
theorem vA {q:Qu} (h:ai q=true) (p:Pr) (a:Am) (prio:Int):(bO q p a prio).2.1.length<=17:=by
 have hs:=aG h;have h2:=hs.clen;have h3:=hs.wlen;unfold bO;have e1:=py { q with convs:=q.convs++[⟨p,cl q.res (af q.holds p) a,0,0⟩] };have e2:=py { q with waits:=(nv q.waits ⟨p,a,prio,0⟩).2 };have e3:=Ix q.waits ⟨p,a,prio,0⟩;simp only [List.length_append,List.length_cons,List.length_nil] at e1 e2;exact Ri
theorem sU {q:Qu} (h:ai q=true) (p:Pr):(bd q p).2.1.length<=17:=by
 have hs:=aG h;have h2:=hs.clen;have h3:=hs.wlen;have e1:=py { q with convs:=bX q.convs p,waits:=bX q.waits p };have e2:=jI q.convs p;have e3:=jI q.waits p;dsimp only at e1;unfold bd;exact Ri
theorem vC {q:Qu} (h:ai q=true) (p:Pr) (a:Am):(aY q p a).2.1.length<=17:=by
 have hs:=aG h;have h2:=hs.clen;have h3:=hs.wlen;have e1:=py { q with holds:=cE q.holds p a };dsimp only at e1;unfold aY;exact Ri
theorem sV {q:Qu} (h:ai q=true) (p:Pr):(br q p).2.1.length<=17:=by
 have hs:=aG h;have h2:=hs.clen;have h3:=hs.wlen;have e1:=py { q with holds:=cE q.holds p ⟨0,0⟩,convs:=bX q.convs p,waits:=bX q.waits p };have e2:=jI q.convs p;have e3:=jI q.waits p;dsimp only at e1;unfold br;exact Ri
def NF (R:List Qu×List Ev×Int):TV:=.tup [.one (.sl ic R.1),.one (.sl sR R.2.1),.one (.sc (.int .i64 R.2.2))]
theorem du (l:List Qu) (n:ByteArray) {k:Int} (h:bV n 0 l=k):FSpec prog 127 [.one (.sl ic l),.one (.sc (.string n))] [] [] (.i k) []:=h▸om l n
theorem gH {t:List Qu} {n:ByteArray} (h:¬bV n 0 t<0):∃i,∃hi:i<t.length,bV n 0 t=(i:Int)/\t.getD (jo t n) yS=t[i]/\jo t n=i:=by
 obtain ⟨i,hi,h1,_⟩:=oa (Int.not_lt.1 h);have h2:bV n 0 t=(i:Int):=by rw [h1];simp
 refine ⟨i,hi,h2,?_,?_⟩
 ·unfold jo;rw [h2];simp [List.getD_eq_getElem?_getD,hi]
 ·unfold jo;rw [h2];rfl
theorem AM (t:List Qu) (p:Pr) (n:ByteArray) {R:List Qu×List Ev×Int} (hR:dq t p n=R):FSpec prog 327 [.one (.sl ic t),p.a,.one (.sc (.string n))] [] [] (NF R) []:=by
 refine aS func327 ?_;cases hV:eV t with
 | false =>
  obtain rfl:R=fY 2:=by rw [<-hR];simp [dq,hV]
  have:=dD t;refine ao ?_
  (refine fk (qf []) ?_;exact ak)
 | true =>
  have hm:=(cm hV).1;by_cases hf:bV n 0 t<0
  case pos =>
   obtain rfl:R=fY 10:=by rw [<-hR];simp [dq,hV,hf]
   have:=dD t;have:=om t n;refine ao ?_
   (refine fk (qf []) ?_;exact ak)
  obtain ⟨i,hi,hF,hq,hx⟩:=gH hf;have hS:=dc hV (List.getElem_mem hi);obtain ⟨Q,hQ⟩:=qGe (bd t[i] p);have hQl:=sU hS p;rw [hQ] at hQl;have hlen:Q.2.1.length<=100000:=by omega
  by_cases he:Q.2.2=0
  ·obtain rfl:R=(t.set i Q.1,bo n Q.2.1,0):=by rw [<-hR];unfold dq;rw [hq,hQ,hx];simp [hV,hf,he]
   have:=dD t;have:=du t n hF;have:=AL t[i] p hQ;have:=px t i Q.1 hi (by omega);have:=mX n Q.2.1 hlen;refine ao ?_
   (refine fk (qf []) ?_;exact ak)
  ·obtain rfl:R=fY Q.2.2:=by rw [<-hR];unfold dq;rw [hq,hQ,hx];simp [hV,hf,he]
   have:=dD t;have:=du t n hF;have:=AL t[i] p hQ;refine ao ?_
   (refine fk (qf []) ?_;exact ak)
theorem tV (t:List Qu) (p:Pr) (a:Tm) {R:List Qu×List Ev×Int} (hR:cO t p a=R):FSpec prog 276 [.one (.sl ic t),p.a,a.a] [] [] (NF R) []:=by
 refine aS func276 ?_;cases hV:eV t with
 | false =>
  obtain rfl:R=fY 2:=by rw [<-hR];simp [cO,hV]
  have:=dD t;refine ao ?_
  (refine fk (qf []) ?_;exact ak)
 | true =>
  have hm:=(cm hV).1;by_cases hf:bV a.name 0 t<0
  case pos =>
   obtain rfl:R=fY 10:=by rw [<-hR];simp [cO,hV,hf]
   have:=dD t;have:=om t a.name;refine ao ?_
   (refine fk (qf []) ?_;exact ak)
  obtain ⟨i,hi,hF,hq,hx⟩:=gH hf;have hS:=dc hV (List.getElem_mem hi);obtain ⟨Q,hQ⟩:=qGe (aY t[i] p a.am);have hQl:=vC hS p a.am;rw [hQ] at hQl;have hlen:Q.2.1.length<=100000:=by omega
  have hgl:(bo a.name Q.2.1).length<=17:=by unfold bo;rw [List.length_map];exact hQl
  by_cases he:Q.2.2=0
  ·by_cases hh:af t[i].holds p=a.am
   ·obtain rfl:R=(t.set i Q.1,bo a.name Q.2.1,0):=by rw [<-hR];unfold cO;rw [hq,hQ,hx];simp [hV,hf,he,hh]
    have:=dD t;have:=du t a.name hF;have:=eT t[i] p;have:=y6 t[i] p a.am hQ;have:=px t i Q.1 hi (by omega);have:=mX a.name Q.2.1 hlen;refine ao ?_
    (refine fk (qf []) ?_;exact ak)
   ·obtain rfl:R=(t.set i Q.1,[⟨3,p,a.name,a.am⟩]++bo a.name Q.2.1,0):=by rw [<-hR];unfold cO;rw [hq,hQ,hx];simp [hV,hf,he,hh]
    repeat' (first|refine az ?_ ?_|(refine aa 8 rfl ?_;refine aK (ae (E:=sR) rfl rfl (tR rfl) (aB [⟨3,p,a.name,a.am⟩] rfl rfl rfl rfl) (List.nil_append _) aE aE) rfl rfl rfl ?_)|(refine aa 9 rfl ?_;first|(refine cB [] (dD t) ?_)|(refine cB [] (du t a.name hF) ?_)|(refine cB [] (eT t[i] p) ?_)|(refine cC [] (y6 t[i] p a.am hQ) ?_)|(refine cC [] (px t i Q.1 hi (by omega)) ?_)|(refine cC [] (mX a.name Q.2.1 hlen) ?_))|refine ay ?_|exact aA|refine ax fun hb=>?_|(refine fk (qf []) ?_;exact ak))
  ·obtain rfl:R=fY Q.2.2:=by rw [<-hR];unfold cO;rw [hq,hQ,hx];simp [hV,hf,he]
   have:=dD t;have:=du t a.name hF;have:=eT t[i] p;have:=y6 t[i] p a.am hQ;refine ao ?_
   (refine fk (qf []) ?_;exact ak)
theorem NG {B:List Bool} {i:Nat} (hi:i<B.length):(B.take i++List.replicate (B.length-i) false).set i B[i]=B.take (i+1)++List.replicate (B.length-(i+1)) false:=by
 have h1:(B.take i).length=i:=by simp;omega
 rw [List.set_append_right _ _ (by omega),h1,Nat.sub_self,show B.length-i=(B.length-(i+1))+1 by omega,List.replicate_succ,List.set_cons_zero,List.take_succ_eq_append_getElem hi,List.append_assoc];rfl
theorem O6 {B:List Bool} {i:Nat} (hi:i<B.length) (h:B[i]=false):B.take (i+1)++List.replicate (B.length-(i+1)) false=B.take i++List.replicate (B.length-i) false:=by
 rw [List.take_succ_eq_append_getElem hi,h,show B.length-i=(B.length-(i+1))+1 by omega,List.replicate_succ,List.append_assoc];rfl
theorem jO (d:Nat) (x:Ex) {L:List Tm} (h:cR x=L):FSpec prog 124 [x.a d] [] [] (.c (.sl da L)) []:=h▸Ee d x
theorem dE (x:Ex):(cR x).length<=8:=by
 cases hv:nZ x with
 | false=>rw [yz hv];simp
 | true=>exact (ux hv).2.2.1
theorem mq (d:Nat) (t:List Qu) (p:Pr) (x:Ex):FSpec prog 237 [.one (.sl ic t),p.a,x.a d] [] [] (.c (.sl eI (bN t p x))) []:=by
 refine aS func237 ?_;have hmk:prog.underlying 112=some (.slice 4):=underlying112;have hib:(prog.info? 4).map (fun i=>(i.zero,i.size,i.bytes))=some (some (.bool false),1,1):=by kernel_rfl
 have h8:=dE x;obtain ⟨L,hL⟩:=qGe (cR x);obtain ⟨B,hB⟩:∃B,B=bN t p x:=⟨_,rfl⟩;have hBl:B.length=L.length:=by rw [hB];simp [bN,hL]
 have hBg:∀i (h:i<L.length),B[i]'(by omega)=(bh t L[i].name && bc (bG t L[i].name).res (af (bG t L[i].name).holds p) L[i].am):=by
  intro i h;simp only [hB,bN,hL,List.getElem_map]
 rw [hL] at h8;rw [<-hB];clear hB;repeat' (first|refine az ?_ ?_|refine aa 9 rfl (cC [] (jO d x hL) ?_)|(refine aa 20 rfl ?_;refine aK (jM (E:=eI) (y0:=false) hmk hib rfl (by decide) rfl (fun _ _=>rfl) rfl rfl rfl rfl (by first|omega|simp)) rfl rfl rfl ?_)|refine ay ?_|exact aA|refine ax fun hb=>?_)
 refine ab (fun i=>i<=L.length) (fun i=>bC [4,5,1000] [(0,.c (.sl ic t)),(4,.c (.ptr 4 0)),(7,.c (.sl da L)),(8,.c (.own 1000)),(9,.i i)] [(4,.box 42 [.sc (.int .i64 p.site),.sc (.int .i64 p.inc),.sc (.int .i64 p.num)]),(1000,.arr 4 eI (B.take i++List.replicate (B.length-i) false))]) (fun i=>L.length-i) 0 (Nat.zero_le _) (by rw [List.take_zero,List.nil_append,Nat.sub_zero,hBl];exact a8 (qf [(1000,15)])) ?_;intro i hi;have hol:(B.take i++List.replicate (B.length-i) false).length=L.length:=by simp;omega
 by_cases hlt:i<L.length
 ·have hb1:=hBg i hlt;obtain ⟨a,ha⟩:=qGe (L[i]);have hga:L[i]? = some a:=by rw [qGg hlt,ha]
  rw [ha] at hb1;by_cases hf:bV a.name 0 t<0
  ·have hno:=O6 (B:=B) (i:=i) (by omega) (by rw [hb1,show bh t a.name=false by simp [bh];omega];rfl);have:=om t a.name;refine ao ?_;refine ⟨i+1,by omega,by omega,?_⟩;rw [hno];exact aL
  ·obtain ⟨j,hj,hF,hq,hx⟩:=gH hf;have hst:=NG (B:=B) (i:=i) (by omega);rw [hb1,show bh t a.name=true by simp [bh,Int.not_lt.1 hf],Bool.true_and,show bG t a.name=t[j] from hq] at hst;repeat' (first|refine az ?_ ?_|(refine aa 9 rfl ?_;first|(refine cB [] (du t a.name hF) ?_)|(refine cB [] (eT t[j] p) ?_)|(refine cB [] (dt t[j].res (af t[j].holds p) a.am) ?_))|refine ay ?_|(refine aa 4 rfl ?_;refine bW (aM (z:=bc t[j].res (af t[j].holds p) a.am) rfl rfl rfl rfl (by first|assumption|exact qGg (by omega)) rfl rfl rfl rfl (qNl rfl) rfl rfl) rfl rfl rfl ?_)|exact aA|refine ax fun hb=>?_)
   exact RD
 ·have e:B.take i++List.replicate (B.length-i) false=B:=by rw [List.take_of_length_le (by omega),show B.length-i=0 by omega];simp
  rw [e];refine ao ?_;exact Rd
instance:Dp f9:=fb _ _ _ _ _
instance:ST prog f9 129 74 40:=⟨ElTB.mk' underlying129 (.agg #[.string { data:=#[] },.int .i64 0,.int .i64 0,.int .i64 0]) 4 40 (by kernel_rfl) rfl rfl⟩
def g7 (t:List Qu):List Rs:=t.map (·.res)
theorem AO (t:List Qu) (hl:t.length<=100000):FSpec prog 236 [.one (.sl ic t)] [] [] (.c (.sl f9 (g7 t))) []:=by
 refine aS func236 ?_;refine ao ?_;refine bK 3 1000 74 f9 rfl rfl rfl ?_;refine ab (fun i=>i<=t.length) (fun i=>bC [1000] [(0,.c (.sl ic t)),(3,.c (.own 1000)),(4,.i i)] [(1000,.arr 74 f9 (g7 (t.take i)))]) (fun i=>t.length-i) 0 (Nat.zero_le _) aL ?_;intro i hi;have hlen:(g7 (t.take i)).length=i:=by simp [g7,Nat.min_eq_left hi]
 repeat' (first|refine az ?_ ?_|(refine aa 8 rfl ?_;refine aK (ae rfl rfl (av rfl rfl) (aB [(t[i]'(by omega)).res] rfl rfl rfl rfl) rfl aE aE) rfl rfl rfl ?_)|refine ay ?_|exact aA|refine ax fun hb=>?_)
 ·refine ⟨i+1,by omega,by omega,?_⟩;have e:g7 (t.take (i+1))=g7 (t.take i)++[(t[i]'(by omega)).res]:=by
   unfold g7;rw [List.take_succ_eq_append_getElem (by omega),List.map_append];rfl
  rw [e];exact a8 (qf [(1000,18)])
 ·have e:g7 (t.take i)=g7 t:=by rw [List.take_of_length_le (by omega)]
  rw [<-e];exact Rd
def GM (w:Wk) (a b:Nat):List D:=[.sc (.int .i64 w.c.now),.sl ic w.c.queues,.ocut a,.own b]
def HI (d:Nat) (w:Wk):List (Nat×Box):=[(0,.box 163 (GM w 1 2)),(1,.arr 121 (wS d) w.c.procs),(2,.arr 355 sR w.ev)]
def HO (d:Nat) (w:Wk):List (Nat×Option Box):=[(0,some (.box 163 (GM w 3 4))),(3,some (.arr 121 (wS d) w.c.procs)),(4,some (.arr 355 sR w.ev)),(1,none),(2,none)]
abbrev ls:V0:=.one (.ptr 0 0)
abbrev lD (n:Int):V0:=.one (.sc (.int .i64 n))
theorem sW (d:Nat) (w:Wk) (t:List Qu) (ev:List Ev) (hl:w.ev.length+ev.length<=1000000):FSpec prog 270 [ls,.one (.sl ic t),.one (.sl sR ev)] (HI d w) [3,4] (.tup []) (HO d (w.take t ev)):=by
 refine aS func270 ?_;refine ao ?_
 (exact D7 (qf [(3,1),(4,17)]))
theorem Iy (d:Nat) (w:Wk) (k:Int) (p:Pr) (hl:w.ev.length<=1000000):FSpec prog 268 [ls,lD k,p.a] (HI d w) [3,4] (.tup []) (HO d (w.note k p)):=by
 refine aS func268 ?_;have h0:Nat.ble w.ev.length 1000000=true:=by simpa using hl
 repeat' (first|refine az ?_ ?_|(refine aa 8 rfl ?_;refine aK (ae rfl rfl (av rfl rfl) (aB [⟨k,p,⟨#[]⟩,⟨0,0⟩⟩] rfl rfl rfl rfl) rfl aE aE) rfl rfl rfl ?_)|refine ay ?_|exact aA|refine ax fun hb=>?_|(exact D7 (qf [(3,1),(4,15)])))
theorem lv {w:Wk} {i:Nat} {x:Pc} (h:w.c.procs[i]? = some x):w.pc i=x:=by unfold Wk.pc;rw [List.getD_eq_getElem?_getD,h];rfl
theorem y9 {α:Type} {l:List α} {i:Nat} (h:i<l.length) (y:α):(l.set i y)[i]? = some y:=by simp [h]
theorem Mt (d:Nat) (w:Wk) (i:Nat) (hi:i<w.c.procs.length):FSpec prog 272 [ls,lD i] (HI d w) [3,4] (.tup []) (HO d (fh w i)):=by
 refine aS func272 ?_;obtain ⟨x,hx⟩:∃x,w.c.procs[i]? = some x:=⟨_,qGg hi⟩;have hs1:=y9 hi { x with waiting:=false };have hl1:(w.c.procs.set i { x with waiting:=false }).length=w.c.procs.length:=List.length_set;have hs2:=y9 (hl1▸hi) { x with waiting:=false,req:=Rq.zero };have hl2:((w.c.procs.set i { x with waiting:=false }).set i { x with waiting:=false,req:=Rq.zero }).length=w.c.procs.length:=by rw [List.length_set,hl1]
 have e:fh w i=⟨{ w.c with procs:=((w.c.procs.set i { x with waiting:=false }).set i { x with waiting:=false,req:=Rq.zero }).set i { x with waiting:=false,req:=Rq.zero,since:=0 } },w.ev⟩:=by
  unfold fh Wk.setP;rw [lv hx,List.set_set,List.set_set]
 rw [e];repeat' (first|refine az ?_ ?_|refine ay ?_|(refine aa 4 rfl ?_;first|(refine bW (aM (z:={ x with waiting:=false }) rfl rfl rfl rfl hx rfl rfl rfl rfl (qNl rfl) rfl rfl) rfl rfl rfl ?_)|(refine bW (yX (z:={ x with waiting:=false,req:=Rq.zero }) rfl rfl rfl rfl hs1 rfl rfl rfl rfl (qNl rfl) (by (repeat' (first|exact trivial|exact .same _|exact .nil|refine ⟨?_,?_⟩));first|done|fail) rfl) rfl rfl rfl ?_)|(refine bW (aM (z:={ x with waiting:=false,req:=Rq.zero,since:=0 }) rfl rfl rfl rfl hs2 rfl rfl rfl rfl (qNl rfl) rfl rfl) rfl rfl rfl ?_))|exact aA|refine ax fun hb=>?_|(exact D7 (qf [(3,1),(4,2)])))
theorem ov (d:Nat) (w:Wk) (i:Nat) (hi:i<w.c.procs.length):FSpec prog 183 [ls,lD i] (HI d w) [3,4] (.tup []) (HO d (bi w i)):=by
 refine aS func183 ?_;obtain ⟨x,hx⟩:∃x,w.c.procs[i]? = some x:=⟨_,qGg hi⟩;have e:bi w i=⟨{ w.c with procs:=w.c.procs.set i { x with gen:=bE x.gen } },w.ev⟩:=by
  unfold bi Wk.setP;rw [lv hx]
 rw [e];repeat' (first|refine az ?_ ?_|refine aa 9 rfl (cB [] (Ms x.gen) ?_)|refine ay ?_|(refine aa 4 rfl ?_;refine bW (aM (z:={ x with gen:=bE x.gen }) rfl rfl rfl rfl hx rfl rfl rfl rfl (qNl rfl) rfl rfl) rfl rfl rfl ?_)|exact aA|refine ax fun hb=>?_|(exact D7 (qf [(3,1),(4,2)])))
theorem CW (t:List Qu) (l:List Pc) (i:Nat) (h:i<l.length):fG t i (l.drop i)=bif eP t l[i] then some i else fG t (i+1) (l.drop (i+1)):=by
 rw [qDc h];rfl
def O7:Option Nat->Int
 | some i=>i
 | none=>-1
theorem vE (d:Nat) (w:Wk) (h8:w.c.procs.length<=100000):FSpec prog 273 [ls] (HI d w) [3,4] (.i (O7 (fG w.c.queues 0 w.c.procs))) (HO d w):=by
 refine aS func273 ?_;refine ao ?_;refine ab (fun i=>i<=w.c.procs.length/\fG w.c.queues i (w.c.procs.drop i)=fG w.c.queues 0 w.c.procs) (fun i=>bC [0,1,2] [(0,.v ls),(3,.i i)] [(0,.box 163 (GM w 1 2)),(1,.arr 121 (wS d) w.c.procs),(2,.arr 355 sR w.ev)]) (fun i=>w.c.procs.length-i) 0 ⟨Nat.zero_le _,by simp⟩ aL ?_;rintro i ⟨hi,hs⟩;by_cases hlt:i<w.c.procs.length
 ·obtain ⟨x,hx⟩:=qGe (w.c.procs[i]);have hgx:w.c.procs[i]? = some x:=by rw [qGg hlt,hx]
  rw [CW _ _ _ hlt,hx] at hs;have hgl:(bN w.c.queues x.proc x.req.expr).length<=1000:=by
   have:=dE x.req.expr;simp [bN];omega
  cases hw:x.waiting with
  | false =>
   rw [show eP w.c.queues x=false by simp [eP,hw],qCf] at hs;have:=mq d w.c.queues x.proc x.req.expr;have:=vn d x.req.expr (bN w.c.queues x.proc x.req.expr) hgl;exact Q7
  | true =>
   cases hh:fu x.req.expr (bN w.c.queues x.proc x.req.expr) with
   | false =>
    rw [show eP w.c.queues x=false by simp [eP,hh],qCf] at hs;have:=mq d w.c.queues x.proc x.req.expr;have:=vn d x.req.expr (bN w.c.queues x.proc x.req.expr) hgl;exact Q7
   | true =>
    rw [show eP w.c.queues x=true by simp [eP,hw,hh],qCt] at hs;rw [<-hs];have:=mq d w.c.queues x.proc x.req.expr;have:=vn d x.req.expr (bN w.c.queues x.proc x.req.expr) hgl;refine ao ?_
    (refine cn (qf [(3,1),(4,2)]) ?_;exact ak)
 ·rw [<-hs,qDn (by omega),show fG w.c.queues i []=none from rfl];refine ao ?_
  (refine cn (qf [(3,1),(4,2)]) ?_;exact ak)
theorem Ba (l:List Pc) (d:Nat) (p:Pr):FSpec prog 149 [.one (.sl (wS d) l),.ag [.sc (.int .i64 p.site),.sc (.int .i64 p.inc),.sc (.int .i64 p.num)]] [] [] (.i (d8 p 0 l)) []:=by
 refine gN func149 rfl (fun b W=>by kernel_rfl) rfl (qNl rfl) ?_;refine aP (fun c ρ a w hr=>ck (t:=0) hr rfl) (fun hl=>?_);refine ao ?_;refine ab (fun i=>i<=l.length/\d8 p i (l.drop i)=d8 p 0 l) (fun i=>bC [3] [(0,.c (.sl (wS d) l)),(3,.c (.ptr 3 0)),(5,.i i)] [(3,.box 42 [.sc (.int .i64 p.site),.sc (.int .i64 p.inc),.sc (.int .i64 p.num)])]) (fun i=>l.length-i) 0 ⟨Nat.zero_le _,rfl⟩
  (by refine Hw (qf []) rfl ?_ ?_ <;> repeat' (first|exact trivial|exact ke rfl|exact ⟨_,rfl,gO rfl⟩|refine ⟨?_,?_⟩)) ?_
 rintro i ⟨hi,hs⟩;repeat' (first|refine az ?_ ?_|refine ay ?_|exact aA|refine ax fun hb=>?_)
 ·refine CE (.inr rfl) rfl rfl ?_;rw [<-hs,qDc (by omega)];simp [d8,hb]
 ·refine ⟨i+1,⟨by omega,?_⟩,by omega,?_⟩
  ·rw [<-hs,List.drop_eq_getElem_cons (i:=i) (by omega)];simp [d8,hb]
  ·refine Hw (qf []) rfl ?_ ?_ <;> repeat' (first|exact trivial|exact ke rfl|exact ⟨_,rfl,gO rfl⟩|refine ⟨?_,?_⟩)
 ·refine CE (.inr rfl) rfl rfl ?_;rw [<-hs,qDn (by omega)];rfl
def nS (x:Pc):Nd:=⟨x.proc,x.req.expr,x.gen⟩
def wG (c:Cs):Ws:=bif !dA c then ⟨[],[]⟩ else ⟨c.queues,(c.procs.filter (·.waiting)).map nS⟩
def wz (s:Ws) (p:Pr):Bool:=match lr s.needs p with
 | none=>true
 | some n=>fu n.expr (oq s p)
def iX (s:Ws):List Pr:=bif !bb s then [] else (aR s).filter (wz s)
def tu (p:Pr) (q:Qu):Qu:=bif dY q p then { (br q p).1 with gen:=q.gen } else q
def Gz (s:Ws) (p:Pr):Ws:=⟨s.queues.map (tu p),s.needs.filter fun n=>!decide (n.proc=p)⟩
def oH:Nat->Ws->List Pr×Ws
 | 0,s=>([],s)
 | n+1,s=>match iX s with
  | []=>([],s)
  | p :: _=>(p :: (oH n (Gz s p)).1,(oH n (Gz s p)).2)
def il (s:Ws):List Pr×List Pr:=bif !bb s then ([],[]) else ((oH (aR s).length s).1,aR (oH (aR s).length s).2)
theorem dU {s:Ws} (h:bb s=true):s.queues.length<=8/\s.needs.length<=8/\(∀q∈s.queues,fq q)/\(aR s).length<=8:=by
 unfold bb at h;simp only [qBa,decide_eq_true_eq] at h;obtain ⟨h1,h2⟩:=kK h.1.1.1;exact ⟨h1,h.1.1.2,h2,h.2⟩
def RedOk:Nat->Ws->Prop
 | 0,s=>bb s=true/\iX s=[]
 | n+1,s=>bb s=true/\∀p l,iX s=p :: l->RedOk n (Gz s p)
theorem RedOk.v {n:Nat} {s:Ws} (h:RedOk n s):bb s=true:=by cases n <;> exact h.1
theorem wA {n:Nat} {s:Ws} (h:iX s=[]):oH n s=([],s):=by
 cases n with
 | zero=>rfl
 | succ n=>unfold oH;rw [h]
theorem rt {n:Nat} {s:Ws} {p:Pr} {l:List Pr} (h:iX s=p :: l):oH (n+1) s=(p :: (oH n (Gz s p)).1,(oH n (Gz s p)).2):=by
 conv=>lhs;unfold oH
 rw [h]
theorem BN (q:Qu) (g:Int):∀(l:List Wt) (k:Nat),ui { q with gen:=g } k l=ui q k l
 | [],_=>rfl
 | x :: l,k=>by rw [jx,jx,BN q g l];rfl
theorem BO (q:Qu) (g:Int):∀(l:List Wt),tk { q with gen:=g } l=tk q l
 | []=>rfl
 | x :: l=>by rw [jy,jy,BO q g l]
theorem Oe (q:Qu) (g:Int):Fg { q with gen:=g } = Fg q:=by unfold Fg;dsimp only;rw [BN]
theorem Of (q:Qu) (g:Int):Fh { q with gen:=g } = Fh q:=by unfold Fh;dsimp only;rw [BO]
theorem th {q:Qu} {g:Int} (h:ai q=true) (h0:0<=g) (h1:g<=1073741824):ai { q with gen:=g } = true:=by
 have hs:eD { q with gen:=g } = (eD q || false):=by
  unfold ai at h;rw [qBa] at h;rw [h.1];have h2:=h.1;unfold eD at h2 ⊢;simp only [qBa,decide_eq_true_eq] at h2;show (ly q.res && qD q.res q.holds && Fg { q with gen:=g } && Fh { q with gen:=g } && decide (0<=g) && decide (g<=1073741824))=_;rw [qDt h0,qDt h1,h2.1.1.1.1.1,h2.1.1.1.1.2];have e1:Fg { q with gen:=g } = Fg q:=Oe q g;have e2:Fh { q with gen:=g } = Fh q:=Of q g;rw [e1,e2,h2.1.1.1.2,h2.1.1.2];rfl
 unfold ai at h ⊢;rw [hs,Bool.or_false];exact h
theorem ER (p:Pr) (q:Qu):(tu p q).res=(gz p q).res/\(tu p q).holds=(gz p q).holds/\(tu p q).convs=(gz p q).convs/\(tu p q).waits=(gz p q).waits:=by
 unfold tu gz;cases dY q p <;> exact ⟨rfl,rfl,rfl,rfl⟩
theorem Og (p:Pr) (q:Qu) (h:ai q=true):ai (tu p q)=true/\(tu p q).res=q.res:=by
 have ho:=(lf (p:=p) h).1;refine ⟨?_,(ER p q).1.trans ho.res⟩;have hg:=(aG h).gen;have hk:=ho.ok;unfold tu;unfold gz at hk;cases hh:dY q p with
 | false=>exact h
 | true =>
  rw [hh] at hk;exact th hk hg.1 hg.2
theorem GA (p:Pr) (q:Qu):dW (tu p q)=dW (gz p q):=by
 obtain ⟨_,h2,h3,h4⟩:=ER p q;unfold dW nu;rw [h2,h3,h4]
theorem zx (p:Pr):∀t:List Qu,iD (t.map (tu p))=iD (t.map (gz p))
 | []=>rfl
 | q :: t=>by
  show dW (tu p q)++iD (t.map (tu p))=dW (gz p q)++iD (t.map (gz p));rw [GA,zx p t]
theorem mC {s:Ws} (h:bb s=true):eV s.queues=true:=by
 obtain ⟨_,_,_,h8⟩:=dU h;have hp:cM s.queues=true:=by unfold bb at h;simp only [qBa] at h;exact h.1.1.1
 unfold eV;rw [hp,Bool.true_and,decide_eq_true_eq];have:=el (fa s.queues) (m:=aR s) fun x hx=>by
  unfold aR;rw [bf];exact List.mem_append.2 (.inl hx)
 omega
theorem im (s:Ws):(aR s).Nodup:=by
 refine (iq _).imp ?_;intro a b hab e;subst e;exact bz _ hab
theorem ET {o:Option Pr} {y:Pr} (h:CT o y=true):∀l:List Nd,oo (some y) l=true->oo o l=true
 | [],_=>rfl
 | z :: l,k=>by
  rw [fd,qBa,qBa] at k ⊢;refine ⟨⟨k.1.1,?_⟩,k.2⟩;have h2:bH y z.proc<0:=of_decide_eq_true k.1.2;cases o with
  | none=>rfl
  | some x =>
   have h1:bH x y<0:=of_decide_eq_true h;exact qDt ((eX _ _).2 (cq ((eX _ _).1 h1) ((eX _ _).1 h2)))
theorem np (f:Nd->Bool):∀(l:List Nd) (o:Option Pr),oo o l=true->oo o (l.filter f)=true
 | [],_,h=>h
 | x :: l,o,h=>by
  rw [fd,qBa,qBa] at h;rw [List.filter_cons];cases hf:f x with
  | true =>
   rw [if_pos rfl,fd,qBa,qBa];exact ⟨h.1,np f l _ h.2⟩
  | false =>
   rw [if_neg (by decide)];exact np f l o (ET h.1.2 l h.2)
theorem JI {s:Ws} {p:Pr} (h:bb s=true) (hp:p∈aR s):bb (Gz s p)=true/\(aR (Gz s p)).length<(aR s).length:=by
 have htv:=mC h;obtain ⟨htp,hnp⟩:=m9 htv p;have e:(bM s.queues p).1=s.queues.map (gz p):=by
  unfold bM;rw [htv];exact jd p s.queues
 rw [e] at htp hnp;have hpt:aD (s.queues.map (tu p))=aD (s.queues.map (gz p)):=by unfold aD;rw [zx]
 have hsub:∀x∈p :: aR (Gz s p),x∈aR s:=by
  intro x hx;rcases List.mem_cons.1 hx with rfl|hx
  ·exact hp
  ·unfold aR at hx ⊢;rw [bf] at hx ⊢;rcases List.mem_append.1 hx with hx|hx
   ·have hx:x∈aD (s.queues.map (tu p)):=hx;rw [hpt] at hx;rcases htp.sub x hx with e|e
    ·subst e;unfold aR at hp;rw [bf] at hp;exact hp
    ·exact List.mem_append.2 (.inl e)
   ·obtain ⟨n,hn,rfl⟩:=List.mem_map.1 hx;exact RA
 have hpn:p ∉ aR (Gz s p):=by
  intro hx;unfold aR at hx;rw [bf] at hx;rcases List.mem_append.1 hx with hx|hx
  ·have hx:p∈aD (s.queues.map (tu p)):=hx;rw [hpt] at hx;exact hnp hx
  ·obtain ⟨n,hn,he⟩:=List.mem_map.1 hx;have:=(List.mem_filter.1 hn).2;rw [qDt he] at this;cases this
 have hlen:=el (List.nodup_cons.2 ⟨hpn,im (Gz s p)⟩) hsub;rw [List.length_cons] at hlen;refine ⟨?_,by omega⟩;obtain ⟨_,hn8,_,h8⟩:=dU h;unfold bb at h ⊢;simp only [qBa,decide_eq_true_eq] at h ⊢;refine ⟨⟨⟨?_,?_⟩,np _ _ _ h.1.2⟩,by omega⟩
 ·have h1:=h.1.1.1;unfold cM at h1 ⊢;simp only [qBa,decide_eq_true_eq] at h1 ⊢;exact ⟨by show (s.queues.map (tu p)).length<=8;simpa using h1.1,pD (Og p) h1.2⟩
 ·have:=List.length_filter_le (fun n:Nd=>!decide (n.proc=p)) s.needs;show (s.needs.filter _).length<=8;omega
theorem pY {s:Ws} {p:Pr} {l:List Pr} (h:iX s=p :: l):bb s=true/\p∈aR s:=by
 unfold iX at h;cases hv:bb s with
 | false=>rw [hv] at h;cases h
 | true =>
  rw [hv] at h;have h:(aR s).filter (wz s)=p :: l:=h;have:p∈(aR s).filter (wz s):=by rw [h];simp
  exact ⟨rfl,(List.mem_filter.1 this).1⟩
theorem EU:∀(n:Nat) (s:Ws),bb s=true->(aR s).length<=n->RedOk n s
 | 0,s,h,hn=>by
  refine ⟨h,?_⟩;cases hF:iX s with
  | nil=>rfl
  | cons p l =>
   have:=(pY hF).2;rw [List.length_eq_zero_iff.1 (Nat.le_zero.1 hn)] at this;cases this
 | n+1,s,h,hn=>⟨h,fun p l hF=>by
  obtain ⟨h1,h2⟩:=JI h (pY hF).2;exact EU n _ h1 (by omega)⟩
theorem Dq (s:Ws) (p:Pr):(oq s p).length<=8:=by
 unfold oq;cases lr s.needs p with
 | none=>simp
 | some x =>
  have:=dE x.expr;cases bb s <;> simp
  exact this
theorem Oi (d:Nat) (s:Ws) (p:Pr) {b:Bool} (hb0:wz s p=b):FSpec prog 130 [s.a d,p.a] [] [] (.b b) []:=by
 refine aS func130 ?_;unfold wz at hb0;cases hr:lr s.needs p with
 | none =>
  rw [hr] at hb0;obtain rfl:b=true:=hb0.symm;have kN:=vw d s p hr;exact QY
 | some n =>
  rw [hr] at hb0;have kN:=vw d s p hr;have kG:=FU d s p;have kH:=vn d n.expr (oq s p) (by have:=Dq s p;omega);have hb0:fu n.expr (oq s p)=b:=hb0;rw [hb0] at kH;exact QY
theorem JJ (d:Nat) (s:Ws) {F:List Pr} (hF:iX s=F):FSpec prog 56 [s.a d] [] [] (.c (.sl eh F)) []:=by
 refine aS func56 ?_;unfold iX at hF;have kV:=mV d s;obtain ⟨v,hv⟩:=qGe (bb s);rw [hv] at kV hF;cases v with
 | false =>
  obtain rfl:F=[]:=hF.symm;exact QY
 | true =>
  obtain ⟨h1,h2,h3,h8⟩:=dU hv;have kP:=tU d s (by omega) (by omega) h3;rw [Bool.not_true,qCf] at hF;obtain ⟨L,hL⟩:=qGe (aR s);rw [hL] at kP hF h8;refine ao ?_;refine bK 3 1000 42 eh rfl rfl rfl ?_;refine ab (fun y:Nat×List Pr=>y.1<=L.length/\y.2.length<=y.1/\y.2++(L.drop y.1).filter (wz s)=F) (fun y=>bC [1,1000] [(1,.c (.ptr 1 0)),(3,.c (.own 1000)),(4,.c (.sl eh L)),(5,.i y.1)] [(1,.box 28 (s.d d)),(1000,.arr 42 eh y.2)]) (fun y=>L.length-y.1) (0,[]) ⟨Nat.zero_le _,Nat.le_refl _,hF⟩ aL ?_;clear hF;rintro ⟨i,T⟩ ⟨hi,hTl,hs⟩;dsimp only at *
  by_cases hlt:i<L.length
  ·obtain ⟨x,hx⟩:∃x,L[i]? = some x:=⟨_,qGg hlt⟩;have ex:=qGs hx;rw [qDc hlt,ex,List.filter_cons] at hs;obtain ⟨f,hf⟩:=qGe (wz s x);have k1:=Oi d s x hf;rw [hf] at hs;cases f with
   | true =>
    rw [if_pos rfl] at hs;repeat' (first|refine az ?_ ?_|(refine aa 8 rfl ?_;refine aK (ae rfl rfl (av rfl rfl) (aB [x] rfl rfl rfl rfl) rfl aE aE) rfl rfl rfl ?_)|refine aa 9 rfl (cC [] k1 ?_)|refine ay ?_|exact aA|refine ax fun hb=>?_)
    refine ⟨(i+1,T++[x]),⟨by dsimp only;omega,by simp;omega,?_⟩,by dsimp only;omega,?_⟩
    ·exact Ry
    ·exact a8 (qf [(1000,29)])
   | false =>
    rw [if_neg (by decide)] at hs;exact Rl
  ·rw [qDn (by omega)] at hs;obtain rfl:T=F:=by rw [<-hs];simp
   exact QY
theorem JK (d:Nat) (s:Ws) (p:Pr) (h1:s.queues.length<=100000) (h2:s.needs.length<=100000) {R:Ws} (hR:Gz s p=R):FSpec prog 57 [s.a d,p.a] [] [] (.v (R.a d)) []:=by
 refine aS func57 ?_;obtain ⟨Q,hQ⟩:=qGe (s.queues.map (tu p));obtain ⟨N,hN⟩:∃N,s.needs.filter (fun n=>!decide (n.proc=p))=N:=⟨_,rfl⟩;obtain rfl:R=⟨Q,N⟩:=by rw [<-hR,<-hQ,<-hN];rfl
 clear hR;refine ao ?_;refine eG 5 0 1000 78 ic rfl rfl rfl rfl ?_;refine ab (fun y:Nat×List Qu=>y.1<=s.queues.length/\y.2.length=y.1/\y.2++(s.queues.drop y.1).map (tu p)=Q) (fun y=>bC [2,3,4,5,1000] [(2,.c (.ptr 2 0)),(3,.c (.ptr 3 0)),(4,.c (.ptr 4 0)),(5,.c (.ptr 5 0)),(6,.i y.1)] [(2,.box 28 (s.d d)),(3,.box 42 [.sc (.int .i64 p.site),.sc (.int .i64 p.inc),.sc (.int .i64 p.num)]),(4,.box 28 [.sc (.slice none 0 0),.sc (.slice none 0 0)]),(5,.box 28 [.own 1000,.sc (.slice none 0 0)]),(1000,.arr 78 ic y.2)]) (fun y=>s.queues.length-y.1) (0,[]) ⟨Nat.zero_le _,rfl,hQ⟩ aL ?_;clear hQ;rintro ⟨i,T⟩ ⟨hi,hTl,hs⟩;dsimp only at *
 by_cases hlt:i<s.queues.length
 ·obtain ⟨q,hq⟩:∃q,s.queues[i]? = some q:=⟨_,qGg hlt⟩;have eq:=qGs hq;rw [qDc hlt,eq,List.map_cons] at hs;have kH:=FV q p;obtain ⟨b,hb0⟩:=qGe (dY q p);rw [hb0] at kH;cases b with
  | false =>
   rw [show tu p q=q by unfold tu;rw [hb0];rfl] at hs;repeat' (first|refine az ?_ ?_|(refine aa 8 rfl ?_;refine aK (ae rfl rfl (av rfl rfl) (aB [q] rfl rfl rfl rfl) rfl aE aE) rfl rfl rfl ?_)|refine aa 9 rfl (cB [] kH ?_)|refine ay ?_|exact aA|refine ax fun hb=>?_)
   refine ⟨(i+1,T++[q]),⟨by dsimp only;omega,by simp [hTl],?_⟩,by dsimp only;omega,?_⟩
   ·exact Ry
   ·exact a8 (qf [(1000,42)])
  | true =>
   obtain ⟨G,hG⟩:=qGe (br q p);have kR:=vz q p hG;rw [show tu p q = { G.1 with gen:=q.gen } by unfold tu;rw [hb0,hG];rfl] at hs;repeat' (first|refine az ?_ ?_|(refine aa 8 rfl ?_;refine aK (ae rfl rfl (av rfl rfl) (aB [{ G.1 with gen:=q.gen }] rfl rfl rfl rfl) rfl aE aE) rfl rfl rfl ?_)|(refine aa 9 rfl ?_;first|(refine cB [] kH ?_)|(refine cC [] kR ?_))|refine ay ?_|exact aA|refine ax fun hb=>?_)
   refine ⟨(i+1,T++[{ G.1 with gen:=q.gen }]),⟨by dsimp only;omega,by simp [hTl],?_⟩,by dsimp only;omega,?_⟩
   ·exact Ry
   ·exact a8 (qf [(1000,42)])
 rw [qDn (by omega)] at hs;obtain rfl:T=Q:=by rw [<-hs];simp
 clear hTl;refine ao ?_;refine eG 5 1 1001 68 (B9 d) rfl rfl rfl rfl ?_;refine ab (fun y:Nat×List Nd=>y.1<=s.needs.length/\y.2.length<=y.1/\y.2++(s.needs.drop y.1).filter (fun n=>!decide (n.proc=p))=N) (fun y=>bC [2,3,4,5,1000,1001] [(2,.c (.ptr 2 0)),(3,.c (.ptr 3 0)),(4,.c (.ptr 4 0)),(5,.c (.ptr 5 0)),(11,.i y.1)] [(2,.box 28 (s.d d)),(3,.box 42 [.sc (.int .i64 p.site),.sc (.int .i64 p.inc),.sc (.int .i64 p.num)]),(4,.box 28 [.sc (.slice none 0 0),.sc (.slice none 0 0)]),(5,.box 28 [.own 1000,.own 1001]),(1000,.arr 78 ic T),(1001,.arr 68 (B9 d) y.2)]) (fun y=>s.needs.length-y.1) (0,[]) ⟨Nat.zero_le _,Nat.le_refl _,hN⟩ aL ?_;clear hN;rintro ⟨i,M⟩ ⟨hi,hMl,hs⟩;dsimp only at *
 by_cases hlt:i<s.needs.length
 ·obtain ⟨x,hx⟩:∃x,s.needs[i]? = some x:=⟨_,qGg hlt⟩;have ex:=qGs hx;rw [qDc hlt,ex,List.filter_cons] at hs;by_cases hp:x.proc=p
  ·rw [qDt hp,if_neg (by decide)] at hs;refine ao ?_;refine ⟨(i+1,M),⟨by dsimp only;omega,by dsimp only;omega,hs⟩,by dsimp only;omega,?_⟩;exact aL
  ·rw [qDf hp,if_pos (by decide)] at hs;repeat' (first|refine az ?_ ?_|(refine aa 8 rfl ?_;refine aK (ae rfl rfl (av rfl rfl) (aB [x] rfl rfl rfl rfl) rfl aE aE) rfl rfl rfl ?_)|refine ay ?_|exact aA|(refine ax fun hb=>?_;first|(exact absurd hb hp)|skip))
   refine ⟨(i+1,M++[x]),⟨by dsimp only;omega,by simp;omega,?_⟩,by dsimp only;omega,?_⟩
   ·exact Ry
   ·exact a8 (qf [(1001,67)])
 ·rw [qDn (by omega)] at hs;obtain rfl:M=N:=by rw [<-hs];simp
  exact QY
theorem LX (d:Nat) (s:Ws) (n:Nat) (hn:n<=1000) (hok:RedOk n s) {R:List Pr×Ws} (hR:oH n s=R):FSpec prog 14 [s.a d] [] [] (.tup [.one (.sl eh R.1),.one (.sl eh (aR R.2))]) []:=by
 refine aS func14 ?_;have hv:=hok.v;have kV:=mV d s;rw [hv] at kV;obtain ⟨F,hF⟩:=qGe (iX s);have kF:=JJ d s hF;refine ao ?_;refine bK 4 1000 42 eh rfl rfl rfl ?_;refine ab (fun y:Nat×Ws×List Pr×List Pr=>iX y.2.1=y.2.2.1/\RedOk y.1 y.2.1/\y.2.2.2.length+y.1<=1000/\(y.2.2.2++(oH y.1 y.2.1).1,(oH y.1 y.2.1).2)=R) (fun y=>bC [1,1000] [(1,.c (.ptr 1 0)),(4,.c (.own 1000)),(5,.c (.sl eh y.2.2.1))] [(1,.box 28 (y.2.1.d d)),(1000,.arr 42 eh y.2.2.2)]) (fun y=>y.1) (n,s,F,[]) ⟨hF,hok,by dsimp only;simp;omega,by rw [<-hR];simp⟩ aL ?_;clear hR hok kF hF kV hv s F hn n;rintro ⟨m,s,F,T⟩ ⟨hF,hok,hT,hs⟩;dsimp only at *
 have hv:=hok.v;obtain ⟨h1,h2,h3,h8⟩:=dU hv;cases F with
 | nil =>
  rw [wA hF] at hs;obtain rfl:R=(T,s):=by rw [<-hs];simp
  have kP:=tU d s (by omega) (by omega) h3;refine ao ?_
  (refine gG (qf []) ?_;exact ak)
 | cons p l =>
  cases m with
  | zero=>rw [hok.2] at hF;cases hF
  | succ m =>
   have hnx:=hok.2 p l hF;rw [rt hF] at hs;obtain ⟨W,hW⟩:=qGe (Gz s p);have kW:=JK d s p (by omega) (by omega) hW;rw [hW] at hs hnx;obtain ⟨F,hF2⟩:=qGe (iX W);have kF:=JJ d W hF2;have h0:(p :: l)[(0:Int).toNat]? = some p:=rfl;have hl:0<(p :: l).length:=by simp
   repeat' (first|refine az ?_ ?_|(refine aa 8 rfl ?_;refine aK (ae rfl rfl (av rfl rfl) (aB [p] rfl rfl rfl rfl) rfl aE aE) rfl rfl rfl ?_)|(refine aa 9 rfl ?_;first|(refine cC [] kW ?_)|(refine cC [] kF ?_))|refine ay ?_|exact aA|refine ax fun hb=>?_)
   refine ⟨(m,W,F,T++[p]),⟨hF2,hnx,by simp;omega,?_⟩,by dsimp only;omega,?_⟩
   ·exact Ry
   ·exact a8 (qf [(1000,21)])
instance:ST prog eI 112 4 1:=⟨ElTB.mk' underlying112 (.bool false) 1 1 (by kernel_rfl) rfl rfl⟩
def tj (n:ByteArray):Nat->List Tm->Int
 | _,[]=>-1
 | k,a :: l=>bif aV a.name n then (k:Int) else tj n (k+1) l
theorem Dv (n:ByteArray):∀(l:List Tm) (k:Nat),tj n k l = -1\/(k:Int)<=tj n k l
 | [],_=>.inl rfl
 | a :: l,k=>by
  unfold tj;cases aV a.name n with
  | true=>exact .inr (Int.le_refl _)
  | false =>
   rw [qCf];rcases Dv n l (k+1) with h|h
   ·exact .inl h
   ·exact .inr (by omega)
theorem zz (n:ByteArray):∀(l:List Tm) (k:Nat) (a:Tm),a∈l->a.name=n->0<=tj n k l
 | b :: l,k,a,ha,e=>by
  unfold tj;cases hb:aV b.name n with
  | true=>rw [qCt];omega
  | false =>
   rw [qCf];rcases List.mem_cons.1 ha with rfl|ha
   ·exact absurd e (cb.1 hb)
   ·exact zz n l (k+1) a ha e
def iY (p:Pr) (q:Qu):Qu:=bif decide ((bd q p).2.2=0) then (bd q p).1 else q
def tw (p:Pr) (q:Qu) (a:Am):Qu:=bif !decide (af q.holds p=a) && decide ((aY q p a).2.2=0) then (aY q p a).1 else q
def wZ (p:Pr):List Tm->Qu->Qu
 | [],q=>q
 | a :: l,q=>wZ p l (bif aV a.name q.res.name then tw p q a.am else q)
def iZ (o:Opn) (q:Qu):Qu:={ wZ o.proc o.lower (iY o.proc q) with gen:=q.gen }
theorem Oo {q:Qu} (h:ai q=true) (p:Pr):decide ((bd q p).2.2=0)=(ah q p).isSome:=by
 cases hw:(ah q p).isSome with
 | true=>exact qDt (km h hw)
 | false =>
  refine qDf fun e=>?_;have:=(nJ e).2.1;rw [hw] at this;cases this
theorem JZ (p:Pr) (q:Qu) (a:Am):(tw p q a).res=q.res:=by
 unfold tw;by_cases h:(aY q p a).2.2=0
 ·rw [qDt h];cases decide (af q.holds p=a) with
  | true=>rfl
  | false=>exact (kq h).1.res
 ·rw [qDf h,Bool.and_false,qCf]
theorem ru (p:Pr):∀{l:List Tm} {q:Qu},(∀a∈l,a.name≠q.res.name)->wZ p l q=q
 | [],_,_=>rfl
 | a :: l,q,h=>by
  unfold wZ;rw [cb.2 (h a (by simp)),qCf];exact ru p fun b hb=>h b (by simp [hb])
theorem t6 (p:Pr):∀{l:List Tm} {q:Qu},(l.Pairwise fun a b=>a.name≠b.name)->∀{k i:Nat},tj q.res.name k l=((k+i:Nat):Int)->∃a,l[i]? = some a/\wZ p l q=tw p q a.am
 | [],q,_,k,i,h=>by unfold tj at h;omega
 | a :: l,q,hp,k,i,h=>by
  obtain ⟨h1,h2⟩:=List.pairwise_cons.1 hp;unfold tj at h;unfold wZ;cases hn:aV a.name q.res.name with
  | true =>
   rw [hn,qCt] at h;obtain rfl:i=0:=by omega
   rw [qCt];refine ⟨a,rfl,?_⟩;refine ru p fun b hb e=>h1 b hb ?_;rw [aZ.1 hn,e,JZ]
  | false =>
   rw [hn,qCf] at h;rw [qCf];cases i with
   | zero =>
    exfalso;have:=Dv q.res.name l (k+1);omega
   | succ i =>
    obtain ⟨b,hb,he⟩:=t6 p h2 (k:=k+1) (i:=i) (by rw [h];omega);exact ⟨b,by rw [List.getElem?_cons_succ];exact hb,he⟩
theorem zA (p:Pr) {l:List Tm} {q:Qu} (h:tj q.res.name 0 l<0):wZ p l q=q:=by
 refine ru p fun a ha e=>?_;have:=zz q.res.name l 0 a ha e;omega
structure Apl (q q':Qu) (p:Pr):Prop where
 ok:ai q'=true
 res:q'.res=q.res
 gen:q'.gen=q.gen
 eff:∀r,r≠p->Eff q q' r
 wan:ah q' p=none
 own:af q'.holds p=af q.holds p\/(af q.holds p≠⟨0,0⟩/\bc q.res (af q.holds p) (af q'.holds p)=true)
theorem BW {q:Qu} (h:ai q=true) (p:Pr):Out q (iY p q) p/\af (iY p q).holds p=af q.holds p/\ah (iY p q) p=none:=by
 unfold iY;rw [Oo h];cases hw:(ah q p).isSome with
 | true=>exact sL (km h hw)
 | false=>exact ⟨Out.same p h,rfl,Option.isNone_iff_eq_none.1 (by simpa using hw)⟩
theorem J0 {q:Qu} (h:ai q=true) {p:Pr} (hw:ah q p=none) (a:Am):Out q (tw p q a) p/\ah (tw p q a) p=none/\(af (tw p q a).holds p=af q.holds p\/(af q.holds p≠⟨0,0⟩/\bc q.res (af q.holds p) (af (tw p q a).holds p)=true)):=by
 unfold tw;by_cases he:(aY q p a).2.2=0
 ·rw [qDt he];cases decide (af q.holds p=a) with
  | true=>exact ⟨Out.same p h,hw,.inl rfl⟩
  | false =>
   obtain ⟨h1,h2,h3⟩:=kq he;obtain ⟨_,h0,_,hc,_⟩:=ko he;exact ⟨h1,h3,.inr ⟨h0,by show bc q.res _ (af (aY q p a).1.holds p)=true;rw [h2];exact hc⟩⟩
 ·rw [qDf he,Bool.and_false,qCf];exact ⟨Out.same p h,hw,.inl rfl⟩
theorem p6:∀{l:List Tm} {o:Option ByteArray},vT o l=true->(l.Pairwise fun a b=>a.name≠b.name)/\∀n,o=some n->∀a∈l,fT n a.name=true
 | [],_,_=>⟨List.Pairwise.nil,fun _ _ a ha=>absurd ha (by simp)⟩
 | a :: l,o,h=>by
  rw [ng] at h;simp only [qBa] at h;obtain ⟨i1,i2⟩:=p6 h.2;refine ⟨List.pairwise_cons.2 ⟨fun b hb e=>?_,i1⟩,fun n hn b hb=>?_⟩
  ·have:=i2 a.name rfl b hb;rw [<-e,dh] at this;cases this
  ·subst hn;rcases List.mem_cons.1 hb with rfl|hb
   ·exact h.1.2
   ·exact dS h.1.2 (i2 a.name rfl b hb)
theorem jV {o:Opn} (ho:iT o=true) {q:Qu} (h:ai q=true):Apl q (iZ o q) o.proc:=by
 have hasc:o.lower.Pairwise fun a b=>a.name≠b.name:=by
  unfold iT at ho;simp only [qBa] at ho;exact (p6 ho.2).1
 obtain ⟨c1,c2,c3⟩:=BW h o.proc;have hg:=(aG h).gen;have fin:∀q2:Qu,Out (iY o.proc q) q2 o.proc->ah q2 o.proc=none->(af q2.holds o.proc=af (iY o.proc q).holds o.proc\/(af (iY o.proc q).holds o.proc≠⟨0,0⟩/\bc (iY o.proc q).res (af (iY o.proc q).holds o.proc) (af q2.holds o.proc)=true))->Apl q { q2 with gen:=q.gen } o.proc:=fun q2 k1 k2 k3=>by
  have ht:=c1.trans k1;rw [c2,c1.res] at k3;exact ⟨th k1.ok hg.1 hg.2,ht.res,rfl,ht.eff,k2,k3⟩
 unfold iZ;by_cases hn:tj (iY o.proc q).res.name 0 o.lower<0
 ·rw [zA o.proc hn];exact fin _ (Out.same _ c1.ok) c3 (.inl rfl)
 ·obtain ⟨a,_,e⟩:=t6 o.proc (q:=iY o.proc q) hasc (k:=0) (i:=(tj (iY o.proc q).res.name 0 o.lower).toNat) (by omega);rw [e];obtain ⟨k1,k2,k3⟩:=J0 c1.ok c3 a.am;exact fin _ k1 k2 k3
def i6 (s:Ws) (o:Opn):Ws:=⟨s.queues.map (iZ o),s.needs.filter fun n=>!decide (n.proc=o.proc)⟩
def Oq:Ws:=⟨[],[]⟩
def Dz (s:Ws) (o:Opn):Ws×Int:=bif !bb s then (Oq,2) else bif !iT o then (Oq,1) else bif !decide (o.proc∈aR s) then (Oq,10) else (i6 s o,0)
theorem E0 {s:Ws} {o:Opn} (h:bb s=true) (ho:iT o=true) (hp:o.proc∈aR s):Dz s o=(i6 s o,0):=by
 unfold Dz;rw [h,ho,qDt hp];rfl
theorem GH (p:Pr) (q:Qu) (a:Am):(bif !decide (af q.holds p=⟨0,0⟩) && !decide (af q.holds p=a) && bc q.res (af q.holds p) a then (bif decide ((aY q p a).2.2=0) then (aY q p a).1 else q) else q)=tw p q a:=by
 unfold tw;by_cases he:(aY q p a).2.2=0
 ·obtain ⟨_,h0,_,hc,_⟩:=ko he;rw [qDt he,hc,qDf h0];cases decide (af q.holds p=a) <;> rfl
 ·rw [qDf he,Bool.and_false,qCf];cases !decide (af q.holds p=⟨0,0⟩) && !decide (af q.holds p=a) && bc q.res (af q.holds p) a <;> rfl
end Go.Proofs.YtkkbopkbjacfmaaGreatDoor
