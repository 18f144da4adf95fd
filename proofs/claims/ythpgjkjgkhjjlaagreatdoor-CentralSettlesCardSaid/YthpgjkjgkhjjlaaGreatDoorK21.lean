/- Part K21 of a proof of statements of chapter 15 (no condition). -/
import Derived.Test.YthpgjkjgkhjjlaaGreatDoorK19
import Derived.Test.YthpgjkjgkhjjlaaGreatDoorK20
set_option linter.unusedVariables false
set_option linter.unusedSimpArgs false
set_option maxRecDepth 100000
set_option maxHeartbeats 64000000
namespace Go.Proofs.YthpgjkjgkhjjlaaGreatDoor
open Go.RowKit Go.Proofs.Tryz
instance:ST prog eh 29 66 120:=⟨ElTB.mk' underlying29 (.agg #[.string { data:=#[] },.int .i64 0,.int .i64 0,.int .i64 0,.slice none 0 0,.slice none 0 0,.slice none 0 0,.int .i64 0]) 8 120 (by kernel_rfl) rfl rfl⟩
theorem Eu {t:List Qu} (h:gu t=true):t.length<=8/\∀q∈t,ay q=true:=by
 unfold gu at h;rw [qBa,decide_eq_true_eq] at h;exact ⟨h.1,yq h.2⟩
theorem df {q:Qu} (h:ay q=true):fU q:=by
 have hs:=aP h;exact ⟨hs.hv.len,hs.clen,by have:=hs.wlen;omega⟩
theorem eB (t:List Qu):FSpec prog 86 [.one (.sl eh t)] [] [] (.b (di t)) []:=by
 refine a7 func86 ?_;cases hP:gu t with
 | false =>
  have:=LU t;refine ao ?_;refine eU ?_;simp [di,hP]
 | true =>
  obtain ⟨hm,h8⟩:=Eu hP;have:=LU t;have:=pY t (by omega) (fun q hq=>df (h8 q hq));refine ao ?_;refine eU ?_;simp [di,hP];try omega
theorem ob (n:ByteArray) (l:List Ho) (hl:l.length<=100000):FSpec prog 230 [.one (.sc (.string n)),.one (.sl gM l)] [] [] (.c (.sl fX (aJ n l))) []:=by
 refine a7 func230 ?_;refine ao ?_;refine cj 5 1000 68 fX rfl rfl rfl ?_;refine ab (fun i=>i<=l.length) (fun i=>bP [1000] [(0,.c (.sc (.string n))),(1,.c (.sl gM l)),(5,.c (.own 1000)),(6,.i i)] [(1000,.arr 68 fX (aJ n (l.take i)))]) (fun i=>l.length-i) 0 (Nat.zero_le _) aT ?_;intro i hi;have hlen:(aJ n (l.take i)).length=i:=by simp [aJ,Nat.min_eq_left hi]
 repeat' (first|refine av ?_ ?_|(refine aa 8 rfl ?_;refine be (ae rfl rfl (aH rfl rfl) (aN [⟨1,(l[i]'(by omega)).proc,n,(l[i]'(by omega)).am⟩] rfl rfl rfl rfl) rfl aQ aQ) rfl rfl rfl ?_)|refine aq ?_|exact aw|refine ap fun hb=>?_)
 ·refine ⟨i+1,by omega,by omega,?_⟩;have e:aJ n (l.take (i+1))=aJ n (l.take i)++[⟨1,(l[i]'(by omega)).proc,n,(l[i]'(by omega)).am⟩]:=by
   unfold aJ;exact Va
  rw [e];exact bo (qf [(1000,27)])
 ·have e:aJ n (l.take i)=aJ n l:=by rw [List.take_of_length_le (by omega)]
  rw [<-e];exact U4
theorem p9 (t:List Qu) (i:Nat) (q:Qu) (hi:i<t.length) (hl:t.length<=100000):FSpec prog 229 [.one (.sl eh t),.one (.sc (.int .i64 i)),q.a] [] [] (.c (.sl eh (t.set i q))) []:=by
 refine a7 func229 ?_;repeat' (first|refine av ?_ ?_|refine aq ?_|(refine aa 4 rfl ?_;refine a8 (ak (z:=q) rfl rfl rfl rfl (by first|assumption|exact qGg (by omega)) rfl rfl rfl rfl (qNl rfl) rfl rfl) rfl rfl rfl ?_)|exact aw|refine ap fun hb=>?_|exact bg|fail)
theorem A7:∀(n:Nat) (q:Qu) (acc:List Ho),(eO n q acc).2.length<=acc.length+n
 | 0,q,acc=>Nat.le_refl _
 | n+1,q,acc=>by
  unfold eO;cases dD q with
  | none=>dsimp only;omega
  | some x =>
   dsimp only;cases gO q.res q.holds x.proc x.am with
   | true =>
    have:=A7 n (g9 q x) (acc++[⟨x.proc,x.am⟩]);simp at this ⊢;omega
   | false=>simp
theorem qa (q:Qu):(dB q).2.length<=q.convs.length+q.waits.length:=by
 have:=A7 (fQ q) q [];simpa [dB,mW,fQ] using this
theorem Me (l:List Wt) (w:Wt):(jZ l w).2.length<=l.length+1:=by
 unfold jZ;cases fc l <;> cases (uO w && decide (w.passed=0)) <;> cases decide (0<=eH l w.proc) <;> cases decide (l.length=8) <;> simp [DQ]
theorem oZ {q:Qu} (h:ay q=true) (p:Pr) (a:Am) (prio:Int):(bL q p a prio).2.1.length<=17:=by
 have hs:=aP h;have h2:=hs.clen;have h3:=hs.wlen;unfold bL;have e1:=qa { q with convs:=q.convs++[⟨p,cn q.res (ah q.holds p) a,0,0⟩] };have e2:=qa { q with waits:=(jZ q.waits ⟨p,a,prio,0⟩).2 };have e3:=Me q.waits ⟨p,a,prio,0⟩;simp only [List.length_append,List.length_cons,List.length_nil] at e1 e2;exact Vl
theorem nc {q:Qu} (h:ay q=true) (p:Pr):(bB q p).2.1.length<=17:=by
 have hs:=aP h;have h2:=hs.clen;have h3:=hs.wlen;have e1:=qa { q with convs:=cq q.convs p,waits:=cq q.waits p };have e2:=kz q.convs p;have e3:=kz q.waits p;dsimp only at e1;unfold bB;exact Vl
theorem o0 {q:Qu} (h:ay q=true) (p:Pr) (a:Am):(bE q p a).2.1.length<=17:=by
 have hs:=aP h;have h2:=hs.clen;have h3:=hs.wlen;have e1:=qa { q with holds:=cw q.holds p a };dsimp only at e1;unfold bE;exact Vl
theorem ng {q:Qu} (h:ay q=true) (p:Pr):(aU q p).2.1.length<=17:=by
 have hs:=aP h;have h2:=hs.clen;have h3:=hs.wlen;have e1:=qa { q with holds:=cw q.holds p ⟨0,0⟩,convs:=cq q.convs p,waits:=cq q.waits p };have e2:=kz q.convs p;have e3:=kz q.waits p;dsimp only at e1;unfold aU;exact Vl
def JU (R:List Qu×List Ev×Int):TV:=.tup [.one (.sl eh R.1),.one (.sl fX R.2.1),.one (.sc (.int .i64 R.2.2))]
theorem dy (l:List Qu) (n:ByteArray) {k:Int} (h:bG n 0 l=k):FSpec prog 22 [.one (.sl eh l),.one (.sc (.string n))] [] [] (.i k) []:=h▸sw l n
theorem eC {t:List Qu} {n:ByteArray} (h:¬bG n 0 t<0):∃i,∃hi:i<t.length,bG n 0 t=(i:Int)/\t.getD (gR t n) jj=t[i]/\gR t n=i:=by
 obtain ⟨i,hi,h1,_⟩:=lO (Int.not_lt.1 h);have h2:bG n 0 t=(i:Int):=by rw [h1];simp
 refine ⟨i,hi,h2,?_,?_⟩
 ·unfold gR;rw [h2];simp [List.getD_eq_getElem?_getD,hi]
 ·unfold gR;rw [h2];rfl
theorem Ew (t:List Qu) (p:Pr) (n:ByteArray) {R:List Qu×List Ev×Int} (hR:bv t p n=R):FSpec prog 231 [.one (.sl eh t),p.a,.one (.sc (.string n))] [] [] (JU R) []:=by
 refine a7 func231 ?_;cases hV:di t with
 | false =>
  obtain rfl:R=dE 2:=by rw [<-hR];simp [bv,hV]
  have:=eB t;refine ao ?_
  (refine dP (qf []) ?_;exact af)
 | true =>
  have hm:=(bi hV).1;by_cases hf:bG n 0 t<0
  case pos =>
   obtain rfl:R=dE 10:=by rw [<-hR];simp [bv,hV,hf]
   have:=eB t;have:=sw t n;refine ao ?_
   (refine dP (qf []) ?_;exact af)
  obtain ⟨i,hi,hF,hq,hx⟩:=eC hf;have hS:=cP hV (List.getElem_mem hi);obtain ⟨Q,hQ⟩:=qGe (bB t[i] p);have hQl:=nc hS p;rw [hQ] at hQl;have hlen:Q.2.1.length<=100000:=by omega
  by_cases he:Q.2.2=0
  ·obtain rfl:R=(t.set i Q.1,aJ n Q.2.1,0):=by rw [<-hR];unfold bv;rw [hq,hQ,hx];simp [hV,hf,he]
   have:=eB t;have:=dy t n hF;have:=Ep t[i] p hQ;have:=p9 t i Q.1 hi (by omega);have:=ob n Q.2.1 hlen;refine ao ?_
   (refine dP (qf []) ?_;exact af)
  ·obtain rfl:R=dE Q.2.2:=by rw [<-hR];unfold bv;rw [hq,hQ,hx];simp [hV,hf,he]
   have:=eB t;have:=dy t n hF;have:=Ep t[i] p hQ;refine ao ?_
   (refine dP (qf []) ?_;exact af)
theorem xq (t:List Qu) (p:Pr) (a:Tm) {R:List Qu×List Ev×Int} (hR:bD t p a=R):FSpec prog 166 [.one (.sl eh t),p.a,a.a] [] [] (JU R) []:=by
 refine a7 func166 ?_;cases hV:di t with
 | false =>
  obtain rfl:R=dE 2:=by rw [<-hR];simp [bD,hV]
  have:=eB t;refine ao ?_
  (refine dP (qf []) ?_;exact af)
 | true =>
  have hm:=(bi hV).1;by_cases hf:bG a.name 0 t<0
  case pos =>
   obtain rfl:R=dE 10:=by rw [<-hR];simp [bD,hV,hf]
   have:=eB t;have:=sw t a.name;refine ao ?_
   (refine dP (qf []) ?_;exact af)
  obtain ⟨i,hi,hF,hq,hx⟩:=eC hf;have hS:=cP hV (List.getElem_mem hi);obtain ⟨Q,hQ⟩:=qGe (bE t[i] p a.am);have hQl:=o0 hS p a.am;rw [hQ] at hQl;have hlen:Q.2.1.length<=100000:=by omega
  have hgl:(aJ a.name Q.2.1).length<=17:=by unfold aJ;rw [List.length_map];exact hQl
  by_cases he:Q.2.2=0
  ·by_cases hh:ah t[i].holds p=a.am
   ·obtain rfl:R=(t.set i Q.1,aJ a.name Q.2.1,0):=by rw [<-hR];unfold bD;rw [hq,hQ,hx];simp [hV,hf,he,hh]
    have:=eB t;have:=dy t a.name hF;have:=fS t[i] p;have:=Co t[i] p a.am hQ;have:=p9 t i Q.1 hi (by omega);have:=ob a.name Q.2.1 hlen;refine ao ?_
    (refine dP (qf []) ?_;exact af)
   ·obtain rfl:R=(t.set i Q.1,[⟨3,p,a.name,a.am⟩]++aJ a.name Q.2.1,0):=by rw [<-hR];unfold bD;rw [hq,hQ,hx];simp [hV,hf,he,hh]
    repeat' (first|refine av ?_ ?_|(refine aa 8 rfl ?_;refine be (ae (E:=fX) rfl rfl (xm rfl) (aN [⟨3,p,a.name,a.am⟩] rfl rfl rfl rfl) (List.nil_append _) aQ aQ) rfl rfl rfl ?_)|(refine aa 9 rfl ?_;first|(refine cB [] (eB t) ?_)|(refine cB [] (dy t a.name hF) ?_)|(refine cB [] (fS t[i] p) ?_)|(refine cC [] (Co t[i] p a.am hQ) ?_)|(refine cC [] (p9 t i Q.1 hi (by omega)) ?_)|(refine cC [] (ob a.name Q.2.1 hlen) ?_))|refine aq ?_|exact aw|refine ap fun hb=>?_|(refine dP (qf []) ?_;exact af))
  ·obtain rfl:R=dE Q.2.2:=by rw [<-hR];unfold bD;rw [hq,hQ,hx];simp [hV,hf,he]
   have:=eB t;have:=dy t a.name hF;have:=fS t[i] p;have:=Co t[i] p a.am hQ;refine ao ?_
   (refine dP (qf []) ?_;exact af)
theorem Gt {B:List Bool} {i:Nat} (hi:i<B.length):(B.take i++List.replicate (B.length-i) false).set i B[i]=B.take (i+1)++List.replicate (B.length-(i+1)) false:=by
 have h1:(B.take i).length=i:=by simp;omega
 exact Vx
theorem Sw {B:List Bool} {i:Nat} (hi:i<B.length) (h:B[i]=false):B.take (i+1)++List.replicate (B.length-(i+1)) false=B.take i++List.replicate (B.length-i) false:=by
 rw [List.take_succ_eq_append_getElem hi,h,show B.length-i=(B.length-(i+1))+1 by omega,List.replicate_succ,List.append_assoc];rfl
theorem lg (d:Nat) (x:Ex) {L:List Tm} (h:bJ x=L):FSpec prog 33 [x.a d] [] [] (.c (.sl c6 L)) []:=h▸Oq d x
theorem cD (x:Ex):(bJ x).length<=8:=by
 cases hv:kv x with
 | false=>rw [sd hv];simp
 | true=>exact (oK hv).2.2.1
theorem nj (d:Nat) (t:List Qu) (p:Pr) (x:Ex):FSpec prog 155 [.one (.sl eh t),p.a,x.a d] [] [] (.c (.sl cJ (bk t p x))) []:=by
 refine a7 func155 ?_;have hmk:prog.underlying 86=some (.slice 4):=underlying86;have hib:(prog.info? 4).map (fun i=>(i.zero,i.size,i.bytes))=some (some (.bool false),1,1):=by kernel_rfl
 have h8:=cD x;obtain ⟨L,hL⟩:=qGe (bJ x);obtain ⟨B,hB⟩:∃B,B=bk t p x:=⟨_,rfl⟩;have hBl:B.length=L.length:=by rw [hB];simp [bk,hL]
 have hBg:∀i (h:i<L.length),B[i]'(by omega)=(bd t L[i].name && bq (bf t L[i].name).res (ah (bf t L[i].name).holds p) L[i].am):=by
  intro i h;simp only [hB,bk,hL,List.getElem_map]
 rw [hL] at h8;rw [<-hB];clear hB;repeat' (first|refine av ?_ ?_|refine aa 9 rfl (cC [] (lg d x hL) ?_)|(refine aa 20 rfl ?_;refine be (fN (E:=cJ) (y0:=false) hmk hib rfl (by decide) rfl (fun _ _=>rfl) rfl rfl rfl rfl (by first|omega|simp)) rfl rfl rfl ?_)|refine aq ?_|exact aw|refine ap fun hb=>?_)
 refine ab (fun i=>i<=L.length) (fun i=>bP [4,5,1000] [(0,.c (.sl eh t)),(4,.c (.ptr 4 0)),(7,.c (.sl c6 L)),(8,.c (.own 1000)),(9,.i i)] [(4,.box 40 [.sc (.int .i64 p.site),.sc (.int .i64 p.inc),.sc (.int .i64 p.num)]),(1000,.arr 4 cJ (B.take i++List.replicate (B.length-i) false))]) (fun i=>L.length-i) 0 (Nat.zero_le _) (by rw [List.take_zero,List.nil_append,Nat.sub_zero,hBl];exact bo (qf [(1000,15)])) ?_;intro i hi;have hol:(B.take i++List.replicate (B.length-i) false).length=L.length:=by simp;omega
 by_cases hlt:i<L.length
 ·have hb1:=hBg i hlt;obtain ⟨a,ha⟩:=qGe (L[i]);have hga:L[i]? = some a:=by rw [qGg hlt,ha]
  rw [ha] at hb1;by_cases hf:bG a.name 0 t<0
  ·have hno:=Sw (B:=B) (i:=i) (by omega) (by rw [hb1,show bd t a.name=false by simp [bd];omega];rfl);have:=sw t a.name;refine ao ?_;refine ⟨i+1,by omega,by omega,?_⟩;rw [hno];exact aT
  ·obtain ⟨j,hj,hF,hq,hx⟩:=eC hf;have hst:=Gt (B:=B) (i:=i) (by omega);rw [hb1,show bd t a.name=true by simp [bd,Int.not_lt.1 hf],Bool.true_and,show bf t a.name=t[j] from hq] at hst;repeat' (first|refine av ?_ ?_|(refine aa 9 rfl ?_;first|(refine cB [] (dy t a.name hF) ?_)|(refine cB [] (fS t[j] p) ?_)|(refine cB [] (dJ t[j].res (ah t[j].holds p) a.am) ?_))|refine aq ?_|(refine aa 4 rfl ?_;refine a8 (ak (z:=bq t[j].res (ah t[j].holds p) a.am) rfl rfl rfl rfl (by first|assumption|exact qGg (by omega)) rfl rfl rfl rfl (qNl rfl) rfl rfl) rfl rfl rfl ?_)|exact aw|refine ap fun hb=>?_)
   exact VP
 ·have e:B.take i++List.replicate (B.length-i) false=B:=by rw [List.take_of_length_le (by omega),show B.length-i=0 by omega];simp
  rw [e];refine ao ?_;exact U4
instance:Dp dQ:=gm _ _ _ _ _
instance:ST prog dQ 25 63 40:=⟨ElTB.mk' underlying25 (.agg #[.string { data:=#[] },.int .i64 0,.int .i64 0,.int .i64 0]) 4 40 (by kernel_rfl) rfl rfl⟩
def bI (t:List Qu):List Rs:=t.map (·.res)
theorem EA (t:List Qu) (hl:t.length<=100000):FSpec prog 154 [.one (.sl eh t)] [] [] (.c (.sl dQ (bI t))) []:=by
 refine a7 func154 ?_;refine ao ?_;refine cj 3 1000 63 dQ rfl rfl rfl ?_;refine ab (fun i=>i<=t.length) (fun i=>bP [1000] [(0,.c (.sl eh t)),(3,.c (.own 1000)),(4,.i i)] [(1000,.arr 63 dQ (bI (t.take i)))]) (fun i=>t.length-i) 0 (Nat.zero_le _) aT ?_;intro i hi;have hlen:(bI (t.take i)).length=i:=by simp [bI,Nat.min_eq_left hi]
 repeat' (first|refine av ?_ ?_|(refine aa 8 rfl ?_;refine be (ae rfl rfl (aH rfl rfl) (aN [(t[i]'(by omega)).res] rfl rfl rfl rfl) rfl aQ aQ) rfl rfl rfl ?_)|refine aq ?_|exact aw|refine ap fun hb=>?_)
 ·refine ⟨i+1,by omega,by omega,?_⟩;have e:bI (t.take (i+1))=bI (t.take i)++[(t[i]'(by omega)).res]:=by
   unfold bI;exact Va
  rw [e];exact bo (qf [(1000,18)])
 ·have e:bI (t.take i)=bI t:=by rw [List.take_of_length_le (by omega)]
  rw [<-e];exact U4
def KB (w:Wk) (a b:Nat):List D:=[.sc (.int .i64 w.c.now),.sl eh w.c.queues,.ocut a,.own b]
def HI (d:Nat) (w:Wk):List (Nat×Box):=[(0,.box 113 (KB w 1 2)),(1,.arr 82 (fR d) w.c.procs),(2,.arr 68 fX w.ev)]
def HO (d:Nat) (w:Wk):List (Nat×Option Box):=[(0,some (.box 113 (KB w 3 4))),(3,some (.arr 82 (fR d) w.c.procs)),(4,some (.arr 68 fX w.ev)),(1,none),(2,none)]
abbrev go:V0:=.one (.ptr 0 0)
abbrev lw (n:Int):V0:=.one (.sc (.int .i64 n))
theorem vn (d:Nat) (w:Wk) (t:List Qu) (ev:List Ev) (hl:w.ev.length+ev.length<=1000000):FSpec prog 160 [go,.one (.sl eh t),.one (.sl fX ev)] (HI d w) [3,4] (.tup []) (HO d (w.take t ev)):=by
 refine a7 func160 ?_;refine ao ?_
 (exact oW (qf [(3,1),(4,17)]))
theorem Mi (d:Nat) (w:Wk) (k:Int) (p:Pr) (hl:w.ev.length<=1000000):FSpec prog 158 [go,lw k,p.a] (HI d w) [3,4] (.tup []) (HO d (w.note k p)):=by
 refine a7 func158 ?_;have h0:Nat.ble w.ev.length 1000000=true:=by simpa using hl
 repeat' (first|refine av ?_ ?_|(refine aa 8 rfl ?_;refine be (ae rfl rfl (aH rfl rfl) (aN [⟨k,p,⟨#[]⟩,⟨0,0⟩⟩] rfl rfl rfl rfl) rfl aQ aQ) rfl rfl rfl ?_)|refine aq ?_|exact aw|refine ap fun hb=>?_|(exact oW (qf [(3,1),(4,15)])))
theorem eI {w:Wk} {i:Nat} {x:Pc} (h:w.c.procs[i]? = some x):w.pc i=x:=by unfold Wk.pc;rw [List.getD_eq_getElem?_getD,h];rfl
theorem gz {α:Type} {l:List α} {i:Nat} (h:i<l.length) (y:α):(l.set i y)[i]? = some y:=by simp [h]
theorem PK (d:Nat) (w:Wk) (i:Nat) (hi:i<w.c.procs.length):FSpec prog 162 [go,lw i] (HI d w) [3,4] (.tup []) (HO d (dO w i)):=by
 refine a7 func162 ?_;obtain ⟨x,hx⟩:∃x,w.c.procs[i]? = some x:=⟨_,qGg hi⟩;have hs1:=gz hi { x with waiting:=false };have hl1:(w.c.procs.set i { x with waiting:=false }).length=w.c.procs.length:=List.length_set;have hs2:=gz (hl1▸hi) { x with waiting:=false,req:=Rq.zero };have hl2:((w.c.procs.set i { x with waiting:=false }).set i { x with waiting:=false,req:=Rq.zero }).length=w.c.procs.length:=by rw [List.length_set,hl1]
 have e:dO w i=⟨{ w.c with procs:=((w.c.procs.set i { x with waiting:=false }).set i { x with waiting:=false,req:=Rq.zero }).set i { x with waiting:=false,req:=Rq.zero,since:=0 } },w.ev⟩:=by
  unfold dO Wk.setP;rw [eI hx,List.set_set,List.set_set]
 rw [e];repeat' (first|refine av ?_ ?_|refine aq ?_|(refine aa 4 rfl ?_;first|(refine a8 (ak (z:={ x with waiting:=false }) rfl rfl rfl rfl hx rfl rfl rfl rfl (qNl rfl) rfl rfl) rfl rfl rfl ?_)|(refine a8 (lT (z:={ x with waiting:=false,req:=Rq.zero }) rfl rfl rfl rfl hs1 rfl rfl rfl rfl (qNl rfl) (by (repeat' (first|exact trivial|exact .same _|exact .nil|refine ⟨?_,?_⟩));first|done|fail) rfl) rfl rfl rfl ?_)|(refine a8 (ak (z:={ x with waiting:=false,req:=Rq.zero,since:=0 }) rfl rfl rfl rfl hs2 rfl rfl rfl rfl (qNl rfl) rfl rfl) rfl rfl rfl ?_))|exact aw|refine ap fun hb=>?_|(exact oW (qf [(3,1),(4,2)])))
theorem o9 (d:Nat) (w:Wk) (i:Nat) (hi:i<w.c.procs.length):FSpec prog 93 [go,lw i] (HI d w) [3,4] (.tup []) (HO d (aZ w i)):=by
 refine a7 func93 ?_;obtain ⟨x,hx⟩:∃x,w.c.procs[i]? = some x:=⟨_,qGg hi⟩;have e:aZ w i=⟨{ w.c with procs:=w.c.procs.set i { x with gen:=bc x.gen } },w.ev⟩:=by
  unfold aZ Wk.setP;rw [eI hx]
 rw [e];repeat' (first|refine av ?_ ?_|refine aa 9 rfl (cB [] (PH x.gen) ?_)|refine aq ?_|(refine aa 4 rfl ?_;refine a8 (ak (z:={ x with gen:=bc x.gen }) rfl rfl rfl rfl hx rfl rfl rfl rfl (qNl rfl) rfl rfl) rfl rfl rfl ?_)|exact aw|refine ap fun hb=>?_|(exact oW (qf [(3,1),(4,2)])))
theorem Gu (t:List Qu) (l:List Pc) (i:Nat) (h:i<l.length):dF t i (l.drop i)=bif dU t l[i] then some i else dF t (i+1) (l.drop (i+1)):=by
 rw [qDc h];rfl
def PL:Option Nat->Int
 | some i=>i
 | none=>-1
theorem yF (d:Nat) (w:Wk) (h8:w.c.procs.length<=100000):FSpec prog 164 [go] (HI d w) [3,4] (.i (PL (dF w.c.queues 0 w.c.procs))) (HO d w):=by
 refine a7 func164 ?_;refine ao ?_;refine ab (fun i=>i<=w.c.procs.length/\dF w.c.queues i (w.c.procs.drop i)=dF w.c.queues 0 w.c.procs) (fun i=>bP [0,1,2] [(0,.v go),(3,.i i)] [(0,.box 113 (KB w 1 2)),(1,.arr 82 (fR d) w.c.procs),(2,.arr 68 fX w.ev)]) (fun i=>w.c.procs.length-i) 0 ⟨Nat.zero_le _,by simp⟩ aT ?_;rintro i ⟨hi,hs⟩;by_cases hlt:i<w.c.procs.length
 ·obtain ⟨x,hx⟩:=qGe (w.c.procs[i]);have hgx:w.c.procs[i]? = some x:=by rw [qGg hlt,hx]
  rw [Gu _ _ _ hlt,hx] at hs;have hgl:(bk w.c.queues x.proc x.req.expr).length<=1000:=by
   have:=cD x.req.expr;simp [bk];omega
  cases hw:x.waiting with
  | false =>
   rw [show dU w.c.queues x=false by simp [dU,hw],qCf] at hs;have:=nj d w.c.queues x.proc x.req.expr;have:=sA d x.req.expr (bk w.c.queues x.proc x.req.expr) hgl;refine ao ?_;exact UT
  | true =>
   cases hh:cM x.req.expr (bk w.c.queues x.proc x.req.expr) with
   | false =>
    rw [show dU w.c.queues x=false by simp [dU,hh],qCf] at hs;have:=nj d w.c.queues x.proc x.req.expr;have:=sA d x.req.expr (bk w.c.queues x.proc x.req.expr) hgl;refine ao ?_;exact UT
   | true =>
    rw [show dU w.c.queues x=true by simp [dU,hw,hh],qCt] at hs;rw [<-hs];have:=nj d w.c.queues x.proc x.req.expr;have:=sA d x.req.expr (bk w.c.queues x.proc x.req.expr) hgl;refine ao ?_
    (refine cc (qf [(3,1),(4,2)]) ?_;exact af)
 ·rw [<-hs,qDn (by omega),show dF w.c.queues i []=none from rfl];refine ao ?_
  (refine cc (qf [(3,1),(4,2)]) ?_;exact af)
end Go.Proofs.YthpgjkjgkhjjlaaGreatDoor
