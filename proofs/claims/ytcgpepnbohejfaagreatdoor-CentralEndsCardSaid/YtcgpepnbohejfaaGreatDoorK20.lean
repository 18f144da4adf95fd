/- Part 20 of 56 of the proof of both_hold (no condition). -/
import Derived.Test.YtcgpepnbohejfaaGreatDoorK18
import Derived.Test.YtcgpepnbohejfaaGreatDoorK17
import Derived.Test.YtcgpepnbohejfaaGreatDoorK19
set_option linter.unusedVariables false
set_option linter.unusedSimpArgs false
set_option maxRecDepth 100000
set_option maxHeartbeats 64000000
namespace Go.Proofs.YtcgpepnbohejfaaGreatDoor
open Go.RowKit Go.Proofs.Tryz
def H9 (R:Lg×Int):TV:=.tup [R.1.a,.one (.sc (.int .i64 R.2))]
theorem gv {l:List En} {s:List Sv} (h:pt l s=true):l.length≤72∧s.length≤4:=by
 simp only [pt,Bool.and_eq_true,decide_eq_true_eq] at h;exact ⟨h.1.1.1.1,h.1.1.1.2⟩
theorem fo (n:ByteArray) (l:List Ho):(aM n l).length=l.length:=List.length_map ..
theorem nI (t:List Qu) (p:Pr) (n:ByteArray):(bz t p n).2.1.length≤17:=by
 unfold bz;cases hV:dl t with
 | false=>simp [eo]
 | true =>
  by_cases hf:bR n 0 t<0
  ·simp [hf,eo]
  ·obtain ⟨i,hi,hF,hq,hx⟩:=fQ hf;have:=nF (cj hV (List.getElem_mem hi)) p;rw [hq];cases decide ((be t[i] p).2.2=0) with
   | false=>simp [hf,eo]
   | true=>simp [hf,fo];exact this
theorem pL (t:List Qu) (p:Pr) (a:Tm):(cg t p a).2.1.length≤18:=by
 unfold cg;cases hV:dl t with
 | false=>simp [eo]
 | true =>
  by_cases hf:bR a.name 0 t<0
  ·simp [hf,eo]
  ·obtain ⟨i,hi,hF,hq,hx⟩:=fQ hf;have:=pG (cj hV (List.getElem_mem hi)) p a.am;rw [hq];cases decide ((bk t[i] p a.am).2.2=0) with
   | false=>simp [hf,eo]
   | true =>
    cases decide (ao t[i].holds p=a.am) with
    | true=>simp [hf,fo];omega
    | false=>simp [hf,fo];omega
theorem uw {t:List Qu} {n:ByteArray} (h:aS t n=true):∃i,∃hi:i<t.length,bR n 0 t=(i:Int)∧a6 t n=t[i]:=by
 have hf:¬bR n 0 t<0:=by simpa [aS] using h
 obtain ⟨i,hi,hF,hq,_⟩:=fQ hf;exact ⟨i,hi,hF,hq⟩
def GE (x:Pc):List Tm→Wk→Prop
 | [],_=>True
 | a :: l,w=>dl w.c.queues=true∧aS w.c.queues a.name=true∧w.ev.length≤900000∧GE x l (bq w x a.name)
theorem wB (w:Wk) (i:Nat) (x:Pc):(w.setP i x).c.procs.length=w.c.procs.length:=List.length_set
def JG (l:List Pc):Prop:=∀x∈l,(-1000000000000≤x.since∧x.since≤1000000000000)∧-1000000000000≤x.req.limit∧x.req.limit≤1000000000000
theorem xS (now:Int) (k:Nat) (x:Pc) (l:List Pc) (b:Int×Int):gY now k (x :: l) b=gY now (k+1) l (bif x.waiting && !decide (x.req.limit=0) && decide (x.since+x.req.limit≤now) && (decide (b.1<0) || decide (x.since+x.req.limit<b.2)) then ((k:Int),x.since+x.req.limit) else b):=rfl
theorem za {all:List Sv} {n:Int}:∀{l:List Sv} {k:Nat} {a:Int},uf all n k a l=true→∀x∈l,0≤x.at_∧x.at_≤n
 | [],_,_,_=>by simp
 | s :: l,k,a,h=>by
  simp only [uf,Bool.and_eq_true,decide_eq_true_eq] at h;intro x hx;rcases List.mem_cons.1 hx with rfl|hx
  ·exact ⟨h.1.1.1.1.2,h.1.1.1.2⟩
  ·exact za h.2 x hx
theorem CL {l:List En} {s:List Sv} (h:pt l s=true):∀x∈s,0≤x.at_∧x.at_≤l.length:=by
 simp only [pt,Bool.and_eq_true] at h;exact za h.2
theorem fq:∀(l:List En) (acc:List ByteArray),(dD acc l).length≤acc.length+l.length
 | [],acc=>by simp [dD]
 | e :: l,acc=>by
  rw [uv];cases es e.name acc with
  | true=>have:=fq l acc;simp;omega
  | false=>have:=fq l (ku e.name acc);rw [pI] at this;simp;omega
def Jj (R:Lg×List Tm×Int):TV:=.tup [R.1.a,.one (.sl c7 R.2.1),.one (.sc (.int .i64 R.2.2))]
def iT (n:ByteArray) (E:List En) (i:Nat) (s:Sv):Sv:=⟨s.label,s.at_-((E.take (min i s.at_.toNat)).countP fun e=>!oth n e:Nat)⟩
theorem CM (n:ByteArray) (E:List En) (s:Sv):iT n E 0 s=s:=by
 cases s;simp [iT]
theorem CN {n:ByteArray} {E:List En} {i:Nat} (hi:i<E.length) (h:oth n E[i]=true) (s:Sv):iT n E (i+1) s=iT n E i s:=by
 unfold iT;by_cases hs:s.at_.toNat≤i
 ·rw [Nat.min_eq_right hs,Nat.min_eq_right (by omega)]
 ·rw [Nat.min_eq_left (by omega),Nat.min_eq_left (by omega),List.take_succ_eq_append_getElem hi,List.countP_append];simp [h]
theorem ES {n:ByteArray} {E:List En} {i:Nat} {s:Sv} (hs:s.at_≤i):iT n E (i+1) s=iT n E i s:=by
 unfold iT;rw [Nat.min_eq_right (by omega),Nat.min_eq_right (by omega)]
theorem CO {n:ByteArray} {E:List En} {i:Nat} (hi:i<E.length) (h:oth n E[i]=false) {s:Sv} (hs:(i:Int)<s.at_):iT n E (i+1) s=⟨s.label,(iT n E i s).at_-1⟩:=by
 unfold iT;rw [Nat.min_eq_left (by omega),Nat.min_eq_left (by omega),List.take_succ_eq_append_getElem hi,List.countP_append];simp [h];omega
theorem ET {n:ByteArray} {E:List En} {s:Sv} (h0:0≤s.at_) (h1:s.at_≤E.length):iT n E E.length s=⟨s.label,((E.take s.at_.toNat).filter (oth n)).length⟩:=by
 unfold iT;rw [Nat.min_eq_right (by omega),←List.countP_eq_length_filter];have h2:=List.length_eq_countP_add_countP (oth n) (l:=E.take s.at_.toNat);have h3:(E.take s.at_.toNat).length=s.at_.toNat:=by simp;omega
 congr 1
 have h4:(fun a=>decide ¬oth n a=true)=fun e=>!oth n e:=by funext e;cases oth n e <;> rfl
 rw [h4] at h2;omega
theorem xT {n:ByteArray} {E:List En} {i:Nat} {s:Sv} (h0:0≤s.at_):0≤(iT n E i s).at_∧(iT n E i s).at_≤s.at_:=by
 unfold iT;have:=List.countP_le_length (p:=fun e=>!oth n e) (l:=E.take (min i s.at_.toNat));rw [List.length_take] at this;dsimp only;omega
def zb (n:ByteArray) (E:List En) (S:List Sv) (i k:Nat):List Sv:=(S.take k).map (iT n E (i+1))++(S.drop k).map (iT n E i)
theorem uC {n:ByteArray} {E:List En} {S:List Sv} {i k:Nat}:(zb n E S i k).length=S.length:=by simp [zb];omega
theorem CP {n:ByteArray} {E:List En} {S:List Sv} {i:Nat}:zb n E S i 0=S.map (iT n E i):=by simp [zb]
theorem EU {n:ByteArray} {E:List En} {S:List Sv} {i k:Nat} (h:S.length≤k):zb n E S i k=S.map (iT n E (i+1)):=by simp [zb,List.take_of_length_le h,List.drop_eq_nil_of_le h]
theorem uD {n:ByteArray} {E:List En} {S:List Sv} {i k:Nat} (h:k≤S.length) (j:Nat):(zb n E S i k)[j]? = S[j]?.map fun s=>if j<k then iT n E (i+1) s else iT n E i s:=by
 have hl:((S.take k).map (iT n E (i+1))).length=k:=by rw [List.length_map,List.length_take];omega
 unfold zb;by_cases hj:j<k
 ·rw [List.getElem?_append_left (by omega),List.getElem?_map,List.getElem?_take_of_lt hj];simp [hj]
 ·rw [List.getElem?_append_right (by omega),hl,List.getElem?_map,List.getElem?_drop,show k+(j-k)=j by omega];simp [hj]
theorem CQ {n:ByteArray} {E:List En} {S:List Sv} {i k:Nat} (h:k<S.length):(zb n E S i k)[k]? = some (iT n E i S[k]):=by
 rw [uD (by omega)];simp [h]
theorem zc {n:ByteArray} {E:List En} {S:List Sv} {i k:Nat} (h:k<S.length) {z:Sv} (hz:iT n E (i+1) S[k]=z):(zb n E S i k).set k z=zb n E S i (k+1):=by
 subst hz;apply List.ext_getElem?
 intro j;rw [List.getElem?_set,uC,uD (by omega),uD (by omega)];by_cases hj:k=j
 ·subst hj;simp [h]
 ·rw [if_neg hj];have:(j<k↔j<k+1):=by omega
  simp [this]
theorem CR {n:ByteArray} {E:List En} {S:List Sv} {i k:Nat} (h:k<S.length) (hz:iT n E (i+1) S[k]=iT n E i S[k]):zb n E S i k=zb n E S i (k+1):=by
 rw [←zc h rfl,hz];apply List.ext_getElem?
 intro j;rw [List.getElem?_set];by_cases hj:k=j
 ·subst hj;rw [CQ h,uC];simp [h]
 ·rw [if_neg hj]
def Ic (R:Lg×Bool):TV:=.tup [R.1.a,.one (.sc (.bool R.2))]
theorem xU (w:Wk) (i:Nat) (n:ByteArray):dJ w i n=bif (w.pc i).waiting then (w,14) else bif decide (ay (w.pc i).led.entries n=⟨0,0⟩) then (w,10) else (aW (ry w i n).c.procs.length (ry w i n),0):=rfl
theorem jq (w:Wk) (x:Pc) (n:ByteArray):(bq w x n).c.procs=w.c.procs:=by
 unfold bq bX;have h1:(eK w x.proc n).c.procs=w.c.procs:=by unfold eK;cases (ai (a6 w.c.queues n) x.proc).isSome <;> rfl
 cases decide (ao (a6 (eK w x.proc n).c.queues n).holds x.proc=ay x.led.entries n)
 ·exact h1
 ·exact h1
theorem eO (x:Pc):∀(l:List Tm) (w:Wk),(cO x l w).c.procs=w.c.procs
 | [],_=>rfl
 | a :: l,w=>(eO x l (bq w x a.name)).trans (jq w x a.name)
def AE (p:Pr):List Tm→Wk→Prop
 | [],_=>True
 | a :: l,w=>aS w.c.queues a.name=true∧w.ev.length≤900000∧AE p l (bX w p a.name a.am)
theorem jr (w:Wk) (p:Pr) (n:ByteArray) (l:Am):(bX w p n l).c.procs=w.c.procs:=by
 unfold bX;cases decide (ao (a6 w.c.queues n).holds p=l) <;> rfl
theorem gD (p:Pr):∀(l:List Tm) (w:Wk),(bH p l w).c.procs=w.c.procs
 | [],_=>rfl
 | a :: l,w=>(gD p l (bX w p a.name a.am)).trans (jr w p a.name a.am)
theorem wC (w:Wk) (i:Nat) (n:Int):cy w i n=bif !decide ((dq (w.pc i).led n).2.2=0) then (w,(dq (w.pc i).led n).2.2) else (aW (nZ w i n).c.procs.length (nZ w i n),0):=rfl
theorem EV {w:Wk} {i:Nat} {x:Pc} (hx:w.c.procs[i]? = some x):∃y,(kz w i).c.procs[i]? = some y∧y.proc=x.proc:=by
 have hi:=(List.getElem?_eq_some_iff.1 hx).1;unfold kz;cases (w.pc i).waiting with
 | false=>exact ⟨x,hx,rfl⟩
 | true =>
  refine ⟨{ (cO (w.pc i) (cJ (w.pc i).req.expr) w).pc i with waiting:=false,req:=Rq.zero,since:=0 },?_,?_⟩
  ·show (List.set _ _ _)[i]? = _;rw [List.getElem?_set_self (by rw [eO];exact hi)]
  ·show ((cO (w.pc i) (cJ (w.pc i).req.expr) w).pc i).proc=x.proc;unfold Wk.pc;rw [eO,List.getD_eq_getElem?_getD,hx];rfl
theorem CS (w:Wk) (i:Nat):(kz w i).c.procs.length=w.c.procs.length:=by
 unfold kz;cases (w.pc i).waiting with
 | false=>rfl
 | true=>show (az w i).c.procs.length=_;unfold az gg;rw [wB,eO]
theorem AF (g:Lg) (n:Int):(dq g n).2.1.length≤72:=by
 unfold dq;cases hV:sQ g with
 | false=>simp
 | true =>
  have h1:=(gv hV).1;rw [Bool.not_true,cond_false];cases (!decide (n=0) && decide (aQ n 0 g.saves<0)) with
  | true=>simp
  | false =>
   rw [cond_false];simp only [List.length_map];have:=fq (g.entries.drop (bW g n).entries.length) [];simp at this;unfold bS;omega
def Jk (w:Wk):Wk:=aY (az (w.note 4 (w.pc (et w).toNat).proc) (et w).toNat) (et w).toNat
theorem p5 (n:Nat) (w:Wk):fk (n+1) w=bif decide (et w<0) then w else fk n (aW (Jk w).c.procs.length (Jk w)):=rfl
def Ie (w:Wk) (n:Int):Wk:=⟨{ w.c with now:=w.c.now+n },w.ev⟩
theorem EW (w:Wk) (n:Int):gZ w n=bif !(decide (0≤n) && decide (n≤1000)) then (w,1) else bif decide (1073741824-n<w.c.now) then (w,16) else (fk w.c.procs.length (Ie w n),0):=rfl
theorem p6 (t:List Qu) (p:Pr) (a:Tm) (prio:Int):(bt t p a prio).2.1.length≤18:=by
 unfold bt;cases hV:dl t with
 | false=>simp [eo]
 | true =>
  by_cases hf:bR a.name 0 t<0
  ·simp [hf,eo]
  ·obtain ⟨i,hi,hF,hq,hx⟩:=fQ hf;have:=pF (cj hV (List.getElem_mem hi)) p a.am prio;rw [hq];generalize (decide ((aB t).length=8) && !decide (p∈aB t))=b;cases b <;> cases decide ((bv t[i] p a.am prio).2.2=0) <;> simp [hf,eo,fo] <;> omega
theorem xV (w:Wk) (i:Nat) (r:Rq):ck w i r=bif (w.pc i).waiting then (w,14) else bif !sV r then (w,1) else bif !decide (iP w.c.queues r.expr=0) then (w,iP w.c.queues r.expr) else (aW (CD w i r).c.procs.length (CD w i r),0):=rfl
instance (d:Nat):ST prog (fu d) 30 66 184:=⟨ElTB.mk' underlying30 (.agg #[.int .i64 0,.int .i64 0,.int .i64 0,.int .i64 0,.slice none 0 0,.slice none 0 0,.bool false,.int .i64 0,.string ⟨#[]⟩,.int .i64 0,.int .i64 0,.slice none 0 0,.int .i64 0,.int .i64 0,.int .i64 0,.int .i64 0]) 16 184 (by kernel_rfl) rfl rfl⟩
theorem l9 (w:Wk) (t:List Qu) (ev:List Ev):(w.take t ev).ev.length=w.ev.length+ev.length:=List.length_append
theorem CT (w:Wk) (p:Pr) (n:ByteArray):(eK w p n).ev.length≤w.ev.length+17:=by
 unfold eK gu;cases (ai (a6 w.c.queues n) p).isSome with
 | false=>simp
 | true=>rw [cond_true,l9];have:=nI w.c.queues p n;omega
theorem ma (w:Wk) (p:Pr) (n:ByteArray) (l:Am):(bX w p n l).ev.length≤w.ev.length+18:=by
 unfold bX eJ;cases decide (ao (a6 w.c.queues n).holds p=l) with
 | true=>simp
 | false=>rw [cond_false,l9];have:=pL w.c.queues p ⟨n,l⟩;omega
theorem js (w:Wk) (x:Pc) (n:ByteArray):(bq w x n).ev.length≤w.ev.length+35:=by
 unfold bq;have h1:=CT w x.proc n;have h2:=ma (eK w x.proc n) x.proc n (ay x.led.entries n);omega
theorem tm (x:Pc):∀(l:List Tm) (w:Wk),(cO x l w).ev.length≤w.ev.length+35*l.length
 | [],w=>by simp [cO]
 | a :: l,w=>by
  have h1:=js w x a.name;have h2:=tm x l (bq w x a.name);show (cO x l (bq w x a.name)).ev.length≤_;rw [List.length_cons];omega
theorem EX (w:Wk) (i:Nat) (p:Pr) (n:ByteArray):(gW w i p n).ev=w.ev:=by
 unfold gW;cases decide (ao (a6 w.c.queues n).holds p=ay (w.pc i).led.entries n) <;> rfl
theorem CU (w:Wk) (i:Nat) (p:Pr) (n:ByteArray):(gW w i p n).c.procs.length=w.c.procs.length:=by
 unfold gW;cases decide (ao (a6 w.c.queues n).holds p=ay (w.pc i).led.entries n)
 ·exact wB _ _ _
 ·rfl
theorem p7 (x:Pc) (i:Nat):∀(l:List Tm) (bs:List Bool) (w:Wk),(da x i l bs w).ev.length≤w.ev.length+35*l.length∧(da x i l bs w).c.procs.length=w.c.procs.length
 | [],bs,w=>by cases bs <;> exact ⟨by simp [da],rfl⟩
 | a :: l,[],w=>⟨by simp [da],rfl⟩
 | a :: l,b :: bs,w=>by
  have h2:=p7 x i l bs (bif b then gW w i x.proc a.name else bq w x a.name);have h3:(bif b then gW w i x.proc a.name else bq w x a.name).ev.length≤w.ev.length+35∧(bif b then gW w i x.proc a.name else bq w x a.name).c.procs.length=w.c.procs.length:=by
   cases b with
   | true=>exact ⟨by rw [cond_true,EX];omega,CU _ _ _ _⟩
   | false=>exact ⟨js w x a.name,congrArg List.length (jq w x a.name)⟩
  show (da x i l bs (bif b then gW w i x.proc a.name else bq w x a.name)).ev.length≤_∧(da x i l bs (bif b then gW w i x.proc a.name else bq w x a.name)).c.procs.length=_;rw [List.length_cons];omega
theorem mb (w:Wk) (k:Int) (p:Pr):(w.note k p).ev.length=w.ev.length+1:=by unfold Wk.note;simp
theorem zd (w:Wk) (i:Nat):(gX w i).ev.length≤w.ev.length+281:=by
 have h1:=(p7 (w.pc i) i (cJ (w.pc i).req.expr) (cY (w.pc i).req.expr (bo w.c.queues (w.pc i).proc (w.pc i).req.expr)) (w.note 2 (w.pc i).proc)).1;rw [mb] at h1;have h2:=dQ (w.pc i).req.expr;show (da (w.pc i) i (cJ (w.pc i).req.expr) (cY (w.pc i).req.expr (bo w.c.queues (w.pc i).proc (w.pc i).req.expr)) (w.note 2 (w.pc i).proc)).ev.length≤_;omega
theorem p8:∀(n:Nat) (w:Wk),(aW n w).ev.length≤w.ev.length+281*n
 | 0,w=>by simp [aW]
 | n+1,w=>by
  unfold aW;cases gh w.c.queues 0 w.c.procs with
  | none=>dsimp only;omega
  | some i =>
   have h1:=zd w i;have h2:=p8 n (gX w i);dsimp only;omega
theorem iA (w:Wk) (i:Nat):(az w i).ev.length≤w.ev.length+280:=by
 have h1:=tm (w.pc i) (cJ (w.pc i).req.expr) w;have h2:=dQ (w.pc i).req.expr;show (cO (w.pc i) (cJ (w.pc i).req.expr) w).ev.length≤_;omega
theorem p9 (p:Pr) (prio:Int):∀(l:List Tm) (w:Wk),(co p prio l w).ev.length≤w.ev.length+18*l.length
 | [],w=>by simp [co]
 | a :: l,w=>by
  have h1:=p6 w.c.queues p a prio;have h2:=p9 p prio l (w.take (bt w.c.queues p a prio).1 (bt w.c.queues p a prio).2.1);rw [l9] at h2;show (co p prio l (w.take (bt w.c.queues p a prio).1 (bt w.c.queues p a prio).2.1)).ev.length≤_;rw [List.length_cons];omega
theorem qa (p:Pr):∀(l:List Tm) (w:Wk),(bH p l w).ev.length≤w.ev.length+18*l.length
 | [],w=>by simp [bH]
 | a :: l,w=>by
  have h1:=ma w p a.name a.am;have h2:=qa p l (bX w p a.name a.am);show (bH p l (bX w p a.name a.am)).ev.length≤_;rw [List.length_cons];omega
theorem DrT.ok {x:Pc}:∀{l:List Tm} {w:Wk},DrT x l w→w.ev.length+35*l.length≤900000→GE x l w
 | [],_,_,_=>trivial
 | a :: l,w,h,he=>by
  rw [List.length_cons] at he;have h1:=js w x a.name;exact ⟨h.1,h.2.1,by omega,h.2.2.ok (by omega)⟩
theorem LwT.ok {p:Pr}:∀{l:List Tm} {w:Wk},LwT p l w→w.ev.length+18*l.length≤900000→AE p l w
 | [],_,_,_=>trivial
 | a :: l,w,h,he=>by
  rw [List.length_cons] at he;have h1:=ma w p a.name a.am;exact ⟨h.1,by omega,h.2.ok (by omega)⟩
theorem AG {w:Wk} (h:CI w.c):(aW w.c.procs.length w).ev.length≤w.ev.length+2248:=by
 have:=p8 w.c.procs.length w;have:=h.len;omega
theorem JH {c:Cs} (h:CI c):JG c.procs:=fun x hx=>by
 have hi:=h.inv x hx;have hn:=h.now;cases hw:x.waiting with
 | false =>
  obtain ⟨h1,h2,_⟩:=hi.run hw;rw [h1,h2];simp [Rq.zero]
 | true =>
  obtain ⟨h1,_⟩:=hi.wat hw;have h2:=h1.rq;have h3:=h1.sn;unfold sV at h2;simp only [Bool.and_eq_true,decide_eq_true_eq] at h2;omega
theorem md (p:Pr):∀t:List Qu,(∀q∈t,av q=true)→(aN p t).2.length≤18*t.length
 | [],_=>by simp [aN]
 | q :: l,h=>by
  have ih:=md p l fun x hx=>h x (by simp [hx]);have h1:=nG (h q (by simp)) p;have e:aN p (q :: l)=bif !eQ q p then (q :: (aN p l).1,(aN p l).2) else
   ((aV q p).1 :: (aN p l).1,(bif aG (ao q.holds p) then [] else [⟨3,p,q.res.name,⟨0,0⟩⟩])++aM (aV q p).1.res.name (aV q p).2.1++(aN p l).2):=rfl
  rw [e,List.length_cons];cases (!eQ q p) with
  | true=>rw [cond_true];dsimp only;omega
  | false =>
   rw [cond_false];cases aG (ao q.holds p) <;> simp [fo] <;> omega
theorem wD (t:List Qu) (p:Pr):(b9 t p).2.length≤144:=by
 unfold b9;cases hv:dl t with
 | false=>simp
 | true =>
  have:=md p t fun q hq=>cj hv hq;have:=(bE hv).1;rw [Bool.not_true,cond_false];omega
theorem iB {α:Type} {b:Bool} {k:Int} {x:List Qu×List Ev×Int} (h:x.2.2≠0→x.1=[]):(bif b then eo k else x).2.2≠0→(bif b then eo k else x).1=[]:=by
 cases b with
 | true=>exact fun _=>rfl
 | false=>exact h
theorem xW {t:List Qu} {p:Pr} {a:Tm}:(cg t p a).2.2≠0→(cg t p a).1=[] :=
 iB (α:=Unit) (iB (α:=Unit) (iB (α:=Unit) fun h=>absurd rfl h))
theorem xX {t:List Qu} {p:Pr} {a:Tm} {prio:Int}:(bt t p a prio).2.2≠0→(bt t p a prio).1=[] :=
 iB (α:=Unit) (iB (α:=Unit) (iB (α:=Unit) (iB (α:=Unit) fun h=>absurd rfl h)))
theorem uE (p:Pr) (n:ByteArray) (a:Tm) (prio:Int):(bz [] p n).1=[]∧(cg [] p a).1=[]∧(bt [] p a prio).1=[]:=by
 refine ⟨?_,?_,?_⟩
 ·unfold bz;cases dl [] <;> rfl
 ·unfold cg;cases dl [] <;> rfl
 ·unfold bt;cases dl [] <;> rfl
theorem AH {w:Wk} {p:Pr} {n:ByteArray} (h:w.c.queues=[]):(eK w p n).c.queues=[]:=by
 unfold eK gu;cases (ai (a6 w.c.queues n) p).isSome with
 | true=>rw [h];exact (uE p n ⟨n,⟨0,0⟩⟩ 0).1
 | false=>exact h
theorem tn {w:Wk} {p:Pr} {n:ByteArray} {l:Am} (h:w.c.queues=[]):(bX w p n l).c.queues=[]:=by
 unfold bX eJ;cases decide (ao (a6 w.c.queues n).holds p=l) with
 | true=>exact h
 | false=>rw [h];exact (uE p n ⟨n,l⟩ 0).2.1
theorem CV {w:Wk} {x:Pc} {n:ByteArray} (h:w.c.queues=[]):(bq w x n).c.queues=[]:=tn (AH h)
theorem toZ {x:Pc}:∀{l:List Tm} {w:Wk},w.c.queues=[]→(cO x l w).c.queues=[]
 | [],_,h=>h
 | a :: l,w,h=>toZ (l:=l) (w:=bq w x a.name) (CV h)
theorem qb {p:Pr}:∀{l:List Tm} {w:Wk},w.c.queues=[]→(bH p l w).c.queues=[]
 | [],_,h=>h
 | a :: l,w,h=>qb (l:=l) (w:=bX w p a.name a.am) (tn h)
theorem qc {p:Pr} {prio:Int}:∀{l:List Tm} {w:Wk},w.c.queues=[]→(co p prio l w).c.queues=[]
 | [],_,h=>h
 | a :: l,w,h=>qc (l:=l) (w:=w.take (bt w.c.queues p a prio).1 (bt w.c.queues p a prio).2.1) (by show (bt w.c.queues p a prio).1=[];rw [h];exact (uE p a.name a prio).2.2)
theorem xY (d:Nat) (x:Ex):FSpec prog 95 [x.a d] [] [] (.b (kf x)) []:=by
 obtain ⟨v,hv⟩:∃v,kf x=v:=⟨_,rfl⟩;rw [hv];rw [FR] at hv;have kP:=EC x d [] (by simp);have h0:=x.dep_pos;refine aT func95 ?_;cases hk:wW x with
 | false =>
  rw [hk] at hv;obtain rfl:false=v:=hv;repeat' (first|refine af ?_ ?_|refine aa 9 rfl (cB [] (xM x d (n:=0) (by rw [hk];rfl)) ?_)|refine ae ?_|exact ah|refine ab fun hb=>?_|exact bB|fail)
 | true =>
  rw [hk,Bool.true_and] at hv;repeat' (first|refine af ?_ ?_|((fail_if_success (first|refine lP 2 ?_|refine lQ 2 ?_));refine ae ?_)|exact ah|refine ab fun hb=>?_)
  refine lM 3 0 1000 44 c7 rfl rfl rfl rfl ?_;cases hp:zQ x [] with
  | none =>
   rw [hp] at kP hv;obtain rfl:false=v:=hv;repeat' (first|refine af ?_ ?_|(refine aa 9 rfl ?_;first|(refine cB [] (xM x d (n:=x.dep) (by rw [hk];rfl)) ?_)|(refine cH (qf [(0,3),(1,1000),(2,1001)]) (kP) ?_))|refine ae ?_|exact ah|refine ab fun hb=>?_|exact bB|fail)
  | some r =>
   rw [hp] at kP hv;obtain rfl:true=v:=hv;repeat' (first|refine af ?_ ?_|(refine aa 9 rfl ?_;first|(refine cB [] (xM x d (n:=x.dep) (by rw [hk];rfl)) ?_)|(refine cH (qf [(0,3),(1,1000),(2,1001)]) (kP) ?_))|refine ae ?_|exact ah|refine ab fun hb=>?_|exact bB|fail)
theorem If (l:List Tm) (a:Tm):FSpec prog 184 [.one (.sl c7 l),a.a] [] [] (.i (lr a 0 l)) []:=by
 obtain ⟨v,hv⟩:∃v,lr a 0 l=v:=⟨_,rfl⟩;rw [hv];refine aT func184 ?_;refine bd (fun c ρ a w hr=>cV (t:=0) hr rfl) (fun hl0=>?_);repeat' (first|refine af ?_ ?_|refine ae ?_|exact ah|refine ab fun hb=>?_)
 refine ak (fun i=>i≤l.length∧lr a i (l.drop i)=v) (fun i=>cq [3] [(0,.c (.sl c7 l)),(3,.c (.ptr 3 0)),(7,.i l.length),(8,.i i)] [(3,.box 44 [.sc (.string a.name),.sc (.int .i64 a.am.mode),.sc (.int .i64 a.am.units)])]) (fun i=>l.length-i) 0 ⟨Nat.zero_le _,hv⟩ a7 ?_;rintro i ⟨hi,hs⟩;by_cases hlt:i<l.length
 ·rw [List.drop_eq_getElem_cons hlt,mu] at hs;repeat' (first|refine af ?_ ?_|refine ae ?_|exact ah|refine ab fun hb=>?_)
  ·refine fm ?_;rw [←hs];simp [*]
  ·refine ⟨i+1,⟨by omega,?_⟩,by omega,?_⟩
   ·rw [←hs];simp [*]
   ·exact a7
 ·rw [List.drop_eq_nil_of_le (by omega)] at hs;repeat' (first|refine af ?_ ?_|refine ae ?_|exact ah|refine ab fun hb=>?_)
  refine fm ?_;rw [←hs];rfl
theorem CW (l:List Tm) (a:Tm) {v:Bool} (hv:iN a l=v):FSpec prog 145 [.one (.sl c7 l),a.a] [] [] (.b v) []:=by
 refine aT func145 ?_;repeat' (first|refine af ?_ ?_|refine aa 9 rfl (cB [] (If l a) ?_)|refine ae ?_|exact ah|refine ab fun hb=>?_)
 refine fm ?_;rcases mv a l 0 [] with ⟨h1,h2,_⟩|⟨i,_,h1,h2,_⟩
 ·rw [h1,←hv,h2];rfl
 ·rw [h1,←hv,h2];simp
theorem CX:∀(x:Ex) (d:Nat) (acc:List Tm),acc.length+x.cnt≤1000→FSpec prog 96 [.one (.own 0),x.a d] [(0,.arr 44 c7 acc)] [1] (.c (.own 1)) [(0,none),(1,some (.arr 44 c7 (eP x acc)))]:=by
 refine Ex.ind (fun k a l ih=>?_);intro d acc hl;rw [Ex.cnt_mk] at hl;obtain ⟨R,hR⟩:∃R,eP (.mk k a l) acc=R:=⟨_,rfl⟩;rw [hR];rw [jz] at hR;show FSpec prog 96 [.one (.own 0),.ag (xL d k a l)] [(0,.arr 44 c7 acc)] [1] (.c (.own 1)) [(0,none),(1,some (.arr 44 c7 R))];refine aT func96 ?_;cases hE:l.isEmpty with
 | true =>
  obtain rfl:=List.isEmpty_iff.1 hE;rw [hE,cond_true,f8] at hR;cases hh:iN a acc with
  | true =>
   rw [hh] at hR;obtain rfl:acc=R:=hR;repeat' (first|refine af ?_ ?_|refine aa 9 rfl (cB [0] (CW acc a hh) ?_)|refine ae ?_|exact ah|refine ab fun hb=>?_|(refine ct (qf [(1,0)]) ?_;exact aw))
  | false =>
   rw [hh] at hR;obtain rfl:acc++[a]=R:=hR;repeat' (first|refine af ?_ ?_|(refine aa 8 rfl ?_;refine bh (ap rfl rfl (aH rfl rfl) (aL [a] rfl rfl rfl rfl) rfl aK aK) rfl rfl rfl ?_)|refine aa 9 rfl (cB [0] (CW acc a hh) ?_)|refine ae ?_|exact ah|refine ab fun hb=>?_|(refine ct (qf [(1,20)]) ?_;exact aw))
 | false =>
  have hl0:0<l.length:=List.length_pos_iff.2 fun e=>by rw [e] at hE;cases hE
  rw [hE,cond_false] at hR;refine bd (fun c ρ a w hr=>iy (t:=1) (i:=4) hr rfl rfl) (fun hx=>?_);obtain ⟨hlen,hne⟩:=hx;obtain ⟨e,rfl⟩:=hne hl0;repeat' (first|refine af ?_ ?_|refine ae ?_|exact ah|refine ab fun hb=>?_)
  refine ak (fun x:Nat×List Tm=>x.1≤l.length∧x.2.length+gz (l.drop x.1)≤1000∧fE (l.drop x.1) x.2=R) (fun x=>cq [0,1000] [(0,.c (.own 1000)),(22,.c (.sl (mn (e+1)) l)),(23,.i l.length),(24,.i x.1)] [(1000,.arr 44 c7 x.2)]) (fun x=>l.length-x.1) (0,acc) ⟨Nat.zero_le _,by simpa using (by omega),hR⟩ (by exact bw (qf [(1000,0)])) ?_;rintro ⟨i,acc1⟩ ⟨hi,hc,hs⟩;dsimp only at *
  by_cases hlt:i<l.length
  ·rw [List.drop_eq_getElem_cons hlt] at hs hc;rw [eT] at hs;rw [eS] at hc;have kS:=ih l[i] (List.getElem_mem hlt) e acc1 (by omega);have hlen2:=oI l[i] acc1;obtain ⟨r,h1⟩:∃r,eP l[i] acc1=r:=⟨_,rfl⟩;rw [h1] at hs kS hlen2;clear ih h1;repeat' (first|refine af ?_ ?_|refine aa 9 rfl (cH (qf [(0,1000),(1,1001)]) (kS) ?_)|refine ae ?_|exact ah|refine ab fun hb=>?_)
   refine ⟨(i+1,r),⟨by dsimp only;omega,by dsimp only;omega,hs⟩,by dsimp only;omega,?_⟩;exact bw (qf [(1000,1001)])
  ·rw [List.drop_eq_nil_of_le (by omega)] at hs;obtain rfl:acc1=R:=hs;repeat' (first|refine af ?_ ?_|refine ae ?_|exact ah|refine ab fun hb=>?_|(refine ct (qf [(1,1000)]) ?_;exact aw))
theorem iC (d:Nat) (x:Ex) {L:List Tm} (hL:cJ x=L):FSpec prog 58 [x.a d] [] [] (.c (.sl c7 L)) []:=by
 subst hL;unfold cJ;refine aT func58 ?_;cases hv:kf x with
 | false =>
  repeat' (first|refine af ?_ ?_|refine aa 9 rfl (cB [] (xY d x) ?_)|refine ae ?_|exact ah|(refine ab fun hb=>?_;first|(simp [hv] at hb;done)|skip)|exact bB|fail)
 | true =>
  have h24:x.cnt≤24:=by have h:=hv;simp [kf,wW] at h;exact h.1.2
  have kA:=(CX x d [] (by simp;omega)).nil0 (by decide) fun q k=>rfl;repeat' (first|refine af ?_ ?_|(refine aa 9 rfl ?_;first|(refine cB [] (xY d x) ?_)|(refine cH (qf [(0,1000),(1,1001)]) (kA) ?_))|refine ae ?_|exact ah|(refine ab fun hb=>?_;first|(simp [hv] at hb;done)|skip)|exact bB|fail)
theorem qg:prog.underlying 170=some (.map 9 42):=by kernel_rfl
theorem xZ:prog.underlying 9=some .string:=by kernel_rfl
theorem uJ (w:World):(zeroValue 42).run prog w = .ok (GH ⟨0,0⟩) w:=by kernel_rfl
theorem Fv (a:Am):FSpec prog 151 [a.a] [] [] (.b (br a)) []:=by
 refine aT func151 ?_;have kM:=yQ a.mode;obtain ⟨m,hm⟩:∃m,bM a.mode=m:=⟨_,rfl⟩;rw [hm] at kM;have hu:br a=(m && decide (a.units=0) || decide (a.mode=0) && decide (1≤a.units) && decide (a.units≤8)):=by rw [←hm];rfl
 have h0:a.mode=0→m=false:=fun h=>by rw [←hm,h];rfl
 repeat' (first|refine af ?_ ?_|refine aa 9 rfl (cB [] (kM) ?_)|refine ae ?_|exact ah|refine ab fun hb=>?_)
 all_goals (refine fm ?_;rw [hu];simp [*] <;> rfl)
theorem GJ (a b:Am):FSpec prog 104 [a.a,b.a] [] [] (.b (dI a b)) []:=by
 refine aT func104 ?_;have kA:=Fv a;have kB:=Fv b;have kC:=lR b.mode a.mode;obtain ⟨u,hu⟩:∃u,br a=u:=⟨_,rfl⟩;obtain ⟨v,hv⟩:∃v,br b=v:=⟨_,rfl⟩;obtain ⟨c,hc⟩:∃c,cS b.mode a.mode=c:=⟨_,rfl⟩;rw [hu] at kA;rw [hv] at kB;rw [hc] at kC;have hg:dI a b=(v && !decide (a=b) && (aG a || u && (bif !decide (a.mode=0) then c else decide (a.units<b.units)))):=by rw [←hu,←hv,←hc];rfl
 have f1:b.mode=0→c=false:=fun h=>by rw [←hc,h];rfl
 have f2:u=true→v=true→a.mode=0→b.mode≠0→¬a.units<b.units:=fun h1 h2 h3 h4=>by
  rw [←hu] at h1;rw [←hv] at h2;have e1:=cL h1;have e2:=cL h2;simp only [eW] at e1 e2;omega
 have hz:aG a=decide (a=⟨0,0⟩):=rfl;rw [hz] at hg;clear hu hv hc hz;repeat' (first|refine af ?_ ?_|(refine aa 9 rfl ?_;first|(refine cB [] (kA) ?_)|(refine cB [] (kB) ?_)|(refine cB [] (kC) ?_))|refine ae ?_|exact ah|refine ab fun hb=>?_)
 all_goals (refine fm ?_;rw [hg])
 all_goals first|(simp [*];done)|(cases u <;> cases v <;> cases c <;> simp_all;done)
theorem mT (l:List Sv) (n:Int) {K:Int} (hK:aQ n 0 l=K):FSpec prog 137 [.one (.sl rg l),.one (.sc (.int .i64 n))] [] [] (.i K) []:=by
 refine aT func137 ?_;refine bd (fun c ρ a w hr=>cV (t:=0) hr rfl) (fun hl0=>?_);repeat' (first|refine af ?_ ?_|refine ae ?_|exact ah|refine ab fun hb=>?_)
 refine ak (fun i=>i≤l.length∧aQ n i (l.drop i)=K) (fun i=>cq [] [(1,.c (.sc (.int .i64 n))),(7,.c (.sl rg l)),(8,.i l.length),(9,.i i)] []) (fun i=>l.length-i) 0 ⟨Nat.zero_le _,hK⟩ a7 ?_;clear hK;rintro i ⟨hi,hs⟩;by_cases hlt:i<l.length
 ·obtain ⟨x,hx⟩:∃x,l[i]? = some x:=⟨_,List.getElem?_eq_getElem hlt⟩;have ex:l[i]=x:=(List.getElem?_eq_some_iff.1 hx).2;rw [List.drop_eq_getElem_cons hlt,ex] at hs;have hs:(bif decide (x.label=n) then (i:Int) else aQ n (i+1) (l.drop (i+1)))=K:=hs;by_cases he:x.label=n
  ·rw [decide_eq_true he] at hs;obtain rfl:K=i:=hs.symm;repeat' (first|refine af ?_ ?_|refine ae ?_|exact ah|(refine ab fun hb=>?_;first|(exact absurd he hb)|skip)|exact bB|fail)
  ·rw [decide_eq_false he,cond_false] at hs;repeat' (first|refine af ?_ ?_|refine ae ?_|exact ah|(refine ab fun hb=>?_;first|(exact absurd hb he)|skip))
   refine ⟨i+1,⟨by omega,hs⟩,by omega,?_⟩;exact a7
 ·rw [List.drop_eq_nil_of_le (by omega)] at hs;obtain rfl:K = -1:=hs.symm;repeat' (first|refine af ?_ ?_|refine ae ?_|exact ah|refine ab fun hb=>?_|exact bB|fail)
theorem GK (s:List Sv) (n:Int) {b:Bool} (hB:(decide (s.length≤4) && GI s n 0 0 s)=b):FSpec prog 105 [.one (.sl rg s),.one (.sc (.int .i64 n))] [] [] (.b b) []:=by
 refine aT func105 ?_;by_cases h4:s.length≤4
 case neg =>
  obtain rfl:b=false:=by rw [←hB,decide_eq_false h4];rfl
  repeat' (first|refine af ?_ ?_|refine ae ?_|exact ah|refine ab fun hb=>?_|exact bB|fail)
 rw [decide_eq_true h4,Bool.true_and] at hB;repeat' (first|refine af ?_ ?_|refine ae ?_|exact ah|refine ab fun hb=>?_)
 refine ak (fun y:Nat×Int=>y.1≤s.length∧GI s n y.1 y.2 (s.drop y.1)=b) (fun y=>cq [] [(0,.c (.sl rg s)),(1,.c (.sc (.int .i64 n))),(5,.c (.sc (.int .i64 y.2))),(11,.c (.sl rg s)),(12,.i s.length),(13,.i y.1)] []) (fun y=>s.length-y.1) (0,0) ⟨Nat.zero_le _,hB⟩ a7 ?_;clear hB;rintro ⟨i,p⟩ ⟨hi,hs⟩;dsimp only at *
 by_cases hlt:i<s.length
 ·obtain ⟨x,hx⟩:∃x,s[i]? = some x:=⟨_,List.getElem?_eq_getElem hlt⟩;have ex:s[i]=x:=(List.getElem?_eq_some_iff.1 hx).2;rw [List.drop_eq_getElem_cons hlt,ex] at hs;have hs:(decide (1≤x.label) && decide (x.label≤99) && decide (aQ x.label 0 (s.take i)<0) && decide (p≤x.at_) && decide (x.at_≤n) && GI s n (i+1) x.at_ (s.drop (i+1)))=b:=hs;obtain ⟨T,hT⟩:∃T,s.take i=T:=⟨_,rfl⟩;have hT2:s.take ((i:Int)).toNat=T:=by rw [Int.toNat_natCast];exact hT
  obtain ⟨K,hK⟩:∃K,aQ x.label 0 T=K:=⟨_,rfl⟩;have kP:=mT T x.label hK;rw [hT,hK] at hs;clear hT hK;by_cases hok:(1≤x.label∧x.label≤99)∧K<0∧p≤x.at_∧x.at_≤n
  ·obtain ⟨⟨k1,k2⟩,k3,k4,k5⟩:=hok;rw [decide_eq_true k1,decide_eq_true k2,decide_eq_true k3,decide_eq_true k4,decide_eq_true k5] at hs;simp only [Bool.true_and] at hs;repeat' (first|refine af ?_ ?_|refine aa 9 rfl (cB [] (kP) ?_)|(refine aa 14 rfl ?_;refine sx (pA rfl rfl rfl rfl (by omega) (by omega) hT2) ?_)|refine ae ?_|exact ah|refine ab fun hb=>?_)
   refine ⟨(i+1,x.at_),⟨by dsimp only;omega,hs⟩,by dsimp only;omega,?_⟩;exact a7
  ·have hok1:1≤x.label→x.label≤99→K<0→p≤x.at_→x.at_≤n→False:=fun a b c d e=>hok ⟨⟨a,b⟩,c,d,e⟩;obtain rfl:b=false:=by
    rw [←hs];cases hh:(decide (1≤x.label) && decide (x.label≤99) && decide (K<0) && decide (p≤x.at_) && decide (x.at_≤n)) with
    | false=>rfl
    | true =>
     simp only [Bool.and_eq_true,decide_eq_true_eq] at hh;exact (hok1 hh.1.1.1.1 hh.1.1.1.2 hh.1.1.2 hh.1.2 hh.2).elim
   clear hok hs;repeat' (first|refine af ?_ ?_|refine aa 9 rfl (cB [] (kP) ?_)|(refine aa 14 rfl ?_;refine sx (pA rfl rfl rfl rfl (by omega) (by omega) hT2) ?_)|refine ae ?_|exact ah|(refine ab fun hb=>?_;first|(exact (hok1 (by omega) (by omega) (by omega) (by omega) (by omega)).elim)|skip)|exact bB|fail)
 ·rw [List.drop_eq_nil_of_le (by omega)] at hs;obtain rfl:b=true:=hs.symm;repeat' (first|refine af ?_ ?_|refine ae ?_|exact ah|refine ab fun hb=>?_|exact bB|fail)
theorem zg (l:List En):FSpec prog 106 [.one (.sl rx l)] [] [0] (.c (.own 0)) [(0,some (.mp (uG (dR l))))]:=by
 refine aT func106 ?_;refine bd (fun c ρ a w hr=>cV (t:=0) hr rfl) (fun hl0=>?_);repeat' (first|refine af ?_ ?_|(refine aa 22 rfl ?_;refine sx (tq rfl rfl) ?_)|refine ae ?_|exact ah|refine ab fun hb=>?_)
 refine ak (fun y:Nat×List (ByteArray×Am)=>y.1≤l.length∧dA y.2 (l.drop y.1)=dR l) (fun y=>cq [6] [(3,.c (.own 6)),(7,.c (.sl rx l)),(8,.i l.length),(9,.i y.1)] [(6,.mp (uG y.2))]) (fun y=>l.length-y.1) (0,[]) ⟨Nat.zero_le _,rfl⟩ a7 ?_;rintro ⟨i,m⟩ ⟨hi,hs⟩;dsimp only at *
 by_cases hlt:i<l.length
 ·obtain ⟨e,he⟩:∃e,l[i]? = some e:=⟨_,List.getElem?_eq_getElem hlt⟩;have ee:l[i]=e:=(List.getElem?_eq_some_iff.1 he).2;rw [List.drop_eq_getElem_cons hlt,ee] at hs;repeat' (first|refine af ?_ ?_|(refine aa 24 rfl ?_;refine IZ (mS _ _ qg xZ rfl rfl rfl rfl rfl rfl) ?_)|refine ae ?_|exact ah|refine ab fun hb=>?_)
  refine ⟨(i+1,dt e.name e.after m),⟨by dsimp only;omega,hs⟩,by dsimp only;omega,?_⟩;exact a7
 ·rw [List.drop_eq_nil_of_le (by omega)] at hs;obtain rfl:m=dR l:=hs;repeat' (first|refine af ?_ ?_|refine ae ?_|exact ah|refine ab fun hb=>?_|(refine ct (qf [(0,6)]) ?_;exact aw))
theorem C9 (g:Lg) (n:ByteArray) {a:Am} (ha:ay g.entries n=a):FSpec prog 156 [g.a,.one (.sc (.string n))] [] [] (.v a.a) []:=by
 refine aT func156 ?_;have kS:=zg g.entries;have hg:mR n (dR g.entries)=a:=(fY _ _).trans ha;generalize dR g.entries=m at *
 repeat' (first|refine af ?_ ?_|refine aa 9 rfl (cH (qf [(0,1000)]) (kS) ?_)|(refine aa 23 rfl ?_;refine sx (jO _ _ qg xZ uJ rfl rfl rfl rfl hg) ?_)|refine ae ?_|exact ah|refine ab fun hb=>?_|exact bB|fail)
theorem zh (l:List En) (s:List Sv) {b:Bool} (hB:pt l s=b):FSpec prog 65 [.ag [.sl rx l,.sl rg s]] [] [] (.b b) []:=by
 refine aT func65 ?_;refine bd (fun c ρ a w hr=>ip (t:=0) (i:=0) hr rfl rfl) (fun hl0_0=>?_);refine bd (fun c ρ a w hr=>ip (t:=0) (i:=1) hr rfl rfl) (fun hl0_1=>?_);repeat' (first|refine af ?_ ?_|(refine aa 22 rfl ?_;refine sx (tq rfl rfl) ?_)|refine ae ?_|exact ah|refine ab fun hb=>?_)
 refine ak (fun y:Nat×List (ByteArray×Am)=>y.1≤l.length∧y.2=dR (l.take y.1)∧y.2.length≤8∧iJ (l.take y.1) (l.drop y.1)=iJ [] l) (fun y=>cq [1,6] [(1,.c (.ptr 1 0)),(3,.c (.own 6)),(8,.c (.sl rx l)),(9,.i l.length),(10,.i y.1)] [(1,.box 64 [.sl rx l,.sl rg s]),(6,.mp (uG y.2))]) (fun y=>l.length-y.1) (0,[]) ⟨Nat.zero_le _,rfl,by simp,by simp⟩ a7 ?_;rintro ⟨i,m⟩ ⟨hi,hm,hm8,hs⟩;dsimp only at *
 by_cases hlt:i<l.length
 ·obtain ⟨e,he⟩:∃e,l[i]? = some e:=⟨_,List.getElem?_eq_getElem hlt⟩;have ee:l[i]=e:=(List.getElem?_eq_some_iff.1 he).2;have hst:iJ [] l=(cE e.name.toList && decide (e.before=ay (l.take i) e.name) && dI e.before e.after && iJ (l.take (i+1)) (l.drop (i+1))):=by
   rw [←hs,List.drop_eq_getElem_cons hlt,ee,List.take_succ_eq_append_getElem hlt,ee];rfl
  obtain ⟨h,hh⟩:∃h,ay (l.take i) e.name=h:=⟨_,rfl⟩;have hg:mR e.name m=h:=by rw [hm,fY];exact hh
  obtain ⟨m2,hm2⟩:∃m2,dt e.name e.after m=m2:=⟨_,rfl⟩;have hm3:m2=dR (l.take (i+1)):=by rw [←hm2,hm,List.take_succ_eq_append_getElem hlt,ee,AI]
  have kN:=Cn e.name;have kG:=GJ e.before e.after;rw [hh] at hst;clear hh hm;by_cases hok:(cE e.name.toList=true∧e.before=h∧dI e.before e.after=true)∧m2.length≤8
  ·obtain ⟨⟨k1,k2,k3⟩,k4⟩:=hok;rw [k1] at kN;rw [k3] at kG;have hlm:(uG m2).length=m2.length:=by simp [iM]
   repeat' (first|refine af ?_ ?_|(refine aa 7 rfl ?_;refine sx (tt qg rfl rfl rfl) ?_)|(refine aa 9 rfl ?_;first|(refine cB [] (kN) ?_)|(refine cB [] (kG) ?_))|(refine aa 23 rfl ?_;refine sx (jO _ _ qg xZ uJ rfl rfl rfl rfl hg) ?_)|(refine aa 24 rfl ?_;refine IZ (mS _ _ qg xZ rfl rfl rfl rfl rfl hm2) ?_)|refine ae ?_|exact ah|(refine ab fun hb=>?_;first|(exact absurd k2 hb)|skip))
   refine ⟨(i+1,m2),⟨by dsimp only;omega,hm3,k4,?_⟩,by dsimp only;omega,?_⟩
   ·dsimp only;rw [hst,k1,k3];simp [k2]
   ·exact a7
  ·obtain rfl:b=false:=by
    rw [←hB];cases h1:iJ [] l with
    | false=>simp [pt,h1]
    | true =>
     rw [hst] at h1;simp only [Bool.and_eq_true,decide_eq_true_eq] at h1;have h8:¬m2.length≤8:=fun h8=>hok ⟨⟨h1.1.1.1,h1.1.1.2,h1.1.2⟩,h8⟩;have h9:¬(bS l).length≤8:=fun h9=>h8 (by
      rw [hm3];have:=AJ (l.take (i+1)) (l.drop (i+1));rw [List.take_append_drop,me l] at this;omega)
     simp [pt,h9]
   have hok1:cE e.name.toList=true→e.before=h→dI e.before e.after=true→m2.length≤8→False:=fun a b c d=>hok ⟨⟨a,b,c⟩,d⟩;obtain ⟨nb,hnb⟩:∃nb,cE e.name.toList=nb:=⟨_,rfl⟩;obtain ⟨gb,hgb⟩:∃gb,dI e.before e.after=gb:=⟨_,rfl⟩;rw [hnb] at kN hok1;rw [hgb] at kG hok1;clear hok hst hnb hgb hm3;have hlm:(uG m2).length=m2.length:=by simp [iM]
   repeat' (first|refine af ?_ ?_|(refine aa 7 rfl ?_;refine sx (tt qg rfl rfl rfl) ?_)|(refine aa 9 rfl ?_;first|(refine cB [] (kN) ?_)|(refine cB [] (kG) ?_))|(refine aa 23 rfl ?_;refine sx (jO _ _ qg xZ uJ rfl rfl rfl rfl hg) ?_)|(refine aa 24 rfl ?_;refine IZ (mS _ _ qg xZ rfl rfl rfl rfl rfl hm2) ?_)|refine ae ?_|exact ah|(refine ab fun hb=>?_;first|(exact (hok1 (by assumption) (by assumption) (by assumption) (by omega)).elim)|skip)|exact bB|fail)
 ·have hE:iJ [] l=true:=by rw [←hs,List.drop_eq_nil_of_le (by omega)];rfl
  rw [List.take_of_length_le (by omega)] at hm;have h8:(bS l).length≤8:=by rw [←me,←hm];exact hm8
  have h64:=vU (vS.1 hE) h8;have hB2:(decide (s.length≤4) && GI s l.length 0 0 s)=b:=by
   rw [←hB,C8 s l.length s 0 0 rfl (Int.le_refl _)];simp [pt,hE,h8,show l.length≤72 by omega]
  have kV:=GK s l.length hB2;clear hB hB2 hE hs hm;repeat' (first|refine af ?_ ?_|refine aa 9 rfl (cB [] (kV) ?_)|refine ae ?_|exact ah|refine ab fun hb=>?_|exact bB|fail)
def Ii (p:Pr) (P:List Pc):Prop:=∀i j (hi:i<P.length) (hj:j<P.length),i≤j→0<bC P[i].proc p→0<bC P[j].proc p
theorem Dc (x:Pc):∀(P:List Pc) (k:Nat),k≤P.length→(∀j (hj:j<P.length),j<k→¬0<bC P[j].proc x.proc)→(∀j (hj:j<P.length),k≤j→0<bC P[j].proc x.proc)→jV x P=P.take k++x :: P.drop k
 | [],k,hk,_,_=>by
  obtain rfl:k=0:=by simpa using hk
  rfl
 | y :: P,0,_,_,h2=>by
  have:=h2 0 (by simp) (Nat.le_refl _);simp only [List.getElem_cons_zero] at this;simp [jV,this]
 | y :: P,k+1,hk,h1,h2=>by
  have h3:=h1 0 (by simp) (by omega);simp only [List.getElem_cons_zero] at h3;have ih:=Dc x P k (by simpa using hk) (fun j hj hjk=>by have:=h1 (j+1) (by simpa using hj) (by omega);simpa using this) (fun j hj hjk=>by have:=h2 (j+1) (by simpa using hj) (by omega);simpa using this);simp [jV,h3,ih]
theorem AO {c:Cs} (h:cM c=true) (h0:c.procs=[]):∀q∈c.queues,q.holds=[]∧q.convs=[]∧q.waits=[]:=by
 intro q hq;have hci:=(bU.1 h).1;have hno:∀p,p ∉ ef q:=fun p hp=>by
  have h1:p∈aB c.queues:=by
   unfold aB;rw [cI,eE];exact ⟨q,hq,hp⟩
  have h2:=hci.cov p h1;rw [h0] at h2;exact absurd h2 (by simp)
 have hno2:c8 q.holds++rm q=[]:=by
  refine List.eq_nil_iff_forall_not_mem.2 fun p hp=>hno p ?_;unfold ef;rw [cI];exact hp
 obtain ⟨e1,e2⟩:=List.append_eq_nil_iff.1 hno2;have e3:q.convs++q.waits=[]:=List.map_eq_nil_iff.1 e2;exact ⟨List.map_eq_nil_iff.1 e1,List.append_eq_nil_iff.1 e3⟩
theorem zn {c:Cs} (h:CI c) {i:Nat} (hi:i<c.procs.length):cD c.procs[i].proc 0 c.procs=(i:Int):=by
 have h0:0≤cD c.procs[i].proc 0 c.procs:=wx.2 (List.mem_map.2 ⟨_,List.getElem_mem hi,rfl⟩);obtain ⟨j,hj,e,hp⟩:=fX h0;by_cases hij:j=i
 ·rw [e,hij];omega
 ·exact absurd hp (pQ h hj hi hij)
theorem De {c:Cs} {k:Cm} (h:cM c=true) (h0:(oc ⟨c,[]⟩ k).2=0):fO c k=((oc ⟨c,[]⟩ k).1.c,(oc ⟨c,[]⟩ k).1.ev,0):=by
 unfold fO;rw [h,decide_eq_true h0];rfl
theorem Df {c:Cs} {k:Cm} (h:(fO c k).2.2=0):cM c=true∧(oc ⟨c,[]⟩ k).2=0:=by
 have hc:=(pY h).1;refine ⟨hc,?_⟩;unfold fO at h;rw [hc] at h;by_cases h0:(oc ⟨c,[]⟩ k).2=0
 ·exact h0
 ·rw [decide_eq_false h0] at h;exact h
theorem GP {c:Cs} {k:Cm} (h:CI c) {i:Nat} (hi:i<c.procs.length) (hp:k.proc=c.procs[i].proc) :
  (k.kind=2→oc ⟨c,[]⟩ k=ck ⟨c,[]⟩ i k.req)∧
  (k.kind=3→oc ⟨c,[]⟩ k=bif !(Wk.pc ⟨c,[]⟩ i).waiting then (⟨c,[]⟩,14) else (bf (aY (az ⟨c,[]⟩ i) i),0))∧
  (k.kind=6→oc ⟨c,[]⟩ k=cy ⟨c,[]⟩ i k.n)∧
  (k.kind=7→oc ⟨c,[]⟩ k=(fG ⟨c,[]⟩ i,0)):=by
 have e:cD k.proc 0 c.procs=(i:Int):=by rw [hp];exact zn h hi
 have e0:decide (cD k.proc 0 (Wk.mk c []).c.procs<0)=false:=decide_eq_false (by show ¬(cD k.proc 0 c.procs<0);omega);have e1:(cD k.proc 0 (Wk.mk c []).c.procs).toNat=i:=by show (cD k.proc 0 c.procs).toNat=i;omega
 refine ⟨?_,?_,?_,?_⟩ <;> intro hk <;> unfold oc <;> rw [e0,e1,hk] <;> rfl
theorem wK {c:Cs} {k:Cm} (hk:k.kind=7) (h:cM c=true) {i:Nat} (hi:i<c.procs.length) (hp:k.proc=c.procs[i].proc) :
  (fO c k).2.2=0∧cM (fO c k).1=true∧(fO c k).1.procs.length=c.procs.length-1∧dN (fO c k).1.queues=dN (fG ⟨c,[]⟩ i).c.queues:=by
 have hci:=(bU.1 h).1;have e:=(GP hci hi hp).2.2.2 hk;have e2:=De (k:=k) h (by rw [e]);rw [e] at e2;have h0:(fO c k).2.2=0:=by rw [e2]
 refine ⟨h0,(pY h0).2,?_,by rw [e2]⟩;rw [e2];obtain ⟨_,_,_,_,q5,_⟩:=ux (w:=⟨c,[]⟩) hci hi;have q6:=congrArg List.length q5;rw [List.length_map,List.length_map] at q6;show (fG ⟨c,[]⟩ i).c.procs.length=_;rw [q6,List.length_eraseIdx_of_lt hi]
def wL (w:Wk) (i:Nat):Wk:=bf (aY (az (w.note 4 (w.pc i).proc) i) i)
theorem x5 (n:Nat) (w:Wk):fk (n+1) w=bif decide (et w<0) then w else fk n (wL w (et w).toNat):=rfl
theorem E3 {w:Wk} (h:CI w.c) (he:0≤et w):CI (wL w (et w).toNat).c∧bY (wL w (et w).toNat).c.procs+1≤bY w.c.procs∧Kp w (wL w (et w).toNat):=by
 obtain ⟨hi,hl⟩:=(mO w).2 he;generalize (et w).toNat=i at *
 have hc0:CI (w.note 4 (w.pc i).proc).c:=h;have hw0:((w.note 4 (w.pc i).proc).pc i).waiting=true:=by rw [bG (w:=w.note 4 (w.pc i).proc) hi];exact hl.1
 obtain ⟨k1,k2,k3,k4,_⟩:=db hc0 hi hw0;have hi2:i<(az (w.note 4 (w.pc i).proc) i).c.procs.length:=by rw [k3.len];exact hi
 have hrun:((az (w.note 4 (w.pc i).proc) i).pc i).waiting=false:=by rw [bG hi2];simp [k4]
 obtain ⟨n1,n2,n3⟩:=gw k1 hi2 hrun;obtain ⟨q1,_,q3,q4,q5,q6,_,q8⟩:=g7 n1;have k2':bY (az (w.note 4 (w.pc i).proc) i).c.procs+1=bY w.c.procs:=k2;have hk:=(k3.trans n2).trans (⟨q6,q4,q3,q8⟩:Kp _ (bf (aY (az (w.note 4 (w.pc i).proc) i) i)));refine ⟨q1,?_,⟨hk.kw,hk.now,hk.pr,hk.nm⟩⟩;have:bY (wL w i).c.procs≤bY (aY (az (w.note 4 (w.pc i).proc) i) i).c.procs:=q5;omega
theorem Ij {c:Cs} {k:Cm} (h:cM c=true) (he:(oc ⟨c,[]⟩ k).2=0):dN (oc ⟨c,[]⟩ k).1.c.queues=dN c.queues:=by
 obtain ⟨hci,hun⟩:=bU.1 h;unfold oc at he ⊢;cases hA:decide (1≤k.kind) && decide (k.kind≤9) with
 | false=>rw [hA] at he;simp at he
 | true =>
  rw [hA] at he;simp only [Bool.not_true,cond_false] at he ⊢;by_cases h1:k.kind=1
  ·rw [decide_eq_true h1] at he ⊢;simp only [cond_true] at he ⊢;rw [(y7 hci he).2.1]
  ·rw [decide_eq_false h1] at he ⊢;simp only [cond_false] at he ⊢;by_cases h9:k.kind=9
   ·rw [decide_eq_true h9] at he ⊢;simp only [cond_true] at he ⊢;unfold gZ at he ⊢;cases hB:decide (0≤k.n) && decide (k.n≤1000) with
    | false=>rw [hB] at he;simp at he
    | true =>
     rw [hB] at he;simp only [Bool.not_true,cond_false] at he ⊢;simp only [Bool.and_eq_true,decide_eq_true_eq] at hB;by_cases hm:1073741824-k.n<c.now
     ·rw [decide_eq_true hm] at he;simp at he
     ·rw [decide_eq_false hm];simp only [cond_false];have gen:∀(n:Nat) (w:Wk),CI w.c→dN (fk n w).c.queues=dN w.c.queues:=by
       intro n;induction n with
       | zero=>intro w _;rfl
       | succ n ih =>
        intro w hw;rw [x5];by_cases he:et w<0
        ·rw [decide_eq_true he];rfl
        ·rw [decide_eq_false he,cond_false];obtain ⟨l1,_,l3⟩:=E3 hw (by omega);exact (ih _ l1).trans l3.nm
      exact gen c.procs.length ⟨{ c with now:=c.now+k.n },[]⟩ (hci.later hB.1 (by omega))
   ·rw [decide_eq_false h9] at he ⊢;simp only [cond_false] at he ⊢;by_cases hI:cD k.proc 0 c.procs<0
    ·rw [decide_eq_true hI] at he;simp at he
    ·rw [decide_eq_false hI] at he ⊢;simp only [cond_false] at he ⊢;obtain ⟨i,hi,e,hip⟩:=fX (p:=k.proc) (l:=c.procs) (k:=0) (by omega);have ei:(cD k.proc 0 c.procs).toNat=i:=by rw [e];omega
     rw [ei] at he ⊢;by_cases h2:k.kind=2
     ·rw [decide_eq_true h2] at he ⊢;simp only [cond_true] at he ⊢;exact (pT hci hi he).2.2.2.2.2.2
     ·rw [decide_eq_false h2] at he ⊢;simp only [cond_false] at he ⊢;by_cases h3:k.kind=3
      ·rw [decide_eq_true h3] at he ⊢;simp only [cond_true] at he ⊢;cases hw:(Wk.pc ⟨c,[]⟩ i).waiting with
       | false=>rw [hw] at he;simp at he
       | true =>
        simp only [Bool.not_true,cond_false];obtain ⟨k1,_,k3,k4,_⟩:=db (w:=⟨c,[]⟩) hci hi hw;have hi2:i<(az ⟨c,[]⟩ i).c.procs.length:=by rw [k3.len];exact hi
        obtain ⟨n1,n2,_⟩:=gw k1 hi2 (by rw [bG hi2];simp [k4]);obtain ⟨_,_,q3⟩:=fW n1;exact ((k3.trans n2).trans q3).nm
      ·rw [decide_eq_false h3] at he ⊢;simp only [cond_false] at he ⊢;by_cases h4:k.kind=4
       ·rw [decide_eq_true h4] at he ⊢;simp only [cond_true] at he ⊢;exact (pU hci hi he).2.2.1.nm
       ·rw [decide_eq_false h4] at he ⊢;simp only [cond_false] at he ⊢;by_cases h5:k.kind=5
        ·rw [decide_eq_true h5] at he ⊢;simp only [cond_true] at he ⊢;rcases Bool.eq_false_or_eq_true (Wk.pc ⟨c,[]⟩ i).waiting with hw|hw
         ·rw [cT hw] at he;simp at he
         ·rw [cF hw] at he ⊢;cases hs : !decide ((d8 (Wk.pc ⟨c,[]⟩ i).led k.n).2=0) with
          | true=>rfl
          | false=>rfl
        ·rw [decide_eq_false h5] at he ⊢;simp only [cond_false] at he ⊢;by_cases h6:k.kind=6
         ·rw [decide_eq_true h6] at he ⊢;simp only [cond_true] at he ⊢;exact (nL hci hi he).2.2.1.nm
         ·rw [decide_eq_false h6] at he ⊢;simp only [cond_false] at he ⊢;cases h8:decide (k.kind=8) && (Wk.pc ⟨c,[]⟩ i).waiting with
          | true=>rw [h8] at he;simp at he
          | false =>
           simp only [cond_false];exact (ux (w:=⟨c,[]⟩) hci hi).2.2.2.2.2.2
theorem x6 {c:Cs} (h:cM c=true):(∀q∈c.queues,f0 q.res (gp q.holds)=true)∧∀x∈c.procs,x.waiting=true→dE x.req.expr (bo c.queues x.proc x.req.expr)=false:=by
 obtain ⟨hci,hun⟩:=bU.1 h;refine ⟨fun q hq=>sI.2 (cj hci.tv hq |> aF).hv.cmp,fun x hx hw=>?_⟩;have h1:=(hun x hx hw).2;unfold dP at h1;rw [hw] at h1;exact h1
theorem Dg {t:List Qu} {p:Pr} {e:Ex} {k:Nat} (hk:k<(cJ e).length):(bo t p e).getD k false=(aS t (cJ e)[k].name && a8 (a6 t (cJ e)[k].name).res (ao (a6 t (cJ e)[k].name).holds p) (cJ e)[k].am):=by
 unfold bo;rw [List.getD_eq_getElem?_getD,List.getElem?_map,List.getElem?_eq_getElem hk];rfl
theorem Ik {w:Wk} {i:Nat} {x y:Pc} {n:ByteArray} {a:Am} (hv:dl w.c.queues=true) (hn:aS w.c.queues n=true) (hl:LedOf w.c.queues x y) (hlh:fv y n=fv x n) (ha:aC (a6 w.c.queues n).res a=true) (hf:FitA w.c.queues n x a)
  (hc:a8 (a6 w.c.queues n).res (ao (a6 w.c.queues n).holds x.proc) a=true) :
  ao (a6 w.c.queues n).holds x.proc=ay y.led.entries n∨(eG y.led ⟨n,ay y.led.entries n,ao (a6 w.c.queues n).holds x.proc⟩).2=0:=by
 rcases hf with ⟨_,h⟩|⟨hc2,⟨h1,h2⟩|⟨h1,h2,_⟩⟩
 ·exact .inl (h.h.trans hlh.symm)
 ·right
  obtain ⟨j1,j2,_,j4⟩:=Cv (jI hv hn) ha hc2 (by rw [←hlh];exact jo hl.stat n);have hgr:dI (fv x n) (jn w.c.queues n x a)=true:=wn j1 j2 j4 (by rw [←hlh];exact jo hl.stat n);obtain ⟨e1,e2⟩:=sU (g:=y.led) hl.stat.led (e:=⟨n,fv x n,jn w.c.queues n x a⟩) (y4 hv hn) (by show fv x n=ay y.led.entries n;exact hlh.symm) hgr (ns:=dN w.c.queues) (by unfold dN;rw [List.length_map];exact (bE hv).1) (tc hl.stat) (by obtain ⟨h3,h4⟩:=cW hn;exact List.mem_map.2 ⟨_,h3,h4⟩);rw [h1,show ay y.led.entries n=fv x n from hlh,e1]
 ·rw [h1,hc2] at hc;cases hc
theorem qi {t:List Qu} {n:ByteArray} (h:aS t n=true):t≠[]:=fun e=>by rw [e] at h;cases h
def wM (x:Pc) (i:Nat):List Tm→List Bool→Wk→Prop
 | a :: l,b :: bs,w=>dl w.c.queues=true∧aS w.c.queues a.name=true∧w.ev.length≤800000∧
   (∃y,w.c.procs[i]? = some y∧y.proc=x.proc∧ay y.led.entries a.name=ay x.led.entries a.name∧(b=true→ao (a6 w.c.queues a.name).holds x.proc=ay y.led.entries a.name∨(eG y.led ⟨a.name,ay y.led.entries a.name,ao (a6 w.c.queues a.name).holds x.proc⟩).2=0))∧
   (b=false→(bq w x a.name).c.queues≠[])∧wM x i l bs (bif b then gW w i x.proc a.name else bq w x a.name)
 | _,_,_=>True
theorem uM:∀(l:List Tm) (bs:List Bool) (w:Wk) (i:Nat) (x y:Pc),l.length=bs.length→dl w.c.queues=true→w.pc i=y→i<w.c.procs.length→PStat w.c.queues x→LedOf w.c.queues x y→(∀a∈l,fv y a.name=fv x a.name)→A8 l→Rsl w.c.queues l→
  (∀n,aS w.c.queues n=true→(∀a,cG l n=some a→FitA w.c.queues n x a.am)∧(cG l n=none→FitR w.c.queues n y))→
  (∀k (h:k<l.length),bs.getD k false=true→a8 (a6 w.c.queues l[k].name).res (ao (a6 w.c.queues l[k].name).holds x.proc) l[k].am=true)→
  w.ev.length+35*l.length≤800000→wM x i l bs w
 | [],bs,w,i,x,y,_,_,hy,_,_,_,_,_,_,_,_,_=>by cases bs <;> trivial
 | a :: l,[],w,i,x,y,hlen,_,_,_,_,_,_,_,_,_,_,_=>by simp at hlen
 | a :: l,b :: bs,w,i,x,y,hlen,hv,hy,hi,hsx,hl,hlh,hnd,hr,hf,hc,hev=>by
  obtain ⟨h1,h2⟩:=List.pairwise_cons.1 hnd;obtain ⟨ha1,ha2⟩:=hr a (by simp);have hfa:FitA w.c.queues a.name x a.am:=(hf a.name ha1).1 a (by rw [cA,aP.2 rfl];rfl);have hr2:Rsl w.c.queues l:=fun b hb=>hr b (by simp [hb]);have hat:∀n,n≠a.name→cG (a :: l) n=cG l n:=fun n hn=>by rw [cA,bJ.2 (fun h=>hn h.symm)];rfl
  have hnone:cG l a.name=none:=gm.2 fun b hb e=>h1 b hb e.symm;have hgy:w.c.procs[i]? = some y:=by rw [List.getElem?_eq_getElem hi,←bG hi,hy]
  rw [List.length_cons] at hev;cases b with
  | true =>
   have hcv:=hc 0 (by simp) (by simp);simp only [List.getElem_cons_zero] at hcv;obtain ⟨y1,e1,k1,k2,k3⟩:=CA hv ha1 hy hi hl (hlh a (by simp)) ha2 hfa hcv;refine ⟨hv,ha1,by omega,⟨y,hgy,hl.proc,hlh a (by simp),fun _=>Ik (i:=i) hv ha1 hl (hlh a (by simp)) ha2 hfa hcv⟩,(fun h=>by cases h),?_⟩;rw [cond_true,e1];exact uM l bs (w.setP i y1) i x y1 (by simpa using hlen) hv (eM hi y1) (by show i<(w.c.procs.set i y1).length;simpa using hi) hsx k1 (fun b hb=>by rw [k3 _ (fun e=>h1 b hb e.symm)];exact hlh b (by simp [hb])) h2 hr2
    (fun n hn=>by
     by_cases en:n=a.name
     ·subst en;exact ⟨fun b hb=>(by rw [hnone] at hb;cases hb),fun _=>k2⟩
     ·have h3:=hf n hn;rw [hat n en] at h3;exact ⟨h3.1,fun h4=>(h3.2 h4).led (by rw [k1.proc,hl.proc]) (k3 n en)⟩)
    (fun k hk hb=>by
     have h5:=hc (k+1) (by simpa using hk) (by simpa using hb);simp only [List.getElem_cons_succ] at h5;exact h5)
    (by show w.ev.length+_≤_;omega)
  | false =>
   obtain ⟨k1,k2⟩:=pJ hv ha1 hsx ha2 hfa;refine ⟨hv,ha1,by omega,⟨y,hgy,hl.proc,hlh a (by simp),fun h=>by cases h⟩,fun _=>qi (n:=a.name) (by rw [k1.tp.hasE];exact ha1),?_⟩;rw [cond_false];have hev2:=js w x a.name;exact uM l bs (bq w x a.name) i x y (by simpa using hlen) k1.tp.v (by unfold Wk.pc at hy ⊢;rw [k1.procs];exact hy) (by rw [k1.procs];exact hi) (hsx.tp k1.tp) ⟨hl.eq,hl.stat.tp k1.tp,hl.gr⟩ (fun b hb=>hlh b (by simp [hb])) h2 (hr2.tp k1.tp)
    (fun n hn=>by
     rw [k1.tp.hasE] at hn;by_cases en:n=a.name
     ·subst en;exact ⟨fun b hb=>(by rw [hnone] at hb;cases hb),fun _=>k2.led hl.proc (hlh a (by simp))⟩
     ·have h3:=hf n hn;rw [hat n en] at h3;have e1:=k1.oth n en hn;exact ⟨fun b hb=>(h3.1 b hb).eq e1,fun h4=>(h3.2 h4).eq e1⟩)
    (fun k hk hb=>by
     have h5:=hc (k+1) (by simpa using hk) (by simpa using hb);simp only [List.getElem_cons_succ] at h5;have hm:l[k]∈l:=List.getElem_mem hk;rw [k1.oth l[k].name (fun e=>h1 _ hm e.symm) (hr2 _ hm).1];exact h5)
    (by omega)
theorem Il {w:Wk} {i:Nat} (h:CI w.c) (hi:i<w.c.procs.length) (hw:(w.pc i).waiting=true) (hev:w.ev.length≤700000) :
  wM (w.pc i) i (cJ (w.pc i).req.expr) (cY (w.pc i).req.expr (bo w.c.queues (w.pc i).proc (w.pc i).req.expr)) (w.note 2 (w.pc i).proc):=by
 have hpc:=bG hi;have hinv:=h.inv _ (List.getElem_mem hi);rw [←hpc] at hinv;obtain ⟨hwt,hfit⟩:=hinv.wat hw;obtain ⟨hve,hrsl⟩:=mK hwt.rs;have h8:=dQ (w.pc i).req.expr;exact uM (cJ (w.pc i).req.expr) (cY (w.pc i).req.expr (bo w.c.queues (w.pc i).proc (w.pc i).req.expr)) (w.note 2 (w.pc i).proc) i (w.pc i) (w.pc i) (mJ _ _).symm h.tv rfl hi hinv.stat (LedOf.refl hinv.stat) (fun _ _=>rfl) (ky _) hrsl
  (fun n hn=>by
   have:=hfit n hn;unfold FitW at this;exact ⟨fun a ha=>by rw [ha] at this;exact this,fun ha=>by rw [ha] at this;exact this⟩)
  (fun k hk hb=>by
   have h1:=td hb;rw [Dg hk,Bool.and_eq_true] at h1;exact h1.2)
  (by rw [mb];omega)
def StP:Nat→Wk→Prop
 | 0,v=>v.c.procs.length≤100000∧gh v.c.queues 0 v.c.procs=none
 | n+1,v=>v.c.procs.length≤100000∧v.ev.length≤800000∧∀i,gh v.c.queues 0 v.c.procs=some i→i<v.c.procs.length∧
   wM (v.pc i) i (cJ (v.pc i).req.expr) (cY (v.pc i).req.expr (bo v.c.queues (v.pc i).proc (v.pc i).req.expr)) (v.note 2 (v.pc i).proc)∧StP n (gX v i)
theorem StP.len {n:Nat} {v:Wk} (h:StP n v):v.c.procs.length≤100000:=by cases n <;> exact h.1
theorem JI:∀(n:Nat) (w:Wk),CI w.c→bY w.c.procs≤n→w.ev.length+281*n≤700000→StP n w
 | 0,w,h,hn,_=>by
  refine ⟨by have:=h.len;omega,?_⟩;cases hs:gh w.c.queues 0 w.c.procs with
  | none=>rfl
  | some i =>
   obtain ⟨j,hj,_,h2⟩:=iz hs;unfold dP at h2;rw [Bool.and_eq_true] at h2;have:=jJ hj h2.1;omega
 | n+1,w,h,hn,he=>by
  refine ⟨by have:=h.len;omega,by omega,fun i hs=>?_⟩;obtain ⟨j,hj,e,h2⟩:=iz hs;have e':i=j:=by omega
  subst e';have hwt:(w.pc i).waiting=true:=by
   rw [bG hj];unfold dP at h2;rw [Bool.and_eq_true] at h2;exact h2.1
  obtain ⟨k1,k2,_⟩:=CC h hj hwt;have hfe:=zd w i;exact ⟨hj,Il h hj hwt (by omega),JI n (gX w i) k1 (by omega) (by omega)⟩
theorem AP {w:Wk} (h:CI w.c) (he:w.ev.length≤600000):StP w.c.procs.length w:=JI _ _ h (lV _) (by have:=h.len;omega)
theorem Jo {c:Cs} (h:CI c) (p:Pr):Ii p c.procs:=fun i j hi hj hij hk=>by
 by_cases e:i=j
 ·subst e;exact hk
 ·have ha:=List.pairwise_iff_getElem.1 h.asc i j (by simpa using hi) (by simpa using hj) (by omega);simp only [List.getElem_map] at ha;rcases dd c.procs[i].proc p with ⟨_,k1⟩|⟨_,k1⟩|⟨k0,_⟩
  ·omega
  ·omega
  ·rcases dd c.procs[j].proc p with ⟨k2,_⟩|⟨k2,_⟩|⟨_,k3⟩
   ·exact absurd (cX (cX k0 ha) k2) (bI _)
   ·exact absurd (k2▸cX k0 ha) (bI _)
   ·omega
def Cm.d (d:Nat) (k:Cm):List D:=[.sc (.int .i64 k.kind),.sc (.int .i64 k.proc.site),.sc (.int .i64 k.proc.inc),.sc (.int .i64 k.proc.num),.sc (.int .i64 k.req.expr.k),.sc (.string k.req.expr.atom.name),.sc (.int .i64 k.req.expr.atom.am.mode),.sc (.int .i64 k.req.expr.atom.am.units),.sl (mn d) k.req.expr.kids,.sc (.int .i64 k.req.prio),.sc (.int .i64 k.req.limit),.sc (.string k.name),.sc (.int .i64 k.n)]
def Cm.a (d:Nat) (k:Cm):V0:=.ag (k.d d)
theorem qk (d:Nat) (r:Rq) {b:Bool} (hB:sV r=b):FSpec prog 81 [r.a d] [] [] (.b b) []:=by
 refine aT func81 ?_;have kE:=xY d r.expr;repeat' (first|refine af ?_ ?_|refine aa 9 rfl (cB [] (kE) ?_)|refine ae ?_|exact ah|refine ab fun hb=>?_)
 all_goals (refine fm ?_;rw [←hB];simp [sV, *];try omega)
def Cs.d (d:Nat) (c:Cs):List D:=[.sc (.int .i64 c.now),.sl eX c.queues,.sl (fu d) c.procs]
def Cs.a (d:Nat) (c:Cs):V0:=.ag (c.d d)
def GZ (c:Cs) (a:Tm):Bool:=aS c.queues a.name && aC (a6 c.queues a.name).res a.am
def G0 (c:Cs) (x:Pc):Bool:=Gc x.req && decide (x.since=0) && decide (eH x.led=eI c.queues x.proc) && decide (cn x.proc c.queues=[])
def Dn (c:Cs) (x:Pc):Bool:=sV x.req && decide (iP c.queues x.req.expr=0) && decide (0≤x.since) && decide (x.since≤c.now) && (decide (x.req.limit=0) || decide (c.now<x.since+x.req.limit)) && !dE x.req.expr (bo c.queues x.proc x.req.expr) && c.queues.all (fun q=>cN q x (cJ x.req.expr))
theorem Do (c:Cs) (x:Pc):nu c x=(j8 x.proc && decide (1≤x.cost) && decide (x.cost≤1000) && sQ x.led && decide (0≤x.gen) && decide (x.gen≤1073741824) && (eH x.led).all (GZ c) && bif !x.waiting then G0 c x else Dn c x):=rfl
theorem A4 (c:Cs) (o:Option Pr) (x:Pc) (l:List Pc):vW c o (x :: l)=(nu c x && Fo o x.proc && vW c (some x.proc) l):=rfl
def JW (d:Nat) (R:Cs×List Ev×Int):TV:=.tup [R.1.a d,.one (.sl iQ R.2.1),.one (.sc (.int .i64 R.2.2))]
end Go.Proofs.YtcgpepnbohejfaaGreatDoor
