/- Part 20 of 35 of the proof of centralNew_holds (no condition). -/
import Derived.Test.YtjndcdcbjidocaaGreatDoorK19
import Derived.Maps.OwnSet
import Derived.Maps.RangeRun
set_option linter.unusedVariables false
set_option linter.unusedSimpArgs false
set_option maxRecDepth 100000
set_option maxHeartbeats 64000000
namespace Go.Proofs.YtjndcdcbjidocaaGreatDoor
open Go.RowKit Go.Proofs.Tryz
theorem uo {q:Qu} {p:Pr} (hS:ax q=true) (hh:fu q p=true):(ba q p).2.2=0∧(ba q p).1.res.name=q.res.name:=by
 have hs:=aK hS
 have e:ba q p=iL (dE { q with holds:=b9 q.holds p ⟨0,0⟩,convs:=b7 q.convs p,waits:=b7 q.waits p }):=by simp [ba,hS,hh]
 have:=(dz (hs.gone p)).2.2
 rw [e]
 exact ⟨rfl,congrArg Rs.name this⟩
def Kx:List D:=[.sc (.string { data:=#[] }),.sc (.int .i64 0),.sc (.int .i64 0),.sc (.int .i64 0),.sc (.slice none 0 0),.sc (.slice none 0 0),.sc (.slice none 0 0),.sc (.int .i64 0)]
theorem FE (t:List Qu) (hl:t.length≤8) (h8:∀q∈t,eO q):FSpec prog 224 [.one (.sl dt t),iV (-1),.ag Kx] [] [0] (.c (.own 0)) [(0,some (.arr 81 dt t))]:=by
 refine aS func224 ?_
 repeat' (first
  | refine ah ?_ ?_
  | (refine aa 20 rfl ?_;refine sx (uj (E:=dt) (n:=t.length) (z:=.agg #[.string { data:=#[] },.int .i64 0,.int .i64 0,.int .i64 0,.slice none 0 0,.slice none 0 0,.slice none 0 0,.int .i64 0]) jh rfl rfl rfl rfl (by omega) (by kernel_rfl) zm (by decide)) ?_)
  | refine af ?_
  | exact ai|refine ae fun hb=>?_)
 refine aj (fun i=>i≤t.length) (fun i=>bH [5,1000] [(1,.i (-1)),(5,.c (.ptr 5 0)),(7,.c (.own 1000)),(13,.c (.sl dt t)),(14,.i t.length),(15,.i i)] [(5,.box 81 Kx),(1000,.arr 81 dt (t.take i++List.replicate (t.length-i) jh))]) (fun i=>t.length-i) 0 (Nat.zero_le _) (by exact ao (qf [(1000,12)])) ?_
 intro i hi
 have hRl:(t.take i++List.replicate (t.length-i) jh).length=t.length:=by simp;omega
 by_cases hlt:i<t.length
 ·obtain ⟨x,hx⟩:∃x,t[i]=x:=⟨_,rfl⟩
  have hgx:t[i]? = some x:=by rw [List.getElem?_eq_getElem hlt,hx]
  have hq:=h8 _ (List.getElem_mem hlt)
  rw [hx] at hq
  obtain ⟨q1,q2,q3⟩:=hq
  have hset:(t.take i++List.replicate (t.length-i) jh).set i x=t.take (i+1)++List.replicate (t.length-(i+1)) jh:=by
   rw [List.set_append_right _ _ (by simp;omega),List.take_succ_eq_append_getElem hlt,hx]
   simp only [List.length_take,Nat.min_eq_left (Nat.le_of_lt hlt),Nat.sub_self]
   rw [show t.length-i=(t.length-(i+1))+1 by omega,List.replicate_succ]
   simp
  have hgi:(t.take i++List.replicate (t.length-i) jh)[i]? = some jh:=by
   rw [List.getElem?_append_right (by rw [List.length_take];omega),List.length_take,Nat.min_eq_left (Nat.le_of_lt hlt),Nat.sub_self,List.getElem?_replicate,if_pos (by omega)]
  obtain ⟨L,hL⟩:∃L,t.take i++List.replicate (t.length-i) jh=L:=⟨_,rfl⟩
  rw [hL] at hRl hset hgi ⊢
  clear h8 hL
  repeat' (first
   | refine ah ?_ ?_
   | ((fail_if_success (first|refine mC 8 ?_|refine mD 8 ?_));refine af ?_)
   | exact ai|refine ae fun hb=>?_)
  refine g9 22 rfl ?_
  refine g9 26 rfl ?_
  refine g9 30 rfl ?_
  repeat' (first
   | refine ah ?_ ?_
   | refine af ?_
   | (refine aa 4 rfl ?_;refine bc (aB (z:=x) rfl rfl rfl rfl hgi rfl rfl rfl rfl (Nat.le_of_ble_eq_true rfl) rfl rfl) rfl rfl rfl ?_)
   | exact ai|refine ae fun hb=>?_)
  refine ⟨i+1,by omega,by omega,?_⟩
  rw [←hset]
  exact ao (qf [])
 ·have e:t.take i++List.replicate (t.length-i) jh=t:=by rw [List.take_of_length_le (by omega),show t.length-i=0 by omega];simp
  rw [e]
  clear h8
  repeat' (first
   | refine ah ?_ ?_
   | refine af ?_
   | exact ai|refine ae fun hb=>?_
   | (refine aE (qf [(0,1000)]) ?_;exact ab))
theorem Dv (t:List Qu) (p:Pr) {R:List Qu×List Ev} (hR:cf t p=R):FSpec prog 161 [.one (.sl dt t),p.a] [] [] (.tup [.one (.sl dt R.1),.one (.sl i7 R.2)]) []:=by
 refine aS func161 ?_
 cases hV:df t with
 | false =>
  obtain rfl:R=([],[]):=by rw [←hR];simp [cf,hV]
  repeat' (first
   | refine ah ?_ ?_
   | refine aa 9 rfl (cB [] (oX t) ?_)
   | refine af ?_
   | exact ai|(refine ae fun hb=>?_;first|(simp [hV] at hb;done)|skip)
   | (refine fL (qf []) ?_;exact ab))
 | true =>
  have hm:=(bD hV).1
  have h8:∀q∈t,eO q:=fun q hq=>cz (cA hV hq)
  have hR2:aW p t=R:=by rw [←hR];simp [cf,hV]
  have kR:=FE t (by omega) h8
  clear h8
  repeat' (first
   | refine ah ?_ ?_
   | (refine aa 9 rfl ?_;first
    | (refine cB [] (oX t) ?_)
    | (refine cH (qf [(0,1001)]) (kR) ?_))
   | refine af ?_
   | exact ai|(refine ae fun hb=>?_;first|(simp [hV] at hb;done)|skip))
  refine b8 7 1000 67 i7 rfl rfl rfl ?_
  refine aj (fun x:Nat×List Qu×List Ev=>x.1≤t.length∧x.2.1.length=x.1∧x.2.2.length≤18*x.1∧x.2.1++(aW p (t.drop x.1)).1=R.1∧x.2.2++(aW p (t.drop x.1)).2=R.2) (fun x=>bH [3,1000,1001] [(3,.c (.ptr 3 0)),(6,.c (.own 1001)),(7,.c (.own 1000)),(19,.c (.sl dt t)),(20,.i t.length),(21,.i x.1)] [i8 3 p,(1001,.arr 81 dt (x.2.1++t.drop x.1)),(1000,.arr 67 i7 x.2.2)]) (fun x=>t.length-x.1) (0,[],[]) ⟨Nat.zero_le _,rfl,Nat.le_refl _,by rw [←hR2];rfl,by rw [←hR2];rfl⟩ (by exact ao (qf [])) ?_
  rintro ⟨i,o,ev⟩ ⟨hi,hol,hel,hs1,hs2⟩
  dsimp only at *
  have hlen:(o++t.drop i).length=t.length:=by simp;omega
  by_cases hlt:i<t.length
  ·obtain ⟨q,hq⟩:∃q,q=t[i]:=⟨_,rfl⟩
   have hgt:t[i]? = some q:=by rw [List.getElem?_eq_getElem hlt,hq]
   have dy:(o++t.drop i)[i]? = some q:=by
    rw [List.getElem?_append_right (by omega),hol,Nat.sub_self,List.getElem?_drop]
    simp [hq,hlt]
   have hS:ax q=true:=cA hV (hq▸List.getElem_mem hlt)
   rw [List.drop_eq_getElem_cons hlt,←hq] at hs1 hs2
   have e0:o++t.drop i=(o++[q])++t.drop (i+1):=by rw [List.drop_eq_getElem_cons hlt,←hq];simp
   obtain ⟨Q,hQ⟩:∃Q,ba q p=Q:=⟨_,rfl⟩
   have kQ:=Dq q p hQ
   cases hh:fu q p with
   | false =>
    rw [show aW p (q :: t.drop (i+1))=(q :: (aW p (t.drop (i+1))).1,(aW p (t.drop (i+1))).2) by simp [aW,hh]] at hs1 hs2
    obtain rfl:bW 10=Q:=by rw [←hQ];simp [ba,hS,hh]
    repeat' (first
     | refine ah ?_ ?_
     | refine aa 9 rfl (cC [] (kQ) ?_)
     | refine af ?_
     | exact ai|(refine ae fun hb=>?_;first|(exact absurd hb (by decide))|skip))
    refine ⟨(i+1,o++[q],ev),⟨by dsimp only;omega,by simp;omega,by dsimp only;omega,by dsimp only;rw [←hs1];simp,hs2⟩,by dsimp only;omega,?_⟩
    dsimp only
    rw [←e0]
    exact ao (qf [])
   | true =>
    obtain ⟨hQ0,hQn⟩:=uo hS hh
    have hQl:=oq hS p
    rw [hQ] at hQl hQ0 hQn
    have hgl:(aV q.res.name Q.2.1).length≤17:=by unfold aV;rw [List.length_map];exact hQl
    have hset:(o++t.drop i).set i Q.1=(o++[Q.1])++t.drop (i+1):=by
     have e9:(t.drop i).set 0 Q.1=Q.1 :: t.drop (i+1):=by rw [List.drop_eq_getElem_cons hlt];rfl
     rw [List.set_append_right _ _ (by omega),hol,Nat.sub_self,e9]
     simp
    obtain ⟨h,hhh⟩:∃h,aq q.holds p=h:=⟨_,rfl⟩
    have kH:=dZ q p
    rw [hhh] at kH
    obtain ⟨L,hL⟩:∃L,o++t.drop i=L:=⟨_,rfl⟩
    rw [hL] at hlen dy hset ⊢
    by_cases hz:h=⟨0,0⟩
    ·rw [show aW p (q :: t.drop (i+1))=(Q.1 :: (aW p (t.drop (i+1))).1,aV q.res.name Q.2.1++(aW p (t.drop (i+1))).2) by simp [aW,hh,hQ,hhh,hz,hQn,aG]] at hs1 hs2
     have kN:=(qL q.res.name Q.2.1 ev ⟨3,p,q.res.name,⟨0,0⟩⟩ (by omega) (by omega)).2.2
     repeat' (first
      | refine ah ?_ ?_
      | (refine aa 9 rfl ?_;first
       | (refine cC [] (kQ) ?_)
       | (refine cB [] (kH) ?_)
       | (refine cH (qf [(0,1000),(1,1002)]) (kN) ?_))
      | refine af ?_
      | (refine aa 4 rfl ?_;refine bc (aB (z:=Q.1) rfl rfl rfl rfl dy rfl rfl rfl rfl (Nat.le_of_ble_eq_true rfl) rfl rfl) rfl rfl rfl ?_)
      | exact ai|(refine ae fun hb=>?_;first|(exact absurd hQ0 hb)|(exact absurd hz hb)|skip))
     refine ⟨(i+1,o++[Q.1],ev++aV q.res.name Q.2.1),⟨by dsimp only;omega,by simp;omega,by simp;omega,by dsimp only;rw [←hs1];simp,by dsimp only;rw [←hs2];simp⟩,by dsimp only;omega,?_⟩
     dsimp only
     rw [←hset]
     exact ao (qf [(1000,1002)])
    ·rw [show aW p (q :: t.drop (i+1))=(Q.1 :: (aW p (t.drop (i+1))).1,[⟨3,p,q.res.name,⟨0,0⟩⟩]++aV q.res.name Q.2.1++(aW p (t.drop (i+1))).2) by simp [aW,hh,hQ,hhh,hz,hQn,aG]] at hs1 hs2
     have kN:=(qL q.res.name Q.2.1 (ev++[⟨3,p,q.res.name,⟨0,0⟩⟩]) ⟨3,p,q.res.name,⟨0,0⟩⟩ (by omega) (by simp;omega)).2.2
     repeat' (first
      | refine ah ?_ ?_
      | (refine aa 8 rfl ?_;refine bg (aw rfl rfl (aL rfl rfl) (aP [⟨3,p,q.res.name,⟨0,0⟩⟩] rfl rfl rfl rfl) rfl aR aR) rfl rfl rfl ?_)
      | (refine aa 9 rfl ?_;first
       | (refine cC [] (kQ) ?_)
       | (refine cB [] (kH) ?_)
       | (refine cB [] (Dt p q.res.name ⟨0,0⟩) ?_)
       | (refine cH (qf [(0,48),(1,1002)]) (kN) ?_))
      | refine af ?_
      | (refine aa 4 rfl ?_;refine bc (aB (z:=Q.1) rfl rfl rfl rfl dy rfl rfl rfl rfl (Nat.le_of_ble_eq_true rfl) rfl rfl) rfl rfl rfl ?_)
      | exact ai|(refine ae fun hb=>?_;first|(exact absurd hQ0 hb)|(exact absurd hb hz)|skip))
     refine ⟨(i+1,o++[Q.1],ev++[⟨3,p,q.res.name,⟨0,0⟩⟩]++aV q.res.name Q.2.1),⟨by dsimp only;omega,by simp;omega,by simp;omega,by dsimp only;rw [←hs1];simp,by dsimp only;rw [←hs2];simp⟩,by dsimp only;omega,?_⟩
     dsimp only
     rw [←hset]
     exact ao (qf [(1000,1002)])
  ·have e:(o++t.drop i,ev)=R:=by
    rw [List.drop_eq_nil_of_le (by omega)] at hs1 hs2 ⊢
    simp [aW] at hs1 hs2
    rw [hs2,List.append_nil,hs1]
   repeat' (first
    | refine ah ?_ ?_
    | refine af ?_
    | exact ai|refine ae fun hb=>?_)
   rw [←e]
   refine fL (qf []) ?_;exact ab
theorem jc {α:Type} {b:Bool} {k:Int} {x:List Qu×List Ev×Int} (h:x.2.2≠0→x.1=[]):(bif b then eR k else x).2.2≠0→(bif b then eR k else x).1=[]:=by
 cases b with
 | true=>exact fun _=>rfl
 | false=>exact h
theorem ye {t:List Qu} {p:Pr} {a:Tm}:(cy t p a).2.2≠0→(cy t p a).1=[] :=
 jc (α:=Unit) (jc (α:=Unit) (jc (α:=Unit) fun h=>absurd rfl h))
theorem yf {t:List Qu} {p:Pr} {a:Tm} {prio:Int}:(bJ t p a prio).2.2≠0→(bJ t p a prio).1=[] :=
 jc (α:=Unit) (jc (α:=Unit) (jc (α:=Unit) (jc (α:=Unit) fun h=>absurd rfl h)))
theorem uq (p:Pr) (n:ByteArray) (a:Tm) (prio:Int):(bM [] p n).1=[]∧(cy [] p a).1=[]∧(bJ [] p a prio).1=[]:=by
 refine ⟨?_,?_,?_⟩
 ·unfold bM;cases df [] <;> rfl
 ·unfold cy;cases df [] <;> rfl
 ·unfold bJ;cases df [] <;> rfl
theorem AY {w:Wk} {p:Pr} {n:ByteArray} (h:w.c.queues=[]):(fg w p n).c.queues=[]:=by
 unfold fg gW
 cases (ap (aX w.c.queues n) p).isSome with
 | true=>rw [h];exact (uq p n ⟨n,⟨0,0⟩⟩ 0).1
 | false=>exact h
theorem sY {w:Wk} {p:Pr} {n:ByteArray} {l:Am} (h:w.c.queues=[]):(cd w p n l).c.queues=[]:=by
 unfold cd fe
 cases decide (aq (aX w.c.queues n).holds p=l) with
 | true=>exact h
 | false=>rw [h];exact (uq p n ⟨n,l⟩ 0).2.1
theorem Dw {w:Wk} {x:Pc} {n:ByteArray} (h:w.c.queues=[]):(bw w x n).c.queues=[]:=sY (AY h)
theorem sZ {x:Pc}:∀{l:List Tm} {w:Wk},w.c.queues=[]→(c9 x l w).c.queues=[]
 | [],_,h=>h
 | a :: l,w,h=>sZ (l:=l) (w:=bw w x a.name) (Dw h)
theorem qM {p:Pr}:∀{l:List Tm} {w:Wk},w.c.queues=[]→(bP p l w).c.queues=[]
 | [],_,h=>h
 | a :: l,w,h=>qM (l:=l) (w:=cd w p a.name a.am) (sY h)
theorem qN {p:Pr} {prio:Int}:∀{l:List Tm} {w:Wk},w.c.queues=[]→(cE p prio l w).c.queues=[]
 | [],_,h=>h
 | a :: l,w,h=>qN (l:=l) (w:=w.take (bJ w.c.queues p a prio).1 (bJ w.c.queues p a prio).2.1) (by show (bJ w.c.queues p a prio).1=[];rw [h];exact (uq p a.name a prio).2.2)
theorem ay {P:Program} {o:Oper} {s:Mst} {x:Operand} {k m i off:Nat} (ho:o.op = .nilCheck x) (hx:s.ev x = .c (.optr k m i off)):LOp P o s [] ⟨.c (.optr k m i off),[],[]⟩ :=
 bj fun c st ρ a w hr h1 _=>by
  have he:=h1 x (by simp [ho,Op.operands])
  rw [hx] at he
  have hv:=hr.ev x
  rw [he] at hv
  obtain ⟨g,n,cap,hg,hv⟩:=hv
  refine ⟨a.eval x,?_,⟨g,n,cap,hg,hv⟩,fun k' hk=>hr.nf (x:=x) he hk⟩
  unfold execOp
  rw [ho]
  simp [hv]
def zn (w:Wk) (b:Nat):List D:=[.sc (.int .i64 w.c.now),.sl dt w.c.queues,.own 1,.own b]
def HP (d:Nat) (w:Wk):List (Nat×Box):=[(0,.box 85 (zn w 2)),(1,.arr 63 (fh d) w.c.procs),(2,.arr 67 i7 w.ev)]
def HQ (d:Nat) (w:Wk):List (Nat×Option Box):=[(0,some (.box 85 (zn w 4))),(1,some (.arr 63 (fh d) w.c.procs)),(4,some (.arr 67 i7 w.ev)),(2,none)]
abbrev pp (i:Nat):V0:=.one (.optr 1 16 i 0)
theorem Ht (d:Nat) (w:Wk) (k:Int) (p:Pr) (hl:w.ev.length≤1000000):FSpec prog 151 [ov,Bk k,p.a] (HP d w) [4] (.tup []) (HQ d (w.note k p)):=by
 refine aS func151 ?_
 have h0:Nat.ble w.ev.length 1000000=true:=by simpa using hl
 repeat' (first
  | refine ah ?_ ?_
  | (refine aa 8 rfl ?_;refine bg (aw rfl rfl (aL rfl rfl) (aP [⟨k,p,⟨#[]⟩,⟨0,0⟩⟩] rfl rfl rfl rfl) rfl aR aR) rfl rfl rfl ?_)
  | refine af ?_
  | exact ai|refine ae fun hb=>?_
  | (exact sE (qf [(4,15)])))
theorem zo (d:Nat) (w:Wk) (t:List Qu) (ev:List Ev) (hl:w.ev.length+ev.length≤1000000):FSpec prog 155 [ov,.one (.sl dt t),.one (.sl i7 ev),Bk 0] (HP d w) [4] (.tup []) (HQ d (w.take t ev)):=by
 refine aS func155 ?_
 repeat' (first
  | refine ah ?_ ?_
  | refine af ?_
  | exact ai|(refine ae fun hb=>?_;first|(exact absurd rfl hb)|skip)
  | (exact sE (qf [(4,21)])))
theorem Gg (d:Nat) (l:List Pc) (i:Nat) {x:Pc} (hx:l[i]? = some x):FSpec prog 218 [.one (.optr 1 16 i 0)] [(1,.arr 63 (fh d) l)] [] (.tup []) [(1,some (.arr 63 (fh d) (l.set i { x with waiting:=false,req:=Rq.zero,since:=0 })))]:=by
 refine aS func218 ?_
 have hi:=(List.getElem?_eq_some_iff.1 hx).1
 have hs1:=gJ hi { x with waiting:=false }
 have hl1:(l.set i { x with waiting:=false }).length=l.length:=List.length_set
 have hs2:=gJ (hl1▸hi) { x with waiting:=false,req:=Rq.zero }
 have e:l.set i { x with waiting:=false,req:=Rq.zero,since:=0 } = ((l.set i { x with waiting:=false }).set i { x with waiting:=false,req:=Rq.zero }).set i { x with waiting:=false,req:=Rq.zero,since:=0 }:=by rw [List.set_set,List.set_set]
 rw [e]
 repeat' (first
  | refine ah ?_ ?_
  | (refine aa 21 rfl ?_;refine sx (ay rfl rfl) ?_)
  | refine af ?_
  | (refine aa 4 rfl ?_;first
   | (refine bc (aB (z:={ x with waiting:=false }) rfl rfl rfl rfl hx rfl rfl rfl rfl (Nat.le_of_ble_eq_true rfl) rfl rfl) rfl rfl rfl ?_)
   | (refine bc (mB (z:={ x with waiting:=false,req:=Rq.zero }) rfl rfl rfl rfl hs1 rfl rfl rfl rfl (Nat.le_of_ble_eq_true rfl) (by (repeat' (first|exact trivial|exact .same _|exact .nil|refine ⟨?_,?_⟩));first|done|fail) rfl) rfl rfl rfl ?_)
   | (refine bc (aB (z:={ x with waiting:=false,req:=Rq.zero,since:=0 }) rfl rfl rfl rfl hs2 rfl rfl rfl rfl (Nat.le_of_ble_eq_true rfl) rfl rfl) rfl rfl rfl ?_))
  | exact ai|refine ae fun hb=>?_
  | (exact sE (qf [])))
theorem FF (d:Nat) (w:Wk) (p:Pr) (n:ByteArray) (l:Am) (hn:aO w.c.queues n=true) (hne:(cd w p n l).c.queues≠[]) (hl:w.ev.length≤900000) {Z:Wk} (hZ:cd w p n l=Z):FSpec prog 158 [ov,p.a,(⟨n,l⟩:Tm).a] (HP d w) [4] (.tup []) (HQ d Z):=by
 refine aS func158 ?_
 obtain ⟨i,hi,hF,hq⟩:=ue hn
 obtain ⟨h,hh⟩:∃h,aq w.c.queues[i].holds p=h:=⟨_,rfl⟩
 have kH:=dZ w.c.queues[i] p
 rw [hh] at kH
 unfold cd at hZ hne
 rw [hq,hh] at hZ hne
 by_cases hhl:h=l
 ·rw [decide_eq_true hhl] at hZ
  obtain rfl:w=Z:=hZ
  repeat' (first
   | refine ah ?_ ?_
   | (refine aa 9 rfl ?_;first
    | (refine cB [] (gM w.c.queues n hF) ?_)
    | (refine cB [] (kH) ?_))
   | refine af ?_
   | exact ai|(refine ae fun hb=>?_;first|(exact absurd hhl hb)|skip)
   | (exact sE (qf [(4,2)])))
 ·rw [decide_eq_false hhl,cond_false] at hZ hne
  have hll:=qn w.c.queues p ⟨n,l⟩
  obtain ⟨R,hR⟩:∃R,cy w.c.queues p ⟨n,l⟩=R:=⟨_,rfl⟩
  have h0:R.2.2=0:=Classical.byContradiction fun h=>hne (by show (cy w.c.queues p ⟨n,l⟩).1=[];exact ye (by rw [hR];exact h))
  unfold fe at hZ
  rw [hR] at hZ hll
  obtain ⟨R1,R2,R3⟩:=R
  obtain rfl:R3=0:=h0
  have kL:=FB w.c.queues p ⟨n,l⟩ hR
  have kT:=zo d w R1 R2 (by dsimp only at hll;omega)
  obtain rfl:w.take R1 R2=Z:=hZ
  repeat' (first
   | refine ah ?_ ?_
   | (refine aa 9 rfl ?_;first
    | (refine cB [] (gM w.c.queues n hF) ?_)
    | (refine cB [] (kH) ?_)
    | (refine cC [] (kL) ?_)
    | (refine cH (qf [(0,0),(1,1),(2,2),(4,1004)]) (kT) ?_))
   | refine af ?_
   | exact ai|(refine ae fun hb=>?_;first|(exact absurd hb hhl)|skip)
   | (exact sE (qf [(4,1004)])))
theorem yg (d:Nat) (x:Ex):FSpec prog 177 [x.a d] [] [] (.b (ib x)) []:=by
 obtain ⟨v,hv⟩:∃v,ib x=v:=⟨_,rfl⟩
 rw [hv]
 rw [BL] at hv
 have kP:=Fv x d [] (by simp)
 have h0:=x.dep_pos
 refine aS func177 ?_
 cases hk:qX x with
 | false =>
  rw [hk] at hv
  obtain rfl:false=v:=hv
  repeat' (first
   | refine ah ?_ ?_
   | refine aa 9 rfl (cB [] (yc x d (n:=0) (by rw [hk];rfl)) ?_)
   | refine af ?_
   | exact ai|refine ae fun hb=>?_
   | (refine aE (qf []) ?_;exact ab))
 | true =>
  rw [hk,Bool.true_and] at hv
  repeat' (first
   | refine ah ?_ ?_
   | ((fail_if_success (first|refine mC 2 ?_|refine mD 2 ?_));refine af ?_)
   | exact ai|refine ae fun hb=>?_)
  refine oU 3 0 1000 39 bV rfl rfl rfl rfl ?_
  cases hp:rg x [] with
  | none =>
   rw [hp] at kP hv
   obtain rfl:false=v:=hv
   repeat' (first
    | refine ah ?_ ?_
    | (refine aa 9 rfl ?_;first
     | (refine cB [] (yc x d (n:=x.dep) (by rw [hk];rfl)) ?_)
     | (refine cH (qf [(0,3),(1,1000),(2,1001)]) (kP) ?_))
    | refine af ?_
    | exact ai|refine ae fun hb=>?_
    | (refine aE (qf []) ?_;exact ab))
  | some r =>
   rw [hp] at kP hv
   obtain rfl:true=v:=hv
   repeat' (first
    | refine ah ?_ ?_
    | (refine aa 9 rfl ?_;first
     | (refine cB [] (yc x d (n:=x.dep) (by rw [hk];rfl)) ?_)
     | (refine cH (qf [(0,3),(1,1000),(2,1001)]) (kP) ?_))
    | refine af ?_
    | exact ai|refine ae fun hb=>?_
    | (refine aE (qf []) ?_;exact ab))
theorem I8 (l:List Tm) (a:Tm):FSpec prog 299 [.one (.sl bV l),a.a] [] [] (.i (lJ a 0 l)) []:=by
 obtain ⟨v,hv⟩:∃v,lJ a 0 l=v:=⟨_,rfl⟩
 rw [hv]
 refine aS func299 ?_
 refine aH (fun c ρ a w hr=>bh (t:=0) hr rfl) (fun hl0=>?_)
 repeat' (first
  | refine ah ?_ ?_
  | refine af ?_
  | exact ai|refine ae fun hb=>?_)
 refine aj (fun i=>i≤l.length∧lJ a i (l.drop i)=v) (fun i=>bH [3] [(0,.c (.sl bV l)),(3,.c (.ptr 3 0)),(7,.i l.length),(8,.i i)] [(3,.box 39 [.sc (.string a.name),.sc (.int .i64 a.am.mode),.sc (.int .i64 a.am.units)])]) (fun i=>l.length-i) 0 ⟨Nat.zero_le _,hv⟩ (by exact ao (qf [])) ?_
 rintro i ⟨hi,hs⟩
 by_cases hlt:i<l.length
 ·rw [List.drop_eq_getElem_cons hlt,nj] at hs
  repeat' (first
   | refine ah ?_ ?_
   | refine af ?_
   | exact ai|refine ae fun hb=>?_)
  ·refine dD ?_
   rw [←hs];simp [*]
  ·refine ⟨i+1,⟨by omega,?_⟩,by omega,?_⟩
   ·rw [←hs];simp [*]
   ·exact ao (qf [])
 ·rw [List.drop_eq_nil_of_le (by omega)] at hs
  repeat' (first
   | refine ah ?_ ?_
   | refine af ?_
   | exact ai|refine ae fun hb=>?_)
  refine dD ?_
  rw [←hs];rfl
theorem Dx (l:List Tm) (a:Tm) {v:Bool} (hv:gR a l=v):FSpec prog 239 [.one (.sl bV l),a.a] [] [] (.b v) []:=by
 refine aS func239 ?_
 repeat' (first
  | refine ah ?_ ?_
  | refine aa 9 rfl (cB [] (I8 l a) ?_)
  | refine af ?_
  | exact ai|refine ae fun hb=>?_)
 refine dD ?_
 rcases j8 a l 0 [] with ⟨h1,h2,_⟩|⟨i,_,h1,h2,_⟩
 ·rw [h1,←hv,h2];rfl
 ·rw [h1,←hv,h2];simp
theorem Dy:∀(x:Ex) (d:Nat) (acc:List Tm),acc.length+x.cnt≤1000→FSpec prog 178 [.one (.own 0),x.a d] [(0,.arr 39 bV acc)] [1] (.c (.own 1)) [(0,none),(1,some (.arr 39 bV (eb x acc)))]:=by
 refine Ex.ind (fun k a l ih=>?_)
 intro d acc hl
 rw [Ex.cnt_mk] at hl
 obtain ⟨R,hR⟩:∃R,eb (.mk k a l) acc=R:=⟨_,rfl⟩
 rw [hR]
 rw [iT] at hR
 show FSpec prog 178 [.one (.own 0),.ag (rp d k a l)] [(0,.arr 39 bV acc)] [1] (.c (.own 1)) [(0,none),(1,some (.arr 39 bV R))]
 refine aS func178 ?_
 cases hE:l.isEmpty with
 | true =>
  obtain rfl:=List.isEmpty_iff.1 hE
  rw [hE,cond_true,f7] at hR
  cases hh:gR a acc with
  | true =>
   rw [hh] at hR
   obtain rfl:acc=R:=hR
   repeat' (first
    | refine ah ?_ ?_
    | refine aa 9 rfl (cB [0] (Dx acc a hh) ?_)
    | refine af ?_
    | exact ai|refine ae fun hb=>?_
    | (refine aE (qf [(1,0)]) ?_;exact ab))
  | false =>
   rw [hh] at hR
   obtain rfl:acc++[a]=R:=hR
   repeat' (first
    | refine ah ?_ ?_
    | (refine aa 8 rfl ?_;refine bg (aw rfl rfl (aL rfl rfl) (aP [a] rfl rfl rfl rfl) rfl aR aR) rfl rfl rfl ?_)
    | refine aa 9 rfl (cB [0] (Dx acc a hh) ?_)
    | refine af ?_
    | exact ai|refine ae fun hb=>?_
    | (refine aE (qf [(1,20)]) ?_;exact ab))
 | false =>
  have hl0:0<l.length:=List.length_pos_iff.2 fun e=>by rw [e] at hE;cases hE
  rw [hE,cond_false] at hR
  refine aH (fun c ρ a w hr=>gX (t:=1) (i:=4) hr rfl rfl) (fun hx=>?_)
  obtain ⟨hlen,hne⟩:=hx
  obtain ⟨e,rfl⟩:=hne hl0
  repeat' (first
   | refine ah ?_ ?_
   | refine af ?_
   | exact ai|refine ae fun hb=>?_)
  refine aj (fun x:Nat×List Tm=>x.1≤l.length∧x.2.length+gQ (l.drop x.1)≤1000∧eU (l.drop x.1) x.2=R) (fun x=>bH [0,1000] [(0,.c (.own 1000)),(22,.c (.sl (mY (e+1)) l)),(23,.i l.length),(24,.i x.1)] [(1000,.arr 39 bV x.2)]) (fun x=>l.length-x.1) (0,acc) ⟨Nat.zero_le _,by simpa using (by omega),hR⟩ (by exact ao (qf [(1000,0)])) ?_
  rintro ⟨i,acc1⟩ ⟨hi,hc,hs⟩
  dsimp only at *
  by_cases hlt:i<l.length
  ·rw [List.drop_eq_getElem_cons hlt] at hs hc
   rw [fA] at hs
   rw [eT] at hc
   have kS:=ih l[i] (List.getElem_mem hlt) e acc1 (by omega)
   have hlen2:=mh l[i] acc1
   obtain ⟨r,h1⟩:∃r,eb l[i] acc1=r:=⟨_,rfl⟩
   rw [h1] at hs kS hlen2
   clear ih h1
   repeat' (first
    | refine ah ?_ ?_
    | refine aa 9 rfl (cH (qf [(0,1000),(1,1001)]) (kS) ?_)
    | refine af ?_
    | exact ai|refine ae fun hb=>?_)
   refine ⟨(i+1,r),⟨by dsimp only;omega,by dsimp only;omega,hs⟩,by dsimp only;omega,?_⟩
   exact ao (qf [(1000,1001)])
  ·rw [List.drop_eq_nil_of_le (by omega)] at hs
   obtain rfl:acc1=R:=hs
   repeat' (first
    | refine ah ?_ ?_
    | refine af ?_
    | exact ai|refine ae fun hb=>?_
    | (refine aE (qf [(1,1000)]) ?_;exact ab))
theorem jW (d:Nat) (x:Ex) {L:List Tm} (hL:cj x=L):FSpec prog 100 [x.a d] [] [] (.c (.sl bV L)) []:=by
 subst hL
 unfold cj
 refine aS func100 ?_
 cases hv:ib x with
 | false =>
  repeat' (first
   | refine ah ?_ ?_
   | refine aa 9 rfl (cB [] (yg d x) ?_)
   | refine af ?_
   | exact ai|(refine ae fun hb=>?_;first|(simp [hv] at hb;done)|skip)
   | (refine aE (qf []) ?_;exact ab))
 | true =>
  have h24:x.cnt≤24:=by have h:=hv;simp [ib,qX] at h;exact h.1.2
  have kA:=(Dy x d [] (by simp;omega)).nil0 (by decide) fun q k=>rfl
  repeat' (first
   | refine ah ?_ ?_
   | (refine aa 9 rfl ?_;first
    | (refine cB [] (yg d x) ?_)
    | (refine cH (qf [(0,1000),(1,1001)]) (kA) ?_))
   | refine af ?_
   | exact ai|(refine ae fun hb=>?_;first|(simp [hv] at hb;done)|skip)
   | (refine aE (qf []) ?_;exact ab))
section
variable {β:Type} (V:β→Value) (z:β) (n:ByteArray) (a:β)
def ji (l:List (ByteArray×β)):List (Value×Value):=l.map fun x=>(.string x.1,V x.2)
def lX:List (ByteArray×β)→β
 | []=>z
 | x :: l=>bif aY x.1 n then x.2 else lX l
def dG:List (ByteArray×β)→List (ByteArray×β)
 | []=>[(n,a)]
 | x :: l=>bif aY x.1 n then (x.1,a) :: l else x :: dG l
def Dz:Nat→List (ByteArray×β)→Option (Nat×β)
 | _,[]=>none
 | j,x :: l=>bif aY x.1 n then some (j,x.2) else Dz (j+1) l
end
section
variable {P:Program} {β:Type} {V:β→Value} {z:β} {n:ByteArray} {a:β}
theorem Hu (m n:ByteArray):(n == m)=aY m n:=by
 rw [Bool.eq_iff_iff,aZ,MapKept.bytes_beq]
 exact eq_comm
theorem ur:∀(l:List (ByteArray×β)) (i j:Nat),Instr.findNow .string (.string n) (ed i (ji V l)) j=some ((Dz n j l).map fun x=>(x.1,V x.2))
 | [],_,_=>rfl
 | x :: l,i,j=>by
  have ih:=ur l (i+1) (j+1)
  show (match some (n == x.1) with|some true=>some (some (j,V x.2))|some false=>Instr.findNow .string (.string n) (ed (i+1) (ji V l)) (j+1)|none=>none)=_
  rw [Hu,Dz]
  cases aY x.1 n with
  | true=>rfl
  | false=>exact ih
theorem DB:∀(l:List (ByteArray×β)) (j:Nat),lX z n l=match Dz n j l with|some x=>x.2|none=>z
 | [],_=>rfl
 | x :: l,j=>by
  have ih:=DB l (j+1)
  unfold lX Dz
  cases aY x.1 n with
  | true=>rfl
  | false=>exact ih
theorem oG:∀(l:List (ByteArray×β)) (j:Nat),Dz n j l=none→dG n a l=l++[(n,a)]
 | [],_,_=>rfl
 | x :: l,j,h=>by
  unfold Dz at h
  unfold dG
  cases hx:aY x.1 n with
  | true=>rw [hx] at h;cases h
  | false =>
   rw [hx] at h
   rw [cond_false,oG l (j+1) h]
   rfl
theorem wM:∀(l m:List (Value×Value)) (i:Nat),ed i (l++m)=ed i l++ed (i+l.length) m
 | [],_,_=>rfl
 | x :: l,m,i=>by
  show _ :: ed (i+1) (l++m)=_ :: (ed (i+1) l++_)
  rw [wM l m (i+1),List.length_cons,show i+1+l.length=i+(l.length+1) by omega]
theorem oH:∀(l:List (ByteArray×β)) (i j k:Nat) (b:β),Dz n j l=some (k,b)→j≤k∧(ed i (ji V l))[k-j]? = some ⟨.string n,V b,i+(k-j)⟩∧(ed i (ji V l)).set (k-j) ⟨.string n,V a,i+(k-j)⟩=ed i (ji V (dG n a l))∧(dG n a l).length=l.length
 | [],_,_,_,_,h=>by cases h
 | x :: l,i,j,k,b,h=>by
  unfold Dz at h
  unfold dG
  cases hx:aY x.1 n with
  | true =>
   rw [hx] at h
   simp only [cond_true,Option.some.injEq,Prod.mk.injEq] at h
   obtain ⟨rfl,rfl⟩:=h
   obtain rfl:=aZ.1 hx
   rw [Nat.sub_self]
   exact ⟨Nat.le_refl _,rfl,rfl,rfl⟩
  | false =>
   rw [hx] at h
   obtain ⟨h1,h2,h3,h4⟩:=oH l (i+1) (j+1) k b h
   have e:k-j=(k-(j+1))+1:=by omega
   rw [cond_false,e]
   refine ⟨by omega,?_,?_,?_⟩
   ·show (ed (i+1) (ji V l))[k-(j+1)]? = _
    rw [h2,show i+1+(k-(j+1))=i+(k-(j+1)+1) by omega]
   ·show (⟨.string x.1,V x.2,i⟩:MapEntry) :: (ed (i+1) (ji V l)).set (k-(j+1)) _=_ :: ed (i+1) (ji V (dG n a l))
    rw [←h3,show i+1+(k-(j+1))=i+(k-(j+1)+1) by omega]
   ·simp [h4]
variable {w:World} {g t K E:Nat} {l:List (ByteArray×β)}
theorem DD (ht:P.underlying t=some (.map K E)) (hK:P.underlying K=some .string) (hz:(zeroValue E).run P w = .ok (V z) w) (hb:w.heap[g]? = some (jD (ji V l))):(Instr.lookup t (.map (some g)) (.string n) false).run P w = .ok (V (lX z n l)) w:=by
 have h1:=ur (V:=V) (n:=n) l 0 0
 have hk:MapKept.IsKey .string (.string n):=by simp [MapKept.IsKey]
 rw [DB l 0]
 cases hf:Dz n 0 l with
 | none =>
  rw [hf] at h1
  simp [Instr.lookup,run_underlying ht,MapKept.run_getObj_map hb,MapKept.run_checkKey hK hk,MapKept.run_findKey hK h1,hz,Result.andThen]
 | some x =>
  rw [hf] at h1
  simp [Instr.lookup,run_underlying ht,MapKept.run_getObj_map hb,MapKept.run_checkKey hK hk,MapKept.run_findKey hK h1,Result.andThen]
theorem DE (ht:P.underlying t=some (.map K E)) (hK:P.underlying K=some .string) (hb:w.heap[g]? = some (jD (ji V l))):(Instr.mapUpdate t (.map (some g)) (.string n) (V a)).run P w = .ok () { w with heap:=w.heap.setIfInBounds g (jD (ji V (dG n a l))) }:=by
 have h1:=ur (V:=V) (n:=n) l 0 0
 have hk:MapKept.IsKey .string (.string n):=by simp [MapKept.IsKey]
 cases hf:Dz n 0 l with
 | none =>
  rw [hf] at h1
  have e:jD (ji V (dG n a l)) = .map ((ed 0 (ji V l)).toArray.push ⟨.string n,V a,(ji V l).length⟩) ((ji V l).length+1):=by
   rw [oG l 0 hf]
   unfold jD ji
   rw [List.map_append,wM]
   simp [ed]
  rw [e]
  simp [Instr.mapUpdate,run_underlying ht,MapKept.run_getObj_map hb,MapKept.run_checkKey hK hk,MapKept.run_findKey hK h1,MapKept.run_setObj_map _ hb,Result.andThen]
 | some x =>
  obtain ⟨k,b⟩:=x
  rw [hf] at h1
  obtain ⟨_,h2,h3,h4⟩:=oH (V:=V) (a:=a) l 0 0 k b hf
  simp only [Nat.sub_zero,Nat.zero_add] at h2 h3
  have e:jD (ji V (dG n a l)) = .map ((ed 0 (ji V l)).toArray.modify k fun e=>{ e with key:=.string n,val:=V a }) (ji V l).length:=by
   unfold jD
   rw [←h3]
   have hl:(ji V (dG n a l)).length=(ji V l).length:=by simp [ji,h4]
   rw [hl]
   congr 1
   apply Array.ext'
   rw [Array.toList_modify]
   apply List.ext_getElem?
   intro j
   rw [List.getElem?_modify,List.getElem?_set]
   by_cases hkj:k=j
   ·subst hkj
    have hlt:=(List.getElem?_eq_some_iff.1 h2).1
    simp only [if_true,h2,Option.map_eq_map,Option.map_some]
    rw [if_pos hlt]
   ·simp [hkj]
  rw [e]
  simp [Instr.mapUpdate,run_underlying ht,MapKept.run_getObj_map hb,MapKept.run_checkKey hK hk,MapKept.run_findKey hK h1,h2,MapKept.run_keyThatStays hk,MapKept.run_setObj_map _ hb,Result.andThen]
end
section
variable {P:Program} {o:Oper} {s:Mst} {β:Type} {V:β→Value} {z:β} {n:ByteArray} {a:β} {l:List (ByteArray×β)}
theorem s0 {t k:Nat} (ho:o.op = .makeMap t none) (hdk:o.dst=some k):LOp P o s [] ⟨.c (.own k),[(k,some (.mp []))],[k]⟩:=by
 intro c st ρ a w hr h1 h2 h3 h4
 have hfk:st.f k=true:=h3 k (by simp [aI])
 have hkk:∀k':Nat,aA [(k,some (Box.mp []))] k'=true→k'=k:=fun k' h=>by
  simp only [aA,Bool.or_false] at h
  exact (Nat.eq_of_beq_eq_true h).symm
 refine Oper.wp_value (v:=.map (some w.heap.size)) (w':=w.alloc (.map #[] 0)) ?_ ⟨upd ρ k (.map (some w.heap.size)),hr.app (e:=⟨.c (.own k),[(k,some (.mp []))],[k]⟩) h4 (fun k' h=>?_) (fun k' h=>?_) (fun k' h=>.inl ?_) (Frx.alloc _ _ _) (fun k' bx g' h _ hg'=>?_) (fun k1 k2 _ _ _ h h' _ _ _ _=>?_) (fun k' h=>.inl ?_) (fun k1 k2 bx h hp hx=>?_) (fun k2 bx h hp=>?_) ?_⟩
 ·unfold execOp
  rw [ho]
  simp [Instr.makeMap,Result.andThen]
 ·have:k'=k:=by simp [aI] at h;exact h.symm
  subst this
  exact ⟨hfk,by simp [aA]⟩
 ·exact dx (by simpa [aI] using h)
 ·rw [hkk k' h];simp [aI]
 ·rw [hkk k' h,aM] at hg'
  injection hg' with hg'
  subst hg'
  exact ⟨by simp,.inl (Nat.le_refl _)⟩
 ·rw [hkk k1 h,hkk k2 h']
 ·have:k'=k:=by simp [TV.has,V0.has,D.has] at h;exact h.symm
  subst this;simp [aI]
 ·rw [hkk k2 h] at hp
  simp only [hput,Nat.beq_refl,cond_true,Option.some.injEq] at hp
  subst hp
  simp [Box.has] at hx
 ·rw [hkk k2 h] at hp ⊢
  simp only [hput,Nat.beq_refl,cond_true,Option.some.injEq] at hp
  subst hp
  rw [aM]
  exact ⟨_,rfl,(MapKept.heap_alloc w _).1⟩
 ·exact (aM _ _ _).symm
theorem DF {t K E k:Nat} {x y:Operand} {d:TV} (ht:P.underlying t=some (.map K E)) (hK:P.underlying K=some .string) (hz:∀w,(zeroValue E).run P w = .ok (V z) w) (ho:o.op = .lookup t x y false) (hx:s.ev x = .c (.own k)) (hk:s.h k=some (.mp (ji V l))) (hy:s.ev y = .c (.sc (.string n)))
  (hd:∀w F ρ,d.rep w F ρ (V (lX z n l))) (hn:∀j,d.has j=false):LOp P o s [k] ⟨d,[],[]⟩ :=
 bj fun c st ρ a w hr h1 h2=>by
  have e1:=h1 x (by simp [ho,Op.operands])
  have e2:=h1 y (by simp [ho,Op.operands])
  have hv1:=hr.ev x
  have hv2:=hr.ev y
  rw [e1,hx] at hv1
  rw [e2,hy] at hv2
  have hv1:a.eval x=ρ k:=hv1
  have hv2:a.eval y = .string n:=hv2
  obtain ⟨g,hg,hb⟩:=hr.hp k _ ((h2 k (by simp [aI])).trans hk)
  refine ⟨V (lX z n l),?_,hd _ _ _,fun j hj=>by rw [hn j] at hj;cases hj⟩
  unfold execOp
  rw [ho]
  simp only [hv1,hv2,hg,Sem.run_bind,DD ht hK (hz w) hb,Result.andThen_ok,Sem.run_pure]
theorem DG {t K E k:Nat} {x y q:Operand} (ht:P.underlying t=some (.map K E)) (hK:P.underlying K=some .string) (ho:o.op = .mapUpdate t x y q) (hx:s.ev x = .c (.own k)) (hk:s.h k=some (.mp (ji V l))) (hy:s.ev y = .c (.sc (.string n)))
  (hq:∀w F ρ v,(s.ev q).rep w F ρ v→v=V a):LOp P o s [k] ⟨.c .any,[(k,some (.mp (ji V (dG n a l))))],[]⟩:=by
 intro c st ρ ac w hr h1 h2 h3 h4
 have e1:=h1 x (by simp [ho,Op.operands])
 have e2:=h1 y (by simp [ho,Op.operands])
 have e3:=h1 q (by simp [ho,Op.operands])
 have hv1:=hr.ev x
 have hv2:=hr.ev y
 have hv3:=hr.ev q
 rw [e1,hx] at hv1
 rw [e2,hy] at hv2
 rw [e3] at hv3
 have hv1:ac.eval x=ρ k:=hv1
 have hv2:ac.eval y = .string n:=hv2
 have hv3:=hq _ _ _ _ hv3
 have hk':=(h2 k (by simp [aI])).trans hk
 obtain ⟨g,hg,hb⟩:=hr.hp k _ hk'
 have hkb:kb (ρ k)=some g:=by rw [hg];rfl
 have hkk:∀k':Nat,aA [(k,some (Box.mp (ji V (dG n a l))))] k'=true→k'=k:=fun k' h=>by
  simp only [aA,Bool.or_false] at h
  exact (Nat.eq_of_beq_eq_true h).symm
 have hset:=MapKept.heap_set (o':=jD (ji V (dG n a l))) hb
 have hlt:g<w.heap.size:=(Array.getElem?_eq_some_iff.1 hb).1
 refine Oper.wp_skip (w':={ w with heap:=w.heap.setIfInBounds g (jD (ji V (dG n a l))) }) ?_ ⟨ρ,hr.app (e:=⟨.c .any,[(k,some (.mp (ji V (dG n a l))))],[]⟩) h4 (fun k h=>by simp [aI] at h) (fun _ _=>rfl) (fun k' h=>.inr (by rw [hkk k' h];exact hr.nfh hk')) ⟨rfl,rfl,rfl,by simp,fun b hlt hn=>hset.2 b fun e=>hn ⟨k,_,by simp [aA],hk',by rw [hkb,e]⟩⟩ ?_ ?_ (fun k h=>by simp [TV.has,V0.has,D.has] at h) ?_ ?_ trivial⟩
 ·unfold execOp
  rw [ho]
  simp only [hv1,hv2,hv3,hg,Sem.run_bind,DE ht hK hb,Result.andThen_ok,Sem.run_pure]
 ·intro k' bx g' h _ hg'
  rw [hkk k' h,hkb] at hg'
  injection hg' with hg'
  subst hg'
  exact ⟨by simpa using hlt,.inr ⟨k,_,by simp [aA],hk',hkb⟩⟩
 ·intro k1 k2 _ _ _ h h' _ _ _ _
  rw [hkk k1 h,hkk k2 h']
 ·intro k1 k2 bx h hp hx
  rw [hkk k2 h] at hp
  simp only [hput,Nat.beq_refl,cond_true,Option.some.injEq] at hp
  subst hp
  simp [Box.has] at hx
 ·intro k2 bx h hp
  rw [hkk k2 h] at hp ⊢
  simp only [hput,Nat.beq_refl,cond_true,Option.some.injEq] at hp
  subst hp
  exact ⟨g,hg,hset.1⟩
theorem s5 {t K E k:Nat} {x:Operand} {L:List (Value×Value)} (ht:P.underlying t=some (.map K E)) (ho:o.op = .call { callee:=.builtin .len,args:=#[x],argTypes:=#[t] }) (hx:s.ev x = .c (.own k)) (hk:s.h k=some (.mp L)):LOp P o s [k] ⟨.i L.length,[],[]⟩ :=
 bj fun c st ρ a w hr h1 h2=>by
  have e1:=h1 x (by simp [ho,Op.operands,Call.operands])
  have hv1:=hr.ev x
  rw [e1,hx] at hv1
  have hv1:a.eval x=ρ k:=hv1
  obtain ⟨g,hg,hb⟩:=hr.hp k _ ((h2 k (by simp [aI])).trans hk)
  refine ⟨.int .i64 L.length,?_,rfl,fun k hk=>by simp [TV.has,V0.has,D.has] at hk⟩
  have hl:∀(l:List (Value×Value)) (i:Nat),(ed i l).length=l.length:=by
   intro l
   induction l with
   | nil=>intro _;rfl
   | cons x l ih=>intro i;show (ed (i+1) l).length+1=_;rw [ih];rfl
  unfold execOp
  rw [ho]
  have hrun:(Builtin.len_ #[t] o.type #[.map (some g)]).run P w = .ok (.int .i64 L.length) w:=by
   simp [Builtin.len_,run_underlying ht,MapKept.run_getObj_map hb,Result.andThen,hl]
   rfl
  simp only [resolve,invoke,builtin,Sem.run_bind,Sem.run_pure,Result.andThen_ok,List.map_toArray,List.map_cons,List.map_nil,hv1,hg,hrun]
end
def Hw (x:Am):Value:=.agg #[.int .i64 x.mode,.int .i64 x.units]
abbrev ut (l:List (ByteArray×Am)):List (Value×Value):=ji Hw l
abbrev nL (n:ByteArray) (l:List (ByteArray×Am)):Am:=lX ⟨0,0⟩ n l
theorem kY {P:Program} {o:Oper} {s:Mst} {t k:Nat} (K E:Nat) {x y:Operand} {n:ByteArray} {l:List (ByteArray×Am)} (ht:P.underlying t=some (.map K E)) (hK:P.underlying K=some .string) (hz:∀w,(zeroValue E).run P w = .ok (Hw ⟨0,0⟩) w) (ho:o.op = .lookup t x y false) (hx:s.ev x = .c (.own k)) (hk:s.h k=some (.mp (ut l))) (hy:s.ev y = .c (.sc (.string n))) {b:Am} (hb:nL n l=b):LOp P o s [k] ⟨.v b.a,[],[]⟩:=by
 subst hb
 exact DF (V:=Hw) (z:=⟨0,0⟩) ht hK hz ho hx hk hy (fun _ _ _=>⟨_,rfl,rfl,rfl,trivial⟩) fun _=>rfl
theorem nM {P:Program} {o:Oper} {s:Mst} {t k:Nat} (K E:Nat) {x y q:Operand} {n:ByteArray} {l:List (ByteArray×Am)} {b:Am} (ht:P.underlying t=some (.map K E)) (hK:P.underlying K=some .string) (ho:o.op = .mapUpdate t x y q) (hx:s.ev x = .c (.own k)) (hk:s.h k=some (.mp (ut l))) (hy:s.ev y = .c (.sc (.string n))) (hq:s.ev q = .v b.a) {m:List (ByteArray×Am)} (hm:dG n b l=m):LOp P o s [k] ⟨.c .any,[(k,some (.mp (ut m)))],[]⟩:=by
 subst hm
 exact DG (V:=Hw) ht hK ho hx hk hy fun w F ρ v hv=>by
  rw [hq] at hv
  obtain ⟨cs,e,h⟩:=hv
  rw [e]
  match cs,h with
  | [_,_],⟨rfl,rfl,_⟩=>rfl
section
variable {β:Type} {z a:β} {n:ByteArray}
theorem wN (m:ByteArray):∀l:List (ByteArray×β),lX z m (dG n a l)=bif aY n m then a else lX z m l
 | []=>rfl
 | x :: l=>by
  have ih:=wN m l
  unfold dG
  cases hx:aY x.1 n with
  | true =>
   obtain rfl:=aZ.1 hx
   show (bif aY x.1 m then a else lX z m l)=bif aY x.1 m then a else bif aY x.1 m then x.2 else lX z m l
   cases aY x.1 m <;> rfl
  | false =>
   show (bif aY x.1 m then x.2 else lX z m (dG n a l))=bif aY n m then a else bif aY x.1 m then x.2 else lX z m l
   rw [ih]
   cases h1:aY x.1 m with
   | false=>rfl
   | true =>
    cases h2:aY n m with
    | false=>rfl
    | true =>
     obtain rfl:=aZ.1 h1
     obtain rfl:=aZ.1 h2
     rw [aZ.2 rfl] at hx
     cases hx
theorem uu:∀l:List (ByteArray×β),(dG n a l).length=bif dB n (l.map (·.1)) then l.length else l.length+1
 | []=>rfl
 | x :: l=>by
  have ih:=uu l
  unfold dG
  show _=bif (aY x.1 n || dB n (l.map (·.1))) then _ else _
  cases hx:aY x.1 n with
  | true=>rfl
  | false =>
   rw [Bool.false_or,cond_false,List.length_cons,ih,List.length_cons]
   cases dB n (l.map (·.1)) <;> rfl
theorem uv (m:ByteArray):∀l:List (ByteArray×β),dB m ((dG n a l).map (·.1))=(aY n m || dB m (l.map (·.1)))
 | []=>rfl
 | x :: l=>by
  have ih:=uv m l
  unfold dG
  cases hx:aY x.1 n with
  | true =>
   obtain rfl:=aZ.1 hx
   show (aY x.1 m || dB m (l.map (·.1)))=(aY x.1 m || (aY x.1 m || dB m (l.map (·.1))))
   cases aY x.1 m <;> rfl
  | false =>
   show (aY x.1 m || dB m ((dG n a l).map (·.1)))=(aY n m || (aY x.1 m || dB m (l.map (·.1))))
   rw [ih]
   cases aY x.1 m <;> cases aY n m <;> rfl
end
def dL:List (ByteArray×Am)→List En→List (ByteArray×Am)
 | m,[]=>m
 | m,e :: l=>dL (dG e.name e.after m) l
def eo (l:List En):List (ByteArray×Am):=dL [] l
theorem lY:∀(l k:List En) (m:List (ByteArray×Am)),dL m (l++k)=dL (dL m l) k
 | [],_,_=>rfl
 | e :: l,k,m=>lY l k _
theorem AZ (l:List En) (e:En):eo (l++[e])=dG e.name e.after (eo l):=by
 unfold eo
 rw [lY]
 rfl
theorem qO (n:ByteArray):∀(l:List En) (m:List (ByteArray×Am)),nL n (dL m l)=c8 n (nL n m) l
 | [],_=>rfl
 | e :: l,m=>by
  show nL n (dL (dG e.name e.after m) l)=c8 n (bif aY e.name n then e.after else nL n m) l
  rw [qO n l,show nL n (dG e.name e.after m)=_ from wN n m]
theorem gx (l:List En) (n:ByteArray):nL n (eo l)=az l n:=qO n l []
theorem DH (n m:ByteArray) (l:List ByteArray):dB m (gl n l)=(aY n m || dB m l):=by
 rw [Bool.eq_iff_iff,fS,mv,Bool.or_eq_true,aZ,fS]
 exact or_congr_left eq_comm
theorem oI:∀(l:List En) (m:List (ByteArray×Am)) (acc:List ByteArray),m.length=acc.length→(∀x,dB x (m.map (·.1))=dB x acc)→(dL m l).length=(c5 acc l).length
 | [],_,_,h,_=>h
 | e :: l,m,acc,h,hh=>by
  show (dL (dG e.name e.after m) l).length=(c5 (bif dB e.name acc then acc else gl e.name acc) l).length
  refine oI l _ _ ?_ fun x=>?_
  ·rw [uu,hh,h]
   cases dB e.name acc with
   | true=>rfl
   | false=>rw [cond_false,cond_false,iv]
  ·rw [uv,hh]
   cases ha:dB e.name acc with
   | false=>rw [cond_false,DH]
   | true =>
    rw [cond_true]
    cases he:aY e.name x with
    | false=>rfl
    | true=>rw [←aZ.1 he,ha];rfl
theorem mV (l:List En):(eo l).length=(bE l).length:=oI l [] [] rfl fun _=>rfl
theorem s6:∀(l:List En) (m:List (ByteArray×Am)),m.length≤(dL m l).length
 | [],_=>Nat.le_refl _
 | e :: l,m=>by
  refine Nat.le_trans ?_ (s6 l (dG e.name e.after m))
  rw [uu]
  cases dB e.name (m.map (·.1)) <;> simp
theorem A4 (l k:List En):(eo l).length≤(eo (l++k)).length:=by
 unfold eo
 rw [lY]
 exact s6 k _
theorem oJ (n:Int):∀(l:List Sv) (k i:Nat) (h:i<l.length),l[i].label=n→(aT n k l=((k+i:Nat):Int)↔aT n k (l.take i)<0)
 | s :: l,k,0,_,hn=>by
  have hn:s.label=n:=hn
  show (bif decide (s.label=n) then (k:Int) else _)=_↔_
  rw [decide_eq_true hn]
  simp [aT]
 | s :: l,k,i+1,h,hn=>by
  have ih:=oJ n l (k+1) i (by simpa using h) (by simpa using hn)
  show (bif decide (s.label=n) then (k:Int) else aT n (k+1) l)=_↔(bif decide (s.label=n) then (k:Int) else aT n (k+1) (l.take i))<0
  by_cases hs:s.label=n
  ·rw [decide_eq_true hs,cond_true,cond_true]
   constructor <;> intro h <;> omega
  ·rw [decide_eq_false hs,cond_false,cond_false,←ih,show k+1+i=k+(i+1) by omega]
def Hx (all:List Sv) (n:Int):Nat→Int→List Sv→Bool
 | _,_,[]=>true
 | k,at_,s :: l=>decide (1≤s.label) && decide (s.label≤99) && decide (aT s.label 0 (all.take k)<0) && decide (at_≤s.at_) && decide (s.at_≤n) && Hx all n (k+1) s.at_ l
theorem DI (all:List Sv) (n:Int):∀(l:List Sv) (k:Nat) (at_:Int),all.drop k=l→0≤at_→Hx all n k at_ l=li all n k at_ l
 | [],_,_,_,_=>rfl
 | s :: l,k,at_,h,h0=>by
  have hk:k<all.length:=by
   have:=congrArg List.length h
   simp at this
   omega
  have hs:all[k]=s∧all.drop (k+1)=l:=by
   rw [List.drop_eq_getElem_cons hk] at h
   injection h with h1 h2
   exact ⟨h1,h2⟩
  have hf:=oJ s.label all 0 k hk (by rw [hs.1])
  rw [Nat.zero_add] at hf
  show (decide (1≤s.label) && decide (s.label≤99) && decide (aT s.label 0 (all.take k)<0) && decide (at_≤s.at_) && decide (s.at_≤n) && Hx all n (k+1) s.at_ l)=(decide (1≤s.label) && decide (s.label≤99) && decide (0≤s.at_) && decide (s.at_≤n) && decide (at_≤s.at_) && decide (aT s.label 0 all=(k:Int)) && li all n (k+1) s.at_ l)
  by_cases ha:at_≤s.at_
  ·rw [DI all n l (k+1) s.at_ hs.2 (by omega),decide_eq_decide.2 hf.symm,decide_eq_true ha,decide_eq_true (show 0≤s.at_ by omega)]
   cases decide (1≤s.label) <;> cases decide (s.label≤99) <;> cases decide (s.at_≤n) <;> cases decide (aT s.label 0 all=(k:Int)) <;> simp
  ·rw [decide_eq_false ha]
   simp
theorem qP:prog.underlying 146=some (.map 9 37):=by kernel_rfl
theorem yh:prog.underlying 9=some .string:=by kernel_rfl
theorem uw (w:World):(zeroValue 37).run prog w = .ok (Hw ⟨0,0⟩) w:=by kernel_rfl
theorem Gh (a:Am):FSpec prog 187 [a.a] [] [] (.b (bI a)) []:=by
 refine aS func187 ?_
 have kM:=zh a.mode
 obtain ⟨m,hm⟩:∃m,bQ a.mode=m:=⟨_,rfl⟩
 rw [hm] at kM
 have hu:bI a=(m && decide (a.units=0) || decide (a.mode=0) && decide (1≤a.units) && decide (a.units≤8)):=by rw [←hm];rfl
 have h0:a.mode=0→m=false:=fun h=>by rw [←hm,h];rfl
 repeat' (first
  | refine ah ?_ ?_
  | refine aa 9 rfl (cB [] (kM) ?_)
  | refine af ?_
  | exact ai|refine ae fun hb=>?_)
 all_goals (refine dD ?_;rw [hu];simp [*] <;> rfl)
theorem Hy (a b:Am):FSpec prog 109 [a.a,b.a] [] [] (.b (cO a b)) []:=by
 refine aS func109 ?_
 have kA:=Gh a
 have kB:=Gh b
 have kC:=mS b.mode a.mode
 obtain ⟨u,hu⟩:∃u,bI a=u:=⟨_,rfl⟩
 obtain ⟨v,hv⟩:∃v,bI b=v:=⟨_,rfl⟩
 obtain ⟨c,hc⟩:∃c,cZ b.mode a.mode=c:=⟨_,rfl⟩
 rw [hu] at kA
 rw [hv] at kB
 rw [hc] at kC
 have hg:cO a b=(v && !decide (a=b) && (aG a || u && (bif !decide (a.mode=0) then c else decide (a.units<b.units)))):=by rw [←hu,←hv,←hc];rfl
 have f1:b.mode=0→c=false:=fun h=>by rw [←hc,h];rfl
 have f2:u=true→v=true→a.mode=0→b.mode≠0→¬a.units<b.units:=fun h1 h2 h3 h4=>by
  rw [←hu] at h1
  rw [←hv] at h2
  have e1:=c6 h1
  have e2:=c6 h2
  simp only [fE] at e1 e2
  omega
 have hz:aG a=decide (a=⟨0,0⟩):=rfl
 rw [hz] at hg
 clear hu hv hc hz
 repeat' (first
  | refine ah ?_ ?_
  | (refine aa 9 rfl ?_;first
   | (refine cB [] (kA) ?_)
   | (refine cB [] (kB) ?_)
   | (refine cB [] (kC) ?_))
  | refine af ?_
  | exact ai|refine ae fun hb=>?_)
 all_goals (refine dD ?_;rw [hg])
 all_goals first
  | (simp [*];done)
  | (cases u <;> cases v <;> cases c <;> simp_all;done)
theorem nN (l:List Sv) (n:Int) {K:Int} (hK:aT n 0 l=K):FSpec prog 188 [.one (.sl lw l),.one (.sc (.int .i64 n))] [] [] (.i K) []:=by
 refine aS func188 ?_
 refine aH (fun c ρ a w hr=>bh (t:=0) hr rfl) (fun hl0=>?_)
 repeat' (first
  | refine ah ?_ ?_
  | refine af ?_
  | exact ai|refine ae fun hb=>?_)
 refine aj (fun i=>i≤l.length∧aT n i (l.drop i)=K) (fun i=>bH [] [(1,.c (.sc (.int .i64 n))),(7,.c (.sl lw l)),(8,.i l.length),(9,.i i)] []) (fun i=>l.length-i) 0 ⟨Nat.zero_le _,hK⟩ (by exact ao (qf [])) ?_
 clear hK
 rintro i ⟨hi,hs⟩
 by_cases hlt:i<l.length
 ·obtain ⟨x,hx⟩:∃x,l[i]? = some x:=⟨_,List.getElem?_eq_getElem hlt⟩
  have ex:l[i]=x:=(List.getElem?_eq_some_iff.1 hx).2
  rw [List.drop_eq_getElem_cons hlt,ex] at hs
  have hs:(bif decide (x.label=n) then (i:Int) else aT n (i+1) (l.drop (i+1)))=K:=hs
  by_cases he:x.label=n
  ·rw [decide_eq_true he] at hs
   obtain rfl:K=i:=hs.symm
   repeat' (first
    | refine ah ?_ ?_
    | refine af ?_
    | exact ai|(refine ae fun hb=>?_;first|(exact absurd he hb)|skip)
    | (refine aE (qf []) ?_;exact ab))
  ·rw [decide_eq_false he,cond_false] at hs
   repeat' (first
    | refine ah ?_ ?_
    | refine af ?_
    | exact ai|(refine ae fun hb=>?_;first|(exact absurd hb he)|skip))
   refine ⟨i+1,⟨by omega,hs⟩,by omega,?_⟩
   exact ao (qf [])
 ·rw [List.drop_eq_nil_of_le (by omega)] at hs
  obtain rfl:K = -1:=hs.symm
  repeat' (first
   | refine ah ?_ ?_
   | refine af ?_
   | exact ai|refine ae fun hb=>?_
   | (refine aE (qf []) ?_;exact ab))
theorem Hz (s:List Sv) (n:Int) {b:Bool} (hB:(decide (s.length≤4) && Hx s n 0 0 s)=b):FSpec prog 110 [.one (.sl lw s),.one (.sc (.int .i64 n))] [] [] (.b b) []:=by
 refine aS func110 ?_
 by_cases h4:s.length≤4
 case neg =>
  obtain rfl:b=false:=by rw [←hB,decide_eq_false h4];rfl
  repeat' (first
   | refine ah ?_ ?_
   | refine af ?_
   | exact ai|refine ae fun hb=>?_
   | (refine aE (qf []) ?_;exact ab))
 rw [decide_eq_true h4,Bool.true_and] at hB
 repeat' (first
  | refine ah ?_ ?_
  | refine af ?_
  | exact ai|refine ae fun hb=>?_)
 refine aj (fun y:Nat×Int=>y.1≤s.length∧Hx s n y.1 y.2 (s.drop y.1)=b) (fun y=>bH [] [(0,.c (.sl lw s)),(1,.c (.sc (.int .i64 n))),(5,.c (.sc (.int .i64 y.2))),(11,.c (.sl lw s)),(12,.i s.length),(13,.i y.1)] []) (fun y=>s.length-y.1) (0,0) ⟨Nat.zero_le _,hB⟩ (by exact ao (qf [])) ?_
 clear hB
 rintro ⟨i,p⟩ ⟨hi,hs⟩
 dsimp only at *
 by_cases hlt:i<s.length
 ·obtain ⟨x,hx⟩:∃x,s[i]? = some x:=⟨_,List.getElem?_eq_getElem hlt⟩
  have ex:s[i]=x:=(List.getElem?_eq_some_iff.1 hx).2
  rw [List.drop_eq_getElem_cons hlt,ex] at hs
  have hs:(decide (1≤x.label) && decide (x.label≤99) && decide (aT x.label 0 (s.take i)<0) && decide (p≤x.at_) && decide (x.at_≤n) && Hx s n (i+1) x.at_ (s.drop (i+1)))=b:=hs
  obtain ⟨T,hT⟩:∃T,s.take i=T:=⟨_,rfl⟩
  have hT2:s.take ((i:Int)).toNat=T:=by rw [Int.toNat_natCast];exact hT
  obtain ⟨K,hK⟩:∃K,aT x.label 0 T=K:=⟨_,rfl⟩
  have kP:=nN T x.label hK
  rw [hT,hK] at hs
  clear hT hK
  by_cases hok:(1≤x.label∧x.label≤99)∧K<0∧p≤x.at_∧x.at_≤n
  ·obtain ⟨⟨k1,k2⟩,k3,k4,k5⟩:=hok
   rw [decide_eq_true k1,decide_eq_true k2,decide_eq_true k3,decide_eq_true k4,decide_eq_true k5] at hs
   simp only [Bool.true_and] at hs
   repeat' (first
    | refine ah ?_ ?_
    | refine aa 9 rfl (cB [] (kP) ?_)
    | (refine aa 14 rfl ?_;refine sx (p9 rfl rfl rfl rfl (by omega) (by omega) hT2) ?_)
    | refine af ?_
    | exact ai|refine ae fun hb=>?_)
   refine ⟨(i+1,x.at_),⟨by dsimp only;omega,hs⟩,by dsimp only;omega,?_⟩
   exact ao (qf [])
  ·have hok1:1≤x.label→x.label≤99→K<0→p≤x.at_→x.at_≤n→False:=fun a b c d e=>hok ⟨⟨a,b⟩,c,d,e⟩
   obtain rfl:b=false:=by
    rw [←hs]
    cases hh:(decide (1≤x.label) && decide (x.label≤99) && decide (K<0) && decide (p≤x.at_) && decide (x.at_≤n)) with
    | false=>rfl
    | true =>
     simp only [Bool.and_eq_true,decide_eq_true_eq] at hh
     exact (hok1 hh.1.1.1.1 hh.1.1.1.2 hh.1.1.2 hh.1.2 hh.2).elim
   clear hok hs
   repeat' (first
    | refine ah ?_ ?_
    | refine aa 9 rfl (cB [] (kP) ?_)
    | (refine aa 14 rfl ?_;refine sx (p9 rfl rfl rfl rfl (by omega) (by omega) hT2) ?_)
    | refine af ?_
    | exact ai|(refine ae fun hb=>?_;first|(exact (hok1 (by omega) (by omega) (by omega) (by omega) (by omega)).elim)|skip)
    | (refine aE (qf []) ?_;exact ab))
 ·rw [List.drop_eq_nil_of_le (by omega)] at hs
  obtain rfl:b=true:=hs.symm
  repeat' (first
   | refine ah ?_ ?_
   | refine af ?_
   | exact ai|refine ae fun hb=>?_
   | (refine aE (qf []) ?_;exact ab))
theorem zp (l:List En):FSpec prog 111 [.one (.sl jP l)] [] [0] (.c (.own 0)) [(0,some (.mp (ut (eo l))))]:=by
 refine aS func111 ?_
 refine aH (fun c ρ a w hr=>bh (t:=0) hr rfl) (fun hl0=>?_)
 repeat' (first
  | refine ah ?_ ?_
  | (refine aa 22 rfl ?_;refine sx (s0 rfl rfl) ?_)
  | refine af ?_
  | exact ai|refine ae fun hb=>?_)
 refine aj (fun y:Nat×List (ByteArray×Am)=>y.1≤l.length∧dL y.2 (l.drop y.1)=eo l) (fun y=>bH [6] [(3,.c (.own 6)),(7,.c (.sl jP l)),(8,.i l.length),(9,.i y.1)] [(6,.mp (ut y.2))]) (fun y=>l.length-y.1) (0,[]) ⟨Nat.zero_le _,rfl⟩ (by exact ao (qf [])) ?_
 rintro ⟨i,m⟩ ⟨hi,hs⟩
 dsimp only at *
 by_cases hlt:i<l.length
 ·obtain ⟨e,he⟩:∃e,l[i]? = some e:=⟨_,List.getElem?_eq_getElem hlt⟩
  have ee:l[i]=e:=(List.getElem?_eq_some_iff.1 he).2
  rw [List.drop_eq_getElem_cons hlt,ee] at hs
  repeat' (first
   | refine ah ?_ ?_
   | (refine aa 24 rfl ?_;refine JK (nM _ _ qP yh rfl rfl rfl rfl rfl rfl) ?_)
   | refine af ?_
   | exact ai|refine ae fun hb=>?_)
  refine ⟨(i+1,dG e.name e.after m),⟨by dsimp only;omega,hs⟩,by dsimp only;omega,?_⟩
  exact ao (qf [])
 ·rw [List.drop_eq_nil_of_le (by omega)] at hs
  obtain rfl:m=eo l:=hs
  repeat' (first
   | refine ah ?_ ?_
   | refine af ?_
   | exact ai|refine ae fun hb=>?_
   | (refine aE (qf [(0,6)]) ?_;exact ab))
theorem DJ (g:Lg) (n:ByteArray) {a:Am} (ha:az g.entries n=a):FSpec prog 194 [g.a,.one (.sc (.string n))] [] [] (.v a.a) []:=by
 refine aS func194 ?_
 have kS:=zp g.entries
 have hg:nL n (eo g.entries)=a:=(gx _ _).trans ha
 generalize eo g.entries=m at *
 repeat' (first
  | refine ah ?_ ?_
  | refine aa 9 rfl (cH (qf [(0,1000)]) (kS) ?_)
  | (refine aa 23 rfl ?_;refine sx (kY _ _ qP yh uw rfl rfl rfl rfl hg) ?_)
  | refine af ?_
  | exact ai|refine ae fun hb=>?_
  | (refine aE (qf []) ?_;exact ab))
theorem zq (l:List En) (s:List Sv) {b:Bool} (hB:jk l s=b):FSpec prog 49 [.ag [.sl jP l,.sl lw s]] [] [] (.b b) []:=by
 refine aS func49 ?_
 refine aH (fun c ρ a w hr=>cR (t:=0) (i:=0) hr rfl rfl) (fun hl0_0=>?_)
 refine aH (fun c ρ a w hr=>cR (t:=0) (i:=1) hr rfl rfl) (fun hl0_1=>?_)
 repeat' (first
  | refine ah ?_ ?_
  | (refine aa 22 rfl ?_;refine sx (s0 rfl rfl) ?_)
  | refine af ?_
  | exact ai|refine ae fun hb=>?_)
 refine aj (fun y:Nat×List (ByteArray×Am)=>y.1≤l.length∧y.2=eo (l.take y.1)∧y.2.length≤8∧fx (l.take y.1) (l.drop y.1)=fx [] l) (fun y=>bH [1,6] [(1,.c (.ptr 1 0)),(3,.c (.own 6)),(8,.c (.sl jP l)),(9,.i l.length),(10,.i y.1)] [(1,.box 61 [.sl jP l,.sl lw s]),(6,.mp (ut y.2))]) (fun y=>l.length-y.1) (0,[]) ⟨Nat.zero_le _,rfl,by simp,by simp⟩ (by exact ao (qf [])) ?_
 rintro ⟨i,m⟩ ⟨hi,hm,hm8,hs⟩
 dsimp only at *
 by_cases hlt:i<l.length
 ·obtain ⟨e,he⟩:∃e,l[i]? = some e:=⟨_,List.getElem?_eq_getElem hlt⟩
  have ee:l[i]=e:=(List.getElem?_eq_some_iff.1 he).2
  have hst:fx [] l=(co e.name.toList && decide (e.before=az (l.take i) e.name) && cO e.before e.after && fx (l.take (i+1)) (l.drop (i+1))):=by
   rw [←hs,List.drop_eq_getElem_cons hlt,ee,List.take_succ_eq_append_getElem hlt,ee]
   rfl
  obtain ⟨h,hh⟩:∃h,az (l.take i) e.name=h:=⟨_,rfl⟩
  have hg:nL e.name m=h:=by rw [hm,gx];exact hh
  obtain ⟨m2,hm2⟩:∃m2,dG e.name e.after m=m2:=⟨_,rfl⟩
  have hm3:m2=eo (l.take (i+1)):=by rw [←hm2,hm,List.take_succ_eq_append_getElem hlt,ee,AZ]
  have kN:=Do e.name
  have kG:=Hy e.before e.after
  rw [hh] at hst
  clear hh hm
  by_cases hok:(co e.name.toList=true∧e.before=h∧cO e.before e.after=true)∧m2.length≤8
  ·obtain ⟨⟨k1,k2,k3⟩,k4⟩:=hok
   rw [k1] at kN
   rw [k3] at kG
   have hlm:(ut m2).length=m2.length:=by simp [ji]
   repeat' (first
    | refine ah ?_ ?_
    | (refine aa 7 rfl ?_;refine sx (s5 qP rfl rfl rfl) ?_)
    | (refine aa 9 rfl ?_;first
     | (refine cB [] (kN) ?_)
     | (refine cB [] (kG) ?_))
    | (refine aa 23 rfl ?_;refine sx (kY _ _ qP yh uw rfl rfl rfl rfl hg) ?_)
    | (refine aa 24 rfl ?_;refine JK (nM _ _ qP yh rfl rfl rfl rfl rfl hm2) ?_)
    | refine af ?_
    | exact ai|(refine ae fun hb=>?_;first|(exact absurd k2 hb)|skip))
   refine ⟨(i+1,m2),⟨by dsimp only;omega,hm3,k4,?_⟩,by dsimp only;omega,?_⟩
   ·dsimp only
    rw [hst,k1,k3];simp [k2]
   ·exact ao (qf [])
  ·obtain rfl:b=false:=by
    rw [←hB]
    cases h1:fx [] l with
    | false=>simp [jk,h1]
    | true =>
     rw [hst] at h1
     simp only [Bool.and_eq_true,decide_eq_true_eq] at h1
     have h8:¬m2.length≤8:=fun h8=>hok ⟨⟨h1.1.1.1,h1.1.1.2,h1.1.2⟩,h8⟩
     have h9:¬(bE l).length≤8:=fun h9=>h8 (by
      rw [hm3]
      have:=A4 (l.take (i+1)) (l.drop (i+1))
      rw [List.take_append_drop,mV l] at this
      omega)
     simp [jk,h9]
   have hok1:co e.name.toList=true→e.before=h→cO e.before e.after=true→m2.length≤8→False:=fun a b c d=>hok ⟨⟨a,b,c⟩,d⟩
   obtain ⟨nb,hnb⟩:∃nb,co e.name.toList=nb:=⟨_,rfl⟩
   obtain ⟨gb,hgb⟩:∃gb,cO e.before e.after=gb:=⟨_,rfl⟩
   rw [hnb] at kN hok1
   rw [hgb] at kG hok1
   clear hok hst hnb hgb hm3
   have hlm:(ut m2).length=m2.length:=by simp [ji]
   repeat' (first
    | refine ah ?_ ?_
    | (refine aa 7 rfl ?_;refine sx (s5 qP rfl rfl rfl) ?_)
    | (refine aa 9 rfl ?_;first
     | (refine cB [] (kN) ?_)
     | (refine cB [] (kG) ?_))
    | (refine aa 23 rfl ?_;refine sx (kY _ _ qP yh uw rfl rfl rfl rfl hg) ?_)
    | (refine aa 24 rfl ?_;refine JK (nM _ _ qP yh rfl rfl rfl rfl rfl hm2) ?_)
    | refine af ?_
    | exact ai|(refine ae fun hb=>?_;first|(exact (hok1 (by assumption) (by assumption) (by assumption) (by omega)).elim)|skip)
    | (refine aE (qf []) ?_;exact ab))
 ·have hE:fx [] l=true:=by rw [←hs,List.drop_eq_nil_of_le (by omega)];rfl
  rw [List.take_of_length_le (by omega)] at hm
  have h8:(bE l).length≤8:=by rw [←mV,←hm];exact hm8
  have h64:=wa (vY.1 hE) h8
  have hB2:(decide (s.length≤4) && Hx s l.length 0 0 s)=b:=by
   rw [←hB,DI s l.length s 0 0 rfl (Int.le_refl _)]
   simp [jk,hE,h8,show l.length≤72 by omega]
  have kV:=Hz s l.length hB2
  clear hB hB2 hE hs hm
  repeat' (first
   | refine ah ?_ ?_
   | refine aa 9 rfl (cB [] (kV) ?_)
   | refine af ?_
   | exact ai|refine ae fun hb=>?_
   | (refine aE (qf []) ?_;exact ab))
theorem jX {e:MapEntry}:∀{l:List (Value×Value)} {i:Nat},e∈ed i l↔∃j,l[j]? = some (e.key,e.val)∧e.born=i+j
 | [],i=>by simp [ed]
 | x :: l,i=>by
  show e∈(⟨x.1,x.2,i⟩ :: ed (i+1) l)↔_
  rw [List.mem_cons,jX]
  constructor
  ·rintro (rfl|⟨j,h1,h2⟩)
   ·exact ⟨0,rfl,rfl⟩
   ·exact ⟨j+1,by simpa using h1,by omega⟩
  ·rintro ⟨j,h1,h2⟩
   cases j with
   | zero =>
    have h1:some x=some (e.key,e.val):=h1
    injection h1 with h1
    subst h1
    exact .inl (by cases e;simp_all)
   | succ j=>exact .inr ⟨j,by simpa using h1,by omega⟩
theorem s7:∀{l:List (Value×Value)} {i:Nat},((ed i l).map (·.born)).Nodup∧∀x∈ed i l,i≤x.born
 | [],i=>by simp [ed]
 | x :: l,i=>by
  obtain ⟨h1,h2⟩:=s7 (l:=l) (i:=i+1)
  constructor
  ·show (i :: (ed (i+1) l).map (·.born)).Nodup
   refine List.nodup_cons.2 ⟨fun h=>?_,h1⟩
   obtain ⟨y,hy,e⟩:=List.mem_map.1 h
   have:=h2 y hy
   omega
  ·intro y hy
   rcases List.mem_cons.1 hy with rfl|hy
   ·exact Nat.le_refl _
   ·exact Nat.le_of_succ_le (h2 y hy)
section
variable {P:Program} {nt:Nat} {Ks:List Nat} {Q:Exit→Mst→Prop} {s:Mst} {o o2:Oper} {L:List (Value×Value)}
theorem s8 {t k r K E:Nat} {x:Operand} (ht:P.underlying t=some (.map K E)) (ho:o.op = .range t x) (hdk:o.dst=some r) (hx:s.ev x = .c (.own k)) (hk:s.h k=some (.mp L)):LOp P o s [k] ⟨.c (.own r),[(r,some (.it k L.length []))],[r]⟩:=by
 intro c st ρ a w hr h1 h2 h3 h4
 have e1:=h1 x (by simp [ho,Op.operands])
 have hv1:=hr.ev x
 rw [e1,hx] at hv1
 have hv1:a.eval x=ρ k:=hv1
 have hk':=(h2 k (by simp [aI])).trans hk
 obtain ⟨g,hg,hb⟩:=hr.hp k _ hk'
 have hfr:st.f r=true:=h3 r (by simp [aI])
 have hkr:r≠k:=fun e=>by rw [e,hr.nfh hk'] at hfr;cases hfr
 have hkk:∀k':Nat,aA [(r,some (Box.it k L.length []))] k'=true→k'=r:=fun k' h=>by
  simp only [aA,Bool.or_false] at h
  exact (Nat.eq_of_beq_eq_true h).symm
 refine Oper.wp_value (v:=.pointer (some ⟨w.heap.size,0,none⟩)) (w':=w.alloc (.mapIter (some g) L.length #[] L.length)) ?_ ⟨upd ρ r (.pointer (some ⟨w.heap.size,0,none⟩)),hr.app (e:=⟨.c (.own r),[(r,some (.it k L.length []))],[r]⟩) h4 (fun k' h=>?_) (fun k' h=>?_) (fun k' h=>.inl ?_) (Frx.alloc _ _ _) (fun k' bx g' h _ hg'=>?_) (fun k1 k2 _ _ _ h h' _ _ _ _=>?_) (fun k' h=>.inl ?_) (fun k1 k2 bx h hp hx=>?_) (fun k2 bx h hp=>?_) ?_⟩
 ·have hl:(ed 0 L).toArray.size=L.length∨True:=.inr trivial
  unfold execOp
  rw [ho]
  have hb':=hb
  unfold jD at hb'
  simp [Instr.range,hv1,hg,run_underlying ht,MapKept.run_getObj_map hb',Result.andThen]
 ·have:k'=r:=by simp [aI] at h;exact h.symm
  subst this
  exact ⟨hfr,by simp [aA]⟩
 ·exact dx (by simpa [aI] using h)
 ·rw [hkk k' h];simp [aI]
 ·rw [hkk k' h,aM] at hg'
  injection hg' with hg'
  subst hg'
  exact ⟨by simp,.inl (Nat.le_refl _)⟩
 ·rw [hkk k1 h,hkk k2 h']
 ·have:k'=r:=by simp [TV.has,V0.has,D.has] at h;exact h.symm
  subst this;simp [aI]
 ·rw [hkk k2 h] at hp
  simp only [hput,Nat.beq_refl,cond_true,Option.some.injEq] at hp
  subst hp
  simp only [Box.has] at hx
  rw [←Nat.eq_of_beq_eq_true hx]
  exact .inr (hr.nfh hk')
 ·rw [hkk k2 h] at hp ⊢
  simp only [hput,Nat.beq_refl,cond_true,Option.some.injEq] at hp
  subst hp
  rw [aM]
  refine ⟨_,g,rfl,?_,(MapKept.heap_alloc w _).1⟩
  rw [dx (by cases h9:r.beq k with|false=>rfl|true=>exact absurd (Nat.eq_of_beq_eq_true h9) hkr),hg]
 ·exact (aM _ _ _).symm
theorem nO {r k n j:Nat} {x:Operand} {seen:List Nat} {y:V0} {key val:Value} (ho:o.op = .entry x) (hx:s.ev x = .c (.own r)) (hr0:s.h r=some (.it k n (seen++[j]))) (hk:s.h k=some (.mp L)) (hn:n=L.length) (hj:L[j]? = some (key,val)) (hy:∀w F ρ,y.rep w F ρ val) (hyn:∀i,y.has i=false):LOp P o s [r,k] ⟨.tup [.one (.sc key),y],[],[]⟩ :=
 bj fun c st ρ a w hr h1 h2=>by
  have e1:=h1 x (by simp [ho,Op.operands])
  have hv1:=hr.ev x
  rw [e1,hx] at hv1
  have hv1:a.eval x=ρ r:=hv1
  obtain ⟨g,m,hg,hm,hit⟩:=hr.hp r _ ((h2 r (by simp [aI])).trans hr0)
  obtain ⟨g',hg',hb⟩:=hr.hp k _ ((h2 k (by simp [aI])).trans hk)
  have em:m=g':=by rw [hm] at hg';injection hg' with h;injection h
  subst em
  subst hn
  have hmem:(⟨key,val,j⟩:MapEntry)∈ed 0 L:=jX.2 ⟨j,hj,by simp⟩
  have hrun:=run_entry_at (P:=P) w g m L.length seen.toArray (ed 0 L).toArray L.length ⟨key,val,j⟩ (by rw [hit];simp) hb (by simpa using hmem) (by simpa using s7.1)
  refine ⟨.tuple #[key,val],?_,⟨[key,val],rfl,rfl,hy _ _ _,trivial⟩,fun i hi=>?_⟩
  ·unfold execOp
   rw [ho]
   simp only [hv1,hg,Sem.run_bind,hrun,Result.andThen_ok,Sem.run_pure]
  ·have hi:(V0.has i (.one (.sc key)) || (y.has i || false))=true:=hi
   rw [hyn i] at hi
   cases hi
theorem zr {id t t2 r k n:Nat} {x:Operand} {seen:List Nat} (ho:o.op = .next x false) (hg:o.guard=none) (hd:o.dst=some t) (ho2:o2.op = .extract (.tmp t) 0) (hg2:o2.guard=none) (hd2:o2.dst=some t2) (ht:Nat.blt t nt=true) (ht2:Nat.blt t2 nt=true)
  (hx:s.ev x = .c (.own r)) (hr0:s.h r=some (.it k n seen)) (hk:s.h k=some (.mp L)) (hn:n=L.length)
  (h1:∀j,j<n→j ∉ seen→Q .normal ((s.app (some t) ⟨.tup [.one (.sc (.bool true)),.one .any,.one .any],[(r,some (.it k n (seen++[j])))],[]⟩).app (some t2) ⟨.b true,[],[]⟩))
  (h2:(∀j,j<n→j∈seen)→Q .normal ((s.app (some t) ⟨.tup [.one (.sc (.bool false))],[],[]⟩).app (some t2) ⟨.b false,[],[]⟩)):AW P nt Ks (.region id [o,o2].toArray false) Q s:=by
 intro c ρ a w hc _ hr
 subst hc
 subst hn
 have hv1:=hr.ev x
 rw [hx] at hv1
 have hv1:a.eval x=ρ r:=hv1
 obtain ⟨g,m,hg0,hm,hit⟩:=hr.hp r _ hr0
 obtain ⟨g',hg',hb⟩:=hr.hp k _ hk
 have em:m=g':=by rw [hm] at hg';injection hg' with h;injection h
 subst em
 have hdt:∀d,o.dst=some d→d<c.nt:=fun d h=>by rw [hd] at h;injection h with h;subst h;exact Nat.le_of_ble_eq_true ht
 have hdt2:∀d,o2.dst=some d→d<c.nt:=fun d h=>by rw [hd2] at h;injection h with h;subst h;exact Nat.le_of_ble_eq_true ht2
 have hkb:kb (ρ r)=some g:=by rw [hg0];rfl
 have hkk:∀(b:Box) (k':Nat),aA [(r,some b)] k'=true→k'=r:=fun b k' h=>by
  simp only [aA,Bool.or_false] at h
  exact (Nat.eq_of_beq_eq_true h).symm
 have fin:∀(s1:Mst) (a1:Act) (w1:World) (b:Bool) (l:List V0),Rp c s1 ρ a1 w1→s1.t t = .tup (.one (.sc (.bool b)) :: l)→Q .normal (s1.app (some t2) ⟨.b b,[],[]⟩)→wpList P [o,o2].toArray (fun e a' w'=>∃s' ρ',Q e s'∧Rp c s' ρ' a' w') [o2] a1 w1:=by
  intro s1 a1 w1 b l hr1 h9 hq
  have hl:=n8 (P:=P) (o:=o2) (s:=s1) (x:=.tmp t) (i:=0) (y:=.one (.sc (.bool b))) ho2 h9 rfl
  refine wpList_step fun K' hK'=>?_
  have hw:Region.wanted o2 (yielded [o,o2].toArray a1.tmps)=true:=by unfold Region.wanted;rw [hg2]
  rw [if_pos hw]
  refine Oper.wp_post (hl c s1 ρ a1 w1 hr1 (fun _ _=>rfl) (fun _ _=>rfl) (fun k hk=>by simp [aI] at hk) hdt2) ?_
  rintro a' w' ⟨ρ',hr'⟩
  rw [hd2] at hr'
  exact hK' _ _ (wpList_nil ⟨_,ρ',hq,hr'⟩)
 refine wp_region_lit (wpList_step fun K' hK'=>?_)
 have hw:Region.wanted o (yielded [o,o2].toArray a.tmps)=true:=by unfold Region.wanted;rw [hg]
 rw [if_pos hw]
 have hnx:=run_next_at (P:=P) w o.type g m L.length L.length seen.toArray (ed 0 L).toArray L.length hit hb (fun x hx=>by
  obtain ⟨j,h,e⟩:=jX.1 (by simpa using hx)
  have:=(List.getElem?_eq_some_iff.1 h).1
  omega) (Nat.le_refl _)
 rcases hnx with ⟨h0,hrun⟩|⟨e,he,w1,hw1,hrun⟩
 ·refine Oper.wp_value (v:=.tuple #[.bool false]) (w':=w) ?_ (hK' _ _ (fin (s.app (some t) ⟨.tup [.one (.sc (.bool false))],[],[]⟩) _ _ false [] ?_ ?_ (h2 fun j hj=>?_)))
  ·unfold execOp
   rw [ho]
   simp only [hv1,hg0,Sem.run_bind,hrun,Result.andThen_ok,Sem.run_pure]
  ·rw [hd]
   exact hr.app (e:=⟨.tup [.one (.sc (.bool false))],[],[]⟩) (fun d h=>hdt d (hd.trans h)) (fun k hk=>by simp [aI] at hk) (fun _ _=>rfl) (fun k hk=>by simp [aA] at hk) (Frx.refl _ _) (fun k bx g hk=>by simp [aA] at hk) (fun k k' b b' g hk=>by simp [aA] at hk) (fun k h=>by simp [TV.has,V0.has,D.has] at h) (fun k k' bx hk=>by simp [aA] at hk) (fun k bx hk=>by simp [aA] at hk) ⟨[.bool false],rfl,rfl,trivial⟩
  ·simp [Mst.app,jj]
  ·have hle:leftOf (ed 0 L).toArray seen.toArray = #[]:=Array.eq_empty_of_size_eq_zero h0
   have hmem:(⟨(L[j]).1,(L[j]).2,j⟩:MapEntry)∈ed 0 L:=jX.2 ⟨j,List.getElem?_eq_getElem hj,by simp⟩
   unfold leftOf at hle
   rw [Array.filter_eq_empty_iff] at hle
   have:=hle _ (by simpa using hmem)
   simpa using this
 ·obtain ⟨he1,he2⟩:e∈ed 0 L∧e.born ∉ seen:=by unfold leftOf at he;simpa using he
  obtain ⟨j,hj,ej⟩:=jX.1 he1
  rw [Nat.zero_add] at ej
  have hjl:=(List.getElem?_eq_some_iff.1 hj).1
  have hr1:Rp c s ρ a w1:=by
   rcases hw1 with rfl|rfl
   ·exact hr
   ·exact hr.drew
  have hit1:w1.heap[g]? = some (.mapIter (some m) L.length seen.toArray L.length):=by rcases hw1 with rfl|rfl <;> exact hit
  have hset:=MapKept.heap_set (o':=.mapIter (some m) L.length (seen.toArray.push e.born) L.length) hit1
  have hlt:g<w1.heap.size:=(Array.getElem?_eq_some_iff.1 hit1).1
  have hkr:k≠r:=fun e=>by rw [e,hr0] at hk;cases hk
  refine Oper.wp_value (v:=.tuple #[.bool true,e.key,e.val]) (w':=ChangeMaps.setBlock w1 g (.mapIter (some m) L.length (seen.toArray.push e.born) L.length)) ?_ (hK' _ _ (fin (s.app (some t) ⟨.tup [.one (.sc (.bool true)),.one .any,.one .any],[(r,some (.it k L.length (seen++[j])))],[]⟩) _ _ true [.one .any,.one .any] ?_ ?_ (h1 j hjl (ej▸he2))))
  ·unfold execOp
   rw [ho]
   simp only [hv1,hg0,Sem.run_bind,hrun,Result.andThen_ok,Sem.run_pure]
  ·rw [hd]
   refine hr1.app (e:=⟨.tup [.one (.sc (.bool true)),.one .any,.one .any],[(r,some (.it k L.length (seen++[j])))],[]⟩) (fun d h=>hdt d (hd.trans h)) (fun k hk=>by simp [aI] at hk) (fun _ _=>rfl) (fun k' h=>.inr (by rw [hkk _ k' h];exact hr.nfh hr0)) ⟨rfl,rfl,rfl,by simp [ChangeMaps.setBlock],fun b hlt hn=>hset.2 b fun e=>hn ⟨r,_,by simp [aA],hr0,by rw [hkb,e]⟩⟩ ?_ ?_ (fun k h=>by simp [TV.has,V0.has,D.has] at h) ?_ ?_ ⟨[.bool true,e.key,e.val],rfl,rfl,trivial,trivial,trivial⟩
   ·intro k' bx g' h _ hg'
    rw [hkk _ k' h,hkb] at hg'
    injection hg' with hg'
    subst hg'
    exact ⟨by simpa [ChangeMaps.setBlock] using hlt,.inr ⟨r,_,by simp [aA],hr0,hkb⟩⟩
   ·intro k1 k2 _ _ _ h h' _ _ _ _
    rw [hkk _ k1 h,hkk _ k2 h']
   ·intro k1 k2 bx h hp hx
    rw [hkk _ k2 h] at hp
    simp only [hput,Nat.beq_refl,cond_true,Option.some.injEq] at hp
    subst hp
    simp only [Box.has] at hx
    rw [←Nat.eq_of_beq_eq_true hx]
    exact .inr (hr.nfh hk)
   ·intro k2 bx h hp
    rw [hkk _ k2 h] at hp ⊢
    simp only [hput,Nat.beq_refl,cond_true,Option.some.injEq] at hp
    subst hp
    refine ⟨g,m,hg0,hm,?_⟩
    have:(ChangeMaps.setBlock w1 g (.mapIter (some m) L.length (seen.toArray.push e.born) L.length)).heap[g]? = some (.mapIter (some m) L.length (seen.toArray.push e.born) L.length):=hset.1
    rw [this,ej]
    simp
  ·simp [Mst.app,jj]
end
end Go.Proofs.YtjndcdcbjidocaaGreatDoor
