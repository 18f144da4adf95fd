/- Part 14 of 24 of the proof of rollbackOptions_holds (no condition). -/
import Derived.Test.YtdaajdflefnjfaaGreatK13
set_option linter.unusedVariables false
set_option linter.unusedSimpArgs false
set_option maxRecDepth 100000
set_option maxHeartbeats 64000000
namespace Go.Proofs.YtdaajdflefnjfaaGreat
open Go.RowKit Go.Proofs.Tryz
def Ey:List Nd→Pr→Option Nd
 | [],_=>none
 | x :: l,p=>bif decide (x.proc=p) then some x else Ey l p
def II (n:ByteArray) (p:Pr):List Qu→Bool
 | []=>false
 | q :: l=>bif q.res.name.toList == n.toList then (ai q p).isSome else II n p l
def JO (s:Ws) (p:Pr):List Bool:=match Ey s.needs p with
 | none=>[]
 | some x=>bif sk s then (cY x.expr).map (fun a=>!II a.name p s.queues) else []
def Mv (d:Nat):V0:=.ag [.sc (.int .i64 0),.sc (.string ⟨#[]⟩),.sc (.int .i64 0),.sc (.int .i64 0),.sl (oN d) []]
theorem zN (d:Nat) (x:Ex):FSpec prog 223 [x.a d,Mv d] [] [] (.b (GO x)) []:=by
 refine bJ func223 ?_
 obtain ⟨b,hB⟩:∃b,GO x=b:=⟨_,rfl⟩
 rw [hB]
 by_cases hk:x.k=0
 case neg =>
  obtain rfl:b=false:=by rw [←hB];simp [GO,hk]
  repeat' (first
   | refine af ?_ ?_
   | refine en ?_
   | exact ah|refine ae fun hb=>?_
   | (refine aP (qf []) ?_;exact ab))
 by_cases ha:x.atom=jX
 case neg =>
  obtain rfl:b=false:=by rw [←hB];simp [GO,ha]
  repeat' (first
   | refine af ?_ ?_
   | refine en ?_
   | exact ah|refine ae fun hb=>?_
   | (refine aP (qf []) ?_;exact ab))
 by_cases hn:x.kids.length=0
 case neg =>
  obtain rfl:b=false:=by
   rw [←hB]
   cases h:x.kids with
   | nil=>rw [h] at hn;simp at hn
   | cons=>simp [GO,h]
  repeat' (first
   | refine af ?_ ?_
   | refine en ?_
   | exact ah|(refine ae fun hb=>?_;first|(exact absurd (by simpa using hb) hn)|skip)
   | (refine aP (qf []) ?_;exact ab))
 have hn2:x.kids=[]:=List.eq_nil_of_length_eq_zero hn
 obtain rfl:b=true:=by rw [←hB];simp [GO,hk,ha,hn2]
 repeat' (first
  | refine af ?_ ?_
  | refine en ?_
  | exact ah|(refine ae fun hb=>?_;first|(exact absurd hn (by simpa using hb))|skip))
 refine ao (fun _:Unit=>True) (fun _=>cy [2] [(2,.c (.ptr 2 0)),(5,.i 0)] [(2,.box 34 (x.d d))]) (fun _=>0) () trivial (by exact ap (qf [])) ?_
 rintro _ -
 repeat' (first
  | refine af ?_ ?_
  | refine en ?_
  | exact ah|refine ae fun hb=>?_
  | (refine aP (qf []) ?_;exact ab))
def Mw (d:Nat):V0:=.ag [.sc (.int .i64 0),.sc (.string ⟨#[]⟩),.sc (.int .i64 0),.sc (.int .i64 0),.sl (oN d) [],.sc (.int .i64 0),.sc (.int .i64 0)]
theorem CB (d:Nat) (r:Rq):FSpec prog 173 [r.a d,Mw d] [] [] (.b (JB r)) []:=by
 refine bJ func173 ?_
 obtain ⟨b,hB⟩:∃b,JB r=b:=⟨_,rfl⟩
 rw [hB]
 repeat' (first
  | refine af ?_ ?_
  | refine aa 9 rfl (cB [] (zN d r.expr) ?_)
  | refine en ?_
  | exact ah|refine ae fun hb=>?_)
 all_goals (refine pp ?_;rw [←hB];simp [JB, *];try rfl)
theorem sm (d:Nat) (r:Rq):FSpec prog 31 [r.a d] [] [] (.b (qo r)) []:=by
 refine bJ func31 ?_
 obtain ⟨b,hB⟩:∃b,qo r=b:=⟨_,rfl⟩
 rw [hB]
 repeat' (first
  | refine af ?_ ?_
  | refine aa 9 rfl (cB [] (JI d r.expr) ?_)
  | refine en ?_
  | exact ah|refine ae fun hb=>?_)
 all_goals (refine pp ?_;rw [←hB];simp [qo, *];try omega)
theorem ly (d:Nat) (x:Ex) {b:Bool} {L:List Tm} (h:oO x=b) (h2:cY x=L):FSpec prog 113 [x.a d] [] [] (.tup [.one (.sl cL L),.one (.sc (.bool b))]) []:=h▸h2▸oa d x
def CC (set:List Bool) (n i:Nat):List Bool:=(List.range n).map fun k=>decide (k<i) && set.getD k false
theorem K3 (set:List Bool) (n:Nat):CC set n 0=List.replicate n false:=by
 unfold CC
 apply List.ext_getElem
 ·simp
 ·intro i h1 h2;simp
theorem GZ (set:List Bool) {n i:Nat} (hi:i<n):(CC set n i).set i (set.getD i false)=CC set n (i+1):=by
 unfold CC
 apply List.ext_getElem
 ·simp
 ·intro k h1 h2
  rw [List.getElem_set]
  split
  ·next e=>subst e;simp
  ·next e =>
   simp only [List.getElem_map,List.getElem_range]
   congr 1
   rw [Bool.eq_iff_iff]
   simp
   omega
theorem G0 (set:List Bool) (n:Nat):CC set n n=(List.range n).map fun i=>set.getD i false:=by
 unfold CC
 apply List.map_congr_left
 intro i hi
 rw [List.mem_range] at hi
 simp [hi]
theorem G4 (set:List Bool) (n i:Nat):(CC set n i).length=n:=by simp [CC]
theorem JP (d:Nat) (x:Ex) (set:List Bool) (hset:set.length≤1000):FSpec prog 191 [x.a d,.one (.sl fc set)] [] [] (.c (.sl fc (cP x set))) []:=by
 refine bJ func191 ?_
 have hmk:prog.underlying 231=some (.slice 4):=underlying231
 have hib:(prog.info? 4).map (fun i=>(i.zero,i.size,i.bytes))=some (some (.bool false),1,1):=by kernel_rfl
 cases hv:oO x with
 | false =>
  have hL:=zo hv
  have hp:cP x set=[]:=by simp [cP,eV,hv,hL]
  rw [hp]
  repeat' (first
   | refine af ?_ ?_
   | refine aa 9 rfl (cC [] (ly d x hv hL) ?_)
   | (refine aa 20 rfl ?_;refine bc (lZ (E:=fc) (y0:=false) hmk hib rfl (by decide) rfl (fun _ _=>rfl) rfl rfl rfl rfl (by first|omega|simp)) rfl rfl rfl ?_)
   | refine en ?_
   | exact ah|refine ae fun hb=>?_
   | (refine aP (qf []) ?_;exact ab))
 | true =>
  obtain ⟨hsh,_,h8,_,_⟩:=uX hv
  obtain ⟨L,hL⟩:∃L,cY x=L:=⟨_,rfl⟩
  rw [hL] at h8
  cases hh:zn (fe L set) x with
  | false =>
   have hp:cP x set=List.replicate L.length false:=by simp [cP,eV,hv,hL,hh]
   rw [hp]
   repeat' (first
    | refine af ?_ ?_
    | (refine aa 9 rfl ?_;first
     | (refine cC [] (ly d x hv hL) ?_)
     | (refine cB [] (vM d x L set hsh (by omega) hset) ?_))
    | (refine aa 20 rfl ?_;refine bc (lZ (E:=fc) (y0:=false) hmk hib rfl (by decide) rfl (fun _ _=>rfl) rfl rfl rfl rfl (by first|omega|simp)) rfl rfl rfl ?_)
    | refine en ?_
    | exact ah|refine ae fun hb=>?_
    | (refine aP (qf []) ?_;exact ab))
  | true =>
   have hp:cP x set=iz x L L.length (CC set L.length L.length):=by rw [G0];simp [cP,eV,hv,hL,hh]
   rw [hp]
   repeat' (first
    | refine af ?_ ?_
    | (refine aa 9 rfl ?_;first
     | (refine cC [] (ly d x hv hL) ?_)
     | (refine cB [] (vM d x L set hsh (by omega) hset) ?_))
    | (refine aa 20 rfl ?_;refine bc (lZ (E:=fc) (y0:=false) hmk hib rfl (by decide) rfl (fun _ _=>rfl) rfl rfl rfl rfl (by first|omega|simp)) rfl rfl rfl ?_)
    | refine en ?_
    | exact ah|refine ae fun hb=>?_)
   refine ao (fun i=>i≤L.length) (fun i=>cy [2,1000] [(1,.c (.sl fc set)),(2,.c (.ptr 2 0)),(5,.c (.sl cL L)),(7,.c (.own 1000)),(8,.i i)] [(2,.box 34 (x.d d)),(1000,.arr 4 fc (CC set L.length i))]) (fun i=>L.length-i) 0 (Nat.zero_le _) (by rw [K3];exact ap (qf [(1000,17)])) ?_
   intro i hi
   have hpl:=G4 set L.length i
   by_cases hlt:i<L.length
   ·have hst:=GZ set hlt
    by_cases hsi:i<set.length
    ·rw [show set.getD i false=set[i] by simp [List.getD_eq_getElem?_getD,hsi]] at hst
     repeat' (first
      | refine af ?_ ?_
      | refine en ?_
      | (refine aa 4 rfl ?_;refine bW (aL (z:=set[i]) rfl rfl rfl rfl (by first|assumption|exact List.getElem?_eq_getElem (by omega)) rfl rfl rfl rfl (Nat.le_of_ble_eq_true rfl) rfl rfl) rfl rfl rfl ?_)
      | exact ah|refine ae fun hb=>?_)
     refine ⟨i+1,by omega,by omega,?_⟩
     rw [←hst]
     exact ap (qf [])
    ·rw [show set.getD i false=false by simp [List.getD_eq_getElem?_getD,hsi]] at hst
     repeat' (first
      | refine af ?_ ?_
      | refine en ?_
      | (refine aa 4 rfl ?_;refine bW (aL (z:=false) rfl rfl rfl rfl (by first|assumption|exact List.getElem?_eq_getElem (by omega)) rfl rfl rfl rfl (Nat.le_of_ble_eq_true rfl) rfl rfl) rfl rfl rfl ?_)
      | exact ah|refine ae fun hb=>?_)
     refine ⟨i+1,by omega,by omega,?_⟩
     rw [←hst]
     exact ap (qf [])
   ·obtain rfl:i=L.length:=by omega
    repeat' (first
     | refine af ?_ ?_
     | refine en ?_
     | exact ah|refine ae fun hb=>?_)
    refine ao (fun y:Nat×List Bool=>y.1≤L.length∧y.2.length=L.length∧iz x L y.1 y.2=iz x L L.length (CC set L.length L.length)) (fun y=>cy [2,1000] [(2,.c (.ptr 2 0)),(5,.c (.sl cL L)),(7,.c (.own 1000)),(9,.i ((y.1:Int)-1))] [(2,.box 34 (x.d d)),(1000,.arr 4 fc y.2)]) (fun y=>y.1) (L.length,CC set L.length L.length) ⟨Nat.le_refl _,hpl,rfl⟩ (by exact ap (qf [])) ?_
    rintro ⟨k,out⟩ ⟨hk,hol,hs⟩
    dsimp only at *
    rcases Nat.eq_zero_or_pos k with h0|h0
    ·subst h0
     rw [←hs,show iz x L 0 out=out from rfl]
     repeat' (first
      | refine af ?_ ?_
      | refine en ?_
      | exact ah|refine ae fun hb=>?_
      | (refine aP (qf []) ?_;exact ab))
    ·obtain ⟨j,rfl⟩:∃j,k=j+1:=⟨k-1,by omega⟩
     obtain ⟨z,hz⟩:∃z,(((j+1:Nat):Int)-1).toNat=z:=⟨_,rfl⟩
     have hzj:z=j:=by omega
     obtain ⟨v,hgv⟩:∃v,out[(((j+1:Nat):Int)-1).toNat]? = some v:=⟨_,List.getElem?_eq_getElem (by omega)⟩
     have hgj:out.getD j false=v:=by rw [hz,hzj] at hgv;simp [List.getD_eq_getElem?_getD,hgv]
     have hstep:iz x L (j+1) out=iz x L j (bif out.getD j false then out.set j (!zn (fe L (out.set j false)) x) else out):=rfl
     rw [hstep,hgj] at hs
     cases v with
     | false =>
      repeat' (first
       | refine af ?_ ?_
       | refine en ?_
       | exact ah|refine ae fun hb=>?_)
      refine ⟨(j,out),⟨by dsimp only;omega,hol,hs⟩,by dsimp only;omega,?_⟩
      exact ap (qf [])
     | true =>
      have hl1:(out.set (((j+1:Nat):Int)-1).toNat false).length=L.length:=by rw [List.length_set,hol]
      rw [show out.set j false=out.set (((j+1:Nat):Int)-1).toNat false by rw [hz,hzj]] at hs
      repeat' (first
       | refine af ?_ ?_
       | refine aa 9 rfl (cB [1000] (vM d x L (out.set (((j+1:Nat):Int)-1).toNat false) hsh (by omega) (by omega)) ?_)
       | refine en ?_
       | (refine aa 4 rfl ?_;first
        | (refine bW (aL (z:=false) rfl rfl rfl rfl (by first|assumption|exact List.getElem?_eq_getElem (by omega)) rfl rfl rfl rfl (Nat.le_of_ble_eq_true rfl) rfl rfl) rfl rfl rfl ?_)
        | (refine bW (aL (z:=!zn (fe L (out.set (((j+1:Nat):Int)-1).toNat false)) x) rfl rfl rfl rfl (by first|assumption|exact List.getElem?_eq_getElem (by omega)) rfl rfl rfl rfl (Nat.le_of_ble_eq_true rfl) rfl rfl) rfl rfl rfl ?_))
       | exact ah|refine ae fun hb=>?_)
      refine ⟨(j,out.set j (!zn (fe L (out.set (((j+1:Nat):Int)-1).toNat false)) x)),⟨by dsimp only;omega,by simp [hol],hs⟩,by dsimp only;omega,?_⟩
      dsimp only
      rw [show out.set j (!zn (fe L (out.set (((j+1:Nat):Int)-1).toNat false)) x)=(out.set (((j+1:Nat):Int)-1).toNat false).set (((j+1:Nat):Int)-1).toNat (!zn (fe L (out.set (((j+1:Nat):Int)-1).toNat false)) x) by rw [List.set_set,hz,hzj]]
      exact ap (qf [])
theorem vR (q:Qu) (p:Pr) (a:Am) {R:Qu×List Ho×Int} (hR:bz q p a=R):FSpec prog 232 [q.a,p.a,a.a] [] [] (Es R) []:=by
 refine bJ func232 ?_
 cases hS:av q with
 | false =>
  obtain rfl:R=bN 2:=by rw [←hR];simp [bz,hS]
  repeat' (first
   | refine af ?_ ?_
   | refine aa 9 rfl (cB [] (cG q) ?_)
   | refine en ?_
   | exact ah|(refine ae fun hb=>?_;first|(simp [hS] at hb;done)|skip)
   | (refine gK (qf []) ?_;exact ab))
 | true =>
  have hs:=aH hS
  have h1:=hs.hv.len
  have h2:=hs.clen
  have h3:=hs.wlen
  cases hz:aF (aj q.holds p) with
  | true =>
   obtain rfl:R=bN 10:=by rw [←hR];simp [bz,hS,hz]
   repeat' (first
    | refine af ?_ ?_
    | (refine aa 9 rfl ?_;first
     | (refine cB [] (cG q) ?_)
     | (refine cB [] (eQ q p) ?_)
     | (refine cB [] (j5 (aj q.holds p)) ?_))
    | refine en ?_
    | exact ah|(refine ae fun hb=>?_;first|(simp [hS] at hb;done)|(simp [hz] at hb;done)|skip)
    | (refine gK (qf []) ?_;exact ab))
  | false =>
   cases hw:ai q p with
   | some b =>
    obtain rfl:R=bN 14:=by rw [←hR];simp [bz,hS,hz,hw]
    repeat' (first
     | refine af ?_ ?_
     | (refine aa 9 rfl ?_;first
      | (refine cB [] (cG q) ?_)
      | (refine cB [] (eQ q p) ?_)
      | (refine cB [] (j5 (aj q.holds p)) ?_)
      | (refine cB [] (bQ q p hw) ?_))
     | refine en ?_
     | exact ah|(refine ae fun hb=>?_;first|(simp [hS] at hb;done)|(simp [hz] at hb;done)|skip)
     | (refine gK (qf []) ?_;exact ab))
   | none =>
    cases hc:aY q.res (aj q.holds p) a with
    | false =>
     obtain rfl:R=bN 12:=by rw [←hR];simp [bz,hS,hz,hw,hc]
     repeat' (first
      | refine af ?_ ?_
      | (refine aa 9 rfl ?_;first
       | (refine cB [] (cG q) ?_)
       | (refine cB [] (eQ q p) ?_)
       | (refine cB [] (j5 (aj q.holds p)) ?_)
       | (refine cB [] (bQ q p hw) ?_)
       | (refine cB [] (ew q.res (aj q.holds p) a) ?_))
      | refine en ?_
      | exact ah|(refine ae fun hb=>?_;first|(simp [hS] at hb;done)|(simp [hz] at hb;done)|(simp [hc] at hb;done)|skip)
      | (refine gK (qf []) ?_;exact ab))
    | true =>
     have hd:=hs.lower hw (bq.1 hz) hc
     obtain ⟨R1,hR1⟩:∃R1,R1=(bif decide (aj q.holds p=a) then lU (q,[]) else lU (fN { q with holds:=cM q.holds p a })):=⟨_,rfl⟩
     obtain rfl:R=R1:=by rw [←hR,hR1];simp [bz,hS,hz,hw,hc]
     clear hR
     repeat' (first
      | refine af ?_ ?_
      | (refine aa 9 rfl ?_;first
       | (refine cB [] (cG q) ?_)
       | (refine cB [] (eQ q p) ?_)
       | (refine cB [] (j5 (aj q.holds p)) ?_)
       | (refine cB [] (bQ q p hw) ?_)
       | (refine cB [] (ew q.res (aj q.holds p) a) ?_)
       | (refine cC [] (mU q (by omega) (by omega) (by omega)) ?_)
       | (refine cC [] (GV q.holds p a (by omega)) ?_)
       | (refine cC [] (lx { q with holds:=cM q.holds p a } hd) ?_))
      | refine en ?_
      | exact ah|(refine ae fun hb=>?_;first|(simp [hS] at hb;done)|(simp [hz] at hb;done)|(simp [hc] at hb;done)|skip))
     ·obtain rfl:R=lU (q,[]):=by rw [hR1];simp [hb]
      refine gK (qf []) ?_;exact ab
     ·obtain rfl:R=lU (fN { q with holds:=cM q.holds p a }):=by rw [hR1];simp [hb]
      refine gK (qf []) ?_;exact ab
theorem xU (q:Qu) (p:Pr) {R:Qu×List Ho×Int} (hR:bg q p=R):FSpec prog 118 [q.a,p.a] [] [] (Es R) []:=by
 refine bJ func118 ?_
 cases hS:av q with
 | false =>
  obtain rfl:R=bN 2:=by rw [←hR];simp [bg,hS]
  repeat' (first
   | refine af ?_ ?_
   | refine aa 9 rfl (cB [] (cG q) ?_)
   | refine en ?_
   | exact ah|(refine ae fun hb=>?_;first|(simp [hS] at hb;done)|skip)
   | (refine gK (qf []) ?_;exact ab))
 | true =>
  have hs:=aH hS
  have h1:=hs.hv.len
  have h2:=hs.clen
  have h3:=hs.wlen
  cases hh:eF q p with
  | false =>
   obtain rfl:R=bN 10:=by rw [←hR];simp [bg,hS,hh]
   repeat' (first
    | refine af ?_ ?_
    | (refine aa 9 rfl ?_;first
     | (refine cB [] (cG q) ?_)
     | (refine cB [] (Et q p) ?_))
    | refine en ?_
    | exact ah|(refine ae fun hb=>?_;first|(simp [hS] at hb;done)|(simp [hh] at hb;done)|skip)
    | (refine gK (qf []) ?_;exact ab))
  | true =>
   obtain rfl:R=lU (fN { q with holds:=cM q.holds p ⟨0,0⟩,convs:=ck q.convs p,waits:=ck q.waits p }):=by rw [←hR];simp [bg,hS,hh]
   have hd:=hs.gone p
   repeat' (first
    | refine af ?_ ?_
    | (refine aa 9 rfl ?_;first
     | (refine cB [] (cG q) ?_)
     | (refine cB [] (Et q p) ?_)
     | (refine cC [] (mU q (by omega) (by omega) (by omega)) ?_)
     | (refine cC [] (GV q.holds p ⟨0,0⟩ (by omega)) ?_)
     | (refine cC [] (od q.convs p (by omega)) ?_)
     | (refine cC [] (od q.waits p (by omega)) ?_)
     | (refine cC [] (lx { q with holds:=cM q.holds p ⟨0,0⟩,convs:=ck q.convs p,waits:=ck q.waits p } hd) ?_))
    | refine en ?_
    | exact ah|(refine ae fun hb=>?_;first|(simp [hS] at hb;done)|(simp [hh] at hb;done)|skip)
    | (refine gK (qf []) ?_;exact ab))
theorem G5 (q:Qu) (h1:q.holds.length≤100000) (h2:q.convs.length≤100000) (h3:q.waits.length≤100000):FSpec prog 164 [q.a] [] [0] (.v (.ag [.sc (.string q.res.name),.sc (.int .i64 q.res.kind),.sc (.int .i64 q.res.units),.sc (.int .i64 q.res.home),.sl oM q.holds,.own 0,.sl nv q.waits,.sc (.int .i64 q.gen)])) [(0,some (.arr 284 nv q.convs))]:=by
 refine bJ func164 ?_
 repeat' (first
  | refine af ?_ ?_
  | refine en ?_
  | exact ah|refine ae fun hb=>?_)
 refine aP (qf [(0,11)]) ?_;exact ab
theorem pu (q:Qu) (p:Pr) (a:Am) (prio:Int) {R:Qu×List Ho×Int} (hR:bt q p a prio=R) (hS:av q=true) (hv:fo p=true) (h1:0≤prio) (h2:prio≤7) (hf:aC q.res a=true) (hw:ai q p=none) (hc:aY q.res (aj q.holds p) a=false) :
  R=(bif !aF (aj q.holds p) then lU (fN { q with convs:=q.convs++[⟨p,bG q.res (aj q.holds p) a,0,0⟩] }) else
 bif decide (8≤q.holds.length+q.waits.length) then bN 4 else
 bif !decide ((kf q.waits ⟨p,a,prio,0⟩).1=0) then bN (kf q.waits ⟨p,a,prio,0⟩).1 else
 lU (fN { q with waits:=(kf q.waits ⟨p,a,prio,0⟩).2 })):=by
 rw [←hR];simp [bt,hS,hv,h1,h2,hf,hw,hc]
theorem Ba (q:Qu) (p:Pr) (a:Am) (prio:Int) {R:Qu×List Ho×Int} (hR:bt q p a prio=R):FSpec prog 228 [q.a,p.a,a.a,.one (.sc (.int .i64 prio))] [] [] (Es R) []:=by
 refine bJ func228 ?_
 cases hS:av q with
 | false =>
  obtain rfl:R=bN 2:=by rw [←hR];simp [bt,hS]
  repeat' (first
   | refine af ?_ ?_
   | refine aa 9 rfl (cB [] (cG q) ?_)
   | refine en ?_
   | exact ah|(refine ae fun hb=>?_;first|(simp [hS] at hb;done)|skip)
   | (refine gK (qf []) ?_;exact ab))
 | true =>
  have hs:=aH hS
  have h1:=hs.hv.len
  have h2:=hs.clen
  have h3:=hs.wlen
  by_cases hA:fo p=true∧0≤prio∧prio≤7
  case neg =>
   obtain rfl:R=bN 1:=by
    rw [←hR]
    unfold bt
    rw [hS,bF (b:=!true) rfl,bT]
    cases hv:fo p <;> simp [hv] at hA ⊢
    omega
   have hN:∀b,fo p=b→(b=true→0≤prio→prio≤7→False):=fun b hb x y z=>hA ⟨hb.trans x,y,z⟩
   clear hA
   repeat' (first
    | refine af ?_ ?_
    | (refine aa 9 rfl ?_;first
     | (refine cB [] (cG q) ?_)
     | (refine cB [] (iA p) ?_))
    | refine en ?_
    | exact ah|(refine ae fun hb=>?_;first|(exact (hN true (by assumption) rfl (by omega) (by omega)).elim)|skip)
    | (refine gK (qf []) ?_;exact ab))
  obtain ⟨hv,hp1,hp2⟩:=hA
  cases hf:aC q.res a with
  | false =>
   obtain rfl:R=bN 12:=by rw [←hR];simp [bt,hS,hv,hp1,hp2,hf]
   repeat' (first
    | refine af ?_ ?_
    | (refine aa 9 rfl ?_;first
     | (refine cB [] (cG q) ?_)
     | (refine cB [] (iA p) ?_)
     | (refine cB [] (oc q.res a) ?_))
    | refine en ?_
    | exact ah|refine ae fun hb=>?_
    | (refine gK (qf []) ?_;exact ab))
  | true =>
   cases hw:ai q p with
   | some b =>
    obtain rfl:R=bN 14:=by rw [←hR];simp [bt,hS,hv,hp1,hp2,hf,hw]
    repeat' (first
     | refine af ?_ ?_
     | (refine aa 9 rfl ?_;first
      | (refine cB [] (cG q) ?_)
      | (refine cB [] (iA p) ?_)
      | (refine cB [] (oc q.res a) ?_)
      | (refine cB [] (bQ q p hw) ?_))
     | refine en ?_
     | exact ah|refine ae fun hb=>?_
     | (refine gK (qf []) ?_;exact ab))
   | none =>
    cases hc:aY q.res (aj q.holds p) a with
    | true =>
     obtain rfl:R=lU (q,[]):=by rw [←hR];simp [bt,hS,hv,hp1,hp2,hf,hw,hc]
     repeat' (first
      | refine af ?_ ?_
      | (refine aa 9 rfl ?_;first
       | (refine cB [] (cG q) ?_)
       | (refine cB [] (iA p) ?_)
       | (refine cB [] (oc q.res a) ?_)
       | (refine cB [] (bQ q p hw) ?_)
       | (refine cC [] (mU q (by omega) (by omega) (by omega)) ?_)
       | (refine cB [] (eQ q p) ?_)
       | (refine cB [] (ew q.res (aj q.holds p) a) ?_))
      | refine en ?_
      | exact ah|refine ae fun hb=>?_
      | (refine gK (qf []) ?_;exact ab))
    | false =>
     cases hz:aF (aj q.holds p) with
     | false =>
      obtain rfl:R=lU (fN { q with convs:=q.convs++[⟨p,bG q.res (aj q.holds p) a,0,0⟩] }):=by rw [pu q p a prio hR hS hv hp1 hp2 hf hw hc,hz];rfl
      have hd:=(hs.cons (bq.1 hz) hw hf hc)
      repeat' (first
       | refine af ?_ ?_
       | (refine aa 8 rfl ?_;refine bc (ak rfl rfl (aI rfl rfl) (aO [⟨p,bG q.res (aj q.holds p) a,0,0⟩] rfl rfl rfl rfl) rfl aJ aJ) rfl rfl rfl ?_)
       | (refine aa 9 rfl ?_;first
        | (refine cB [] (cG q) ?_)
        | (refine cB [] (iA p) ?_)
        | (refine cB [] (oc q.res a) ?_)
        | (refine cB [] (bQ q p hw) ?_)
        | (refine cH (qf [(0,1000)]) (G5 q (by omega) (by omega) (by omega)) ?_)
        | (refine cB [1000] (eQ q p) ?_)
        | (refine cB [] (ew q.res (aj q.holds p) a) ?_)
        | (refine cB [] (j5 (aj q.holds p)) ?_)
        | (refine cB [] (Eg q.res (aj q.holds p) a) ?_)
        | (refine cC [71] (lx { q with convs:=q.convs++[⟨p,bG q.res (aj q.holds p) a,0,0⟩] } hd) ?_))
       | refine en ?_
       | exact ah|refine ae fun hb=>?_
       | (refine gK (qf []) ?_;exact ab))
     | true =>
      have hz0:aj q.holds p=⟨0,0⟩:=by simpa [aF] using hz
      by_cases hn:8≤q.holds.length+q.waits.length
      case pos =>
       obtain rfl:R=bN 4:=by rw [pu q p a prio hR hS hv hp1 hp2 hf hw hc,hz];simp [hn]
       repeat' (first
        | refine af ?_ ?_
        | (refine aa 9 rfl ?_;first
         | (refine cB [] (cG q) ?_)
         | (refine cB [] (iA p) ?_)
         | (refine cB [] (oc q.res a) ?_)
         | (refine cB [] (bQ q p hw) ?_)
         | (refine cC [] (mU q (by omega) (by omega) (by omega)) ?_)
         | (refine cB [] (eQ q p) ?_)
         | (refine cB [] (ew q.res (aj q.holds p) a) ?_)
         | (refine cB [] (j5 (aj q.holds p)) ?_))
        | refine en ?_
        | exact ah|refine ae fun hb=>?_
        | (refine gK (qf []) ?_;exact ab))
      obtain ⟨e,he1,he2⟩:∃e,kf q.waits ⟨p,a,prio,0⟩=(0,e)∧Sd { q with waits:=e }:=by
       have hi:=qZ hs hw hf hv ⟨hp1,hp2⟩ (Nat.lt_of_not_le hn)
       exact ⟨_,hi.1,hs.ins (w:=⟨p,a,prio,0⟩) hz0 hw hf hi.2 (Nat.lt_of_not_le hn)⟩
      have hI:=Eh q.waits ⟨p,a,prio,0⟩
      rw [he1] at hI
      obtain rfl:R=lU (fN { q with waits:=e }):=by rw [pu q p a prio hR hS hv hp1 hp2 hf hw hc,hz,he1];simp [hn]
      repeat' (first
       | refine af ?_ ?_
       | (refine aa 9 rfl ?_;first
        | (refine cB [] (cG q) ?_)
        | (refine cB [] (iA p) ?_)
        | (refine cB [] (oc q.res a) ?_)
        | (refine cB [] (bQ q p hw) ?_)
        | (refine cC [] (mU q (by omega) (by omega) (by omega)) ?_)
        | (refine cB [] (eQ q p) ?_)
        | (refine cB [] (ew q.res (aj q.holds p) a) ?_)
        | (refine cB [] (j5 (aj q.holds p)) ?_)
        | (refine cC [] (hI) ?_)
        | (refine cC [] (lx { q with waits:=e } he2) ?_))
       | refine en ?_
       | exact ah|refine ae fun hb=>?_
       | (refine gK (qf []) ?_;exact ab))
theorem uf:∀(n:Nat) (q:Qu) (acc:List Ho),(eN n q acc).2.length≤acc.length+n
 | 0,q,acc=>Nat.le_refl _
 | n+1,q,acc=>by
  unfold eN
  cases dv q with
  | none=>dsimp only;omega
  | some x =>
   dsimp only
   cases go q.res q.holds x.proc x.am with
   | true =>
    have:=uf n (io q x) (acc++[⟨x.proc,x.am⟩])
    simp at this ⊢
    omega
   | false=>simp
theorem oh (q:Qu):(fN q).2.length≤q.convs.length+q.waits.length:=by
 have:=uf (gP q) q []
 simpa [fN,vw,gP] using this
theorem Ez (l:List Wt) (w:Wt):(kf l w).2.length≤l.length+1:=by
 unfold kf
 cases gj l <;> cases (qN w && decide (w.passed=0)) <;> cases decide (0≤cq l w.proc) <;> cases decide (l.length=8) <;> simp [xp]
theorem so {q:Qu} (h:av q=true) (p:Pr) (a:Am) (prio:Int):(bt q p a prio).2.1.length≤17:=by
 have hs:=aH h
 have h2:=hs.clen
 have h3:=hs.wlen
 unfold bt
 have e1:=oh { q with convs:=q.convs++[⟨p,bG q.res (aj q.holds p) a,0,0⟩] }
 have e2:=oh { q with waits:=(kf q.waits ⟨p,a,prio,0⟩).2 }
 have e3:=Ez q.waits ⟨p,a,prio,0⟩
 simp only [List.length_append,List.length_cons,List.length_nil] at e1 e2
 repeat' (first|(simp [bN,lU];done)|(simp only [lU];omega)|(rw [cond_eq_ite];split))
theorem qs {q:Qu} (h:av q=true) (p:Pr):(bo q p).2.1.length≤17:=by
 have hs:=aH h
 have h2:=hs.clen
 have h3:=hs.wlen
 have e1:=oh { q with convs:=ck q.convs p,waits:=ck q.waits p }
 have e2:=iq q.convs p
 have e3:=iq q.waits p
 dsimp only at e1
 unfold bo
 repeat' (first|(simp [bN,lU];done)|(simp only [lU];omega)|(rw [cond_eq_ite];split))
theorem sq {q:Qu} (h:av q=true) (p:Pr) (a:Am):(bz q p a).2.1.length≤17:=by
 have hs:=aH h
 have h2:=hs.clen
 have h3:=hs.wlen
 have e1:=oh { q with holds:=cM q.holds p a }
 dsimp only at e1
 unfold bz
 repeat' (first|(simp [bN,lU];done)|(simp only [lU];omega)|(rw [cond_eq_ite];split))
theorem qt {q:Qu} (h:av q=true) (p:Pr):(bg q p).2.1.length≤17:=by
 have hs:=aH h
 have h2:=hs.clen
 have h3:=hs.wlen
 have e1:=oh { q with holds:=cM q.holds p ⟨0,0⟩,convs:=ck q.convs p,waits:=ck q.waits p }
 have e2:=iq q.convs p
 have e3:=iq q.waits p
 dsimp only at e1
 unfold bg
 repeat' (first|(simp [bN,lU];done)|(simp only [lU];omega)|(rw [cond_eq_ite];split))
def JQ (R:List Qu×List Ev×Int):TV:=.tup [.one (.sl lX R.1),.one (.sl qq R.2.1),.one (.sc (.int .i64 R.2.2))]
theorem cV (l:List Qu) (n:ByteArray) {k:Int} (h:bw n 0 l=k):FSpec prog 171 [.one (.sl lX l),.one (.sc (.string n))] [] [] (.i k) []:=h▸pt l n
theorem gg {t:List Qu} {n:ByteArray} (h:¬bw n 0 t<0):∃i,∃hi:i<t.length,bw n 0 t=(i:Int)∧t.getD (iZ t n) vz=t[i]∧iZ t n=i:=by
 obtain ⟨i,hi,h1,_⟩:=mR (Int.not_lt.1 h)
 have h2:bw n 0 t=(i:Int):=by rw [h1];simp
 refine ⟨i,hi,h2,?_,?_⟩
 ·unfold iZ;rw [h2];simp [List.getD_eq_getElem?_getD,hi]
 ·unfold iZ;rw [h2];rfl
theorem xV (t:List Qu) (p:Pr) (n:ByteArray) {R:List Qu×List Ev×Int} (hR:cU t p n=R):FSpec prog 231 [.one (.sl lX t),p.a,.one (.sc (.string n))] [] [] (JQ R) []:=by
 refine bJ func231 ?_
 cases hV:eO t with
 | false =>
  obtain rfl:R=fF 2:=by rw [←hR];simp [cU,hV]
  repeat' (first
   | refine af ?_ ?_
   | refine aa 9 rfl (cB [] (dl t) ?_)
   | refine en ?_
   | exact ah|refine ae fun hb=>?_
   | (refine gK (qf []) ?_;exact ab))
 | true =>
  have hm:=(cr hV).1
  by_cases hf:bw n 0 t<0
  case pos =>
   obtain rfl:R=fF 10:=by rw [←hR];simp [cU,hV,hf]
   repeat' (first
    | refine af ?_ ?_
    | (refine aa 9 rfl ?_;first
     | (refine cB [] (dl t) ?_)
     | (refine cB [] (pt t n) ?_))
    | refine en ?_
    | exact ah|refine ae fun hb=>?_
    | (refine gK (qf []) ?_;exact ab))
  obtain ⟨i,hi,hF,hq,hx⟩:=gg hf
  have hS:=dK hV (List.getElem_mem hi)
  obtain ⟨Q,hQ⟩:∃Q,bo t[i] p=Q:=⟨_,rfl⟩
  have hQl:=qs hS p
  rw [hQ] at hQl
  have hlen:Q.2.1.length≤100000:=by omega
  by_cases he:Q.2.2=0
  ·obtain rfl:R=(t.set i Q.1,aW n Q.2.1,0):=by rw [←hR];unfold cU;rw [hq,hQ,hx];simp [hV,hf,he]
   repeat' (first
    | refine af ?_ ?_
    | (refine aa 9 rfl ?_;first
     | (refine cB [] (dl t) ?_)
     | (refine cB [] (cV t n hF) ?_)
     | (refine cC [] (xT t[i] p hQ) ?_)
     | (refine cC [] (og t i Q.1 hi (by omega)) ?_)
     | (refine cC [] (ma n Q.2.1 hlen) ?_))
    | refine en ?_
    | exact ah|refine ae fun hb=>?_
    | (refine gK (qf []) ?_;exact ab))
  ·obtain rfl:R=fF Q.2.2:=by rw [←hR];unfold cU;rw [hq,hQ,hx];simp [hV,hf,he]
   repeat' (first
    | refine af ?_ ?_
    | (refine aa 9 rfl ?_;first
     | (refine cB [] (dl t) ?_)
     | (refine cB [] (cV t n hF) ?_)
     | (refine cC [] (xT t[i] p hQ) ?_))
    | refine en ?_
    | exact ah|refine ae fun hb=>?_
    | (refine gK (qf []) ?_;exact ab))
theorem q9 (t:List Qu) (p:Pr) (a:Tm) {R:List Qu×List Ev×Int} (hR:cl t p a=R):FSpec prog 193 [.one (.sl lX t),p.a,a.a] [] [] (JQ R) []:=by
 refine bJ func193 ?_
 cases hV:eO t with
 | false =>
  obtain rfl:R=fF 2:=by rw [←hR];simp [cl,hV]
  repeat' (first
   | refine af ?_ ?_
   | refine aa 9 rfl (cB [] (dl t) ?_)
   | refine en ?_
   | exact ah|refine ae fun hb=>?_
   | (refine gK (qf []) ?_;exact ab))
 | true =>
  have hm:=(cr hV).1
  by_cases hf:bw a.name 0 t<0
  case pos =>
   obtain rfl:R=fF 10:=by rw [←hR];simp [cl,hV,hf]
   repeat' (first
    | refine af ?_ ?_
    | (refine aa 9 rfl ?_;first
     | (refine cB [] (dl t) ?_)
     | (refine cB [] (pt t a.name) ?_))
    | refine en ?_
    | exact ah|refine ae fun hb=>?_
    | (refine gK (qf []) ?_;exact ab))
  obtain ⟨i,hi,hF,hq,hx⟩:=gg hf
  have hS:=dK hV (List.getElem_mem hi)
  obtain ⟨Q,hQ⟩:∃Q,bz t[i] p a.am=Q:=⟨_,rfl⟩
  have hQl:=sq hS p a.am
  rw [hQ] at hQl
  have hlen:Q.2.1.length≤100000:=by omega
  have hgl:(aW a.name Q.2.1).length≤17:=by unfold aW;rw [List.length_map];exact hQl
  by_cases he:Q.2.2=0
  ·by_cases hh:aj t[i].holds p=a.am
   ·obtain rfl:R=(t.set i Q.1,aW a.name Q.2.1,0):=by rw [←hR];unfold cl;rw [hq,hQ,hx];simp [hV,hf,he,hh]
    repeat' (first
     | refine af ?_ ?_
     | (refine aa 9 rfl ?_;first
      | (refine cB [] (dl t) ?_)
      | (refine cB [] (cV t a.name hF) ?_)
      | (refine cB [] (eQ t[i] p) ?_)
      | (refine cC [] (vR t[i] p a.am hQ) ?_)
      | (refine cC [] (og t i Q.1 hi (by omega)) ?_)
      | (refine cC [] (ma a.name Q.2.1 hlen) ?_))
     | refine en ?_
     | exact ah|refine ae fun hb=>?_
     | (refine gK (qf []) ?_;exact ab))
   ·obtain rfl:R=(t.set i Q.1,[⟨3,p,a.name,a.am⟩]++aW a.name Q.2.1,0):=by rw [←hR];unfold cl;rw [hq,hQ,hx];simp [hV,hf,he,hh]
    repeat' (first
     | refine af ?_ ?_
     | (refine aa 8 rfl ?_;refine bc (ak (E:=qq) rfl rfl (qW rfl) (aO [⟨3,p,a.name,a.am⟩] rfl rfl rfl rfl) (List.nil_append _) aJ aJ) rfl rfl rfl ?_)
     | (refine aa 9 rfl ?_;first
      | (refine cB [] (dl t) ?_)
      | (refine cB [] (cV t a.name hF) ?_)
      | (refine cB [] (eQ t[i] p) ?_)
      | (refine cC [] (vR t[i] p a.am hQ) ?_)
      | (refine cC [] (og t i Q.1 hi (by omega)) ?_)
      | (refine cC [] (ma a.name Q.2.1 hlen) ?_))
     | refine en ?_
     | exact ah|refine ae fun hb=>?_
     | (refine gK (qf []) ?_;exact ab))
  ·obtain rfl:R=fF Q.2.2:=by rw [←hR];unfold cl;rw [hq,hQ,hx];simp [hV,hf,he]
   repeat' (first
    | refine af ?_ ?_
    | (refine aa 9 rfl ?_;first
     | (refine cB [] (dl t) ?_)
     | (refine cB [] (cV t a.name hF) ?_)
     | (refine cB [] (eQ t[i] p) ?_)
     | (refine cC [] (vR t[i] p a.am hQ) ?_))
    | refine en ?_
    | exact ah|refine ae fun hb=>?_
    | (refine gK (qf []) ?_;exact ab))
theorem lz (n:ByteArray):∀{t t':List Qu} (k:Nat),gz t=gz t'→bw n k t=bw n k t'
 | [],[],_,_=>rfl
 | [],_ :: _,_,h=>by simp [gz] at h
 | _ :: _,[],_,h=>by simp [gz] at h
 | q :: t,q' :: t',k,h=>by
  have h':q.res.name :: gz t=q'.res.name :: gz t':=h
  injection h' with h1 h2
  rw [fR,fR,h1,lz n (k+1) h2]
theorem ia {t t':List Qu} (h:gz t=gz t') (n:ByteArray):aU t n=aU t' n∧iZ t n=iZ t' n:=by
 unfold aU iZ
 rw [lz n 0 h]
 exact ⟨rfl,rfl⟩
theorem pw {t:List Qu} {n:ByteArray} (h:aU t n=true):∃i,∃hi:i<t.length,iZ t n=i∧t[i].res.name=n∧bd t n=t[i]:=by
 unfold aU at h
 obtain ⟨i,hi,e1,e2⟩:=mR (of_decide_eq_true h)
 have e3:iZ t n=i:=by unfold iZ;rw [e1];omega
 refine ⟨i,hi,e3,e2,?_⟩
 unfold bd
 rw [e3]
 simp [hi]
theorem dH {t:List Qu} {n:ByteArray} (h:aU t n=true):bd t n∈t∧(bd t n).res.name=n:=by
 obtain ⟨i,hi,_,e2,e3⟩:=pw h
 rw [e3]
 exact ⟨List.getElem_mem hi,e2⟩
theorem ol {t:List Qu} (hv:eO t=true) {q:Qu} (hq:q∈t):aU t q.res.name=true∧bd t q.res.name=q:=by
 obtain ⟨i,hi,rfl⟩:=List.mem_iff_getElem.1 hq
 have h:=xy (k:=0) hi (xw hv)
 unfold aU bd iZ
 rw [h]
 refine ⟨decide_eq_true (by omega),?_⟩
 have:((0+i:Nat):Int).toNat=i:=by omega
 rw [this]
 simp [hi]
structure TStep (t t':List Qu) (p:Pr) (n:ByteArray):Prop where
 v:eO t'=true
 nm:gz t'=gz t
 has:aU t n=true
 oth:∀m,m≠n→aU t m=true→bd t' m=bd t m
 out:Out (bd t n) (bd t' n) p
 sub:∀r∈aD t',r=p∨r∈aD t
theorem TOut.step {t t':List Qu} {i:Nat} {p:Pr} {n:ByteArray} (h:TOut t t' i p) (hv:eO t=true) (hn:(t[i]'h.lt).res.name=n) (hp:(aD t).length≤7∨p∈aD t∨p ∉ aD t'):TStep t t' p n:=by
 have hm:=h.names
 have hmem:=ol hv (List.getElem_mem h.lt)
 rw [hn] at hmem
 have hix:iZ t n=i:=by
  obtain ⟨j,hj,e1,e2,e3⟩:=pw hmem.1
  rw [e1]
  have hnd:=xw hv
  unfold gz at hnd
  rcases Nat.lt_trichotomy j i with hlt|he|hgt
  ·have:=List.pairwise_iff_getElem.1 hnd j i (by simpa using hj) (by simpa using h.lt) hlt
   simp only [List.getElem_map] at this
   exact absurd (e2.trans hn.symm) this
  ·exact he
  ·have:=List.pairwise_iff_getElem.1 hnd i j (by simpa using h.lt) (by simpa using hj) hgt
   simp only [List.getElem_map] at this
   exact absurd (hn.trans e2.symm) this
 refine ⟨h.valid hv hp,hm,hmem.1,fun m hne hh=>?_,?_,t7 hv h⟩
 ·unfold bd
  rw [(ia hm m).2]
  obtain ⟨j,hj,e1,e2,_⟩:=pw hh
  rw [e1]
  have hji:j≠i:=fun e=>by subst e;exact hne (e2.symm.trans hn)
  have:=h.other hji
  simp only [List.getD_eq_getElem?_getD,this]
 ·obtain ⟨q,e,ho⟩:=h.at
  have e2:bd t' n=q:=by
   unfold bd
   rw [(ia hm n).2,hix]
   simp only [List.getD_eq_getElem?_getD,e]
   rfl
  rw [e2,hmem.2]
  exact ho
theorem TStep.hasE {t t':List Qu} {p:Pr} {n:ByteArray} (h:TStep t t' p n) (m:ByteArray):aU t' m=aU t m:=(ia h.nm m).1
theorem TStep.res {t t':List Qu} {p:Pr} {n:ByteArray} (h:TStep t t' p n) {m:ByteArray} (hm:aU t m=true):(bd t' m).res=(bd t m).res:=by
 by_cases e:m=n
 ·rw [e];exact h.out.res
 ·rw [h.oth m e hm]
structure TP (t t':List Qu) (p:Pr):Prop where
 v:eO t'=true
 nm:gz t'=gz t
 out:∀n,aU t n=true→Out (bd t n) (bd t' n) p
 sub:∀r∈aD t',r=p∨r∈aD t
theorem TStep.tp {t t':List Qu} {p:Pr} {n:ByteArray} (hv:eO t=true) (h:TStep t t' p n):TP t t' p:=by
 refine ⟨h.v,h.nm,fun m hm=>?_,h.sub⟩
 by_cases e:m=n
 ·subst e;exact h.out
 ·rw [h.oth m e hm]
  exact Out.same p (dK hv (dH hm).1)
theorem TP.hasE {t t':List Qu} {p:Pr} (h:TP t t' p) (m:ByteArray):aU t' m=aU t m:=(ia h.nm m).1
abbrev iQ (x:Pc) (n:ByteArray):Am:=ay x.led.entries n
structure FitR (t:List Qu) (n:ByteArray) (x:Pc):Prop where
 h:aj (bd t n).holds x.proc=iQ x n
 w:ai (bd t n) x.proc=none
abbrev jn (t:List Qu) (n:ByteArray) (x:Pc) (a:Am):Am:=bG (bd t n).res (iQ x n) a
def FitA (t:List Qu) (n:ByteArray) (x:Pc) (a:Am):Prop :=
  (aY (bd t n).res (iQ x n) a=true∧FitR t n x)∨(aY (bd t n).res (iQ x n) a=false∧
    ((aj (bd t n).holds x.proc=jn t n x a∧ai (bd t n) x.proc=none)∨
     (aj (bd t n).holds x.proc=iQ x n∧ai (bd t n) x.proc=some (jn t n x a)∧∀y∈(bd t n).waits,y.proc=x.proc→y.prio=x.req.prio)))
def dL (l:List Tm) (n:ByteArray):Option Tm:=l.find? fun a=>aT a.name n
def FitW (t:List Qu) (n:ByteArray) (x:Pc) (l:List Tm):Prop:=match dL l n with
 | none=>FitR t n x
 | some a=>FitA t n x a.am
theorem FitR.tp {t t':List Qu} {p:Pr} {m:ByteArray} {x:Pc} (hs:TP t t' p) (hp:x.proc≠p) (hm:aU t m=true) (h:FitR t m x):FitR t' m x:=by
 rcases (hs.out m hm).eff x.proc hp with ⟨h1,h2⟩|⟨a,h1,_⟩
 ·exact ⟨h1.trans h.h,h2.trans h.w⟩
 ·rw [h.w] at h1;cases h1
theorem FitA.tp {t t':List Qu} {p:Pr} {m:ByteArray} {x:Pc} {a:Am} (hs:TP t t' p) (hp:x.proc≠p) (hm:aU t m=true) (h:FitA t m x a):FitA t' m x a:=by
 have hr:=(hs.out m hm).res
 unfold FitA jn at *
 rw [hr]
 rcases h with ⟨h1,h2⟩|⟨h1,h2⟩
 ·exact .inl ⟨h1,h2.tp hs hp hm⟩
 ·refine .inr ⟨h1,?_⟩
  rcases h2 with ⟨h3,h4⟩|⟨h3,h4,h5⟩
  ·rcases (hs.out m hm).eff x.proc hp with ⟨k1,k2⟩|⟨b,k1,_⟩
   ·exact .inl ⟨k1.trans h3,k2.trans h4⟩
   ·rw [h4] at k1;cases k1
  ·rcases (hs.out m hm).eff x.proc hp with ⟨k1,k2⟩|⟨b,k1,k2,k3⟩
   ·refine .inr ⟨k1.trans h3,k2.trans h4,fun y hy hyp=>?_⟩
    obtain ⟨z,hz,e1,e2⟩:=(hs.out m hm).prio y hy (by rw [hyp];exact hp)
    rw [←e2]
    exact h5 z hz (e1.trans hyp)
   ·rw [h4] at k1
    injection k1 with k1
    exact .inl ⟨k2.trans k1.symm,k3⟩
theorem FitW.tp {t t':List Qu} {p:Pr} {m:ByteArray} {x:Pc} {l:List Tm} (hs:TP t t' p) (hp:x.proc≠p) (hm:aU t m=true) (h:FitW t m x l):FitW t' m x l:=by
 unfold FitW at *
 cases hf:dL l m with
 | none=>rw [hf] at h;exact h.tp hs hp hm
 | some a=>rw [hf] at h;exact h.tp hs hp hm
structure PStat (t:List Qu) (x:Pc):Prop where
 vp:fo x.proc=true
 cost:1≤x.cost∧x.cost≤1000
 led:Ld x.led
 gen:0≤x.gen∧x.gen≤1073741824
 hf:∀n,iQ x n≠⟨0,0⟩→aU t n=true∧aC (bd t n).res (iQ x n)=true
theorem xW {t t':List Qu} {p:Pr} (hs:TP t t' p):∀l:List Tm,gQ t' l=gQ t l
 | []=>rfl
 | a :: l=>by
  unfold gQ
  rw [hs.hasE,xW hs l]
  cases hh:aU t a.name with
  | false=>rfl
  | true=>rw [(hs.out _ hh).res]
theorem Bb {t t':List Qu} {p:Pr} (hs:TP t t' p) (x:Ex):iH t' x=iH t x:=by
 unfold iH
 rw [xW hs]
structure PWait (t:List Qu) (now:Int) (x:Pc):Prop where
 rq:qo x.req=true
 rs:iH t x.req.expr=0
 sn:0≤x.since∧x.since≤now
structure PInv (t:List Qu) (now:Int) (x:Pc):Prop where
 stat:PStat t x
 run:x.waiting=false→x.req=Rq.zero∧x.since=0∧∀n,aU t n=true→FitR t n x
 wat:x.waiting=true→PWait t now x∧∀n,aU t n=true→FitW t n x (cY x.req.expr)
theorem PStat.tp {t t':List Qu} {p:Pr} {x:Pc} (hs:TP t t' p) (h:PStat t x):PStat t' x :=
 ⟨h.vp,h.cost,h.led,h.gen,fun m hm=>by
  obtain ⟨h1,h2⟩:=h.hf m hm
  exact ⟨by rw [hs.hasE];exact h1,by rw [(hs.out m h1).res];exact h2⟩⟩
theorem PWait.tp {t t':List Qu} {p:Pr} {now:Int} {x:Pc} (hs:TP t t' p) (h:PWait t now x):PWait t' now x:=⟨h.rq,by rw [Bb hs];exact h.rs,h.sn⟩
theorem PInv.tp {t t':List Qu} {p:Pr} {now:Int} {x:Pc} (hs:TP t t' p) (hp:x.proc≠p) (h:PInv t now x):PInv t' now x:=by
 refine ⟨h.stat.tp hs,fun hw=>?_,fun hw=>?_⟩
 ·obtain ⟨h1,h2,h3⟩:=h.run hw
  exact ⟨h1,h2,fun m hm=>by rw [hs.hasE] at hm;exact (h3 m hm).tp hs hp hm⟩
 ·obtain ⟨h1,h2⟩:=h.wat hw
  exact ⟨h1.tp hs,fun m hm=>by rw [hs.hasE] at hm;exact (h2 m hm).tp hs hp hm⟩
theorem vS {t:List Qu} {n:ByteArray} {p:Pr} {q':Qu} (h:aU t n=true) (ho:Out (bd t n) q' p):∃i,∃hi:i<t.length,iZ t n=i∧t[i].res.name=n∧TOut t (t.set (iZ t n) q') i p:=by
 obtain ⟨i,hi,e1,e2,e3⟩:=pw h
 refine ⟨i,hi,e1,e2,hi,q',by rw [e1],?_⟩
 rw [e3] at ho
 exact ho
theorem vT {t:List Qu} {n:ByteArray} {q':Qu} (h:aU t n=true) (hn:gz (t.set (iZ t n) q')=gz t):bd (t.set (iZ t n) q') n=q':=by
 obtain ⟨i,hi,e1,e2,e3⟩:=pw h
 unfold bd
 rw [(ia hn n).2,e1]
 simp [hi]
theorem sr {t:List Qu} {p:Pr} {n:ByteArray} (hv:eO t=true) (h:aU t n=true) (hw:(ai (bd t n) p).isSome=true) :
  cU t p n=(t.set (iZ t n) (bo (bd t n) p).1,aW n (bo (bd t n) p).2.1,0)∧TStep t (cU t p n).1 p n∧aj (bd (cU t p n).1 n).holds p=aj (bd t n).holds p∧ai (bd (cU t p n).1 n) p=none:=by
 have hq:=dH h
 have hs:=vC (dK hv hq.1) hw
 obtain ⟨ho,h1,h2⟩:=xA hs
 have e:cU t p n=(t.set (iZ t n) (bo (bd t n) p).1,aW n (bo (bd t n) p).2.1,0):=by
  unfold aU at h
  have hf:=of_decide_eq_true h
  unfold cU
  rw [hv,decide_eq_false (show ¬bw n 0 t<0 by omega)]
  simp only [Bool.not_true,cond_false]
  rw [show t.getD (iZ t n) vz=bd t n from rfl,decide_eq_true hs]
  rfl
 obtain ⟨i,hi,e1,e2,hto⟩:=vS h ho
 have hp:p∈aD t:=by
  unfold aD
  rw [cb,gy]
  exact ⟨_,hq.1,(d9 (aH (dK hv hq.1)) p).2 (by unfold eF;rw [hw];rfl)⟩
 have hst:TStep t (cU t p n).1 p n:=by rw [e];exact hto.step hv e2 (.inr (.inl hp))
 have hq2:bd (cU t p n).1 n=(bo (bd t n) p).1:=by
  have:=hst.nm
  rw [e] at this ⊢
  exact vT h this
 exact ⟨e,hst,by rw [hq2];exact h1,by rw [hq2];exact h2⟩
theorem px {t:List Qu} {p:Pr} {a:Tm} (hv:eO t=true) (h:aU t a.name=true) (h0:aj (bd t a.name).holds p≠⟨0,0⟩) (hw:ai (bd t a.name) p=none) (hc:aY (bd t a.name).res (aj (bd t a.name).holds p) a.am=true) :
  cl t p a=(t.set (iZ t a.name) (bz (bd t a.name) p a.am).1,(bif decide (aj (bd t a.name).holds p=a.am) then [] else [⟨3,p,a.name,a.am⟩])++aW a.name (bz (bd t a.name) p a.am).2.1,0)∧TStep t (cl t p a).1 p a.name∧aj (bd (cl t p a).1 a.name).holds p=a.am∧ai (bd (cl t p a).1 a.name) p=none:=by
 have hq:=dH h
 have hs:=xB (dK hv hq.1) h0 hw hc
 obtain ⟨ho,h1,h2⟩:=zG hs
 have e:cl t p a=(t.set (iZ t a.name) (bz (bd t a.name) p a.am).1,(bif decide (aj (bd t a.name).holds p=a.am) then [] else [⟨3,p,a.name,a.am⟩])++aW a.name (bz (bd t a.name) p a.am).2.1,0):=by
  unfold aU at h
  have hf:=of_decide_eq_true h
  unfold cl
  rw [hv,decide_eq_false (show ¬bw a.name 0 t<0 by omega)]
  simp only [Bool.not_true,cond_false]
  rw [show t.getD (iZ t a.name) vz=bd t a.name from rfl,decide_eq_true hs]
  rfl
 obtain ⟨i,hi,e1,e2,hto⟩:=vS h ho
 have hp:p∈aD t:=by
  unfold aD
  rw [cb,gy]
  exact ⟨_,hq.1,(d9 (aH (dK hv hq.1)) p).2 (by unfold eF;rw [bq.2 h0];simp)⟩
 have hst:TStep t (cl t p a).1 p a.name:=by rw [e];exact hto.step hv e2 (.inr (.inl hp))
 have hq2:bd (cl t p a).1 a.name=(bz (bd t a.name) p a.am).1:=by
  have:=hst.nm
  rw [e] at this ⊢
  exact vT h this
 exact ⟨e,hst,by rw [hq2];exact h1,by rw [hq2];exact h2⟩
theorem CD {t:List Qu} {p:Pr} {a:Tm} {prio:Int} (hv:eO t=true) (h:aU t a.name=true) (hvp:fo p=true) (hr:0≤prio∧prio≤7) (hf:aC (bd t a.name).res a.am=true) (hw:ai (bd t a.name) p=none)
  (hl:aj (bd t a.name).holds p≠⟨0,0⟩∨(bd t a.name).holds.length+(bd t a.name).waits.length<8) (hp:(aD t).length≤7∨p∈aD t) :
  bI t p a prio=(t.set (iZ t a.name) (bt (bd t a.name) p a.am prio).1,aW a.name (bt (bd t a.name) p a.am prio).2.1,0)∧TStep t (bI t p a prio).1 p a.name∧ClOut (bd t a.name) (bd (bI t p a prio).1 a.name) p a.am prio:=by
 have hq:=dH h
 have hs:=xz (dK hv hq.1) hvp hr hf hw hl
 have ho:=zF hs
 have e:bI t p a prio=(t.set (iZ t a.name) (bt (bd t a.name) p a.am prio).1,aW a.name (bt (bd t a.name) p a.am prio).2.1,0):=by
  unfold aU at h
  have hf:=of_decide_eq_true h
  have hc:(decide ((aD t).length=8) && !decide (p∈aD t))=false:=by
   rcases hp with hp|hp
   ·rw [decide_eq_false (by omega)];rfl
   ·rw [decide_eq_true hp];simp
  unfold bI
  rw [hv,decide_eq_false (show ¬bw a.name 0 t<0 by omega),hc]
  simp only [Bool.not_true,cond_false]
  rw [show t.getD (iZ t a.name) vz=bd t a.name from rfl,decide_eq_true hs]
  rfl
 obtain ⟨i,hi,e1,e2,hto⟩:=vS h ho.out
 have hst:TStep t (bI t p a prio).1 p a.name:=by
  rw [e]
  refine hto.step hv e2 ?_
  rcases hp with hp|hp
  ·exact .inl hp
  ·exact .inr (.inl hp)
 have hq2:bd (bI t p a prio).1 a.name=(bt (bd t a.name) p a.am prio).1:=by
  have:=hst.nm
  rw [e] at this ⊢
  exact vT h this
 exact ⟨e,hst,by rw [hq2];exact ho⟩
theorem JR {B:List Bool} {i:Nat} (hi:i<B.length):(B.take i++List.replicate (B.length-i) false).set i B[i]=B.take (i+1)++List.replicate (B.length-(i+1)) false:=by
 have h1:(B.take i).length=i:=by simp;omega
 rw [List.set_append_right _ _ (by omega),h1,Nat.sub_self,show B.length-i=(B.length-(i+1))+1 by omega,List.replicate_succ,List.set_cons_zero,List.take_succ_eq_append_getElem hi,List.append_assoc]
 rfl
theorem K4 {B:List Bool} {i:Nat} (hi:i<B.length) (h:B[i]=false):B.take (i+1)++List.replicate (B.length-(i+1)) false=B.take i++List.replicate (B.length-i) false:=by
 rw [List.take_succ_eq_append_getElem hi,h,show B.length-i=(B.length-(i+1))+1 by omega,List.replicate_succ,List.append_assoc]
 rfl
theorem ji (d:Nat) (x:Ex) {L:List Tm} (h:cY x=L):FSpec prog 78 [x.a d] [] [] (.c (.sl cL L)) []:=h▸GT d x
theorem dy (x:Ex):(cY x).length≤8:=by
 cases hv:oO x with
 | false=>rw [zo hv];simp
 | true=>exact (uX hv).2.2.1
theorem lA (d:Nat) (t:List Qu) (p:Pr) (x:Ex):FSpec prog 178 [.one (.sl lX t),p.a,x.a d] [] [] (.c (.sl fc (br t p x))) []:=by
 refine bJ func178 ?_
 have hmk:prog.underlying 231=some (.slice 4):=underlying231
 have hib:(prog.info? 4).map (fun i=>(i.zero,i.size,i.bytes))=some (some (.bool false),1,1):=by kernel_rfl
 have h8:=dy x
 obtain ⟨L,hL⟩:∃L,cY x=L:=⟨_,rfl⟩
 obtain ⟨B,hB⟩:∃B,B=br t p x:=⟨_,rfl⟩
 have hBl:B.length=L.length:=by rw [hB];simp [br,hL]
 have hBg:∀i (h:i<L.length),B[i]'(by omega)=(aU t L[i].name && aY (bd t L[i].name).res (aj (bd t L[i].name).holds p) L[i].am):=by
  intro i h
  simp only [hB,br,hL,List.getElem_map]
 rw [hL] at h8
 rw [←hB]
 clear hB
 repeat' (first
  | refine af ?_ ?_
  | refine aa 9 rfl (cC [] (ji d x hL) ?_)
  | (refine aa 20 rfl ?_;refine bc (lZ (E:=fc) (y0:=false) hmk hib rfl (by decide) rfl (fun _ _=>rfl) rfl rfl rfl rfl (by first|omega|simp)) rfl rfl rfl ?_)
  | refine en ?_
  | exact ah|refine ae fun hb=>?_)
 refine ao (fun i=>i≤L.length) (fun i=>cy [4,5,1000] [(0,.c (.sl lX t)),(4,.c (.ptr 4 0)),(7,.c (.sl cL L)),(8,.c (.own 1000)),(9,.i i)] [(4,.box 23 [.sc (.int .i64 p.site),.sc (.int .i64 p.inc),.sc (.int .i64 p.num)]),(1000,.arr 4 fc (B.take i++List.replicate (B.length-i) false))]) (fun i=>L.length-i) 0 (Nat.zero_le _) (by rw [List.take_zero,List.nil_append,Nat.sub_zero,hBl];exact ap (qf [(1000,15)])) ?_
 intro i hi
 have hol:(B.take i++List.replicate (B.length-i) false).length=L.length:=by simp;omega
 by_cases hlt:i<L.length
 ·have hb1:=hBg i hlt
  obtain ⟨a,ha⟩:∃a,L[i]=a:=⟨_,rfl⟩
  have hga:L[i]? = some a:=by rw [List.getElem?_eq_getElem hlt,ha]
  rw [ha] at hb1
  by_cases hf:bw a.name 0 t<0
  ·have hno:=K4 (B:=B) (i:=i) (by omega) (by rw [hb1,show aU t a.name=false by simp [aU];omega];rfl)
   repeat' (first
    | refine af ?_ ?_
    | refine aa 9 rfl (cB [] (pt t a.name) ?_)
    | refine en ?_
    | exact ah|refine ae fun hb=>?_)
   refine ⟨i+1,by omega,by omega,?_⟩
   rw [hno]
   exact ap (qf [])
  ·obtain ⟨j,hj,hF,hq,hx⟩:=gg hf
   have hst:=JR (B:=B) (i:=i) (by omega)
   rw [hb1,show aU t a.name=true by simp [aU,Int.not_lt.1 hf],Bool.true_and,show bd t a.name=t[j] from hq] at hst
   repeat' (first
    | refine af ?_ ?_
    | (refine aa 9 rfl ?_;first
     | (refine cB [] (cV t a.name hF) ?_)
     | (refine cB [] (eQ t[j] p) ?_)
     | (refine cB [] (ew t[j].res (aj t[j].holds p) a.am) ?_))
    | refine en ?_
    | (refine aa 4 rfl ?_;refine bW (aL (z:=aY t[j].res (aj t[j].holds p) a.am) rfl rfl rfl rfl (by first|assumption|exact List.getElem?_eq_getElem (by omega)) rfl rfl rfl rfl (Nat.le_of_ble_eq_true rfl) rfl rfl) rfl rfl rfl ?_)
    | exact ah|refine ae fun hb=>?_)
   refine ⟨i+1,by omega,by omega,?_⟩
   rw [←hst]
   exact ap (qf [])
 ·have e:B.take i++List.replicate (B.length-i) false=B:=by rw [List.take_of_length_le (by omega),show B.length-i=0 by omega];simp
  rw [e]
  repeat' (first
   | refine af ?_ ?_
   | refine en ?_
   | exact ah|refine ae fun hb=>?_)
  refine aP (qf []) ?_;exact ab
instance:Dp fJ:=et _ _ _ _ _
instance:ST prog fJ 65 159 40:=⟨ElTB.mk' underlying65 (.agg #[.string { data:=#[] },.int .i64 0,.int .i64 0,.int .i64 0]) 4 40 (by kernel_rfl) rfl rfl⟩
theorem IJ (r:Rs):FSpec prog 126 [r.a] [] [] (.b (mI r)) [] :=
 aA (fun b W=>by kernel_rfl) rfl fun w S ρ vs _ h=>by
  match vs,h with
  | [_],⟨h1,_⟩=>rw [Rs.open h1];exact (mv _ w).mono fun _ _=>dk
def gN (t:List Qu):List Rs:=t.map (·.res)
theorem xX (t:List Qu) (hl:t.length≤100000):FSpec prog 177 [.one (.sl lX t)] [] [] (.c (.sl fJ (gN t))) []:=by
 refine bJ func177 ?_
 repeat' (first
  | refine af ?_ ?_
  | refine en ?_
  | exact ah|refine ae fun hb=>?_)
 refine dS 3 1000 159 fJ rfl rfl rfl ?_
 refine ao (fun i=>i≤t.length) (fun i=>cy [1000] [(0,.c (.sl lX t)),(3,.c (.own 1000)),(4,.i i)] [(1000,.arr 159 fJ (gN (t.take i)))]) (fun i=>t.length-i) 0 (Nat.zero_le _) (by exact ap (qf [])) ?_
 intro i hi
 have hlen:(gN (t.take i)).length=i:=by simp [gN,Nat.min_eq_left hi]
 repeat' (first
  | refine af ?_ ?_
  | (refine aa 8 rfl ?_;refine bc (ak rfl rfl (aI rfl rfl) (aO [(t[i]'(by omega)).res] rfl rfl rfl rfl) rfl aJ aJ) rfl rfl rfl ?_)
  | refine en ?_
  | exact ah|refine ae fun hb=>?_)
 ·refine ⟨i+1,by omega,by omega,?_⟩
  have e:gN (t.take (i+1))=gN (t.take i)++[(t[i]'(by omega)).res]:=by
   unfold gN
   rw [List.take_succ_eq_append_getElem (by omega),List.map_append]
   rfl
  rw [e]
  exact ap (qf [(1000,18)])
 ·have e:gN (t.take i)=gN t:=by rw [List.take_of_length_le (by omega)]
  rw [←e]
  refine aP (qf []) ?_;exact ab
def Db (w:Wk) (a b:Nat):List D:=[.sc (.int .i64 w.c.now),.sl lX w.c.queues,.ocut a,.own b]
def HI (d:Nat) (w:Wk):List (Nat×Box):=[(0,.box 169 (Db w 1 2)),(1,.arr 38 (sa d) w.c.procs),(2,.arr 296 qq w.ev)]
def HO (d:Nat) (w:Wk):List (Nat×Option Box):=[(0,some (.box 169 (Db w 3 4))),(3,some (.arr 38 (sa d) w.c.procs)),(4,some (.arr 296 qq w.ev)),(1,none),(2,none)]
abbrev j6:V0:=.one (.ptr 0 0)
abbrev mb (n:Int):V0:=.one (.sc (.int .i64 n))
theorem qu (d:Nat) (w:Wk) (t:List Qu) (ev:List Ev) (hl:w.ev.length+ev.length≤1000000):FSpec prog 186 [j6,.one (.sl lX t),.one (.sl qq ev)] (HI d w) [3,4] (.tup []) (HO d (w.take t ev)):=by
 refine bJ func186 ?_
 repeat' (first
  | refine af ?_ ?_
  | refine en ?_
  | exact ah|refine ae fun hb=>?_
  | (exact Eb (qf [(3,1),(4,17)])))
theorem EA (d:Nat) (w:Wk) (k:Int) (p:Pr) (hl:w.ev.length≤1000000):FSpec prog 184 [j6,mb k,p.a] (HI d w) [3,4] (.tup []) (HO d (w.note k p)):=by
 refine bJ func184 ?_
 have h0:Nat.ble w.ev.length 1000000=true:=by simpa using hl
 repeat' (first
  | refine af ?_ ?_
  | (refine aa 8 rfl ?_;refine bc (ak rfl rfl (aI rfl rfl) (aO [⟨k,p,⟨#[]⟩,⟨0,0⟩⟩] rfl rfl rfl rfl) rfl aJ aJ) rfl rfl rfl ?_)
  | refine en ?_
  | exact ah|refine ae fun hb=>?_
  | (exact Eb (qf [(3,1),(4,15)])))
theorem j7 {w:Wk} {i:Nat} {x:Pc} (h:w.c.procs[i]? = some x):w.pc i=x:=by unfold Wk.pc;rw [List.getD_eq_getElem?_getD,h];rfl
theorem vU {α:Type} {l:List α} {i:Nat} (h:i<l.length) (y:α):(l.set i y)[i]? = some y:=by simp [h]
theorem IK (d:Nat) (w:Wk) (i:Nat) (hi:i<w.c.procs.length):FSpec prog 188 [j6,mb i] (HI d w) [3,4] (.tup []) (HO d (eC w i)):=by
 refine bJ func188 ?_
 obtain ⟨x,hx⟩:∃x,w.c.procs[i]? = some x:=⟨_,List.getElem?_eq_getElem hi⟩
 have hs1:=vU hi { x with waiting:=false }
 have hl1:(w.c.procs.set i { x with waiting:=false }).length=w.c.procs.length:=List.length_set
 have hs2:=vU (hl1▸hi) { x with waiting:=false,req:=Rq.zero }
 have hl2:((w.c.procs.set i { x with waiting:=false }).set i { x with waiting:=false,req:=Rq.zero }).length=w.c.procs.length:=by rw [List.length_set,hl1]
 have e:eC w i=⟨{ w.c with procs:=((w.c.procs.set i { x with waiting:=false }).set i { x with waiting:=false,req:=Rq.zero }).set i { x with waiting:=false,req:=Rq.zero,since:=0 } },w.ev⟩:=by
  unfold eC Wk.setP
  rw [j7 hx,List.set_set,List.set_set]
 rw [e]
 repeat' (first
  | refine af ?_ ?_
  | refine en ?_
  | (refine aa 4 rfl ?_;first
   | (refine bW (aL (z:={ x with waiting:=false }) rfl rfl rfl rfl hx rfl rfl rfl rfl (Nat.le_of_ble_eq_true rfl) rfl rfl) rfl rfl rfl ?_)
   | (refine bW (vK (z:={ x with waiting:=false,req:=Rq.zero }) rfl rfl rfl rfl hs1 rfl rfl rfl rfl (Nat.le_of_ble_eq_true rfl) (by (repeat' (first|exact trivial|exact .same _|exact .nil|refine ⟨?_,?_⟩));first|done|fail) rfl) rfl rfl rfl ?_)
   | (refine bW (aL (z:={ x with waiting:=false,req:=Rq.zero,since:=0 }) rfl rfl rfl rfl hs2 rfl rfl rfl rfl (Nat.le_of_ble_eq_true rfl) rfl rfl) rfl rfl rfl ?_))
  | exact ah|refine ae fun hb=>?_
  | (exact Eb (qf [(3,1),(4,2)])))
theorem mW (d:Nat) (w:Wk) (i:Nat) (hi:i<w.c.procs.length):FSpec prog 131 [j6,mb i] (HI d w) [3,4] (.tup []) (HO d (bb w i)):=by
 refine bJ func131 ?_
 obtain ⟨x,hx⟩:∃x,w.c.procs[i]? = some x:=⟨_,List.getElem?_eq_getElem hi⟩
 have e:bb w i=⟨{ w.c with procs:=w.c.procs.set i { x with gen:=bj x.gen } },w.ev⟩:=by
  unfold bb Wk.setP
  rw [j7 hx]
 rw [e]
 repeat' (first
  | refine af ?_ ?_
  | refine aa 9 rfl (cB [] (IE x.gen) ?_)
  | refine en ?_
  | (refine aa 4 rfl ?_;refine bW (aL (z:={ x with gen:=bj x.gen }) rfl rfl rfl rfl hx rfl rfl rfl rfl (Nat.le_of_ble_eq_true rfl) rfl rfl) rfl rfl rfl ?_)
  | exact ah|refine ae fun hb=>?_
  | (exact Eb (qf [(3,1),(4,2)])))
theorem zO (t:List Qu) (l:List Pc) (i:Nat) (h:i<l.length):eP t i (l.drop i)=bif ec t l[i] then some i else eP t (i+1) (l.drop (i+1)):=by
 rw [List.drop_eq_getElem_cons h]
 rfl
def K5:Option Nat→Int
 | some i=>i
 | none=>-1
theorem su (d:Nat) (w:Wk) (h8:w.c.procs.length≤100000):FSpec prog 190 [j6] (HI d w) [3,4] (.i (K5 (eP w.c.queues 0 w.c.procs))) (HO d w):=by
 refine bJ func190 ?_
 repeat' (first
  | refine af ?_ ?_
  | refine en ?_
  | exact ah|refine ae fun hb=>?_)
 refine ao (fun i=>i≤w.c.procs.length∧eP w.c.queues i (w.c.procs.drop i)=eP w.c.queues 0 w.c.procs) (fun i=>cy [0,1,2] [(0,.v j6),(3,.i i)] [(0,.box 169 (Db w 1 2)),(1,.arr 38 (sa d) w.c.procs),(2,.arr 296 qq w.ev)]) (fun i=>w.c.procs.length-i) 0 ⟨Nat.zero_le _,by simp⟩ (by exact ap (qf [])) ?_
 rintro i ⟨hi,hs⟩
 by_cases hlt:i<w.c.procs.length
 ·obtain ⟨x,hx⟩:∃x,w.c.procs[i]=x:=⟨_,rfl⟩
  have hgx:w.c.procs[i]? = some x:=by rw [List.getElem?_eq_getElem hlt,hx]
  rw [zO _ _ _ hlt,hx] at hs
  have hgl:(br w.c.queues x.proc x.req.expr).length≤1000:=by
   have:=dy x.req.expr
   simp [br];omega
  cases hw:x.waiting with
  | false =>
   rw [show ec w.c.queues x=false by simp [ec,hw],cond_false] at hs
   repeat' (first
    | refine af ?_ ?_
    | (refine aa 9 rfl ?_;first
     | (refine cC [] (lA d w.c.queues x.proc x.req.expr) ?_)
     | (refine cB [] (vN d x.req.expr (br w.c.queues x.proc x.req.expr) hgl) ?_))
    | refine en ?_
    | exact ah|refine ae fun hb=>?_)
   refine ⟨i+1,⟨by omega,hs⟩,by omega,?_⟩
   exact ap (qf [])
  | true =>
   cases hh:eV x.req.expr (br w.c.queues x.proc x.req.expr) with
   | false =>
    rw [show ec w.c.queues x=false by simp [ec,hh],cond_false] at hs
    repeat' (first
     | refine af ?_ ?_
     | (refine aa 9 rfl ?_;first
      | (refine cC [] (lA d w.c.queues x.proc x.req.expr) ?_)
      | (refine cB [] (vN d x.req.expr (br w.c.queues x.proc x.req.expr) hgl) ?_))
     | refine en ?_
     | exact ah|refine ae fun hb=>?_)
    refine ⟨i+1,⟨by omega,hs⟩,by omega,?_⟩
    exact ap (qf [])
   | true =>
    rw [show ec w.c.queues x=true by simp [ec,hw,hh],cond_true] at hs
    rw [←hs]
    repeat' (first
     | refine af ?_ ?_
     | (refine aa 9 rfl ?_;first
      | (refine cC [] (lA d w.c.queues x.proc x.req.expr) ?_)
      | (refine cB [] (vN d x.req.expr (br w.c.queues x.proc x.req.expr) hgl) ?_))
     | refine en ?_
     | exact ah|refine ae fun hb=>?_
     | (refine aP (qf [(3,1),(4,2)]) ?_;exact ab))
 ·rw [←hs,List.drop_eq_nil_of_le (by omega),show eP w.c.queues i []=none from rfl]
  repeat' (first
   | refine af ?_ ?_
   | refine en ?_
   | exact ah|refine ae fun hb=>?_
   | (refine aP (qf [(3,1),(4,2)]) ?_;exact ab))
theorem sw {n:ByteArray}:∀{acc:List ByteArray} {kk:Nat},kk≤acc.length→(∀m∈acc.drop kk,fD n m=true)→(∀j (h:j<acc.length),j<kk→fD n acc[j]=false)→gR n acc=acc.take kk++n :: acc.drop kk
 | [],kk,_,_,_=>by simp [gR]
 | m :: l,0,_,h1,_=>by have:=h1 m (by simp);simp [gR,this]
 | m :: l,kk+1,hk,h1,h2=>by
  have h3:=h2 0 (by simp) (by omega)
  have h4:=sw (kk:=kk) (acc:=l) (by simpa using hk) (by simpa using h1) (fun j hj hjk=>by have:=h2 (j+1) (by simpa using hj) (by omega);simpa using this)
  simp at h3
  simp [gR,h3,h4]
theorem G6 {n:ByteArray} {acc:List ByteArray} {kk:Nat} (ha:iG acc) (hk:kk≤acc.length) (h1:∀m∈acc.drop kk,fD n m=true) (h2:∀j (h:j<acc.length),j+1=kk→fD n acc[j]=false):gR n acc=acc.take kk++n :: acc.drop kk:=by
 refine sw hk h1 fun j hj hjk=>?_
 rcases Nat.lt_or_ge (j+1) kk with h|h
 ·cases hc:fD n acc[j] with
  | false=>rfl
  | true =>
   have h3:=h2 (kk-1) (by omega) (by omega)
   have h4:=(List.pairwise_iff_getElem.1 ha) j (kk-1) hj (by omega) (by omega)
   rw [eh hc h4] at h3
   cases h3
 ·exact h2 j hj (by omega)
theorem jL (acc:List ByteArray) (e:En) (l:List En):dh acc (e :: l)=dh (bif dF e.name acc then acc else gR e.name acc) l:=rfl
theorem ug (n m:ByteArray) (l:List ByteArray):dF n (m :: l)=(m.toList == n.toList || dF n l):=rfl
theorem xY {n:ByteArray}:∀{l:List ByteArray},dF n l=false→n ∉ l
 | [],_=>by simp
 | m :: l,h=>by
  rw [ug,Bool.or_eq_false_iff] at h
  intro hm
  rcases List.mem_cons.1 hm with rfl|hm
  ·have h:=h.1;simp at h
  ·exact xY h.2 hm
theorem jj (n:ByteArray):∀l:List ByteArray,(gR n l).length=l.length+1
 | []=>rfl
 | m :: l=>by
  unfold gR
  cases fD n m with
  | true=>rfl
  | false=>simp [jj n l]
theorem G7:ElTB prog dU 132 9 16:=ElTB.mk' underlying132 (.string ⟨#[]⟩) 1 16 (by kernel_rfl) rfl rfl
instance:ST prog dU 132 9 16:=⟨G7⟩
theorem sy (l:List En) (hl:l.length≤100000):FSpec prog 74 [.one (.sl iI l)] [] [] (.c (.sl dU (bp l))) []:=by
 refine bJ func74 ?_
 repeat' (first
  | refine af ?_ ?_
  | refine en ?_
  | exact ah|refine ae fun hb=>?_)
 refine dS 3 1000 9 dU rfl rfl rfl ?_
 refine ao (fun x:Nat×List ByteArray=>x.1≤l.length∧x.2.length≤x.1∧iG x.2∧dh x.2 (l.drop x.1)=bp l) (fun x=>cy [1000] [(0,.c (.sl iI l)),(3,.c (.own 1000)),(4,.i x.1)] [(1000,.arr 9 dU x.2)]) (fun x=>l.length-x.1) (0,[]) ⟨Nat.zero_le _,Nat.le_refl _,by simp [iG],rfl⟩ (by exact ap (qf [])) ?_
 rintro ⟨i,acc⟩ ⟨hi,hal,hasc,hs⟩
 dsimp only at *
 by_cases hlt:i<l.length
 case neg =>
  have e:acc=bp l:=by rw [←hs,List.drop_eq_nil_of_le (by omega)];rfl
  repeat' (first
   | refine af ?_ ?_
   | refine en ?_
   | exact ah|refine ae fun hb=>?_)
  rw [←e]
  refine aP (qf []) ?_;exact ab
 rw [List.drop_eq_getElem_cons hlt,jL] at hs
 obtain ⟨n,hn⟩:∃n,l[i].name=n:=⟨_,rfl⟩
 rw [hn] at hs
 repeat' (first
  | refine af ?_ ?_
  | refine en ?_
  | exact ah|refine ae fun hb=>?_)
 refine ao (fun x:Nat×Bool=>x.1≤acc.length∧dF n acc=(x.2 || dF n (acc.drop x.1))) (fun x=>cy [1000] [(0,.c (.sl iI l)),(3,.c (.own 1000)),(4,.i i),(5,.b x.2),(6,.i x.1)] [(1000,.arr 9 dU acc)]) (fun x=>acc.length-x.1) (0,false) ⟨Nat.zero_le _,rfl⟩ (by exact ap (qf [])) ?_
 rintro ⟨k,is⟩ ⟨hk,hh⟩
 dsimp only at *
 by_cases hkl:k<acc.length
 ·rw [List.drop_eq_getElem_cons hkl,ug] at hh
  repeat' (first
   | refine af ?_ ?_
   | refine en ?_
   | exact ah|refine ae fun hb=>?_)
  ·refine ⟨(k+1,true),⟨by dsimp only;omega,by dsimp only;rw [hh,hb];simp⟩,by dsimp only;omega,?_⟩
   exact ap (qf [])
  ·refine ⟨(k+1,acc[k].toList == l[i].name.toList),⟨by dsimp only;omega,by dsimp only;rw [hh,hb,hn];simp⟩,by dsimp only;omega,?_⟩
   exact ap (qf [])
 have hh2:dF n acc=is:=by rw [hh,List.drop_eq_nil_of_le (by omega)];simp [dF]
 clear hh
 cases is with
 | true =>
  rw [hh2] at hs
  repeat' (first
   | refine af ?_ ?_
   | refine en ?_
   | exact ah|refine ae fun hb=>?_)
  refine ⟨(i+1,acc),⟨by dsimp only;omega,by dsimp only;omega,hasc,hs⟩,by dsimp only;omega,?_⟩
  exact ap (qf [])
 | false =>
  rw [hh2] at hs
  have hnm:=xY hh2
  have hL:(acc++[l[i].name]).length=acc.length+1:=by simp
  have e1:acc.take acc.length++n :: acc.drop acc.length=acc++[l[i].name]:=by simp [hn]
  rw [cond_false] at hs
  repeat' (first
   | refine af ?_ ?_
   | (refine aa 8 rfl ?_;refine bc (ak rfl rfl (aI rfl rfl) (aO [l[i].name] rfl rfl rfl rfl) rfl aJ aJ) rfl rfl rfl ?_)
   | refine en ?_
   | exact ah|refine ae fun hb=>?_)
  refine ao (fun k=>k≤acc.length∧∀m∈acc.drop k,fD n m=true) (fun k=>cy [1000] [(0,.c (.sl iI l)),(3,.c (.own 1000)),(4,.i i),(7,.i k)] [(1000,.arr 9 dU (acc.take k++n :: acc.drop k))]) (fun k=>k) acc.length ⟨Nat.le_refl _,by simp⟩ (by dsimp only;rw [e1];exact ap (qf [(1000,42)])) ?_
  rintro k ⟨hk,hall⟩
  have hW:(acc.take k++n :: acc.drop k).length=acc.length+1:=by simp;omega
  have hgk:(acc.take k++n :: acc.drop k)[k]? = some n:=by rw [List.getElem?_append_right (by simp;omega)];simp [Nat.min_eq_left hk]
  have hdone:(∀j (h:j<acc.length),j+1=k→fD n acc[j]=false)→gR n acc=acc.take k++n :: acc.drop k:=fun h2=>G6 hasc hk hall h2
  by_cases hk0:k=0
  ·subst hk0
   repeat' (first
    | refine af ?_ ?_
    | refine en ?_
    | exact ah|refine ae fun hb=>?_)
   refine ⟨(i+1,gR n acc),⟨by dsimp only;omega,by dsimp only;rw [jj];omega,nZ hasc hnm,hs⟩,by dsimp only;omega,?_⟩
   dsimp only
   rw [hdone (fun j _ h=>by omega)]
   exact ap (qf [])
  ·obtain ⟨m,hm⟩:∃m,acc[k-1]'(by omega)=m:=⟨_,rfl⟩
   have hgm:(acc.take k++n :: acc.drop k)[((k:Int)-1).toNat]? = some m:=by
    rw [show ((k:Int)-1).toNat=k-1 by omega,List.getElem?_append_left (by simp;omega)]
    simp [←hm,List.getElem?_take,show k-1<k by omega,show k-1<acc.length by omega]
   have e3:acc.drop (k-1)=m :: acc.drop k:=by
    rw [List.drop_eq_getElem_cons (i:=k-1) (by omega),hm,show k-1+1=k by omega]
   have e4:acc.take k=acc.take (k-1)++[m]:=by
    have:=List.take_succ_eq_append_getElem (l:=acc) (i:=k-1) (by omega)
    rw [show k-1+1=k by omega,hm] at this
    exact this
   have l1:(acc.take (k-1)).length=k-1:=by simp;omega
   have hset:((acc.take k++n :: acc.drop k).set k m).set ((k:Int)-1).toNat n=acc.take (k-1)++n :: acc.drop (k-1):=by
    rw [show ((k:Int)-1).toNat=k-1 by omega,e3,List.set_append_right _ _ (by simp;omega),e4]
    rw [show k-(acc.take (k-1)++[m]).length=0 by simp;omega,List.set_cons_zero,List.append_assoc,List.set_append_right _ _ (by omega),l1,Nat.sub_self]
    rfl
   have hW2:((acc.take k++n :: acc.drop k).set k m).length=acc.length+1:=by rw [List.length_set,hW]
   cases hc:fD n m with
   | false =>
    repeat' (first
     | refine af ?_ ?_
     | refine en ?_
     | exact ah|refine ae fun hb=>?_)
    refine ⟨(i+1,gR n acc),⟨by dsimp only;omega,by dsimp only;rw [jj];omega,nZ hasc hnm,hs⟩,by dsimp only;omega,?_⟩
    dsimp only
    rw [hdone (fun j hj h=>by rw [←hc,←hm];congr 2;omega)]
    exact ap (qf [])
   | true =>
    repeat' (first
     | refine af ?_ ?_
     | refine en ?_
     | (refine aa 4 rfl ?_;first
      | (refine bW (aL (z:=m) rfl rfl rfl rfl (by first|assumption|exact List.getElem?_eq_getElem (by omega)) rfl rfl rfl rfl (Nat.le_of_ble_eq_true rfl) rfl rfl) rfl rfl rfl ?_)
      | (refine bW (aL (z:=n) rfl rfl rfl rfl (by first|assumption|exact List.getElem?_eq_getElem (by omega)) rfl rfl rfl rfl (Nat.le_of_ble_eq_true rfl) rfl rfl) rfl rfl rfl ?_))
     | exact ah|refine ae fun hb=>?_)
    refine ⟨k-1,⟨by omega,?_⟩,by omega,?_⟩
    ·rw [e3]
     intro y hy
     rcases List.mem_cons.1 hy with rfl|hy
     ·exact hc
     ·exact hall y hy
    ·rw [←hset]
     exact ap (qf [])
end Go.Proofs.YtdaajdflefnjfaaGreat
