/- Part K01 of a proof of statements of chapter 15 (no condition). -/
import Derived.Test.YthpgjkjgkhjjlaaGreatDoorProg
import Derived.WalkKit
import Derived.Lib.Hide
import Derived.WalkLawsBesides
import Derived.WalkSpells
import Derived.Deep.QuietTactic
import Derived.BigQuiet
import Derived.Deep.LoopGhost
import Derived.Maps.AppendAt
import Derived.Deep.Slices
import Derived.Deep.Fields
import Derived.ChangeSame
import Derived.OpenShut
import Derived.Laws.OwnMore
import Derived.StillTail
set_option linter.unusedVariables false
set_option linter.unusedSimpArgs false
set_option maxRecDepth 100000
set_option maxHeartbeats 64000000
namespace Go.Proofs.YthpgjkjgkhjjlaaGreatDoor
open Go.RowKit Go.Proofs.Tryz
theorem qGe {α:Sort _} (a:α):∃b,a=b:=⟨_,rfl⟩
theorem qGs {α:Type _} {l:List α} {i:Nat} {x:α} (h:l[i]? =some x):l[i]'((List.getElem?_eq_some_iff.1 h).1)=x:=(List.getElem?_eq_some_iff.1 h).2
theorem qDc {α:Type _} {l:List α} {i:Nat} (h:i<l.length):l.drop i=l[i]::l.drop (i+1):=List.drop_eq_getElem_cons h
theorem qDn {α:Type _} {l:List α} {i:Nat} (h:l.length<=i):l.drop i=[]:=List.drop_eq_nil_of_le h
theorem qGg {α:Type _} {l:List α} {i:Nat} (h:i<l.length):l[i]? =some l[i]:=List.getElem?_eq_getElem h
theorem qDt {p:Prop} [Decidable p] (h:p):decide p=true:=decide_eq_true h
theorem qDf {p:Prop} [Decidable p] (h:¬p):decide p=false:=decide_eq_false h
theorem qBa (a b:Bool):((a&&b)=true)=(a=true/\b=true):=Bool.and_eq_true a b
theorem qNb {n m:Nat} (h:Nat.beq n m=true):n=m:=Nat.eq_of_beq_eq_true h
theorem qNl {n m:Nat} (h:Nat.ble n m=true):n<=m:=Nat.le_of_ble_eq_true h
theorem qCt {α:Sort _} (a b:α):(bif true then a else b)=a:=rfl
theorem qCf {α:Sort _} (a b:α):(bif false then a else b)=b:=rfl
theorem UG {P:Prop} (h:P:=by refine ao ?_;exact bg):P:=h
theorem UH {P:Prop} (h:P:=by repeat' (first|refine av ?_ ?_|(refine aa 9 rfl ?_;first|(refine cH (qf [(1,1)]) kI ?_)|(refine cH (qf [(0,0),(1,1),(2,2),(4,1004)]) kT ?_))|(refine aa 21 rfl ?_;first|refine sx (aI rfl rfl) ?_|refine sx (ba rfl rfl) ?_)|refine aq ?_|exact aw|(refine ap fun hb=>?_;first|(exfalso;omega)|skip)|(refine cc (qf [(3,1),(4,1004)]) ?_;exact af))):P:=h
theorem UI {P:Prop} (h:P:=by rw [hN] at kA ⊢;dsimp only;rw [<-hg];repeat' (first|refine av ?_ ?_|(refine aa 9 rfl ?_;first|(refine cH (qf [(0,0)]) kA ?_)|(refine cB [] (lf N.gen) ?_))|refine aq ?_|exact aw|(refine ap fun hb=>?_;first|(exact absurd hb (by decide))|skip)|(refine dP (qf []) ?_;exact af))):P:=h
theorem UJ {P:Prop} (h:P:=by rw [hkk k2 h] at hp;simp only [hput,Nat.beq_refl,qCt,Option.some.injEq] at hp;subst hp;simp [Box.has] at hx):P:=h
theorem UK {P:Prop} (h:P:=by rw [qDt hr];have hm:=(iM (w:=⟨c,[]⟩) (r:=k.req) hci hi hw hq hr).1;have hc:=md (Wk.pc ⟨c,[]⟩ i).proc k.req.prio (bJ k.req.expr) (KC ⟨c,[]⟩ i k.req);have h8a:=cD k.req.expr;have e0:(KC ⟨c,[]⟩ i k.req).ev.length=0:=rfl;have:=gH (n:=144) hm (by show (cO _ _ _ (KC ⟨c,[]⟩ i k.req)).ev.length<=_;omega);show (bw (zY ⟨c,[]⟩ i k.req)).ev.length<=_;omega):P:=h
theorem UL {P:Prop} (h:P:=by refine a7 func19 ?_;unfold i6 at hW;obtain ⟨R,hR⟩:=qGe (fb l);have kS:=Fw l hl hR;rw [hR] at hc hW;have kN:=P9 2 R.1 hc;have kR:=Tf _ _ hW;exact UG):P:=h
theorem UM {P:Prop} (h:P:=by simp only [aL,Bool.or_false] at h;exact (qNb h).symm):P:=h
theorem UN {P:Prop} (h:P:=by rw [<-bh (w:=⟨c,[]⟩) hi] at hinv;have hl:=Bl hinv.stat.led k.n;have:=me (Wk.pc ⟨c,[]⟩ i).proc (cQ (Wk.pc ⟨c,[]⟩ i).led k.n).2.1 (pf ⟨c,[]⟩ i k.n);have hB:(pf ⟨c,[]⟩ i k.n).ev.length<=280:=hA;have:=gH (n:=18280) hm (by show (bU _ _ (pf ⟨c,[]⟩ i k.n)).ev.length<=_;omega);show (bw (nu ⟨c,[]⟩ i k.n)).ev.length<=_;omega):P:=h
theorem UO {P:Prop} (h:P:=by unfold bI;rw [List.length_map];refine ⟨⟨by omega,by omega⟩,fun r hr=>?_⟩;obtain ⟨q,hq,rfl⟩:=List.mem_map.1 hr;have hR:=(aP (cP hv.tv hq)).res;unfold iB br at hR;simp only [qBa,Bool.or_eq_true,decide_eq_true_eq] at hR;omega):P:=h
theorem UP {P:Prop} (h:P:=by rw [hx] at he;rw [hy] at he2;have hv:=hr.ev x;rw [he] at hv;have hv2:=hr.ev y;rw [he2] at hv2;obtain ⟨vs,hv,hA⟩:=hv;obtain ⟨us,hv2,hB⟩:=hv2;have e1:=f0 ha hA;have e2:=f0 ha hB;subst e1;subst e2;refine ⟨.bool false,?_,rfl,fun k hk=>by simp [TV.has,V0.has,D.has] at hk⟩;unfold execOp;rw [ho];simp [hv,hv2,eqGuard,binOp,I.e w us h1,I.g]):P:=h
theorem UQ {P:Prop} (h:P:=by rw [hx] at he;rw [hy] at he2;have hv:=hr.ev x;rw [he] at hv;have hv2:=hr.ev y;rw [he2] at hv2;obtain ⟨vs,hv,hA⟩:=hv;obtain ⟨us,hv2,hB⟩:=hv2;have e1:=f0 ha hA;have e2:=f0 ha hB;subst e1;subst e2;refine ⟨.bool true,?_,rfl,fun k hk=>by simp [TV.has,V0.has,D.has] at hk⟩;unfold execOp;rw [ho];simp [hv,hv2,eqGuard,binOp,I.e w us h1,I.g]):P:=h
theorem UR {P:Prop} (h:P:=by simp only [List.head?_cons,Option.some.injEq] at hy;subst hy;injection hn with hn;subst hn;show jN x.name z.name=true;simpa using this):P:=h
theorem US {P:Prop} (h:P:=by rw [qDf hm,qCf];have hl:=hci.later (n:=k.n) hB.1 (by omega);have:=BF c.procs.length ⟨{ c with now:=c.now+k.n },[]⟩ hl;have h8:=hci.len;show (cI c.procs.length ⟨{ c with now:=c.now+k.n },[]⟩).ev.length<=_;have e0:([]:List Ev).length=0:=rfl;dsimp only at this;rw [e0] at this;omega):P:=h
theorem UT {P:Prop} (h:P:=by refine ⟨i+1,⟨by omega,hs⟩,by omega,?_⟩;exact aT):P:=h
theorem UU {P:Prop} (h:P:=by rw [qDt h0,qCt] at hs;refine ao ?_;refine ⟨(i+1,R.1),⟨by dsimp only;omega,hs⟩,by dsimp only;omega,?_⟩;exact aT):P:=h
theorem UV {P:Prop} (h:P:=by rw [qDf h0,qCf] at hs;refine ao ?_;refine ⟨(i+1,c),⟨by dsimp only;omega,hs⟩,by dsimp only;omega,?_⟩;exact aT):P:=h
theorem UW {P:Prop} (h:P:=by clear e1 e2;repeat' (first|refine av ?_ ?_|(refine aa 9 rfl ?_;first|(refine cH (qf [(0,0)]) kN ?_)|(refine cH (qf [(0,0)]) kN2 ?_)|(refine cH (qf [(0,0)]) kN3 ?_)|(refine cB [] kP ?_))|refine aq ?_|exact aw|refine ap fun hb=>?_|(refine cc (qf [(0,0)]) ?_;exact af))):P:=h
theorem UX {P:Prop} (h:P:=by refine ⟨q1,?_,⟨hk.kw,hk.now,hk.pr,hk.nm⟩⟩;have:ct (i5 w i).c.procs<=ct (aZ (ai (w.note 4 (w.pc i).proc) i) i).c.procs:=q5;omega):P:=h
theorem UY {P:Prop} (h:P:=by rw [hw] at hZ;obtain rfl:Z=(w,14):=hZ.symm;repeat' (first|refine av ?_ ?_|refine aa 9 rfl (cB [1] kI ?_)|refine aq ?_|exact aw|(refine ap fun hb=>?_;first|(cases hw.symm.trans hb;done)|skip)|(refine cc (qf [(3,1),(4,2)]) ?_;exact af))):P:=h
theorem UZ {P:Prop} (h:P:=by refine ⟨i+1,hlt,by omega,?_⟩;exact aT):P:=h
theorem U0 {P:Prop} (h:P:=by refine ⟨i+1,by omega,by omega,?_⟩;exact aT):P:=h
theorem U1 {P:Prop} (h:P:=by rw [hkk k' h,aW] at hg';injection hg' with hg';subst hg';exact ⟨by simp,.inl (Nat.le_refl _)⟩):P:=h
theorem U2 {P:Prop} (h:P:=by repeat' (first|refine av ?_ ?_|(refine aa 9 rfl ?_;first|(refine cB [1] kI ?_)|(refine cH (qf [(1,1),(2,2),(3,1003),(4,1004)]) kT ?_))|refine aq ?_|exact aw|refine ap fun hb=>?_|(refine cc (qf [(3,1003),(4,1004)]) ?_;exact af))):P:=h
theorem U3 {P:Prop} (h:P:=by repeat' (first|refine av ?_ ?_|(refine aa 9 rfl ?_;first|(refine cH (qf [(0,0)]) kN ?_)|(refine cH (qf [(0,0)]) kN2 ?_)|(refine cB [] kP ?_))|refine aq ?_|exact aw|refine ap fun hb=>?_|(refine cc (qf [(0,0)]) ?_;exact af))):P:=h
theorem U4 {P:Prop} (h:P:=by refine cc (qf []) ?_;exact af):P:=h
theorem U5 {P:Prop} (h:P:=by rw [qDn (by omega)] at hs;refine ao ?_;refine eU ?_;rw [<-hs];rfl):P:=h
theorem U6 {P:Prop} (h:P:=by rw [hkk k' h,hkb] at hg';injection hg' with hg';subst hg';exact ⟨by rw [hsize];exact hr.ltb hk' hkb,.inr ⟨k,_,by simp [aL],hk',hkb⟩⟩):P:=h
theorem U7 {P:Prop} (h:P:=by refine a7 func99 ?_;have k1:=I1 q.holds;have k2:=I2 q.convs;have k3:=I2 q.waits;repeat' (first|refine av ?_ ?_|(refine aa 9 rfl ?_;first|(refine cB [] k1 ?_)|(refine cB [] k2 ?_)|(refine cB [] k3 ?_))|(refine aa 10 rfl ?_;first|refine sx (cZ rfl rfl rfl rfl rfl) ?_|refine sx (c5 rfl rfl rfl rfl rfl) ?_)|refine aq ?_|exact aw|(refine ap fun hb=>?_;first|(exact absurd rfl hb)|skip)|exact bg|fail)):P:=h
theorem U8 {P:Prop} (h:P:=by repeat' (first|refine av ?_ ?_|refine aq ?_|exact aw|(refine ap fun hb=>?_;first|(simp at hb;done)|skip)|(refine fE (qf []) ?_;exact af))):P:=h
theorem U9 {P:Prop} (h:P:=by repeat' (first|refine av ?_ ?_|(refine aa 8 rfl ?_;refine be (ae rfl rfl (aH rfl rfl) (aN [e] rfl rfl rfl rfl) rfl aQ aQ) rfl rfl rfl ?_)|(refine aa 9 rfl ?_;first|(refine cB [] (eQ g) ?_)|(refine cH (qf [(1,1000),(2,1001)]) (CM g h1 h2) ?_)|(refine cB [23,1001] (eQ ⟨g.entries++[e],g.saves⟩) ?_))|refine aq ?_|exact aw|refine ap fun hb=>?_|(refine fE (qf []) ?_;exact af))):P:=h
theorem Va {P:Prop} (h:P:=by rw [List.take_succ_eq_append_getElem (by omega),List.map_append];rfl):P:=h
theorem Vb {P:Prop} (h:P:=by repeat' (first|refine av ?_ ?_|(refine aa 9 rfl ?_;first|(refine cB [] kL ?_)|(refine cB [] kM ?_)|(refine cB [] kA ?_))|refine aq ?_|exact aw|refine ap fun hb=>?_|exact bg|fail)):P:=h
theorem Vc {P:Prop} (h:P:=by refine ⟨i+1,⟨by omega,by rw [<-hs];simp [*]⟩,by omega,?_⟩;exact aT):P:=h
theorem Vd {P:Prop} (h:P:=by unfold gu;rw [key l none h.ok h.asc (fun n hn=>by cases hn)];simp [h.len]):P:=h
theorem Ve {P:Prop} (h:P:=by repeat' (first|refine av ?_ ?_|(refine aa 8 rfl ?_;refine be (ae rfl rfl (aH rfl rfl) (aN [e] rfl rfl rfl rfl) rfl aQ aQ) rfl rfl rfl ?_)|(refine aa 9 rfl ?_;first|(refine cB [] (dq g) ?_)|(refine cB [17,21] (dq ⟨g.entries++[e],g.saves⟩) ?_))|refine aq ?_|exact aw|refine ap fun hb=>?_|(refine fE (qf []) ?_;exact af))):P:=h
theorem Vf {P:Prop} (h:P:=by repeat' (first|refine av ?_ ?_|(refine aa 21 rfl ?_;refine sx (aI rfl rfl) ?_)|refine aq ?_|exact aw|refine ap fun hb=>?_|(refine cc (qf [(4,2)]) ?_;exact af))):P:=h
theorem Vg {P:Prop} (h:P:=by dsimp only at hev;rw [e0] at hev;have:=gH (n:=280) n1 (by show (ai ⟨c,[]⟩ i).ev.length<=_;omega);show (bw (aZ (ai ⟨c,[]⟩ i) i)).ev.length<=_;omega):P:=h
theorem Vh {P:Prop} (h:P:=by repeat' (first|refine av ?_ ?_|(refine aa 9 rfl ?_;first|(refine cB [] kV ?_)|(refine cH (qf [(1,1)]) kI ?_))|(refine aa 21 rfl ?_;first|refine sx (aI rfl rfl) ?_|refine sx (ba rfl rfl) ?_)|refine aq ?_|exact aw|refine ap fun hb=>?_|(refine cc (qf [(3,1),(4,2)]) ?_;exact af))):P:=h
theorem Vi {P:Prop} (h:P:=by exact gen c.procs.length ⟨{ c with now:=c.now+k.n },[]⟩ (hci.later hB.1 (by omega))):P:=h
theorem Vj {P:Prop} (h:P:=by rw [List.set_append_right _ _ (by simp;omega),List.take_succ_eq_append_getElem hlt,hx];simp only [List.length_take,Nat.min_eq_left (Nat.le_of_lt hlt),Nat.sub_self];rw [show t.length-i=(t.length-(i+1))+1 by omega,List.replicate_succ];simp):P:=h
theorem Vk {P:Prop} (h:P:=by refine ⟨(i+1,r),⟨by dsimp only;omega,by dsimp only;omega,hs⟩,by dsimp only;omega,?_⟩;exact bo (qf [(1000,1001)])):P:=h
theorem Vl {P:Prop} (h:P:=by repeat' (first|(simp [bR,iY];done)|(simp only [iY];omega)|(rw [cond_eq_ite];split))):P:=h
theorem Vm {P:Prop} (h:P:=by rw [qDn (by omega)] at hs;obtain rfl:c=W:=hs;exact UG):P:=h
theorem Vn {P:Prop} (h:P:=by rw [qDf he,qCf];obtain ⟨l1,_,l3⟩:=qu hw (by omega);exact (ih _ l1).trans l3.nm):P:=h
theorem Vo {P:Prop} (h:P:=by rintro ⟨h1,h2⟩;refine ⟨⟨h1 x (by simp),by have:=h2 0 (by simp);simpa using this⟩,fun y hy=>h1 y (by simp [hy]),fun j hj=>?_⟩;have:=h2 (j+1) (by simp;omega);simp only [List.getElem_cons_succ] at this;rw [this];omega):P:=h
theorem Vp {P:Prop} (h:P:=by rw [qDn (by omega)] at hu;obtain rfl:u=W:=hu;repeat' (first|refine av ?_ ?_|refine aa 9 rfl (cH (qf [(0,0),(50,1),(2,1011),(4,1020)]) kS ?_)|refine aq ?_|exact aw|refine ap fun hb=>?_|(refine cc (qf [(4,1020)]) ?_;exact af))):P:=h
theorem Vq {P:Prop} (h:P:=by rw [qDt h2] at he ⊢;simp only [qCt] at he ⊢;exact (jD hci hi he).2.2.2.2.2.2):P:=h
theorem Vr {P:Prop} (h:P:=by repeat' (first|refine av ?_ ?_|(refine aa 9 rfl ?_;first|(refine cB [] (Gp x d (n:=x.dep) (by rw [hk];rfl)) ?_)|(refine cH (qf [(0,3),(1,1000),(2,1001)]) kP ?_))|refine aq ?_|exact aw|refine ap fun hb=>?_|exact bg|fail)):P:=h
theorem Vs {P:Prop} (h:P:=by unfold i6;rw [Fy];show ((fb l).1.map gI).length=6;rw [List.length_map];exact h6):P:=h
theorem Vt {P:Prop} (h:P:=by rw [qDt h4] at he ⊢;simp only [qCt] at he ⊢;exact (lZ hci hi he).2.2.1.nm):P:=h
theorem Vu {P:Prop} (h:P:=by rw [qDt h6] at he ⊢;simp only [qCt] at he ⊢;exact (iN hci hi he).2.2.1.nm):P:=h
theorem Vv {P:Prop} (h:P:=by rw [e] at hI;obtain ⟨b1,b2,b3⟩:=(To hc).2.2.2 x hx;exact P6 d c x.proc hI (by rw [qGg hi,e]) b1 b2 b3):P:=h
theorem Vw {P:Prop} (h:P:=by repeat' (first|refine av ?_ ?_|refine gV ?_|refine aq ?_|exact aw|(refine ap fun hb=>?_;first|(exact (hok1 (by omega) (by omega) (by omega) (by omega) (by omega) (by omega)).elim)|skip)|exact bg|fail)):P:=h
theorem Vx {P:Prop} (h:P:=by rw [List.set_append_right _ _ (by omega),h1,Nat.sub_self,show B.length-i=(B.length-(i+1))+1 by omega,List.replicate_succ,List.set_cons_zero,List.take_succ_eq_append_getElem hi,List.append_assoc];rfl):P:=h
theorem Vy {P:Prop} (h:P:=by repeat' (first|refine av ?_ ?_|(refine aa 9 rfl ?_;first|(refine cB [] kN ?_)|(refine cH (qf [(0,1000),(1,1001)]) kA ?_))|refine aq ?_|exact aw|refine ap fun hb=>?_|(refine fE (qf []) ?_;exact af))):P:=h
theorem Vz {P:Prop} (h:P:=by refine eU ?_;rw [<-hs];simp [*]):P:=h
theorem VA {P:Prop} (h:P:=by subst en;exact ⟨fun b hb=>(by rw [hnone] at hb;cases hb),fun _=>k2.led hl.proc (hlh a (by simp))⟩):P:=h
theorem VB {P:Prop} (h:P:=by refine ao ?_;refine ⟨(i+1,o++[q],ev),⟨by dsimp only;omega,by simp;omega,by dsimp only;omega,by dsimp only;rw [<-hs1];simp,hs2⟩,by dsimp only;omega,?_⟩;dsimp only;rw [<-e0];exact aT):P:=h
theorem VC {P:Prop} (h:P:=by repeat' (first|refine av ?_ ?_|(refine aa 9 rfl ?_;first|(refine cB [] kV ?_)|(refine cB [1] kI ?_))|refine aq ?_|exact aw|refine ap fun hb=>?_|(refine cc (qf [(3,1),(4,2)]) ?_;exact af))):P:=h
theorem VD {P:Prop} (h:P:=by rw [qDt h1] at he ⊢;simp only [qCt] at he ⊢;obtain ⟨_,_,_,k4⟩:=xw hci he;refine ⟨x,?_,GrP.refl x⟩;rw [k4];exact (lj _ _).mem_iff.2 (by simp only [List.mem_cons];exact .inr hx)):P:=h
theorem VE {P:Prop} (h:P:=by rw [qDt h1] at he ⊢;simp only [qCt] at he ⊢;rw [(xw hci he).2.1]):P:=h
theorem VF {P:Prop} (h:P:=by repeat' (first|refine av ?_ ?_|refine aa 9 rfl (cH (qf [(0,16),(1,1002),(2,1003),(3,1004),(4,1005)]) kD ?_)|refine aq ?_|exact aw|refine ap fun hb=>?_|(refine dP (qf []) ?_;exact af))):P:=h
theorem VG {P:Prop} (h:P:=by rw [qDt hI] at he;simp at he):P:=h
theorem VH {P:Prop} (h:P:=by repeat' (first|refine av ?_ ?_|refine gV ?_|refine aq ?_|exact aw|(refine ap fun hb=>?_;first|(exact (hN ⟨by omega,by assumption⟩).elim)|skip)|(refine dP (qf []) ?_;exact af))):P:=h
theorem VI {P:Prop} (h:P:=by refine ⟨?_,e⟩;unfold di;rw [G6 h,e];rfl):P:=h
theorem VJ {P:Prop} (h:P:=by repeat' (first|refine av ?_ ?_|(refine aa 9 rfl ?_;first|(refine cB [] k1 ?_)|(refine cB [] k2 ?_))|refine aq ?_|exact aw|refine ap fun hb=>?_|(refine fE (qf []) ?_;exact af))):P:=h
theorem VK {P:Prop} (h:P:=by rw [List.getElem?_append_right (by rw [List.length_take];omega),List.length_take,Nat.min_eq_left (Nat.le_of_lt hlt),Nat.sub_self,List.getElem?_replicate,if_pos (by omega)]):P:=h
theorem VL {P:Prop} (h:P:=by simp only [qCf];exact (xu (w:=⟨c,[]⟩) hci hi).2.2.2.2.2.2):P:=h
theorem VM {P:Prop} (h:P:=by rw [hkk k1 h,hkk k2 h']):P:=h
theorem VN {P:Prop} (h:P:=by simp only [Instr.loadAt,Instr.sureAddr,Sem.run_bind,Sem.run_pure,Result.andThen_ok] at h2;simp only [AD,hv,asAddr,Sem.run_bind,Sem.run_pure,Result.andThen_ok,h2]):P:=h
theorem VO {P:Prop} (h:P:=by rw [hputk] at hb;exact ⟨rfl,(Option.some.inj hb).symm⟩):P:=h
theorem VP {P:Prop} (h:P:=by refine ⟨i+1,by omega,by omega,?_⟩;rw [<-hst];exact aT):P:=h
theorem VQ {P:Prop} (h:P:=by repeat' (first|refine av ?_ ?_|(refine aa 10 rfl ?_;refine sx (B2 rfl rfl rfl (by omega) hr) ?_)|refine aq ?_|exact aw|refine ap fun hb=>?_|exact bg|fail)):P:=h
theorem VS {P:Prop} (h:P:=by dsimp only;exact bo (qf [(1011,1020)])):P:=h
theorem VT {P:Prop} (h:P:=by rw [hc y (by simp [ho,Op.operands]),hy] at this;exact .inl (congrArg some this)):P:=h
theorem VU {P:Prop} (h:P:=by refine fE (qf []) ?_;exact af):P:=h
theorem VV {P:Prop} (h:P:=by exact Nat.zero_le _):P:=h
theorem VW {P:Prop} (h:P:=by unfold execOp;simp only [ho,resolve,invoke,builtin,Sem.run_bind,Sem.run_pure,Result.andThen_ok,List.map_toArray,List.map_cons,List.map_nil,hrun]):P:=h
theorem VX {P:Prop} (h:P:=by repeat' (first|refine av ?_ ?_|(refine aa 9 rfl ?_;refine ov 1 [9] (qf [(9,9)]) kS ?_)|refine aq ?_|exact aw|refine ap fun hb=>?_|exact bg|fail)):P:=h
theorem VY {P:Prop} (h:P:=by exact ⟨xs,h3.same (fun _ _=>rfl) hF,fun _=>⟨g,0,rfl,hO k _ g hR hk' (by rw [hA];rfl),fun j u hu=>by rw [Nat.zero_add];exact h4 j u hu⟩⟩):P:=h
theorem VZ {P:Prop} (h:P:=by rw [(hsm n' bx hn hb).2] at hx2;simp [Box.has] at hx2):P:=h
theorem V1 {P:Prop} (h:P:=by subst hp;refine .inr ⟨rfl,by rw [qDt rfl];rfl,by rw [if_pos rfl],?_⟩;rw [fh];intro y hy e;exact hn'.1 (e▸List.mem_map.2 ⟨y,hy,rfl⟩)):P:=h
theorem V2 {P:Prop} (h:P:=by simp [hv,hv2,Instr.sliceAt,Instr.slice,Instr.sliceBounds,Instr.sliceBound,asIntOf,run_underlying I.u,sizeOf,typeInfo,hq,hi0,hj,h3];try omega):P:=h
theorem V3 {P:Prop} (h:P:=by unfold cG;dsimp only;rw [h1,h2];rfl):P:=h
theorem V4 {P:Prop} (h:P:=by unfold fb;simp only [List.length_append,List.length_cons,List.length_nil];have:=Bh (qj ⟨l,0⟩).1 l.length (qj ⟨l,0⟩).2.s.s.s.s;omega):P:=h
theorem V5 {P:Prop} (h:P:=by simp [hv,hv2,Instr.sliceAt,Instr.slice,Instr.sliceBounds,Instr.sliceBound,asIntOf,run_underlying I.u,sizeOf,typeInfo,hq,hi0,hj,h3,dS,hc.1]):P:=h
theorem V6 {P:Prop} (h:P:=by rw [qDf hs] at he;simp only [Bool.not_false,qCt] at he;exact absurd he hs):P:=h
theorem V7 {P:Prop} (h:P:=by refine ⟨(i+1,(i:Int),x.since+x.req.limit),⟨by dsimp only;omega,hs,.inr ⟨i,x,rfl,hgx,rfl⟩⟩,by dsimp only;omega,?_⟩;exact aT):P:=h
theorem V8 {P:Prop} (h:P:=by rw [qDt he];exact Cx l _ (fI he).2):P:=h
theorem V9 {P:Prop} (h:P:=by subst en;exact ⟨fun b hb=>(by rw [hnone] at hb;cases hb),fun _=>k2⟩):P:=h
theorem Wa {P:Prop} (h:P:=by refine ⟨i+1,by omega,by omega,?_⟩;rw [h2];exact bo (qf [(1000,23)])):P:=h
theorem Wb {P:Prop} (h:P:=by simp only [List.getElem_cons_succ];rw [this];omega):P:=h
theorem Wc {P:Prop} (h:P:=by refine ⟨x,List.mem_iff_getElem.2 ⟨j,by simpa using hj,?_⟩,GrP.refl x⟩;rw [List.getElem_set_ne (fun e2=>hji e2.symm)];exact e):P:=h
theorem Wd {P:Prop} (h:P:=by repeat' (first|refine av ?_ ?_|refine gV ?_|refine aq ?_|exact aw|(refine ap fun hb=>?_;first|(exfalso;omega)|skip)|exact bg|fail)):P:=h
theorem We {P:Prop} (h:P:=by exact ⟨i+1,by simpa using hi,by rw [h1];omega,by simpa using h2⟩):P:=h
theorem Wg {P:Prop} (h:P:=by refine ⟨(i+1,out),⟨by dsimp only;omega,by dsimp only;omega,by rw [<-hs];simp [cq, *]⟩,by dsimp only;omega,?_⟩;exact aT):P:=h
theorem Wh {P:Prop} (h:P:=by unfold g8 gi;rw [hk,qDt h0,qDt h1,qDf (show ¬(1073741824-k.n<(Wk.mk c []).c.now) by show ¬(1073741824-k.n<c.now);omega)];rfl):P:=h
theorem Wi {P:Prop} (h:P:=by rw [gC (by rw [<-el];exact hk)] at hb;cases hb):P:=h
theorem Wj {P:Prop} (h:P:=by rw [qDt hm] at he;simp at he):P:=h
theorem Wl {P:Prop} (h:P:=by rw [qDf hm];simp only [qCf];exact all _ (IK c.procs.length ⟨{ c with now:=c.now+k.n },[]⟩ (hci.later hB.1 (by omega)))):P:=h
abbrev Bs:=List UInt8
def Py (s:Bs):Bool:=s == [97,108,108] || s == [97,110,121] || s == [111,102] || s == [112,114,105,111] || s == [108,105,109,105,116]
theorem zZ (s:ByteArray) (w:World):Calls prog 236 #[.string s] w fun e w'=>e = .returned (.bool (Py s.toList))/\w'=w:=by
 go_enter func236,ntmps236
 go_wp2
 all_goals go_ret
 all_goals exact ⟨by simp_all [Py],rfl⟩
theorem BH (s:ByteArray) (w:World):Calls prog 245 #[.string s] w fun e w'=>e = .returned (.bool (Py s.toList))/\w'=w:=by
 go_enter func245,ntmps245
 go_wp2
 all_goals go_ret
 all_goals exact ⟨by simp_all [Py],rfl⟩
def gl (c:UInt8):Bool:=decide ((97:Int)<=c.toNat) && decide ((c.toNat:Int)<=122)
def kf (c:UInt8):Bool:=gl c || decide ((48:Int)<=c.toNat) && decide ((c.toNat:Int)<=57) || decide ((c.toNat:Int)=95) || decide ((c.toNat:Int)=45)
theorem xE (c:UInt8) (w:World):Calls prog 235 #[.int .u8 c.toNat] w fun e w'=>e = .returned (.bool (gl c))/\w'=w:=by
 unfold gl;generalize (c.toNat:Int)=n
 go_enter func235,ntmps235
 go_wp2
 all_goals go_ret
 all_goals exact ⟨by simp_all <;> omega,rfl⟩
theorem KF (c:UInt8) (w:World):Calls prog 237 #[.int .u8 c.toNat] w fun e w'=>e = .returned (.bool (kf c))/\w'=w:=by
 have HL:=Lib.hid (xE c w);obtain ⟨b,hb⟩:=qGe (gl c);have HB:=Lib.hid hb;have hp:kf c=(b || decide ((48:Int)<=c.toNat) && decide ((c.toNat:Int)<=57) || decide ((c.toNat:Int)=95) || decide ((c.toNat:Int)=45)):=by
  unfold kf;rw [hb]
 rw [hb] at HL;rw [hp];clear hp hb HB;generalize (c.toNat:Int)=n at *
 go_enter func237,ntmps237
 go_wp2_with fail
 refine HL.out.mono ?_;rintro e w' ⟨rfl,rfl⟩;cases b <;> go_wp2
 all_goals go_ret
 all_goals refine ⟨congrArg (fun b=>Ending.returned (.bool b)) (?_:(_:Bool)=_),rfl⟩
 all_goals first|rfl|(rw [Bool.eq_iff_iff];done)|(rw [Bool.eq_iff_iff];simp;done)|(rw [Bool.eq_iff_iff];simp;omega)
section
open Go.WideShapes Go.ChangeShapes Go.Deep
structure El (α:Type) where
 n:Nat
 pos:0<n
 rep:World->(Nat->Prop)->α->List Value->Prop
 len:∀{w:World} {S:Nat->Prop} {x:α} {cs:List Value},rep w S x cs->cs.length=n
 one:∀{w:World} {S:Nat->Prop} {x:α} {cs:List Value},rep w S x cs->∀u∈cs,u.oneCell'=true
 same:∀{w w':World} {S S':Nat->Prop} {x:α} {cs:List Value},rep w S x cs->(∀b,S b->w'.heap[b]? = w.heap[b]?)->(∀b,S b->S' b)->rep w' S' x cs
section
variable {α:Type} {E:El α} {w w':World} {S S':Nat->Prop} {A:Option Addr} {l l':List α} {xs ys:List Value} {v:Value} {base B:Nat} {e:TypeId}
def Reps (E:El α) (w:World) (S:Nat->Prop):List α->List Value->Prop
 | [],xs=>xs=[]
 | x :: l,xs=>∃cs rest,xs=cs++rest/\E.rep w S x cs/\Reps E w S l rest
theorem Reps.length:∀{l:List α} {xs:List Value},Reps E w S l xs->xs.length=l.length*E.n
 | [],xs,h=>by rw [show xs=[] from h];simp
 | x :: l,xs,h=>by
  obtain ⟨cs,rest,rfl,h1,h2⟩:=h;rw [List.length_append,E.len h1,Reps.length h2,List.length_cons,Nat.add_mul,Nat.one_mul,Nat.add_comm]
theorem Reps.one:∀{l:List α} {xs:List Value},Reps E w S l xs->∀u∈xs,u.oneCell'=true
 | [],xs,h=>by rw [show xs=[] from h];simp
 | x :: l,xs,h=>by
  obtain ⟨cs,rest,rfl,h1,h2⟩:=h;intro u hu;rcases List.mem_append.1 hu with hu|hu
  ·exact E.one h1 u hu
  ·exact Reps.one h2 u hu
theorem Reps.same:∀{l:List α} {xs:List Value},Reps E w S l xs->(∀b,S b->w'.heap[b]? = w.heap[b]?)->(∀b,S b->S' b)->Reps E w' S' l xs
 | [],xs,h,_,_=>h
 | x :: l,xs,h,hk,hS=>by
  obtain ⟨cs,rest,rfl,h1,h2⟩:=h;exact ⟨cs,rest,rfl,E.same h1 hk hS,Reps.same h2 hk hS⟩
theorem Reps.append:∀{l l':List α} {xs ys:List Value},Reps E w S l xs->Reps E w S l' ys->Reps E w S (l++l') (xs++ys)
 | [],l',xs,ys,h,k=>by rw [show xs=[] from h];exact k
 | x :: l,l',xs,ys,h,k=>by
  obtain ⟨cs,rest,rfl,h1,h2⟩:=h;exact ⟨cs,rest++ys,by simp,h1,Reps.append h2 k⟩
theorem Reps.single {x:α} {cs:List Value} (h:E.rep w S x cs):Reps E w S [x] cs:=⟨cs,[],by simp,h,rfl⟩
theorem Reps.drop:∀{l:List α} {xs:List Value} (k:Nat),Reps E w S l xs->Reps E w S (l.drop k) (xs.drop (k*E.n))
 | l,xs,0,h=>by simpa using h
 | [],xs,k+1,h=>by rw [show xs=[] from h];simp [Reps]
 | x :: l,xs,k+1,h=>by
  obtain ⟨cs,rest,rfl,h1,h2⟩:=h;have e1:(cs++rest).drop ((k+1)*E.n)=rest.drop (k*E.n):=by
   rw [List.drop_append,E.len h1,qDn (by rw [E.len h1,Nat.add_mul];omega),Nat.add_mul,Nat.one_mul,Nat.add_sub_cancel,List.nil_append]
  rw [e1];exact Reps.drop k h2
theorem Reps.take:∀{l:List α} {xs:List Value} (k:Nat),Reps E w S l xs->Reps E w S (l.take k) (xs.take (k*E.n))
 | l,xs,0,h=>by simp [Reps]
 | [],xs,k+1,h=>by rw [show xs=[] from h];simp [Reps]
 | x :: l,xs,k+1,h=>by
  obtain ⟨cs,rest,rfl,h1,h2⟩:=h;have e1:(cs++rest).take ((k+1)*E.n)=cs++rest.take (k*E.n):=by
   rw [List.take_append,E.len h1,List.take_of_length_le (by rw [E.len h1,Nat.add_mul];omega),Nat.add_mul,Nat.one_mul,Nat.add_sub_cancel]
  rw [e1];exact ⟨cs,_,rfl,h1,Reps.take k h2⟩
theorem Reps.get:∀{l:List α} {xs:List Value},Reps E w S l xs->∀i (h:i<l.length),∃cs,E.rep w S l[i] cs/\∀j,j<E.n->xs[i*E.n+j]? = cs[j]?
 | [],xs,h,i,hi=>absurd hi (by simp)
 | x :: l,xs,h,0,hi=>by
  obtain ⟨cs,rest,rfl,h1,h2⟩:=h;exact ⟨cs,h1,fun j hj=>by rw [Nat.zero_mul,Nat.zero_add,List.getElem?_append_left (by rw [E.len h1];exact hj)]⟩
 | x :: l,xs,h,i+1,hi=>by
  obtain ⟨cs,rest,rfl,h1,h2⟩:=h;obtain ⟨cs',h3,h4⟩:=Reps.get h2 i (by simpa using hi);refine ⟨cs',by simpa using h3,fun j hj=>?_⟩;rw [<-h4 j hj,List.getElem?_append_right (by rw [E.len h1,Nat.add_mul];omega),E.len h1,Nat.add_mul,Nat.one_mul];congr 1
  omega
theorem Reps.set:∀{l:List α} {xs:List Value} {i:Nat} {y:α} {cs:List Value},Reps E w S l xs->E.rep w S y cs->i<l.length->Reps E w S (l.set i y) (xs.take (i*E.n)++cs++xs.drop (i*E.n+E.n))
 | [],xs,i,y,cs,h,hy,hi=>absurd hi (by simp)
 | x :: l,xs,0,y,cs,h,hy,hi=>by
  obtain ⟨cs',rest,rfl,h1,h2⟩:=h;refine ⟨cs,rest,?_,hy,h2⟩;rw [Nat.zero_mul,List.take_zero,List.nil_append,Nat.zero_add,List.drop_append,E.len h1,qDn (by rw [E.len h1];omega),Nat.sub_self,List.drop_zero,List.nil_append]
 | x :: l,xs,i+1,y,cs,h,hy,hi=>by
  obtain ⟨cs',rest,rfl,h1,h2⟩:=h;refine ⟨cs',rest.take (i*E.n)++cs++rest.drop (i*E.n+E.n),?_,h1,Reps.set h2 hy (by simpa using hi)⟩;have hl:=E.len h1;rw [List.take_append,List.drop_append,hl,List.take_of_length_le (by rw [hl,Nat.add_mul];omega),qDn (by rw [hl,Nat.add_mul];omega)];rw [show (i+1)*E.n-E.n=i*E.n by rw [Nat.add_mul];omega,show (i+1)*E.n+E.n-E.n=i*E.n+E.n by rw [Nat.add_mul];omega];simp
def RowsAt (E:El α) (w:World) (S:Nat->Prop) (A:Option Addr) (l:List α):Prop :=
 ∃xs,Reps E w S l xs/\(0<l.length->∃b off,A=some ⟨b,off,none⟩/\S b/\∀j u,xs[j]? = some u->w.cell? ⟨b,off+j,none⟩=some u)
theorem RowsAt.nil (E:El α) (w:World) (S:Nat->Prop) (A:Option Addr):RowsAt E w S A []:=⟨[],rfl,fun h=>absurd h (by simp)⟩
theorem RowsAt.same (h:RowsAt E w S A l) (hk:∀b,S b->w'.heap[b]? = w.heap[b]?) (hS:∀b,S b->S' b):RowsAt E w' S' A l:=by
 obtain ⟨xs,h1,h2⟩:=h;refine ⟨xs,h1.same hk hS,fun h0=>?_⟩;obtain ⟨b,off,hA,hb,hc⟩:=h2 h0;exact ⟨b,off,hA,hS b hb,fun j u hu=>(World.cell?_of_block (w:=w) (a:=⟨b,off+j,none⟩) (hk b hb)).trans (hc j u hu)⟩
theorem RowsAt.mono (h:RowsAt E w S A l) (hS:∀b,S b->S' b):RowsAt E w S' A l:=h.same (fun _ _=>rfl) hS
theorem RowsAt.get (h:RowsAt E w S A l) {i:Nat} (hi:i<l.length) :
  ∃b off cs,A=some ⟨b,off,none⟩/\S b/\E.rep w S l[i] cs/\∀j,j<E.n->w.cell? ⟨b,off+i*E.n+j,none⟩=cs[j]?:=by
 obtain ⟨xs,h1,h2⟩:=h;obtain ⟨b,off,hA,hb,hc⟩:=h2 (by omega);obtain ⟨cs,h3,h4⟩:=h1.get i hi;refine ⟨b,off,cs,hA,hb,h3,fun j hj=>?_⟩;have hj2:j<cs.length:=by rw [E.len h3];exact hj
 have h5:=h4 j hj;rw [qGg hj2] at h5 ⊢;rw [Nat.add_assoc];exact hc _ _ h5
theorem RowsAt.getx (h:RowsAt E w S A l) {i:Nat} {x:α} (hi:i<l.length) (hx:l[i]=x) :
  ∃b off cs,A=some ⟨b,off,none⟩/\S b/\E.rep w S x cs/\∀j,j<E.n->w.cell? ⟨b,off+i*E.n+j,none⟩=cs[j]?:=by subst hx;exact h.get hi
theorem RowsAt.take (h:RowsAt E w S A l) (k:Nat):RowsAt E w S A (l.take k):=by
 obtain ⟨xs,h1,h2⟩:=h;refine ⟨_,h1.take k,fun h0=>?_⟩;obtain ⟨b,off,hA,hb,hc⟩:=h2 (by rw [List.length_take] at h0;omega);exact ⟨b,off,hA,hb,fun j u hu=>hc j u (by rw [List.getElem?_take] at hu;split at hu;exact hu;cases hu)⟩
theorem RowsAt.drop {b off:Nat} (h:RowsAt E w S (some ⟨b,off,none⟩) l) (k:Nat):RowsAt E w S (some ⟨b,off+k*E.n,none⟩) (l.drop k):=by
 obtain ⟨xs,h1,h2⟩:=h;refine ⟨_,h1.drop k,fun h0=>?_⟩;obtain ⟨b',off',hA,hb,hc⟩:=h2 (by rw [List.length_drop] at h0;omega);injection hA with hA;injection hA with e1 e2;subst e1;subst e2;exact ⟨b,_,rfl,hb,fun j u hu=>by rw [Nat.add_assoc];exact hc _ u (by rw [List.getElem?_drop] at hu;exact hu)⟩
def Lo (B:Nat) (b:Nat):Prop:=b<B
def KH (w:World) (v:Value) (b:Nat):Prop:=b<w.heap.size/\v.ownBlock≠some b
theorem RowsAt.below {B B' B'':Nat} (h:RowsAt E w (Lo B) A l) (hb:Below B' w w') (hB:B<=B') (hB2:B<=B''):RowsAt E w' (Lo B'') A l :=
 h.same (fun b hl=>hb.block b (Nat.lt_of_lt_of_le hl hB)) fun _ hl=>Nat.lt_of_lt_of_le hl hB2
def OwnRows (E:El α) (e:TypeId) (w:World) (base:Nat) (v:Value) (l:List α):Prop :=
 base<=w.heap.size/\∃xs,w.ownsRow base e E.n v l.length xs/\Reps E w (KH w v) l xs
theorem OwnRows.nil (E:El α) (e:TypeId) (w:World) (base:Nat) (hb:base<=w.heap.size):OwnRows E e w base (.slice none 0 0) []:=⟨hb,[],World.ownsRow_nil _ _ _ _,rfl⟩
theorem OwnRows.block (h:OwnRows E e w base v l):∀k,v.ownBlock=some k->base<=k/\k<w.heap.size:=by
 obtain ⟨_,xs,h1,_⟩:=h;exact h1.lt
theorem OwnRows.keep (h:OwnRows E e w base v l) (hk:∀b,b<w.heap.size->w'.heap[b]? = w.heap[b]?) (hs:w.heap.size<=w'.heap.size):OwnRows E e w' base v l:=by
 obtain ⟨h0,xs,⟨h1,h2⟩,h3⟩:=h;refine ⟨Nat.le_trans h0 hs,xs,⟨h1,?_⟩,h3.same (fun b hb=>hk b hb.1) fun b hb=>⟨Nat.lt_of_lt_of_le hb.1 hs,hb.2⟩⟩;rcases h2 with hn|⟨g,cap,cur,hv,hg,hh,rest⟩
 ·exact .inl hn
 ·exact .inr ⟨g,cap,cur,hv,hg,by rw [hk g (Array.getElem?_eq_some_iff.1 hh).1];exact hh,rest⟩
theorem OwnRows.below (h:OwnRows E e w base v l) (hb:Below B w w') (hB:w.heap.size<=B):OwnRows E e w' base v l:=h.keep (fun b hlt=>hb.block b (by omega)) hb.size
theorem OwnRows.older (h:OwnRows E e w base v l) {base':Nat} (hb:base'<=base):OwnRows E e w base' v l:=by
 obtain ⟨h0,xs,⟨h1,h2⟩,h3⟩:=h;refine ⟨Nat.le_trans hb h0,xs,⟨h1,?_⟩,h3⟩;rcases h2 with hn|⟨g,cap,cur,hv,hg,rest⟩
 ·exact .inl hn
 ·exact .inr ⟨g,cap,cur,hv,Nat.le_trans hb hg,rest⟩
theorem OwnRows.form (h:OwnRows E e w base v l) :
  ∃A cap,v = .slice A l.length cap/\RowsAt E w (Lo w.heap.size) A l/\l.length<=cap/\cap<=maxLen:=by
 obtain ⟨h0,xs,h1,h3⟩:=h;have hc:∀g,v.ownBlock=some g->∀j u,xs[j]? = some u->w.cell? ((⟨g,0,none⟩:Addr).add j)=some u:=fun g hg=>h1.cells hg;rcases h1.2 with ⟨hv,hn⟩|⟨g,cap,cur,hv,hg,hh,hnc,hcm,hcs,ht⟩
 ·have hl:l=[]:=List.eq_nil_of_length_eq_zero hn;subst hl;exact ⟨none,0,hv,RowsAt.nil _ _ _ _,by simp,by simp [maxLen]⟩
 ·refine ⟨_,cap,hv,⟨xs,h3.same (fun _ _=>rfl) (fun b hb=>hb.1),fun _=>⟨g,0,rfl,(Array.getElem?_eq_some_iff.1 hh).1,fun j u hu=>?_⟩⟩,hnc,hcm⟩;have:=hc g (by rw [hv];rfl) j u hu;have e:(⟨g,0,none⟩:Addr).add j=⟨g,0+j,none⟩:=by unfold Addr.add;split <;> simp_all
  rwa [e] at this
theorem OwnRows.oth (h:OwnRows E e w base v l) {b:Nat} (hb:b<base):KH w v b:=⟨Nat.lt_of_lt_of_le hb h.1,fun e=>by have:=(h.block b e).1;omega⟩
def FK (w w':World) (v v':Value):Prop:=∀b,KH w v b->w'.heap[b]? = w.heap[b]?/\v'.ownBlock≠some b
structure ElTB (P:Program) (E:El α) (t e:TypeId) (by_:Nat):Prop where
 under:P.underlying t=some (.slice e)
 info:∃i z,P.info? e=some i/\i.zero=some z/\i.size=E.n/\z.cells.size=E.n/\i.bytes=by_
theorem ElTB.mk' {P:Program} {t e:TypeId} (hu:P.underlying t=some (.slice e)) (z:Value) (n by_:Nat) (hi:(P.info? e).map (fun i=>(i.zero,i.size,i.bytes))=some (some z,n,by_)) (hn:n=E.n) (hz:z.cells.size=n):ElTB P E t e by_:=by
 obtain ⟨i,h,h0,h1,h2⟩:=info_parts hi;exact ⟨hu,i,z,h,h0,h1.trans hn,hz.trans hn,h2⟩
theorem pw {P:Program} (w:World) (base:Nat) (t ty e:TypeId) (i:TypeInfo) (size:Nat) (ht:P.underlying t=some (.slice e)) (hi:P.info? e=some i)
  (v:Value) (n:Nat) (xs:List Value) (hown:w.ownsRow base e size v n xs) (c:Nat):(Builtin.append_ #[t,t] ty #[v,.slice none 0 c]).run P w = .ok v w:=by
 rcases hown.2 with ⟨rfl,rfl⟩|⟨g,cap,cur,rfl,_,_,hnc,_⟩
 ·simp [Builtin.append_,run_underlying ht,sizeOf,typeInfo,hi,Builtin.lenOf,Builtin.firstCells]
 ·simp [Builtin.append_,run_underlying ht,sizeOf,typeInfo,hi,Builtin.lenOf,Builtin.firstCells,hnc,storeCells]
theorem gL (b off j:Nat):(Addr.mk b off none).add j=⟨b,off+j,none⟩:=by
 unfold Addr.add;by_cases h:j=0 <;> simp [h]
theorem Ap {P:Program} {t e:TypeId} {by_:Nat} (T:ElTB P E t e by_) (w:World) (ty:TypeId) (base:Nat) (v:Value) (l ns:List α) (A:Option Addr) (c:Nat) (hown:OwnRows E e w base v l)
  (xs:List Value) (hx:Reps E w (KH w v) ns xs) (hA:0<ns.length->∃b off,A=some ⟨b,off,none⟩/\∀j u,xs[j]? = some u->w.cell? ⟨b,off+j,none⟩=some u) (hl:l.length+ns.length<=maxLen) (hlb:(l.length+ns.length)*by_<=140737488355328) :
  ∃v' w',(Builtin.append_ #[t,t] ty #[v,.slice A ns.length c]).run P w = .ok v' w'/\OwnRows E e w' base v' (l++ns)/\Below base w w'/\FK w w' v v':=by
 obtain ⟨i0,z,hi,hz0,hz1,hz2,hz3⟩:=T.info;obtain ⟨h0,us,h1,h3⟩:=hown;rcases A with _|ad
 ·have hn:ns=[]:=by
   cases ns with
   | nil=>rfl
   | cons a r=>obtain ⟨_,_,h,_⟩:=hA (by simp);cases h
  subst hn;exact ⟨v,w,pw w base t ty e i0 E.n T.under hi v l.length _ h1 c,by simpa using ⟨h0,us,h1,h3⟩,Below.refl _ _,fun b hb=>⟨rfl,hb.2⟩⟩
 ·have hxl:=hx.length;have hcells:∀j u,xs[j]? = some u->w.cell? (ad.add j)=some u:=by
   intro j u hu;rcases Nat.eq_zero_or_pos ns.length with hz|hz
   ·rw [hz,Nat.zero_mul] at hxl;have:xs=[]:=List.eq_nil_of_length_eq_zero hxl;subst this;cases hu
   ·obtain ⟨b,off,h,hc⟩:=hA hz;injection h with h;subst h;rw [gL];exact hc j u hu
  obtain ⟨v',w',hrun,k1,k2,_,k4⟩:=run_append_own_at (P:=P) w base t ty e i0 z E.n i0.bytes T.under hi hz0 hz1 rfl hz2 E.pos v l.length _ h1 ad ns.length c xs
   hxl hcells hx.one hl (by rw [hz3];exact hlb) h0
  have hb:Below base w w':=(Below.refl base w).grown k2 h0 (fun k hk=>(h1.lt k hk).1);have hsp:FK w w' v v':=fun b hb2=>⟨k2.block b hb2.1 (fun e=>hb2.2 e.symm),by
   rcases k4 with e|e
   ·rw [e];exact hb2.2
   ·rw [e];intro h;injection h with h;have:=hb2.1;omega⟩
  have keep:∀{m:List α} {ms:List Value},Reps E w (KH w v) m ms->Reps E w' (KH w' v') m ms:=fun hm =>
   hm.same (fun b hb2=>(hsp b hb2).1) fun b hb2=>⟨Nat.lt_of_lt_of_le hb2.1 hb.size,(hsp b hb2).2⟩
  exact ⟨v',w',hrun,⟨Nat.le_trans h0 hb.size,us++xs,by rw [List.length_append];exact k1,(keep h3).append (keep hx)⟩,hb,hsp⟩
theorem FL {P:Program} {t e:TypeId} {by_:Nat} (T:ElTB P E t e by_) {ops:Array Oper} {rest:List Oper} {o:Oper} {a:Act} {Q:Exit->Act->World->Prop} (hgd:o.guard=none) (s x:Operand)
  (ho:o.op = .call { callee:=.builtin .append,args:=#[s,x],argTypes:=#[t,t] })
  (w:World) (base:Nat) (v:Value) (l ns:List α) (n:Nat) (hn:ns.length=n) (A:Option Addr) (c:Nat) (hs:a.eval s=v) (hown:OwnRows E e w base v l) (hx:a.eval x = .slice A n c) (hr:RowsAt E w (KH w v) A ns) (hl:l.length+n<=maxLen) (hlb:(l.length+n)*by_<=140737488355328)
  (h:∀v' w',OwnRows E e w' base v' (l++ns)->Below base w w'->FK w w' v v'->wpList P ops Q rest (a.put o.dst v') w') :
  wpList P ops Q (o :: rest) a w:=by
 subst hn;refine wpList_plain hgd fun K hK=>?_;obtain ⟨xs,hx1,hx2⟩:=hr;obtain ⟨v',w',hrun,h1,h2,h3⟩:=Ap T w o.type base v l ns A c hown xs hx1 (fun h0=>by
  obtain ⟨b,off,hA,_,hc⟩:=hx2 h0;exact ⟨b,off,hA,hc⟩) hl hlb
 unfold Oper.wp execOp;simp only [ho,resolve,invoke,builtin,Sem.run_bind,Sem.run_pure,Result.andThen_ok,List.map_toArray,List.map_cons,List.map_nil,hs,hx,hrun];exact hK _ _ (h v' w' h1 h2 h3)
theorem OwnRows.made (E:El α) (e:TypeId) (w:World) (base:Nat) (cur:Array Value) (cap:Nat) (hb:base<=w.heap.size) (hm:cap<=maxLen) (hs:cur.size=cap*E.n):OwnRows E e (w.alloc (.cells cur e)) base (.slice (some ⟨w.heap.size,0,none⟩) 0 cap) [] :=
 ⟨by simp;omega,[],World.ownsRow_made w cur cap hb hm hs,rfl⟩
theorem OwnRows.setAll (h:OwnRows E e w base v l) {i:Nat} (hi:i<l.length) {y:α} {cs:List Value} (hy:E.rep w' (KH w' v) y cs) (hs:w'.heap.size=w.heap.size)
  (hk:∀b,KH w v b->w'.heap[b]? = w.heap[b]?) (hrow:∀xs,w.ownsRow base e E.n v l.length xs->w'.ownsRow base e E.n v l.length (xs.take (i*E.n)++cs++xs.drop (i*E.n+E.n))):OwnRows E e w' base v (l.set i y):=by
 obtain ⟨h0,xs,h1,h3⟩:=h;refine ⟨by omega,_,by rw [List.length_set];exact hrow xs h1,Reps.set (h3.same hk fun b hb=>⟨by rw [hs];exact hb.1,hb.2⟩) hy hi⟩
end
def El.plain {α:Type} (n:Nat) (pos:0<n) (f:α->List Value) (len:∀x,(f x).length=n) (one:∀x,∀u∈f x,u.oneCell'=true):El α where
 n:=n
 pos:=pos
 rep:=fun _ _ x cs=>cs=f x
 len:=fun h=>by rw [h];exact len _
 one:=fun h=>by rw [h];exact one _
 same:=fun h _ _=>h
def km:El Int:=El.plain 1 (by decide) (fun x=>[.int .i64 x]) (fun _=>rfl) (by intro x u hu;simp at hu;subst hu;rfl)
def cJ:El Bool:=El.plain 1 (by decide) (fun x=>[.bool x]) (fun _=>rfl) (by intro x u hu;simp at hu;subst hu;rfl)
def xF:El ByteArray:=El.plain 1 (by decide) (fun x=>[.string x]) (fun _=>rfl) (by intro x u hu;simp at hu;subst hu;rfl)
def El.sl {α:Type} (E:El α):El (List α) where
 n:=1
 pos:=by decide
 rep:=fun w S l cs=>∃A cap,cs=[.slice A l.length cap]/\l.length<=cap/\cap<=maxLen/\RowsAt E w S A l
 len:=fun h=>by obtain ⟨A,cap,rfl,_⟩:=h;rfl
 one:=fun h=>by obtain ⟨A,cap,rfl,_⟩:=h;intro u hu;simp at hu;subst hu;rfl
 same:=fun h hk hS=>by
  obtain ⟨A,cap,e,h1,h2,h3⟩:=h;exact ⟨A,cap,e,h1,h2,h3.same hk hS⟩
def Opens {α:Type} (P:Program) (E:El α) (t:TypeId) (fits:α->Prop):Prop :=
 ∀{H:Type} {enc:TypeId×Value->H} {w:World} {base:Nat} {spare:Nat->Bool} {held:Bool} {fuel:Nat} {cs:List Value} {x:DataW H×List MemPlace},DataW.trod enc P w base spare held fuel t cs=some x->∃y,E.rep w (Lo w.heap.size) y cs/\fits y
theorem Qa {n:Int} (h:(Lit.int .i64 n).wf=true) : -9223372036854775808<=n/\n<=9223372036854775807:=by
 have:=bounds_i64 h;omega
def T9 (n:Int):Prop:=-9223372036854775808<=n/\n<=9223372036854775807
theorem I7 {P:Program} {t:TypeId} (ht:P.underlying t=some (.int .i64)):Opens P km t T9:=by
 intro H enc w base spare held fuel cs x h;obtain ⟨n,e,_,hw⟩:=DataW.trod_int ht h;exact ⟨n,e,Qa hw⟩
theorem FM {w:World} {a:Addr} {v:Value} (h:w.cell? (a.add 0)=some v):∃b off,a=⟨b,off,none⟩:=by
 obtain ⟨b,off,spot⟩:=a;have hspot:spot=none:=by simpa [Addr.add] using World.cell?_spot h
 subst hspot;exact ⟨b,off,rfl⟩
theorem Hd {α:Type} {E:El α} {w:World} {S:Nat->Prop} {fits:α->Prop} {b:Nat}:∀(n off:Nat),(∀i,i<n->∃y cs,E.rep w S y cs/\fits y/\∀j u,cs[j]? = some u->w.cell? ⟨b,off+i*E.n+j,none⟩=some u)->
  ∃l xs,l.length=n/\Reps E w S l xs/\(∀y∈l,fits y)/\∀j u,xs[j]? = some u->w.cell? ⟨b,off+j,none⟩=some u
 | 0,off,_=>⟨[],[],rfl,rfl,by simp,by simp⟩
 | n+1,off,h=>by
  obtain ⟨y,cs,h1,h2,h3⟩:=h 0 (by omega);obtain ⟨l,xs,k1,k2,k3,k4⟩:=Hd (E:=E) (fits:=fits) n (off+E.n) (fun i hi=>by
   obtain ⟨y,cs,h1,h2,h3⟩:=h (i+1) (by omega);exact ⟨y,cs,h1,h2,fun j u hu=>by have:=h3 j u hu;rwa [Nat.add_mul,Nat.one_mul,show off+(i*E.n+E.n)+j=off+E.n+i*E.n+j by omega] at this⟩)
  refine ⟨y :: l,cs++xs,by simp [k1],⟨cs,xs,rfl,h1,k2⟩,?_,?_⟩
  ·intro z hz;rcases List.mem_cons.1 hz with rfl|hz
   ·exact h2
   ·exact k3 z hz
  ·intro j u hu;have hl:=E.len h1;rcases Nat.lt_or_ge j E.n with hj|hj
   ·rw [List.getElem?_append_left (by omega)] at hu;have:=h3 j u hu
    rwa [Nat.zero_mul,Nat.add_zero] at this
   ·rw [List.getElem?_append_right (by omega),hl] at hu;have:=k4 _ u hu
    rwa [show off+E.n+(j-E.n)=off+j by omega] at this
theorem Opens.sl {α:Type} {P:Program} {E:El α} {t e:TypeId} {fits:α->Prop} (ho:Opens P E e fits) (ht:P.underlying t=some (.slice e)) (hC:P.cellsOf e=E.n):Opens P E.sl t (fun l=>l.length<=maxLen/\∀y∈l,fits y):=by
 intro H enc w base spare held fuel cs x h;rcases open_slice ht h with ⟨rfl,_⟩|⟨a,len,cap,m,n,D,Pl,rfl,hb,hl,hm,hmm,_,hi⟩
 ·exact ⟨[],⟨none,0,rfl,by simp,by simp [maxLen],RowsAt.nil _ _ _ _⟩,by simp [maxLen],by simp⟩
 ·have hml:len<=m:=by rw [hmm];split <;> omega
  rcases Nat.eq_zero_or_pos len with h0|h0
  ·subst h0;exact ⟨[],⟨some a,cap,rfl,by simp,hm,RowsAt.nil _ _ _ _⟩,by simp [maxLen],by simp⟩
  ·have hplain:∃b off,a=⟨b,off,none⟩:=by
    obtain ⟨cs',hc,_⟩:=hi 0 (by omega);obtain ⟨_,hcl,hat⟩:=World.cells?_some hc;have hp:=E.pos;have h1:=hat 0 (by omega);rw [Nat.zero_mul,qGg (by omega)] at h1;have e0:(a.add 0).add 0=a.add 0:=by rw [Go.Deep.add_add]
    rw [e0] at h1;exact FM h1
   obtain ⟨b,off,rfl⟩:=hplain;have hel:∀i,i<len->∃y cs,E.rep w (Lo w.heap.size) y cs/\fits y/\∀j u,cs[j]? = some u->w.cell? ⟨b,off+i*E.n+j,none⟩=some u:=by
    intro i hil;obtain ⟨cs',hc,hd⟩:=hi i (by omega);obtain ⟨y,hy,hf⟩:=ho hd;obtain ⟨_,hcl,hat⟩:=World.cells?_some hc;refine ⟨y,cs',hy,hf,fun j u hu=>?_⟩;have hj:j<cs'.length:=(List.getElem?_eq_some_iff.1 hu).1;have h1:=hat j (by omega);rw [hu,gL,gL,hC] at h1;exact h1
   obtain ⟨l,xs,k1,k2,k3,k4⟩:=Hd len off hel;subst k1;refine ⟨l,⟨_,cap,rfl,hl,hm,xs,k2,fun _=>⟨b,off,rfl,?_,k4⟩⟩,by omega,k3⟩;have hxl:=k2.length;have hp:=E.pos;have:0<xs.length:=by rw [hxl];exact Nat.mul_pos h0 hp
   exact World.block_lt_of_cell? w _ (k4 0 _ (qGg this))
end
def uL (w:World) (v:Value) (e:Ending) (w':World):Prop:=e = .returned v/\Below w.heap.size w w'
def Db (w:World) (v:Value) (e:Ending) (w':World):Prop:=e = .returned v/\w'=w
theorem bp {a b:Bool} (h:a=b):Ending.returned (.bool a) = .returned (.bool b):=by rw [h]
theorem nN {k:IntKind} {a b:Int} (h:a=b):Ending.returned (.int k a) = .returned (.int k b):=by rw [h]
def BI {α:Type} (E:El α) (t:TypeId) (w:World) (l:List α) (e:Ending) (w':World):Prop:=∃v,e = .returned v/\OwnRows E t w' w.heap.size v l/\Below w.heap.size w w'
end Go.Proofs.YthpgjkjgkhjjlaaGreatDoor
