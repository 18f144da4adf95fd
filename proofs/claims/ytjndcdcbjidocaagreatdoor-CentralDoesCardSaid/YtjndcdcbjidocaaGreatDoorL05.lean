/- Part 5 of 33 of the proof of centralDoes_holds (no condition). -/
import Derived.Test.YtjndcdcbjidocaaGreatDoorL04
import Derived.KernelRfl
import Derived.IntWalk
import Derived.Laws.MakeOwn
set_option linter.unusedVariables false
set_option linter.unusedSimpArgs false
set_option maxRecDepth 100000
set_option maxHeartbeats 64000000
namespace Go.Proofs.YtjndcdcbjidocaaGreatDoor
open Go.RowKit
def D.ren (q:Nat→Nat):D→D
 | .own k=>.own (q k)
 | .slb k n=>.slb (q k) n
 | .ptr k off=>.ptr (q k) off
 | .optr k m i off=>.optr (q k) m i off
 | .ocut k=>.ocut (q k)
 | .osl k m lo hi fl=>.osl (q k) m lo hi fl
 | .clo f ks=>.clo f (ks.map q)
 | d=>d
def V0.ren (q:Nat→Nat):V0→V0
 | .one d=>.one (d.ren q)
 | .ag l=>.ag (l.map (D.ren q))
def TV.ren (q:Nat→Nat):TV→TV
 | .v x=>.v (x.ren q)
 | .tup l=>.tup (l.map (V0.ren q))
def Box.ren (q:Nat→Nat):Box→Box
 | .box t cs=>.box t (cs.map (D.ren q))
 | .it k n l=>.it (q k) n l
 | b=>b
section
variable {w:World} {F:Nat→Prop} {ρ ρ':Nat→Value} {q:Nat→Nat}
theorem D.rep_ren {d:D} {v:Value} (hq:∀k,d.has k=true→ρ' k=ρ (q k)):(d.ren q).rep w F ρ v↔d.rep w F ρ' v:=by
 cases d with
 | clo f ks =>
  have hm:∀k,k∈ks→ρ' k=ρ (q k):=fun k hk=>hq k (by simp only [D.has];exact List.any_eq_true.2 ⟨k,hk,Nat.beq_refl k⟩);constructor
  ·rintro ⟨vs,e,h⟩;exact ⟨vs,e,(All2.mapL.1 h).imp fun k u hk (hu:u=ρ (q k))=>hu.trans (hm k hk).symm⟩
  ·rintro ⟨vs,e,h⟩;exact ⟨vs,e,All2.mapL.2 (h.imp fun k u hk (hu:u=ρ' k)=>hu.trans (hm k hk))⟩
 | _=>first|exact Iff.rfl|(simp only [D.ren,D.rep];rw [hq _ (by simp [D.has])])
theorem V0.rep_ren {d:V0} {v:Value} (hq:∀k,d.has k=true→ρ' k=ρ (q k)):(d.ren q).rep w F ρ v↔d.rep w F ρ' v:=by
 cases d with
 | one d=>exact D.rep_ren hq
 | ag l =>
  constructor
  ·rintro ⟨cs,e,h⟩;exact ⟨cs,e,(All2.mapL.1 h).imp fun d u hd h1=>(D.rep_ren fun k hk=>hq k (by simp only [V0.has];exact List.any_eq_true.2 ⟨d,hd,hk⟩)).1 h1⟩
  ·rintro ⟨cs,e,h⟩;exact ⟨cs,e,All2.mapL.2 (h.imp fun d u hd h1=>(D.rep_ren fun k hk=>hq k (by simp only [V0.has];exact List.any_eq_true.2 ⟨d,hd,hk⟩)).2 h1)⟩
theorem TV.rep_ren {d:TV} {v:Value} (hq:∀k,d.has k=true→ρ' k=ρ (q k)):(d.ren q).rep w F ρ v↔d.rep w F ρ' v:=by
 cases d with
 | v d=>exact V0.rep_ren hq
 | tup l =>
  constructor
  ·rintro ⟨cs,e,h⟩;exact ⟨cs,e,(All2.mapL.1 h).imp fun d u hd h1=>(V0.rep_ren fun k hk=>hq k (by simp only [TV.has];exact List.any_eq_true.2 ⟨d,hd,hk⟩)).1 h1⟩
  ·rintro ⟨cs,e,h⟩;exact ⟨cs,e,All2.mapL.2 (h.imp fun d u hd h1=>(V0.rep_ren fun k hk=>hq k (by simp only [TV.has];exact List.any_eq_true.2 ⟨d,hd,hk⟩)).2 h1)⟩
theorem Box.rep_ren {d:Box} {v:Value} (hq:∀k,d.has k=true→ρ' k=ρ (q k)):(d.ren q).rep w F ρ v↔d.rep w F ρ' v:=by
 cases d with
 | box t cs =>
  constructor
  ·rintro ⟨g,vs,e,hb,h,h1⟩;exact ⟨g,vs,e,hb,(All2.mapL.1 h).imp fun d u hd h1=>(D.rep_ren fun k hk=>hq k (by simp only [Box.has];exact List.any_eq_true.2 ⟨d,hd,hk⟩)).1 h1,h1⟩
  ·rintro ⟨g,vs,e,hb,h,h1⟩;exact ⟨g,vs,e,hb,All2.mapL.2 (h.imp fun d u hd h1=>(D.rep_ren fun k hk=>hq k (by simp only [Box.has];exact List.any_eq_true.2 ⟨d,hd,hk⟩)).2 h1),h1⟩
 | arr e E l=>exact Iff.rfl
 | mp l=>exact Iff.rfl
 | it k n l=>simp only [Box.ren,Box.rep];rw [hq k (by simp [Box.has])]
end
inductive DLe (s:Mst) (q:Nat→Nat) (gone:Nat→Prop):D→D→Prop
 | any (d0:D):DLe s q gone d0 .any
 | ren (d:D):DLe s q gone (d.ren q) d
 | nil {α:Type} (E:El α):DLe s q gone (.sc (.slice none 0 0)) (.sl E [])
 | full {α:Type} (E:El α) (l:List α):DLe s q gone (.full E l) (.sl E l)
 | froz {α:Type} (e:TypeId) (E:El α) (l:List α) (k:Nat) (hk:s.h k=some (.arr e E l)) (hg:gone k):DLe s q gone (.own k) (.sl E l)
 | frozc {α:Type} (e:TypeId) (E:El α) (l:List α) (k:Nat) (hk:s.h k=some (.arr e E l)) (hg:gone k):DLe s q gone (.ocut k) (.sl E l)
 | ocut {α:Type} (e:TypeId) (E:El α) (l:List α) (k:Nat) (hk:s.h (q k)=some (.arr e E l)):DLe s q gone (.own (q k)) (.ocut k)
inductive V0Le (s:Mst) (q:Nat→Nat) (gone:Nat→Prop):V0→V0→Prop
 | one {d0 d:D} (h:DLe s q gone d0 d):V0Le s q gone (.one d0) (.one d)
 | ag {l0 l:List D} (h:All2 (DLe s q gone) l0 l):V0Le s q gone (.ag l0) (.ag l)
 | any (x:V0):V0Le s q gone x (.one .any)
inductive TVLe (s:Mst) (q:Nat→Nat) (gone:Nat→Prop):TV→TV→Prop
 | v {d0 d:V0} (h:V0Le s q gone d0 d):TVLe s q gone (.v d0) (.v d)
 | tup {l0 l:List V0} (h:All2 (V0Le s q gone) l0 l):TVLe s q gone (.tup l0) (.tup l)
 | any (x:TV):TVLe s q gone x (.c .any)
inductive BoxLe (s:Mst) (q:Nat→Nat) (gone:Nat→Prop):Box→Box→Prop
 | box (t:TypeId) {l0 l:List D} (h:All2 (DLe s q gone) l0 l):BoxLe s q gone (.box t l0) (.box t l)
 | arr {α:Type} (e:TypeId) (E:El α) (l:List α):BoxLe s q gone (.arr e E l) (.arr e E l)
 | mp (l:List (Value×Value)):BoxLe s q gone (.mp l) (.mp l)
 | it (k n:Nat) (l:List Nat):BoxLe s q gone (.it (q k) n l) (.it k n l)
theorem yu {w:World} {c:Ctx} {h h':Nat→Option Box} {ρ ρ':Nat→Value} {α:Type} {e:TypeId} {E:El α} {l:List α} {v:Value} {s:Mst} {a:Act} (hr:Rp c s ρ a w) {k:Nat} (hk:s.h k=some (.arr e E l)) (hv:(D.ocut k).rep w (Fz c s.h ρ w) ρ v) (hF:∀b,Fz c s.h ρ w b→Fz c h' ρ' w b) (hg:∀g,kb (ρ k)=some g→Fz c h' ρ' w g):(D.sl E l).rep w (Fz c h' ρ' w) ρ' v:=by
 obtain ⟨A0,n0,cap0,c0,hρ0,hc0,rfl⟩:=hv;obtain ⟨A,cap,hA,hc,hp⟩:=eC (hr.hp k _ hk);have hA':=hA;rw [hρ0] at hA';injection hA' with e1 e2 e3;subst e1;subst e2;subst e3;refine ⟨A0,c0,rfl,⟨hc0.1,Nat.le_trans hc0.2 hc.2⟩,?_⟩;rcases Nat.eq_zero_or_pos l.length with h0|h0
 ·obtain rfl:l=[]:=List.eq_nil_of_length_eq_zero h0;exact RowsAt.nil _ _ _ _
 ·obtain ⟨g,xs,rfl,_,h3,h4,_⟩:=hp h0;exact ⟨xs,h3.same (fun _ _=>rfl) hF,fun _=>⟨g,0,rfl,hg g (by rw [hA];rfl),fun j u hu=>by rw [Nat.zero_add];exact h4 j u hu⟩⟩
theorem ny {w:World} {c:Ctx} {ρ:Nat→Value} {α:Type} {e:TypeId} {E:El α} {l:List α} {s:Mst} {a:Act} (hr:Rp c s ρ a w) {k:Nat} (hk:s.h k=some (.arr e E l)) {F:Nat→Prop} {v:Value} (hv:v=ρ k):(D.ocut k).rep w F ρ v:=by
 obtain ⟨A,cap,hA,hc,_⟩:=eC (hr.hp k _ hk);exact ⟨A,l.length,cap,cap,hA,⟨hc.1,Nat.le_refl _⟩,hv.trans hA⟩
structure Part (s:Mst) (q:Nat→Nat) (h2:Nat→Option Box):Prop where
 inj:∀k k',h2 k≠none→h2 k'≠none→q k=q k'→k=k'
 le:∀k b,h2 k=some b→∃b0,s.h (q k)=some b0∧BoxLe s q (fun j=>∀k,h2 k≠none→q k≠j) b0 b
section
variable {c:Ctx} {s:Mst} {ρ:Nat→Value} {a:Act} {w:World} {q:Nat→Nat} {h2:Nat→Option Box}
theorem Part.fz (p:Part s q h2):∀b,Fz c s.h ρ w b→Fz c h2 (fun k=>ρ (q k)) w b:=fun b ⟨f1,f2,f3⟩=>⟨f1,f2,fun k bx hk=>by obtain ⟨b0,h1,_⟩:=p.le k bx hk;exact f3 _ b0 h1⟩
theorem Part.d (p:Part s q h2) (hr:Rp c s ρ a w) {d0 d:D} {v:Value} (hle:DLe s q (fun j=>∀k,h2 k≠none→q k≠j) d0 d) (hd:d0.rep w (Fz c s.h ρ w) ρ v):d.rep w (Fz c h2 (fun k=>ρ (q k)) w) (fun k=>ρ (q k)) v:=by
 cases hle with
 | any=>trivial
 | ren=>exact ((D.rep_ren (ρ':=fun k=>ρ (q k)) fun _ _=>rfl).1 hd).mono (fun b hb=>⟨p.fz b hb,rfl⟩) fun _ _=>rfl
 | nil E=>exact ⟨none,0,hd,by simp [maxLen],RowsAt.nil _ _ _ _⟩
 | full E l=>obtain ⟨A,h1,h2,h3⟩:=hd;exact ⟨A,_,h1,⟨Nat.le_refl _,h2⟩,h3.mono p.fz⟩
 | froz e E l k hk hg =>
  exact yu (h:=s.h) hr hk (ny hr hk hd) p.fz fun g hkb=>⟨(hr.inb k _ g hk hkb).imp (c.hX g) id,hr.ltb hk hkb,fun k' bx hk' he=>by obtain ⟨b0,h1,_⟩:=p.le k' bx hk';exact hg k' (by rw [hk'];simp) (hr.dis _ _ b0 _ g h1 hk he hkb)⟩
 | frozc e E l k hk hg =>
  exact yu (h:=s.h) hr hk hd p.fz fun g hkb=>⟨(hr.inb k _ g hk hkb).imp (c.hX g) id,hr.ltb hk hkb,fun k' bx hk' he=>by obtain ⟨b0,h1,_⟩:=p.le k' bx hk';exact hg k' (by rw [hk'];simp) (hr.dis _ _ b0 _ g h1 hk he hkb)⟩
 | ocut e E l k hk=>exact ny (F:=Fz c h2 (fun k=>ρ (q k)) w) hr hk hd
theorem Part.l (p:Part s q h2) (hr:Rp c s ρ a w):∀{l0 l:List D} {cs:List Value},All2 (DLe s q (fun j=>∀k,h2 k≠none→q k≠j)) l0 l→All2 (D.rep w (Fz c s.h ρ w) ρ) l0 cs→All2 (D.rep w (Fz c h2 (fun k=>ρ (q k)) w) (fun k=>ρ (q k))) l cs
 | [],[],[],_,_=>trivial
 | _ :: _,_ :: _,_ :: _,h,k=>⟨p.d hr h.1 k.1,p.l hr h.2 k.2⟩
 | [],_ :: _,_,h,_=>h.elim
 | _ :: _,[],_,h,_=>h.elim
 | [],[],_ :: _,_,k=>k.elim
 | _ :: _,_ :: _,[],_,k=>k.elim
theorem Part.v0 (p:Part s q h2) (hr:Rp c s ρ a w) {d0 d:V0} {v:Value} (hle:V0Le s q (fun j=>∀k,h2 k≠none→q k≠j) d0 d) (hd:d0.rep w (Fz c s.h ρ w) ρ v):d.rep w (Fz c h2 (fun k=>ρ (q k)) w) (fun k=>ρ (q k)) v:=by
 cases hle with
 | one h=>exact p.d hr h hd
 | ag h=>obtain ⟨cs,e,h2⟩:=hd;exact ⟨cs,e,p.l hr h h2⟩
 | any=>trivial
theorem Part.l0 (p:Part s q h2) (hr:Rp c s ρ a w):∀{l0 l:List V0} {cs:List Value},All2 (V0Le s q (fun j=>∀k,h2 k≠none→q k≠j)) l0 l→All2 (V0.rep w (Fz c s.h ρ w) ρ) l0 cs→All2 (V0.rep w (Fz c h2 (fun k=>ρ (q k)) w) (fun k=>ρ (q k))) l cs
 | [],[],[],_,_=>trivial
 | _ :: _,_ :: _,_ :: _,h,k=>⟨p.v0 hr h.1 k.1,p.l0 hr h.2 k.2⟩
 | [],_ :: _,_,h,_=>h.elim
 | _ :: _,[],_,h,_=>h.elim
 | [],[],_ :: _,_,k=>k.elim
 | _ :: _,_ :: _,[],_,k=>k.elim
theorem Part.tv (p:Part s q h2) (hr:Rp c s ρ a w) {d0 d:TV} {v:Value} (hle:TVLe s q (fun j=>∀k,h2 k≠none→q k≠j) d0 d) (hd:d0.rep w (Fz c s.h ρ w) ρ v):d.rep w (Fz c h2 (fun k=>ρ (q k)) w) (fun k=>ρ (q k)) v:=by
 cases hle with
 | v h=>exact p.v0 hr h hd
 | tup h=>obtain ⟨vs,e,h3⟩:=hd;exact ⟨vs,e,p.l0 hr h h3⟩
 | any=>trivial
theorem Rp.weak {s':Mst} (hr:Rp c s ρ a w) (p:Part s q s'.h) (hq:∀k,k∈c.K→q k=k∧s'.f k=false) (hwf:s'.Wf)
  (ht:∀t,TVLe s q (fun j=>∀k,s'.h k≠none→q k≠j) (s.t t) (s'.t t)):Rp c s' (fun k=>ρ (q k)) a w where
 dfr:=hr.dfr
 siz:=hr.siz
 frm:=hr.frm
 tmp:=fun t=>p.tv hr (ht t) (hr.tmp t)
 hp:=fun k b hk=>by
  obtain ⟨b0,h1,h2⟩:=p.le k b hk;have h3:=hr.hp _ _ h1;cases h2 with
  | box t h=>obtain ⟨g,vs,e,hb,h4,h5⟩:=h3;exact ⟨g,vs,e,hb,p.l hr h h4,h5⟩
  | arr e E l=>obtain ⟨xs,h4,h5⟩:=h3;exact ⟨xs,h4,h5.same (fun _ _=>rfl) p.fz⟩
  | mp l=>exact h3
  | it k n l=>exact h3
 inb:=fun k b g hk hg=>by
  obtain ⟨b0,h1,_⟩:=p.le k b hk;exact hr.inb _ b0 g h1 hg
 dis:=fun k k' b b' g hk hk' hg hg'=>by
  obtain ⟨b0,h1,_⟩:=p.le k b hk;obtain ⟨b0',h1',_⟩:=p.le k' b' hk';exact p.inj k k' (by rw [hk];simp) (by rw [hk'];simp) (hr.dis _ _ b0 b0' g h1 h1' hg hg')
 ent:=fun k hk=>⟨by show ρ (q k)=c.ρ0 k;rw [(hq k hk).1];exact (hr.ent k hk).1,(hq k hk).2⟩
 wf:=hwf
end
def D.keys:D→List Nat
 | .own k | .slb k _ | .ptr k _ | .optr k _ _ _ | .ocut k | .osl k _ _ _ _=>[k]
 | .clo _ ks=>ks
 | _=>[]
def Jo (U:List Nat) (l:List Nat):Bool:=l.all (aK U)
def D.in_ (U:List Nat) (d:D):Bool:=Jo U d.keys
def V0.in_ (U:List Nat):V0→Bool
 | .one d=>d.in_ U
 | .ag l=>l.all (D.in_ U)
def TV.in_ (U:List Nat):TV→Bool
 | .v x=>x.in_ U
 | .tup l=>l.all (V0.in_ U)
def Box.in_ (U:List Nat):Box→Bool
 | .box _ cs=>cs.all (D.in_ U)
 | .arr ..=>true
 | .mp _=>true
 | .it k _ _=>aK U k
section
variable {U:List Nat} {k:Nat}
theorem D.in_has {d:D} (h:d.in_ U=true) (hk:d.has k=true):aK U k=true:=by
 cases d with
 | clo f ks =>
  have hk:ks.any (fun j=>j.beq k)=true:=hk;obtain ⟨j,hj,he⟩:=List.any_eq_true.1 hk;rw [←Nat.eq_of_beq_eq_true he];have h:ks.all (aK U)=true:=h;exact List.all_eq_true.1 h j hj
 | _=>simp [D.has] at hk <;> (subst hk;simpa [D.in_,D.keys,Jo] using h)
theorem V0.in_has {d:V0} (h:d.in_ U=true) (hk:d.has k=true):aK U k=true:=by
 cases d with
 | one d=>exact D.in_has (d:=d) h hk
 | ag l=>obtain ⟨d,h1,h2⟩:=List.any_eq_true.1 hk;exact D.in_has (List.all_eq_true.1 h d h1) h2
theorem TV.in_has {d:TV} (h:d.in_ U=true) (hk:d.has k=true):aK U k=true:=by
 cases d with
 | v d=>exact V0.in_has (d:=d) h hk
 | tup l=>obtain ⟨d,h1,h2⟩:=List.any_eq_true.1 hk;exact V0.in_has (List.all_eq_true.1 h d h1) h2
theorem Box.in_has {d:Box} (h:d.in_ U=true) (hk:d.has k=true):aK U k=true:=by
 cases d with
 | box t cs=>obtain ⟨d,h1,h2⟩:=List.any_eq_true.1 hk;exact D.in_has (List.all_eq_true.1 h d h1) h2
 | arr e E l=>simp [Box.has] at hk
 | mp l=>simp [Box.has] at hk
 | it j n l=>simp only [Box.has] at hk;rw [←Nat.eq_of_beq_eq_true hk];exact h
end
def dU:List (Nat×Box)→Nat→Option Box
 | [],_=>none
 | (k,b) :: r,n=>bif k.beq n then some b else dU r n
def av {α:Type _} (l:List (Nat×α)):List Nat:=l.map (·.1)
def eD:List Nat→Bool
 | []=>true
 | k :: r=>!aK r k && eD r
def Bb (args:List V0) (hin:List (Nat×Box)) (us:List Nat) (res:TV) (hout:List (Nat×Option Box)):Bool :=
 args.all (V0.in_ (av hin)) && hin.all (fun x=>x.2.in_ (av hin)) && Jo (av hout) (av hin) && Jo (av hin++us) (av hout) && us.all (fun k=>!aK (av hin) k && aK (av hout) k) &&
 res.in_ (av hin++us) && hout.all (fun x=>match x.2 with|none=>true|some b=>b.in_ (av hin++us))
def el (q:Nat→Nat) (l:List (Nat×Option Box)):List (Nat×Option Box):=l.map fun x=>(q x.1,x.2.map (Box.ren q))
structure FSpec (P:Program) (f:FuncId) (args:List V0) (hin:List (Nat×Box)) (us:List Nat) (res:TV) (hout:List (Nat×Option Box)):Prop where
 en:∀(vs:Array Value) (w:World),(callFunc f vs).run P w = .ok (.enter f vs) w
 ca:∀(q:Nat→Nat) (c:Ctx) (st:Mst) (ρ:Nat→Value) (a:Act) (w:World) (vs:List Value),Rp c st ρ a w→
  (∀k k',aK (av hin++us) k=true→aK (av hin++us) k'=true→q k=q k'→k=k')→
  All2 (fun d v=>(V0.ren q d).rep w (Fz c st.h ρ w) ρ v) args vs→
  (∀k b,dU hin k=some b→st.h (q k)=some (b.ren q))→(∀k,aK us k=true→st.f (q k)=true)→
  Calls P f vs.toArray w fun e w'=>∃v,e = .returned v∧∀dst:Option Nat,(∀d,dst=some d→d<c.nt)→∃ρ',Rp c (st.app dst ⟨res.ren q,el q hout,us.map q⟩) ρ' (a.put dst v) w'
inductive RV (P:Program) (s:Mst):ResultVar→V0→Prop
 | tmp {t:Nat} {x:V0} (h:s.t t = .v x):RV P s (.tmp t) x
 | row {t ty k n:Nat} {tb:TypeId} {cs:List D} (h:s.t t = .c (.ptr k 0)) (hk:s.h k=some (.box tb cs)) [I:TI P ty true n] (hn:cs.length=n):RV P s (.cell t ty) (.ag cs)
 | one {t ty k n:Nat} {tb:TypeId} {y:D} {cs:List D} (h:s.t t = .c (.ptr k 0)) (hk:s.h k=some (.box tb (y :: cs))) [I:TI P ty false n]:RV P s (.cell t ty) (.one y)
def H5:List V0→TV
 | [x]=>.v x
 | l=>.tup l
def tu (tmps:Array Value):ResultVar→Sem Value
 | .tmp t=>pure (tmps.getD t undef)
 | .cell a t=>do loadVar t (←asAddr (tmps.getD a undef))
theorem yv (fn:Func) (tmps:Array Value):results fn tmps=(do let vs ←fn.results.mapM (tu tmps);pure (if h:vs.size=1 then vs[0] else .tuple vs)):=by
 unfold results;congr 1
theorem sK {P:Program} {c:Ctx} {s:Mst} {ρ:Nat→Value} {a:Act} {w:World} (hr:Rp c s ρ a w) {r:ResultVar} {x:V0} (h:RV P s r x) :
  ∃v,(tu a.tmps r).run P w = .ok v w∧x.rep w (Fz c s.h ρ w) ρ v:=by
 cases h with
 | @tmp t x h=>exact ⟨_,rfl,by have:=hr.tmp t;rw [h] at this;exact this⟩
 | @row t ty k n tb cs h hk I hn =>
  have h1:=hr.tmp t;rw [h] at h1;obtain ⟨g,hg,hv⟩:=h1;obtain ⟨vs,hB,hA,h1c⟩:=hr.box hk hg;refine ⟨.agg vs.toArray,?_,vs,rfl,hA⟩;have h2:=nv (P:=P) (t:=ty) (g:=g) (p:=0) w vs (fun j u hu=>by rw [Nat.zero_add];exact hB.cellx j (by simpa using hu)) (by rw [←hA.length,hn]);simp only [Instr.loadAt,Instr.sureAddr,Sem.run_bind,Sem.run_pure,Result.andThen_ok] at h2;simp only [tu,hv,asAddr,Sem.run_bind,Sem.run_pure,Result.andThen_ok,h2]
 | @one t ty k n tb y cs h hk I =>
  have h1:=hr.tmp t;rw [h] at h1;obtain ⟨g,hg,hv⟩:=h1;obtain ⟨vs,hB,hA,h1c⟩:=hr.box hk hg;obtain ⟨u,hu,hrep⟩:=hA.get (i:=0) (a:=y) rfl;refine ⟨u,?_,hrep⟩;have h2:=nx (P:=P) (t:=ty) (g:=g) (p:=0) w u (hB.cellx 0 (by simpa using hu));simp only [Instr.loadAt,Instr.sureAddr,Sem.run_bind,Sem.run_pure,Result.andThen_ok] at h2;simp only [tu,hv,asAddr,Sem.run_bind,Sem.run_pure,Result.andThen_ok,h2]
theorem wu {P:Program} {c:Ctx} {s:Mst} {ρ:Nat→Value} {a:Act} {w:World} (hr:Rp c s ρ a w) {fn:Func} {xs:List V0} (h:All2 (RV P s) fn.results.toList xs):∃v,(results fn a.tmps).run P w = .ok v w∧(H5 xs).rep w (Fz c s.h ρ w) ρ v:=by
 have key:∀(rs:List ResultVar) (xs:List V0),All2 (RV P s) rs xs→∃vs:List Value,(rs.mapM (tu a.tmps)).run P w = .ok vs w∧All2 (V0.rep w (Fz c s.h ρ w) ρ) xs vs:=by
  intro rs;induction rs with
  | nil=>intro xs h;cases xs with
   | nil=>exact ⟨[],rfl,trivial⟩
   | cons=>exact h.elim
  | cons r rs ih =>
   intro xs h;cases xs with
   | nil=>exact h.elim
   | cons x xs =>
    obtain ⟨v,h1,h2⟩:=sK hr h.1;obtain ⟨vs,h3,h4⟩:=ih xs h.2;refine ⟨v :: vs,?_,h2,h4⟩;simp only [List.mapM_cons,Sem.run_bind,h1,Result.andThen_ok,h3,Sem.run_pure]
 obtain ⟨vs,h1,h2⟩:=key _ _ h;have hm:(fn.results.mapM (tu a.tmps)).run P w = .ok vs.toArray w:=by
  rw [Array.mapM_eq_mapM_toList,map_eq_pure_bind];simp only [Sem.run_bind,h1,Result.andThen_ok,Sem.run_pure]
 have hl:=h2.length;rw [yv];simp only [Sem.run_bind,hm,Result.andThen_ok,Sem.run_pure]
 match xs,vs,h2 with
 | [x],[v],h2=>exact ⟨v,rfl,h2.1⟩
 | [],[],_=>exact ⟨_,rfl,[],rfl,trivial⟩
 | x :: y :: xs,v :: u :: vs,h2=>exact ⟨_,rfl,v :: u :: vs,by simp,h2⟩
def KJ (args:List V0) (hin:List (Nat×Box)):Mst :=
 { t:=fun i=>match args[i]? with|some x=>.v x|none=>.c .any,h:=dU hin,f:=fun k=>!aK (av hin) k }
def vN (P:Program) (fn:Func) (hin:List (Nat×Box)) (res:TV) (hout:List (Nat×Option Box)) (e:Exit) (s:Mst):Prop :=
 (e = .normal∨e = .ret)∧∃xs p,All2 (RV P s) fn.results.toList xs∧(∀k,aK (av hin) k=true→p k=k)∧Part s p (hput hout fun _=>none)∧TVLe s p (fun j=>∀k,hput hout (fun _=>none) k≠none→p k≠j) (H5 xs) res
section
variable {P:Program}
theorem bC:∀{l:List Nat} {k:Nat},aK l k=true↔k∈l
 | [],k=>by simp [aK]
 | x :: l,k=>by
  simp only [aK,Bool.or_eq_true,List.mem_cons,bC (l:=l)];constructor
  ·rintro (h|h)
   ·exact .inl (Nat.eq_of_beq_eq_true h).symm
   ·exact .inr h
  ·rintro (rfl|h)
   ·exact .inl (Nat.beq_refl k)
   ·exact .inr h
theorem cO {hin:List (Nat×Box)} {k:Nat} {b:Box} (h:dU hin k=some b):aK (av hin) k=true∧(k,b)∈hin:=by
 induction hin with
 | nil=>cases h
 | cons x r ih =>
  obtain ⟨j,c⟩:=x;simp only [dU] at h;cases hj:j.beq k with
  | true =>
   rw [hj] at h;injection h with h;subst h;have:=Nat.eq_of_beq_eq_true hj;subst this;exact ⟨by simp [av,aK],by simp⟩
  | false =>
   rw [hj] at h;obtain ⟨h1,h2⟩:=ih h;exact ⟨by simp only [av,List.map_cons,aK,Bool.or_eq_true];exact .inr h1,by simp [h2]⟩
theorem Bc {hin:List (Nat×Box)} {k:Nat} (h:aK (av hin) k=true):∃b,dU hin k=some b:=by
 induction hin with
 | nil=>simp [av,aK] at h
 | cons x r ih =>
  obtain ⟨j,c⟩:=x;simp only [dU];cases hj:j.beq k with
  | true=>exact ⟨c,rfl⟩
  | false =>
   simp only [av,List.map_cons,aK,hj,Bool.false_or] at h;exact ih h
theorem iY {l:List (Nat×Option Box)} {k:Nat}:aA l k=aK (av l) k:=by
 induction l with
 | nil=>rfl
 | cons x r ih=>simp only [aA,av,List.map_cons,aK,ih]
theorem nz {l:List (Nat×Option Box)} {k:Nat} {b:Box} (h:hput l (fun _=>none) k=some b):(k,some b)∈l:=by
 induction l with
 | nil=>cases h
 | cons x r ih =>
  obtain ⟨j,c⟩:=x;simp only [hput] at h;cases hj:j.beq k with
  | true =>
   rw [hj] at h;have:=Nat.eq_of_beq_eq_true hj;subst this;simp only [cond_true] at h;subst h;simp
  | false=>rw [hj] at h;simp [ih h]
theorem oy {q:Nat→Nat} {l:List (Nat×Option Box)} {n:Nat}:aA (el q l) n=true↔∃k,aA l k=true∧q k=n:=by
 induction l with
 | nil=>simp [el,aA]
 | cons x r ih =>
  simp only [el,List.map_cons,aA,Bool.or_eq_true];constructor
  ·rintro (h|h)
   ·exact ⟨x.1,.inl (Nat.beq_refl _),Nat.eq_of_beq_eq_true h⟩
   ·obtain ⟨k,h1,h2⟩:=ih.1 h;exact ⟨k,.inr h1,h2⟩
  ·rintro ⟨k,h1|h1,rfl⟩
   ·rw [Nat.eq_of_beq_eq_true h1];exact .inl (Nat.beq_refl _)
   ·exact .inr (ih.2 ⟨k,h1,rfl⟩)
theorem tw {q:Nat→Nat} {h:Nat→Option Box}:∀{l:List (Nat×Option Box)} {k:Nat},(∀k',aA l k'=true→q k'=q k→k'=k)→aA l k=true→hput (el q l) h (q k)=(hput l (fun _=>none) k).map (Box.ren q)
 | [],_,_,e=>by simp [aA] at e
 | (j,c) :: r,k,hinj,e=>by
  simp only [el,List.map_cons,hput];cases hj:j.beq k with
  | true =>
   have:=Nat.eq_of_beq_eq_true hj;subst this;simp
  | false =>
   have:(q j).beq (q k)=false:=by
    cases h9:(q j).beq (q k) with
    | false=>rfl
    | true =>
     have:=hinj j (by simp [aA]) (Nat.eq_of_beq_eq_true h9);subst this;rw [Nat.beq_refl] at hj;cases hj
   rw [this];simp only [cond_false];simp only [aA,hj,Bool.false_or] at e;exact tw (l:=r) (fun k' h1 h2=>hinj k' (by simp only [aA,h1,Bool.or_true]) h2) e
theorem kY {U l:List Nat} (h:Jo U l=true) {k:Nat} (hk:aK l k=true):aK U k=true:=jy h k hk
theorem D.has_ren {q:Nat→Nat} {d:D} {n:Nat} (h:(d.ren q).has n=true):∃k,d.has k=true∧q k=n:=by
 cases d with
 | clo f ks =>
  have h:(ks.map q).any (fun j=>j.beq n)=true:=h;obtain ⟨j,hj,he⟩:=List.any_eq_true.1 h;obtain ⟨k,hk,rfl⟩:=List.mem_map.1 hj;exact ⟨k,(List.any_eq_true.2 ⟨k,hk,Nat.beq_refl k⟩:ks.any (fun j=>j.beq k)=true),Nat.eq_of_beq_eq_true he⟩
 | _=>simp [D.ren,D.has] at h <;> exact ⟨_,by simp [D.has],h⟩
theorem D.has_renL {q:Nat→Nat} {l:List D} {n:Nat} (h:(l.map (D.ren q)).any (D.has n)=true):∃k,l.any (D.has k)=true∧q k=n:=by
 obtain ⟨d,h1,h2⟩:=List.any_eq_true.1 h;obtain ⟨d0,h3,rfl⟩:=List.mem_map.1 h1;obtain ⟨k,h4,h5⟩:=D.has_ren h2;exact ⟨k,List.any_eq_true.2 ⟨d0,h3,h4⟩,h5⟩
theorem V0.has_ren {q:Nat→Nat} {d:V0} {n:Nat} (h:(d.ren q).has n=true):∃k,d.has k=true∧q k=n:=by
 cases d with
 | one d=>exact D.has_ren (d:=d) h
 | ag l=>exact D.has_renL (l:=l) h
theorem TV.has_ren {q:Nat→Nat} {d:TV} {n:Nat} (h:(d.ren q).has n=true):∃k,d.has k=true∧q k=n:=by
 cases d with
 | v d=>exact V0.has_ren (d:=d) h
 | tup l =>
  obtain ⟨d,h1,h2⟩:=List.any_eq_true.1 h;obtain ⟨d0,h3,rfl⟩:=List.mem_map.1 h1;obtain ⟨k,h4,h5⟩:=V0.has_ren h2;exact ⟨k,List.any_eq_true.2 ⟨d0,h3,h4⟩,h5⟩
theorem Box.has_ren {q:Nat→Nat} {d:Box} {n:Nat} (h:(d.ren q).has n=true):∃k,d.has k=true∧q k=n:=by
 cases d with
 | box t l=>exact D.has_renL (l:=l) h
 | arr e E l=>simp [Box.ren,Box.has] at h
 | mp l=>simp [Box.ren,Box.has] at h
 | it k m l=>exact ⟨k,by simp [Box.has],Nat.eq_of_beq_eq_true h⟩
theorem gp {f:FuncId} {fn:Func} {code:Code} {args:List V0} {hin:List (Nat×Box)} {us:List Nat} {res:TV} {hout:List (Nat×Option Box)} (hf:P.funcs[f]? = some fn) (hb:fn.body=some code) (hen:∀(vs:Array Value) (w:World),(callFunc f vs).run P w = .ok (.enter f vs) w)
  (hok:Bb args hin us res hout=true) (hnt:args.length≤fn.ntmps) (h:AW P fn.ntmps (av hin) code (vN P fn hin res hout) (KJ args hin)):FSpec P f args hin us res hout:=by
 refine ⟨hen,fun q c st ρ a w vs hr hinj hargs hhin hus=>?_⟩;simp only [Bb,Bool.and_eq_true] at hok;obtain ⟨⟨⟨⟨⟨⟨o1,o2⟩,o3⟩,o4⟩,o5⟩,o6⟩,o7⟩:=hok;have inK:∀{k},aK (av hin) k=true→aK (av hin++us) k=true:=fun h=>by rw [lP,h];rfl
 have inU:∀{k},aK us k=true→aK (av hin++us) k=true:=fun h=>by rw [lP,h,Bool.or_true]
 have uK:∀{k},aK us k=true→aK (av hin) k=false:=fun h=>by have:=jy o5 _ h;simp at this;exact this.1
 have hXS:∀b,(∃k bx,aK (av hin) k=true∧st.h (q k)=some bx∧kb (ρ (q k))=some b)→b<w.heap.size:=fun b ⟨k,bx,_,h2,h3⟩=>hr.ltb h2 h3
 let c':Ctx:={ w0:=w,S:=fun b=>Fz c st.h ρ w b∨∃k bx,aK (av hin) k=true∧st.h (q k)=some bx∧kb (ρ (q k))=some b,X:=fun b=>∃k bx,aK (av hin) k=true∧st.h (q k)=some bx∧kb (ρ (q k))=some b,nt:=fn.ntmps,K:=av hin,ρ0:=fun k=>ρ (q k),hS:=fun b hb=>hb.elim (fun h=>h.2.1) (hXS b),hX:=fun b hb=>.inr hb,hpin:=c.hpin.sub (fun b hb hx=>hr.frm.keep b hb hx) fun b hb ⟨k,bx,_,h2,h3⟩=>(hr.inb _ bx b h2 h3).resolve_right (Nat.not_le.2 hb) }
 have hF0:∀b,Fz c st.h ρ w b→Fz c' (dU hin) (fun k=>ρ (q k)) w b∧w.heap[b]? = w.heap[b]?:=fun b hb=>⟨⟨.inl (.inl hb),hb.2.1,fun k bx hk=>hb.2.2 (q k) _ (hhin k bx hk)⟩,rfl⟩;have hr0:Rp c' (KJ args hin) (fun k=>ρ (q k)) { tmps:=vs.toArray++Array.replicate (fn.ntmps-vs.toArray.size) undef,defers:=[] } w:=by
  have hlen:=hargs.length;refine ⟨rfl,?_,Frx.refl _ _,fun i=>?_,fun k b hk=>?_,fun k b g hk hg=>?_,fun k k' b b' g hk hk' hg hg'=>?_,fun k hk=>⟨rfl,?_⟩,⟨fun k hk=>?_,fun k i hk=>?_,fun k k' b hk hb2=>?_⟩⟩
  ·show (vs.toArray++Array.replicate (fn.ntmps-vs.toArray.size) undef).size=fn.ntmps;simp;omega
  ·show TV.rep _ _ _ (match args[i]? with|some x=>.v x|none=>.c .any) _;cases hi:args[i]? with
   | none=>trivial
   | some x =>
    obtain ⟨v,hv,hx⟩:=hargs.get hi;have hil:i<vs.length:=(List.getElem?_eq_some_iff.1 hv).1;have e1:(vs.toArray++Array.replicate (fn.ntmps-vs.toArray.size) undef).getD i undef=v:=by
     rw [Array.getD_eq_getD_getElem?,Array.getElem?_append_left (by simpa using hil)];simp [hv]
    show V0.rep _ _ _ x ((vs.toArray++Array.replicate (fn.ntmps-vs.toArray.size) undef).getD i undef);rw [e1];exact ((V0.rep_ren (ρ':=fun k=>ρ (q k)) fun _ _=>rfl).1 hx).mono hF0 fun _ _=>rfl
  ·have h1:=hr.hp _ _ (hhin k b hk);exact ((Box.rep_ren (ρ':=fun k=>ρ (q k)) fun _ _=>rfl).1 h1).mono (fun _ _=>rfl) hF0 fun _ _=>rfl
  ·exact .inl ⟨k,_,(cO hk).1,hhin k b hk,hg⟩
  ·exact hinj k k' (inK (cO hk).1) (inK (cO hk').1) (hr.dis _ _ _ _ g (hhin k b hk) (hhin k' b' hk') hg hg')
  ·show (!aK (av hin) k)=false;rw [bC.2 hk];rfl
  ·have hk:(!aK (av hin) k)=true:=hk;cases h9:dU hin k with
   | none=>exact h9
   | some b=>rw [(cO h9).1] at hk;cases hk
  ·have hk:(!aK (av hin) k)=true:=hk;show TV.has k (match args[i]? with|some x=>.v x|none=>.c .any)=false;cases hi:args[i]? with
   | none=>rfl
   | some x =>
    cases h9:TV.has k (.v x) with
    | false=>rfl
    | true=>rw [V0.in_has (List.all_eq_true.1 o1 x (List.mem_of_getElem? hi)) h9] at hk;cases hk
  ·have hk:(!aK (av hin) k)=true:=hk;cases h9:Box.has k b with
   | false=>rfl
   | true=>rw [Box.in_has (List.all_eq_true.1 o2 (k',b) (cO hb2).2) h9] at hk;cases hk
 refine calls_of_wp hf hb (wp_mono (h c' _ _ w rfl rfl hr0) ?_);rintro e a1 w1 ⟨s1,ρ1,⟨he,xs,p,hxs,hpK,hpart,hle⟩,hr1⟩;obtain ⟨v,hv,hvr⟩:=wu hr1 hxs;have hres:=hpart.tv hr1 hle hvr
 let s2:Mst:={ t:=fun _=>.c .any,h:=hput hout fun _=>none,f:=fun k=>!aK (av hin++us) k }
 have hin2:∀k b,hput hout (fun _=>none) k=some b→aK (av hin++us) k=true∧b.in_ (av hin++us)=true:=fun k b hk=>by
  have hm:=nz hk;have h1:=List.all_eq_true.1 o7 _ hm;refine ⟨kY o4 ?_,h1⟩;rw [bC];exact List.mem_map.2 ⟨_,hm,rfl⟩
 have hr2:Rp c' s2 (fun k=>ρ1 (p k)) a1 w1:=hr1.weak (s':=s2) hpart (fun k hk=>⟨hpK k (bC.2 hk),by show (!aK (av hin++us) k)=false;rw [inK (bC.2 hk)];rfl⟩)
  ⟨(fun k hk=>by
   have hk:(!aK (av hin++us) k)=true:=hk;cases h9:hput hout (fun _=>none) k with
   | none=>exact h9
   | some b=>rw [(hin2 k b h9).1] at hk;cases hk),fun _ _ _=>rfl,(fun k k' b hk hb2=>by
   have hk:(!aK (av hin++us) k)=true:=hk;cases h9:Box.has k b with
   | false=>rfl
   | true=>rw [Box.in_has (hin2 k' b hb2).2 h9] at hk;cases hk)⟩ fun t=>.any _
 have hgo:a1.defers=[]∧∃v,(results fn a1.tmps).run P w1 = .ok v w1∧(fun e w'=>∃v,e=Ending.returned v∧∀dst:Option Nat,(∀d,dst=some d→d<c.nt)→∃ρ',Rp c (st.app dst ⟨res.ren q,el q hout,us.map q⟩) ρ' (a.put dst v) w') (.returned v) w1:=by
  refine ⟨hr1.dfr,v,hv,v,rfl,fun dst hdst=>?_⟩
  let ρ':Nat→Value:=fun n=>match us.find? (fun k=>(q k).beq n) with|some k=>ρ1 (p k)|none=>ρ n
  have hρu:∀k,aK us k=true→ρ' (q k)=ρ1 (p k):=fun k hk=>by
   show (match us.find? (fun j=>(q j).beq (q k)) with|some k=>ρ1 (p k)|none=>ρ (q k))=_;cases h9:us.find? (fun j=>(q j).beq (q k)) with
   | none =>
    have:=List.find?_eq_none.1 h9 k (bC.1 hk);simp at this
   | some j =>
    have h10:=List.find?_some (p:=fun j=>(q j).beq (q k)) h9;have h11:=List.mem_of_find?_eq_some h9;have:j=k:=hinj j k (inU (bC.2 h11)) (inU hk) (Nat.eq_of_beq_eq_true h10);rw [this]
  have hρn:∀n,(∀k,aK us k=true→q k≠n)→ρ' n=ρ n:=fun n hn=>by
   show (match us.find? (fun j=>(q j).beq n) with|some k=>ρ1 (p k)|none=>ρ n)=_;cases h9:us.find? (fun j=>(q j).beq n) with
   | none=>rfl
   | some j=>exact absurd (Nat.eq_of_beq_eq_true (List.find?_some (p:=fun j=>(q j).beq n) h9)) (hn j (bC.2 (List.mem_of_find?_eq_some h9)))
  have hρK:∀k,aK (av hin++us) k=true→ρ' (q k)=ρ1 (p k):=fun k hk=>by
   rw [lP,Bool.or_eq_true] at hk;rcases hk with hk|hk
   ·rw [hρn (q k) fun j hj he=>?_,hpK k hk,(hr1.ent k (bC.1 hk)).1];have:=hinj j k (inU hj) (inK hk) he;subst this;rw [uK hj] at hk;cases hk
   ·exact hρu k hk
  have hK:∀n,aA (el q hout) n=true→∃k,aK (av hin++us) k=true∧aA hout k=true∧q k=n:=fun n hn=>by
   obtain ⟨k,h1,h2⟩:=oy.1 hn;exact ⟨k,kY o4 (by rw [←iY];exact h1),h1,h2⟩
  have hput':∀k,aK (av hin++us) k=true→aA hout k=true→hput (el q hout) st.h (q k)=(hput hout (fun _=>none) k).map (Box.ren q):=fun k hk hk2=>by
   refine tw (fun k' h1 h2=>?_) hk2;exact hinj k' k (kY o4 (by rw [←iY];exact h1)) hk h2
  have hsome:∀n bx,aA (el q hout) n=true→hput (el q hout) st.h n=some bx→∃k b,aK (av hin++us) k=true∧q k=n∧hput hout (fun _=>none) k=some b∧b.ren q=bx:=fun n bx hn hb2=>by
   obtain ⟨k,h1,h2,rfl⟩:=hK n hn;rw [hput' k h1 h2] at hb2;cases h9:hput hout (fun _=>none) k with
   | none=>rw [h9] at hb2;cases hb2
   | some b=>rw [h9] at hb2;exact ⟨k,b,h1,rfl,h9,Option.some.inj hb2⟩
  have hinKey:∀k,aK (av hin) k=true→aA (el q hout) (q k)=true:=fun k hk=>oy.2 ⟨k,by rw [iY];exact kY o3 hk,rfl⟩;have hnonf:∀k,aK (av hin) k=true→st.f (q k)=false:=fun k hk=>by obtain ⟨b,h1⟩:=Bc hk;exact hr.nfh (hhin k b h1)
  have hFz:∀b,Fz c' s2.h (fun k=>ρ1 (p k)) w1 b→Fz c (hput (el q hout) st.h) ρ' w1 b∧w1.heap[b]? = w1.heap[b]?:=fun b ⟨f1,f2,f3⟩=>by
   refine ⟨⟨?_,f2,fun n bx hn he=>?_⟩,rfl⟩
   ·rcases f1 with (f1|⟨k,bx,_,h2,h3⟩)|f1
    ·exact f1.1
    ·rcases hr.inb _ bx b h2 h3 with h|h
     ·exact .inl (c.hX b h)
     ·exact .inr h
    ·exact .inr (Nat.le_trans hr.frm.size f1)
   ·cases h9:aA (el q hout) n with
    | true =>
     obtain ⟨k,b2,h1,rfl,h3,_⟩:=hsome n bx h9 hn;rw [hρK k h1] at he;exact f3 k b2 h3 he
    | false =>
     rw [bN h9] at hn;have hnu:∀k,aK us k=true→q k≠n:=fun k hk e=>by have:=hus k hk;rw [e,hr.nfh hn] at this;cases this
     rw [hρn n hnu] at he;rcases f1 with (f1|⟨k,b2,h1,h2,h3⟩)|f1
     ·exact f1.2.2 n bx hn he
     ·have:=hr.dis _ _ _ _ b h2 hn h3 he;subst this;rw [hinKey k h1] at h9;cases h9
     ·have:=hr.ltb hn he;have f1:w.heap.size≤b:=f1;omega
  have hus':∀n,aK (us.map q) n=true↔∃k,aK us k=true∧q k=n:=fun n=>by
   rw [bC,List.mem_map];exact ⟨fun ⟨k,h1,h2⟩=>⟨k,bC.2 h1,h2⟩,fun ⟨k,h1,h2⟩=>⟨k,bC.1 h1,h2⟩⟩
  have hkeyin:∀{d:TV},d.in_ (av hin++us)=true→∀n,(d.ren q).has n=true→∃k,aK (av hin++us) k=true∧q k=n:=fun h n hn=>by
   obtain ⟨k,h1,h2⟩:=TV.has_ren hn;exact ⟨k,TV.in_has h h1,h2⟩
  have hkeyinB:∀{d:Box},d.in_ (av hin++us)=true→∀n,(d.ren q).has n=true→∃k,aK (av hin++us) k=true∧q k=n:=fun h n hn=>by
   obtain ⟨k,h1,h2⟩:=Box.has_ren hn;exact ⟨k,Box.in_has h h1,h2⟩
  have hcls:∀k,aK (av hin++us) k=true→aK (us.map q) (q k)=true∨st.f (q k)=false:=fun k hk=>by
   rw [lP,Bool.or_eq_true] at hk;rcases hk with hk|hk
   ·exact .inr (hnonf k hk)
   ·exact .inl ((hus' _).2 ⟨k,hk,rfl⟩)
  refine ⟨ρ',hr.app (e:=⟨res.ren q,el q hout,us.map q⟩) hdst ?_ ?_ ?_ ?_ ?_ ?_ ?_ ?_ ?_ ?_⟩
  ·intro n hn;obtain ⟨k,h1,rfl⟩:=(hus' n).1 hn;refine ⟨hus k h1,oy.2 ⟨k,?_,rfl⟩⟩;have:=jy o5 k h1;simp at this;rw [iY];exact this.2
  ·intro n hn;refine hρn n fun k hk e=>?_;have:=(hus' n).2 ⟨k,hk,e⟩;rw [this] at hn;cases hn
  ·intro n hn;obtain ⟨k,h1,_,rfl⟩:=hK n hn;exact hcls k h1
  ·refine ⟨hr1.frm.os,hr1.frm.tape,hr1.frm.output,hr1.frm.size,fun b hlt hn=>hr1.frm.keep b hlt fun ⟨k,bx,h1,h2,h3⟩=>hn ⟨q k,bx,hinKey k h1,h2,h3⟩⟩
  ·intro n bx g hn hb2 hg;obtain ⟨k,b,h1,rfl,h3,_⟩:=hsome n bx hn hb2;rw [hρK k h1] at hg;refine ⟨hr2.ltb (k:=k) h3 hg,?_⟩;rcases hr2.inb k b g h3 hg with ⟨k0,b0,h4,h5,h6⟩|h4
   ·exact .inr ⟨q k0,b0,hinKey k0 h4,h5,h6⟩
   ·exact .inl h4
  ·intro n n' b b' g hn hn' hb2 hb2' hg hg';obtain ⟨k,x,h1,rfl,h3,_⟩:=hsome n b hn hb2;obtain ⟨k',x',h1',rfl,h3',_⟩:=hsome n' b' hn' hb2';rw [hρK k h1] at hg;rw [hρK k' h1'] at hg';rw [hr2.dis k k' x x' g h3 h3' hg hg']
  ·intro n hn;obtain ⟨k,h1,rfl⟩:=hkeyin o6 n hn;exact hcls k h1
  ·intro n n' bx hn' hb2 hn;obtain ⟨k,b,h1,rfl,h3,rfl⟩:=hsome n' bx hn' hb2;obtain ⟨k2,h4,rfl⟩:=hkeyinB (hin2 k b h3).2 n hn;exact hcls k2 h4
  ·intro n bx hn hb2;obtain ⟨k,b,h1,rfl,h3,rfl⟩:=hsome n bx hn hb2;rw [hρK k h1];refine ((Box.rep_ren (ρ':=fun k=>ρ1 (p k)) fun j hj=>?_).2 (hr2.hp k b h3)).mono (fun _ _=>rfl) hFz fun _ _=>rfl;exact (hρK j (Box.in_has (hin2 k b h3).2 hj)).symm
  ·refine ((TV.rep_ren (ρ':=fun k=>ρ1 (p k)) fun j hj=>?_).2 hres).mono hFz fun _ _=>rfl;exact (hρK j (TV.in_has o6 hj)).symm
 rcases he with rfl|rfl <;> exact hgo
end
def nB (K:Mst→Prop) (Q:Exit→Mst→Prop):Exit→Mst→Prop
 | .normal,s=>K s
 | e,s=>Q e s
def fM (id:Nat) (Q:Exit→Mst→Prop):Exit→Mst→Prop
 | .exit i,s=>bif i.beq id then Q .normal s else Q (.exit i) s
 | e,s=>Q e s
section
variable {P:Program} {nt:Nat} {Ks:List Nat} {Q:Exit→Mst→Prop} {s:Mst}
theorem qJ {x y:Code} (h:AW P nt Ks x (nB (AW P nt Ks y Q) Q) s):AW P nt Ks (.seq x y) Q s:=by
 intro c ρ a w hc hK hr;refine wp_seq (wp_mono (h c ρ a w hc hK hr) ?_);rintro e a' w' ⟨s',ρ',hq,hr'⟩;cases e with
 | normal=>exact hq c ρ' a' w' hc hK hr'
 | _=>exact ⟨s',ρ',hq,hr'⟩
theorem Fq (h:Q .normal s):AW P nt Ks .skip Q s:=fun _ ρ _ _ _ _ hr=>wp_skip ⟨s,ρ,h,hr⟩
theorem CT {l:Nat} (h:Q .normal s):AW P nt Ks (.label l) Q s:=fun _ ρ _ _ _ _ hr=>wp_label ⟨s,ρ,h,hr⟩
theorem Fr {i:Nat} (h:Q (.exit i) s):AW P nt Ks (.exit i) Q s:=fun _ ρ _ _ _ _ hr=>wp_exit ⟨s,ρ,h,hr⟩
theorem H6 (h:Q .ret s):AW P nt Ks .ret Q s:=fun _ ρ _ _ _ _ hr=>wp_ret ⟨s,ρ,h,hr⟩
theorem CU {x:Code} (h:AW P nt Ks x (fun e s'=>(∀l,e≠.goto l)∧Q e s') s):AW P nt Ks (.scope x) Q s:=by
 intro c ρ a w hc hK hr;refine wp_scope_straight (wp_mono (h c ρ a w hc hK hr) ?_);rintro e a' w' ⟨s',ρ',⟨h1,h2⟩,hr'⟩;cases e with
 | goto l=>exact absurd rfl (h1 l)
 | _=>exact ⟨s',ρ',h2,hr'⟩
theorem Fs {x:Operand} {t e:Code} {b:Bool} (hx:s.ev x = .b b) (h1:b=true→AW P nt Ks t Q s) (h2:b=false→AW P nt Ks e Q s):AW P nt Ks (.cond x t e) Q s:=by
 intro c ρ a w hc hK hr;have hv:a.eval x = .bool b:=by have:=hr.ev x;rwa [hx] at this
 exact wp_cond_split hv (fun h=>h1 h c ρ a w hc hK hr) fun h=>h2 h c ρ a w hc hK hr
theorem CV {id:Nat} {x:Code} (h:AW P nt Ks x (fM id Q) s):AW P nt Ks (.block id x) Q s:=by
 intro c ρ a w hc hK hr;refine wp_block (wp_mono (h c ρ a w hc hK hr) ?_);rintro e a' w' ⟨s',ρ',hq,hr'⟩;cases e with
 | exit i =>
  simp only [fM] at hq;cases hb:i.beq id with
  | true =>
   rw [hb] at hq;simp only [Exit.inBlock,Nat.eq_of_beq_eq_true hb,if_true];exact ⟨s',ρ',hq,hr'⟩
  | false =>
   rw [hb] at hq;have hi:¬i=id:=fun e=>by rw [e,Nat.beq_refl] at hb;cases hb
   simp only [Exit.inBlock,hi,if_false];exact ⟨s',ρ',hq,hr'⟩
 | _=>exact ⟨s',ρ',hq,hr'⟩
def Le (nt:Nat) (Ks:List Nat) (s s':Mst):Prop:=∀(c:Ctx) (ρ:Nat→Value) (a:Act) (w:World),c.nt=nt→c.K=Ks→Rp c s ρ a w→∃ρ',Rp c s' ρ' a w
theorem ai {ι:Type _} {x:Code} (p:ι→Prop) (I:ι→Mst) (μ:ι→Nat) (i0:ι) (h0:p i0) (h1:Le nt Ks s (I i0))
  (h:∀i,p i→AW P nt Ks x (nB (fun s'=>∃j,p j∧μ j<μ i∧Le nt Ks s' (I j)) Q) (I i)):AW P nt Ks (.loop x) Q s:=by
 intro c ρ a w hc hK hr;obtain ⟨ρ0,hr0⟩:=h1 c ρ a w hc hK hr;refine wp_loop_ghost (fun n a w=>∃i ρ,μ i=n∧p i∧Rp c (I i) ρ a w) (μ i0) ⟨i0,ρ0,rfl,h0,hr0⟩ ?_;rintro n a w ⟨i,ρ,rfl,hp,hr⟩;refine wp_mono (h i hp c ρ a w hc hK hr) ?_;rintro e a' w' ⟨s',ρ',hq,hr'⟩;cases e with
 | normal =>
  obtain ⟨j,hj,hlt,hle⟩:=hq;obtain ⟨ρ2,hr2⟩:=hle c ρ' a' w' hc hK hr';exact ⟨μ j,hlt,j,ρ2,rfl,hj,hr2⟩
 | _=>exact ⟨s',ρ',hq,hr'⟩
theorem aM {x:Code} {φ:Prop} (hf:∀(c:Ctx) (ρ:Nat→Value) (a:Act) (w:World),Rp c s ρ a w→φ) (h:φ→AW P nt Ks x Q s):AW P nt Ks x Q s:=fun c ρ a w hc hK hr=>h (hf c ρ a w hr) c ρ a w hc hK hr
end
def yw:List (Nat×TV)→Nat→TV
 | [],_=>.c .any
 | (k,d) :: r,n=>bif k.beq n then d else yw r n
def bt (U:List Nat) (ts:List (Nat×TV)) (hs:List (Nat×Box)):Mst:={ t:=yw ts,h:=dU hs,f:=fun k=>!aK U k }
def Ft (s:Mst) (q:Nat→Nat) (g:Nat→Prop):List (Nat×TV)→Prop
 | []=>True
 | (t,d) :: r=>TVLe s q g (s.t t) d∧Ft s q g r
def Fu (s:Mst) (q:Nat→Nat) (g:Nat→Prop):List (Nat×Box)→Prop
 | []=>True
 | (k,b) :: r=>(∃b0,s.h (q k)=some b0∧BoxLe s q g b0 b)∧Fu s q g r
def pT (s:Mst) (q:Nat→Nat) (g:Nat→Prop):List (Nat×Option Box)→Prop
 | []=>True
 | (_,none) :: r=>pT s q g r
 | (k,some b) :: r=>(∃b0,s.h (q k)=some b0∧BoxLe s q g b0 b)∧pT s q g r
theorem wv {s:Mst} {q:Nat→Nat} {g:Nat→Prop}:∀{l:List (Nat×TV)},Ft s q g l→∀t d,(t,d)∈l→TVLe s q g (s.t t) d
 | (a,b) :: l,h,t,d,hx=>by
  rcases List.mem_cons.1 hx with e|hx
  ·injection e with e1 e2;subst e1;subst e2;exact h.1
  ·exact wv h.2 t d hx
theorem ww {s:Mst} {q:Nat→Nat} {g:Nat→Prop}:∀{l:List (Nat×Box)},Fu s q g l→∀k b,(k,b)∈l→∃b0,s.h (q k)=some b0∧BoxLe s q g b0 b
 | (a,b) :: l,h,t,d,hx=>by
  rcases List.mem_cons.1 hx with e|hx
  ·injection e with e1 e2;subst e1;subst e2;exact h.1
  ·exact ww h.2 t d hx
theorem qK {s:Mst} {q:Nat→Nat} {g:Nat→Prop}:∀{l:List (Nat×Option Box)},pT s q g l→∀k b,(k,some b)∈l→∃b0,s.h (q k)=some b0∧BoxLe s q g b0 b
 | (a,none) :: l,h,t,d,hx=>by
  rcases List.mem_cons.1 hx with e|hx
  ·cases e
  ·exact qK (l:=l) h t d hx
 | (a,some b) :: l,h,t,d,hx=>by
  rcases List.mem_cons.1 hx with e|hx
  ·injection e with e1 e2;injection e2 with e2;subst e1;subst e2;exact h.1
  ·exact qK h.2 t d hx
def qf:List (Nat×Nat)→Nat→Nat
 | [],k=>k
 | (a,b) :: r,k=>bif a.beq k then b else qf r k
def H7 (U:List Nat) (ts:List (Nat×TV)) (hs:List (Nat×Box)) (q:Nat→Nat) (Ks:List Nat):Bool :=
 ts.all (fun x=>x.2.in_ U) && hs.all (fun x=>x.2.in_ U) && Jo U (av hs) && eD ((av hs).map q) && Ks.all (fun k=>aK U k && (q k).beq k)
theorem iZ {q:Nat→Nat}:∀{l:List Nat},eD (l.map q)=true→∀k k',aK l k=true→aK l k'=true→q k=q k'→k=k'
 | [],_,_,_,h,_,_=>by simp [aK] at h
 | x :: l,hn,k,k',h,h',e=>by
  simp only [List.map_cons,eD,Bool.and_eq_true,Bool.not_eq_true'] at hn;have hx:∀j,aK l j=true→q x=q j→False:=fun j hj e=>by
   have:aK (l.map q) (q x)=true:=by rw [bC,e];exact List.mem_map.2 ⟨j,bC.1 hj,rfl⟩
   rw [this] at hn;exact absurd hn.1 (by simp)
  simp only [aK,Bool.or_eq_true] at h h';rcases h with h|h <;> rcases h' with h'|h'
  ·rw [←Nat.eq_of_beq_eq_true h,←Nat.eq_of_beq_eq_true h']
  ·rw [←Nat.eq_of_beq_eq_true h] at e;exact (hx k' h' e).elim
  ·rw [←Nat.eq_of_beq_eq_true h'] at e;exact (hx k h e.symm).elim
  ·exact iZ hn.2 k k' h h' e
section
variable {nt:Nat} {Ks:List Nat} {s:Mst}
theorem pZ {hs:List (Nat×Box)} {q:Nat→Nat} {j:Nat} (h:aK ((av hs).map q) j=false):∀k,dU hs k≠none→q k≠j:=fun k hk e=>by
 cases h9:dU hs k with
 | none=>exact hk h9
 | some b =>
  have:aK ((av hs).map q) j=true:=by rw [bC,←e];exact List.mem_map.2 ⟨k,bC.1 (cO h9).1,rfl⟩
  rw [this] at h;cases h
theorem CW {U:List Nat} {ts:List (Nat×TV)} {hs:List (Nat×Box)} (q:Nat→Nat) (hok:H7 U ts hs q Ks=true)
  (ht:Ft s q (fun j=>∀k,dU hs k≠none→q k≠j) ts)
  (hh:Fu s q (fun j=>∀k,dU hs k≠none→q k≠j) hs):Le nt Ks s (bt U ts hs):=by
 intro c ρ a w hc hK hr;subst hK;simp only [H7,Bool.and_eq_true] at hok;obtain ⟨⟨⟨⟨o1,o2⟩,o3⟩,o4⟩,o5⟩:=hok;have aA:∀k,dU hs k≠none→aK (av hs) k=true:=fun k hk=>by
  cases h9:dU hs k with
  | none=>exact absurd h9 hk
  | some b=>exact (cO h9).1
 have hU:∀k,(!aK U k)=true→aK U k=false:=fun k h=>by simpa using h
 have htg:∀(l:List (Nat×TV)) (n:Nat),(yw l n = .c .any)∨∃d,(n,d)∈l∧yw l n=d:=by
  intro l n;induction l with
  | nil=>exact .inl rfl
  | cons x l ih =>
   obtain ⟨k,d⟩:=x;simp only [yw];cases hk:k.beq n with
   | true=>rw [Nat.eq_of_beq_eq_true hk];exact .inr ⟨d,by simp,rfl⟩
   | false =>
    rcases ih with h|⟨d',h1,h2⟩
    ·exact .inl h
    ·exact .inr ⟨d',by simp [h1],h2⟩
 refine ⟨_,hr.weak (s':=bt U ts hs) (q:=q) ⟨fun k k' hk hk' e=>iZ o4 k k' (aA k hk) (aA k' hk') e,fun k b hk=>?_⟩ (fun k hk=>?_) ⟨fun k hk=>?_,fun k t hk=>?_,fun k k' b hk hb=>?_⟩ fun t=>?_⟩
 ·exact ww hh k b (cO hk).2
 ·have:=List.all_eq_true.1 o5 k hk;simp only [Bool.and_eq_true] at this;exact ⟨Nat.eq_of_beq_eq_true this.2,by show (!aK U k)=false;rw [this.1];rfl⟩
 ·have hk:=hU k hk;cases h9:dU hs k with
  | none=>exact h9
  | some b=>rw [kY o3 (cO h9).1] at hk;cases hk
 ·have hk:=hU k hk;show (yw ts t).has k=false;rcases htg ts t with h|⟨d,h1,h2⟩
  ·rw [h];rfl
  ·rw [h2];cases h9:d.has k with
   | false=>rfl
   | true=>rw [TV.in_has (List.all_eq_true.1 o1 (t,d) h1) h9] at hk;cases hk
 ·have hk:=hU k hk;cases h9:b.has k with
  | false=>rfl
  | true=>rw [Box.in_has (List.all_eq_true.1 o2 (k',b) (cO hb).2) h9] at hk;cases hk
 ·show TVLe _ _ _ _ (yw ts t);rcases htg ts t with h|⟨d,h1,h2⟩
  ·rw [h];exact .any _
  ·rw [h2];exact wv ht t d h1
theorem qL {P:Program} {fn:Func} {hin:List (Nat×Box)} {res:TV} {hout:List (Nat×Option Box)} {e:Exit} (he:e = .normal∨e = .ret) (xs:List V0) (q:Nat→Nat) (hx:All2 (RV P s) fn.results.toList xs) (hq:(av hin).all (fun k=>(q k).beq k)=true)
  (hn:eD ((av (hout.filter fun x=>x.2.isSome)).map q)=true) (hh:pT s q (fun j=>∀k,hput hout (fun _=>none) k≠none→q k≠j) hout)
  (hr:TVLe s q (fun j=>∀k,hput hout (fun _=>none) k≠none→q k≠j) (H5 xs) res):vN P fn hin res hout e s:=by
 have aA:∀k,hput hout (fun _=>none) k≠none→aK (av (hout.filter fun x=>x.2.isSome)) k=true:=fun k hk=>by
  cases h9:hput hout (fun _=>none) k with
  | none=>exact absurd h9 hk
  | some b=>rw [bC];exact List.mem_map.2 ⟨(k,some b),List.mem_filter.2 ⟨nz h9,rfl⟩,rfl⟩
 refine ⟨he,xs,q,hx,fun k hk=>?_,⟨fun k k' hk hk' e=>iZ hn k k' (aA k hk) (aA k' hk') e,fun k b hk=>?_⟩,hr⟩
 ·exact Nat.eq_of_beq_eq_true (List.all_eq_true.1 hq k (bC.1 hk))
 ·exact qK hh k b (nz hk)
end
section
variable {P:Program} {o:Oper} {s:Mst}
def tx (s:Mst) (q:Nat→Nat):List (Nat×Box)→Prop
 | []=>True
 | (k,b) :: r=>s.h (q k)=some (b.ren q)∧tx s q r
theorem oz {s:Mst} {q:Nat→Nat}:∀{l:List (Nat×Box)},tx s q l→∀k b,(k,b)∈l→s.h (q k)=some (b.ren q)
 | (a,b) :: l,h,t,d,hx=>by
  rcases List.mem_cons.1 hx with e|hx
  ·injection e with e1 e2;subst e1;subst e2;exact h.1
  ·exact oz h.2 t d hx
theorem CX {f:FuncId} {xs:Array Operand} {ts:Array TypeId} {args:List V0} {hin:List (Nat×Box)} {us:List Nat} {res:TV} {hout:List (Nat×Option Box)} (hs:FSpec P f args hin us res hout) (q:Nat→Nat) (ho:o.op = .call { callee:=.value (.func f),args:=xs,argTypes:=ts })
  (ha:All2 (fun x d=>s.ev x = .v (V0.ren q d)) xs.toList args) (hn:eD ((av hin++us).map q)=true) (hh:tx s q hin):LOp P o s ((av hin).map q) ⟨res.ren q,el q hout,us.map q⟩:=by
 intro c st ρ a w hr h1 h2 h3 h4;have hargs:All2 (fun d v=>(V0.ren q d).rep w (Fz c st.h ρ w) ρ v) args (xs.toList.map a.eval):=by
  have key:∀(l:List Operand) (m:List V0),(∀x∈l,st.ev x=s.ev x)→All2 (fun x d=>s.ev x = .v (V0.ren q d)) l m→All2 (fun d v=>(V0.ren q d).rep w (Fz c st.h ρ w) ρ v) m (l.map a.eval):=by
   intro l;induction l with
   | nil=>intro m _ h;cases m with
    | nil=>trivial
    | cons=>exact h.elim
   | cons x l ih =>
    intro m hl h;cases m with
    | nil=>exact h.elim
    | cons d m =>
     refine ⟨?_,ih m (fun y hy=>hl y (by simp [hy])) h.2⟩;have:=hr.ev x;rw [hl x (by simp),h.1] at this;exact this
  exact key _ _ (fun x hx=>h1 x (by simp [ho,Op.operands,Call.operands];exact .inr (by simpa using hx))) ha
 have hin':∀k b,dU hin k=some b→st.h (q k)=some (b.ren q):=fun k b hk=>by
  rw [h2 (q k) (by rw [bC];exact List.mem_map.2 ⟨k,bC.1 (cO hk).1,rfl⟩)];exact oz hh k b (cO hk).2
 have hc:=hs.ca q c st ρ a w (xs.toList.map a.eval) hr (fun k k' hk hk' e=>iZ hn k k' hk hk' e) hargs hin' fun k hk=>h3 _ (by show aK (us.map q) (q k)=true;rw [bC];exact List.mem_map.2 ⟨k,bC.1 hk,rfl⟩);have he:(xs.toList.map a.eval).toArray=xs.map a.eval:=by apply Array.toList_inj.1;simp
 rw [he] at hc;unfold Oper.wp execOp;simp only [ho,resolve,Act.eval,Deferred.ofValue,invoke,Sem.run_bind,Sem.run_pure,Result.andThen_ok,Array.append_empty,Array.empty_append];rw [hs.en];refine hc.mono fun e w' ⟨v,hv,hk⟩=>?_;subst hv;exact hk o.dst h4
end
section
variable {P:Program} {o:Oper} {s:Mst}
theorem Fv {t t':TypeId} {x y:Operand} {kd:IntKind} {a b c:Int} (ho:o.op = .binOp .add t x y t') (hx:s.ev x = .c (.sc (.int kd a))) (hy:s.ev y = .c (.sc (.int kd b))) (h:kd.wrap (a+b)=c):LOp P o s [] ⟨.c (.sc (.int kd c)),[],[]⟩ :=
 iC (by rw [ho];rfl) hx hy fun ev w hx hy=>by simp [execOp,ho,hx,hy,eqGuard,binOp,Op.intArith,h]
theorem Fw {t t':TypeId} {x y:Operand} {kd:IntKind} {a b c:Int} (ho:o.op = .binOp .sub t x y t') (hx:s.ev x = .c (.sc (.int kd a))) (hy:s.ev y = .c (.sc (.int kd b))) (h:kd.wrap (a-b)=c):LOp P o s [] ⟨.c (.sc (.int kd c)),[],[]⟩ :=
 iC (by rw [ho];rfl) hx hy fun ev w hx hy=>by simp [execOp,ho,hx,hy,eqGuard,binOp,Op.intArith,h]
theorem Fx {t t':TypeId} {x y:Operand} {kd:IntKind} {a b c:Int} (ho:o.op = .binOp .quo t x y t') (hx:s.ev x = .c (.sc (.int kd a))) (hy:s.ev y = .c (.sc (.int kd b))) (h0:b≠0) (h:kd.wrap (a.tdiv b)=c):LOp P o s [] ⟨.c (.sc (.int kd c)),[],[]⟩ :=
 iC (by rw [ho];rfl) hx hy fun ev w hx hy=>by simp [execOp,ho,hx,hy,eqGuard,binOp,Op.intDiv,h0,h]
theorem uP {t t':TypeId} {x y:Operand} {kd:IntKind} {a b c:Int} (ho:o.op = .binOp .rem t x y t') (hx:s.ev x = .c (.sc (.int kd a))) (hy:s.ev y = .c (.sc (.int kd b))) (h0:b≠0) (h:a.tmod b=c):LOp P o s [] ⟨.c (.sc (.int kd c)),[],[]⟩ :=
 iC (by rw [ho];rfl) hx hy fun ev w hx hy=>by simp [execOp,ho,hx,hy,eqGuard,binOp,Op.intDiv,h0,h]
theorem lQ {op:BinOp} {t t':TypeId} {x y:Operand} {kd:IntKind} {a b:Int} {c:Bool} (ho:o.op = .binOp op t x y t') (hx:s.ev x = .c (.sc (.int kd a))) (hy:s.ev y = .c (.sc (.int kd b)))
  (h:(op = .eql∧(a == b)=c)∨(op = .neq∧(a != b)=c)∨(op = .lss∧decide (a<b)=c)∨(op = .leq∧decide (a≤b)=c)∨(op = .gtr∧decide (b<a)=c)∨(op = .geq∧decide (b≤a)=c)):LOp P o s [] ⟨.b c,[],[]⟩ :=
 iC (by rw [ho];rfl) hx hy fun ev w hx hy=>by
  rcases h with ⟨rfl,h⟩|⟨rfl,h⟩|⟨rfl,h⟩|⟨rfl,h⟩|⟨rfl,h⟩|⟨rfl,h⟩ <;> subst h <;> simp [execOp,ho,hx,hy,eqGuard,binOp,Op.intCmp]
theorem p5 {op:BinOp} {t t':TypeId} {x y:Operand} {a b:ByteArray} {c:Bool} (ho:o.op = .binOp op t x y t') (hx:s.ev x = .c (.sc (.string a))) (hy:s.ev y = .c (.sc (.string b)))
  (h:(op = .eql∧(a.toList == b.toList)=c)∨(op = .neq∧(!(a.toList == b.toList))=c)∨(op = .lss∧Op.bytesLess a.toList b.toList=c)∨(op = .geq∧(!Op.bytesLess a.toList b.toList)=c)):LOp P o s [] ⟨.b c,[],[]⟩ :=
 iC (by rw [ho];rfl) hx hy fun ev w hx hy=>by
  rcases h with ⟨rfl,h⟩|⟨rfl,h⟩|⟨rfl,h⟩|⟨rfl,h⟩ <;> subst h <;> simp [execOp,ho,hx,hy,eqGuard,binOp,Op.stringOp]
theorem H8 {t t':TypeId} {x y:Operand} {kd:IntKind} {a b:Int} (ho:o.op = .binOp .eql t x y t') (hx:s.ev x = .c (.sc (.int kd a))) (hy:s.ev y = .c (.sc (.int kd b))):LOp P o s [] ⟨.b (a == b),[],[]⟩:=lQ ho hx hy (by simp)
theorem H9 {t t':TypeId} {x y:Operand} {kd:IntKind} {a b:Int} (ho:o.op = .binOp .neq t x y t') (hx:s.ev x = .c (.sc (.int kd a))) (hy:s.ev y = .c (.sc (.int kd b))):LOp P o s [] ⟨.b (a != b),[],[]⟩:=lQ ho hx hy (by simp)
theorem Ia {t t':TypeId} {x y:Operand} {kd:IntKind} {a b:Int} (ho:o.op = .binOp .lss t x y t') (hx:s.ev x = .c (.sc (.int kd a))) (hy:s.ev y = .c (.sc (.int kd b))):LOp P o s [] ⟨.b (decide (a<b)),[],[]⟩:=lQ ho hx hy (by simp)
theorem Ib {t t':TypeId} {x y:Operand} {kd:IntKind} {a b:Int} (ho:o.op = .binOp .leq t x y t') (hx:s.ev x = .c (.sc (.int kd a))) (hy:s.ev y = .c (.sc (.int kd b))):LOp P o s [] ⟨.b (decide (a≤b)),[],[]⟩:=lQ ho hx hy (by simp)
theorem Ic {t t':TypeId} {x y:Operand} {kd:IntKind} {a b:Int} (ho:o.op = .binOp .gtr t x y t') (hx:s.ev x = .c (.sc (.int kd a))) (hy:s.ev y = .c (.sc (.int kd b))):LOp P o s [] ⟨.b (decide (b<a)),[],[]⟩:=lQ ho hx hy (by simp)
theorem Ie {t t':TypeId} {x y:Operand} {kd:IntKind} {a b:Int} (ho:o.op = .binOp .geq t x y t') (hx:s.ev x = .c (.sc (.int kd a))) (hy:s.ev y = .c (.sc (.int kd b))):LOp P o s [] ⟨.b (decide (b≤a)),[],[]⟩:=lQ ho hx hy (by simp)
theorem Fy {t t':TypeId} {x y:Operand} {a b:ByteArray} (ho:o.op = .binOp .eql t x y t') (hx:s.ev x = .c (.sc (.string a))) (hy:s.ev y = .c (.sc (.string b))):LOp P o s [] ⟨.b (a.toList == b.toList),[],[]⟩:=p5 ho hx hy (by simp)
theorem FA {t t':TypeId} {x y:Operand} {a b:ByteArray} (ho:o.op = .binOp .neq t x y t') (hx:s.ev x = .c (.sc (.string a))) (hy:s.ev y = .c (.sc (.string b))):LOp P o s [] ⟨.b (!(a.toList == b.toList)),[],[]⟩:=p5 ho hx hy (by simp)
theorem FB {t t':TypeId} {x y:Operand} {a b:ByteArray} (ho:o.op = .binOp .lss t x y t') (hx:s.ev x = .c (.sc (.string a))) (hy:s.ev y = .c (.sc (.string b))):LOp P o s [] ⟨.b (Op.bytesLess a.toList b.toList),[],[]⟩:=p5 ho hx hy (by simp)
theorem FC {t t':TypeId} {x y:Operand} {a b:ByteArray} (ho:o.op = .binOp .geq t x y t') (hx:s.ev x = .c (.sc (.string a))) (hy:s.ev y = .c (.sc (.string b))):LOp P o s [] ⟨.b (!Op.bytesLess a.toList b.toList),[],[]⟩:=p5 ho hx hy (by simp)
theorem FD {t:TypeId} {x:Operand} {b:Bool} (ho:o.op = .unOp .not t x) (hx:s.ev x = .b b):LOp P o s [] ⟨.b (!b),[],[]⟩ :=
 Fo (by rw [ho];rfl) hx fun ev w hx=>by simp [execOp,ho,hx,Op.unary]
def Jp:Value→Value→Bool
 | .int _ a,.int _ b=>a == b
 | .string a,.string b=>a == b
 | .bool a,.bool b=>a == b
 | _,_=>false
def zC:List Value→List Value→Bool
 | [],[]=>true
 | a :: l,b :: m=>Jp a b && zC l m
 | _,_=>false
def shp:Value→Nat
 | .int .i64 _=>0
 | .string _=>1
 | .bool _=>2
 | _=>9
def scs:List D→Option (List Value)
 | []=>some []
 | .sc v :: l=>match scs l with|some r=>some (v :: r)|none=>none
 | _ :: _=>none
class EQ (P:Program) (t:TypeId) (sh:outParam (List Nat)):Prop where
 g:P.eqGuardType P.depth t=false
 e:∀(w:World) (a b:List Value),a.map shp=sh→b.map shp=sh→(Op.equal t (.agg a.toArray) (.agg b.toArray)).run P w = .ok (zC a b) w
theorem eX {w:World} {F:Nat→Prop} {ρ:Nat→Value}:∀{l:List D} {a vs:List Value},scs l=some a→All2 (D.rep w F ρ) l vs→vs=a
 | [],a,vs,h,k=>by
  cases vs with
  | nil=>simp [scs] at h;exact h.symm▸rfl
  | cons=>exact k.elim
 | d :: l,a,vs,h,k=>by
  cases vs with
  | nil=>exact k.elim
  | cons v vs =>
   cases d with
   | sc x =>
    simp only [scs] at h;cases hl:scs l with
    | none=>rw [hl] at h;cases h
    | some r =>
     rw [hl] at h;have h:=Option.some.inj h;subst h;rw [eX hl k.2,show v=x from k.1]
   | _=>simp [scs] at h
theorem FE {t t':TypeId} {x y:Operand} {la lb:List D} {a b:List Value} {sh:List Nat} {c:Bool} [I:EQ P t sh] (ho:o.op = .binOp .eql t x y t') (hx:s.ev x = .v (.ag la)) (hy:s.ev y = .v (.ag lb)) (ha:scs la=some a) (hb:scs lb=some b) (h1:a.map shp=sh) (h2:b.map shp=sh) (h:zC a b=c):LOp P o s [] ⟨.b c,[],[]⟩ :=
 bp fun cx st ρ ac w hr hc _=>by
  have he:=hc x (by simp [ho,Op.operands]);have he2:=hc y (by simp [ho,Op.operands]);rw [hx] at he;rw [hy] at he2;have hv:=hr.ev x;rw [he] at hv;have hv2:=hr.ev y;rw [he2] at hv2;obtain ⟨vs,hv,hA⟩:=hv;obtain ⟨us,hv2,hB⟩:=hv2;have e1:=eX ha hA;have e2:=eX hb hB;subst e1;subst e2;subst h;refine ⟨.bool (zC vs us),?_,rfl,fun k hk=>by simp [TV.has,V0.has,D.has] at hk⟩;unfold execOp;rw [ho];simp [hv,hv2,eqGuard,binOp,I.e w vs us h1 h2,I.g]
theorem FF {t t':TypeId} {x y:Operand} {la lb:List D} {a b:List Value} {sh:List Nat} {c:Bool} [I:EQ P t sh] (ho:o.op = .binOp .neq t x y t') (hx:s.ev x = .v (.ag la)) (hy:s.ev y = .v (.ag lb)) (ha:scs la=some a) (hb:scs lb=some b) (h1:a.map shp=sh) (h2:b.map shp=sh) (h:(!zC a b)=c):LOp P o s [] ⟨.b c,[],[]⟩ :=
 bp fun cx st ρ ac w hr hc _=>by
  have he:=hc x (by simp [ho,Op.operands]);have he2:=hc y (by simp [ho,Op.operands]);rw [hx] at he;rw [hy] at he2;have hv:=hr.ev x;rw [he] at hv;have hv2:=hr.ev y;rw [he2] at hv2;obtain ⟨vs,hv,hA⟩:=hv;obtain ⟨us,hv2,hB⟩:=hv2;have e1:=eX ha hA;have e2:=eX hb hB;subst e1;subst e2;subst h;refine ⟨.bool (!zC vs us),?_,rfl,fun k hk=>by simp [TV.has,V0.has,D.has] at hk⟩;unfold execOp;rw [ho];simp [hv,hv2,eqGuard,binOp,I.e w vs us h1 h2,I.g]
theorem CY {t e:TypeId} [I:SE P t e] (w:World) (A:Option Addr) (n c:Nat) (ty:TypeId):(Builtin.len_ #[t] ty #[.slice A n c]).run P w = .ok (.int .i64 n) w:=by
 simp [Builtin.len_,run_underlying I.u,goInt]
theorem ig {t e ty:TypeId} {x:Operand} {n:Nat} {R:List Nat} [SE P t e] (ho:o.op = .call { callee:=.builtin .len,args:=#[x],argTypes:=#[t] })
  (h:∀(c:Ctx) (st:Mst) (ρ:Nat→Value) (a:Act) (w:World),Rp c st ρ a w→st.ev x=s.ev x→(∀k,aK R k=true→st.h k=s.h k)→∃A c,a.eval x = .slice A n c):LOp P o s R ⟨.i n,[],[]⟩ :=
 bp fun c st ρ a w hr h1 h2=>by
  obtain ⟨A,cap,hv⟩:=h c st ρ a w hr (h1 x (by simp [ho,Op.operands,Call.operands])) h2;refine ⟨.int .i64 n,?_,rfl,fun k hk=>by simp [TV.has,V0.has,D.has] at hk⟩;unfold execOp;rw [ho];simp only [resolve,invoke,builtin,Sem.run_bind,Sem.run_pure,Result.andThen_ok,List.map_toArray,List.map_cons,List.map_nil,hv,CY]
theorem FG {t e:TypeId} {x:Operand} {α:Type} {E:El α} {l:List α} [SE P t e] (ho:o.op = .call { callee:=.builtin .len,args:=#[x],argTypes:=#[t] }) (hx:s.ev x = .c (.sl E l)):LOp P o s [] ⟨.i l.length,[],[]⟩ :=
 ig (ty:=0) ho fun c st ρ a w hr he _=>by
  have hv:=hr.ev x;rw [he,hx] at hv;obtain ⟨A,cap,hv,_⟩:=hv;exact ⟨A,cap,hv⟩
theorem Bd {t e:TypeId} {x:Operand} {k:Nat} {e':TypeId} {α:Type} {E:El α} {l:List α} [SE P t e] (ho:o.op = .call { callee:=.builtin .len,args:=#[x],argTypes:=#[t] }) (hx:s.ev x = .c (.own k)) (hk:s.h k=some (.arr e' E l)):LOp P o s [k] ⟨.i l.length,[],[]⟩ :=
 ig (ty:=0) ho fun c st ρ a w hr he h2=>by
  have hv:=hr.ev x;rw [he,hx] at hv;obtain ⟨A,cap,hA,_⟩:=eC (hr.hp k _ ((h2 k (by simp [aK])).trans hk));exact ⟨A,cap,Eq.trans hv hA⟩
theorem Be {t e:TypeId} {x:Operand} [SE P t e] (ho:o.op = .call { callee:=.builtin .len,args:=#[x],argTypes:=#[t] }) (hx:s.ev x = .c (.sc (.slice none 0 0))):LOp P o s [] ⟨.i (0:Nat),[],[]⟩ :=
 ig (ty:=0) ho fun c st ρ a w hr he _=>by
  have hv:=hr.ev x;rw [he,hx] at hv;exact ⟨none,0,hv⟩
theorem pt {x:Operand} {l:List V0} {i:Nat} {y:V0} (ho:o.op = .extract x i) (hx:s.ev x = .tup l) (hy:l[i]? = some y):LOp P o s [] ⟨.v y,[],[]⟩ :=
 bp fun c st ρ a w hr h1 _=>by
  have he:=h1 x (by simp [ho,Op.operands]);rw [hx] at he;have hv:=hr.ev x;rw [he] at hv;obtain ⟨vs,hv,hA⟩:=hv;obtain ⟨u,hu,hrep⟩:=hA.get hy;refine ⟨u,?_,hrep,fun k hk=>hr.nf (x:=x) he ?_⟩
  ·unfold execOp;rw [ho];simp [hv,Instr.extract,hu]
  ·simp only [TV.has] at hk ⊢;exact List.any_eq_true.2 ⟨y,List.mem_of_getElem? hy,hk⟩
theorem uQ {t:TypeId} {n off:Nat} [I:TI P t true n] (w:World) (cs:Array Value):(part t cs off).run P w = .ok (.agg (cs.extract off (off+n))) w:=by
 obtain ⟨d,h1,h2⟩:=I.u;have h3:=I.s;cases hq:P.info? t with
 | none=>simp [hq] at h3
 | some i =>
  simp [hq] at h3;subst h3;cases d <;> simp_all [part,isAgg,run_underlying h1,sizeOf,typeInfo]
theorem uR {t:TypeId} {n off:Nat} [I:TI P t false n] (w:World) (cs:Array Value) (v:Value) (hv:cs[off]? = some v):(part t cs off).run P w = .ok v w:=by
 obtain ⟨d,h1,h2⟩:=I.u;cases d <;> simp_all [part,isAgg,run_underlying h1]
theorem Bf {t ft:TypeId} {x:Operand} {f off n:Nat} {l:List D} {y:D} [I:FO P t f off ft] [J:TI P ft false n] (ho:o.op = .field t x f) (hx:s.ev x = .v (.ag l)) (hy:l[off]? = some y):LOp P o s [] ⟨.c y,[],[]⟩ :=
 bp fun c st ρ a w hr h1 _=>by
  have he:=h1 x (by simp [ho,Op.operands]);rw [hx] at he;have hv:=hr.ev x;rw [he] at hv;obtain ⟨cs,hv,hA⟩:=hv;obtain ⟨fs,z,i,u1,u2,u3,u4,_⟩:=I.u;subst u3;subst u4;obtain ⟨v,h2,h3⟩:=hA.get hy;refine ⟨v,?_,h3,fun k hk=>hr.nf (x:=x) he (by simp only [TV.has,V0.has];exact pn hy hk)⟩;unfold execOp;rw [ho];simp only [hv,Instr.field,run_underlying u1,u2,Sem.run_bind,Result.andThen_ok,asAgg,Sem.run_pure,uR w cs.toArray v (by simpa using h2)]
theorem sL {t ft:TypeId} {x:Operand} {f off n:Nat} {l ds:List D} [I:FO P t f off ft] [J:TI P ft true n] (ho:o.op = .field t x f) (hx:s.ev x = .v (.ag l)) (hd:(l.drop off).take n=ds):LOp P o s [] ⟨.v (.ag ds),[],[]⟩ :=
 bp fun c st ρ a w hr h1 _=>by
  have he:=h1 x (by simp [ho,Op.operands]);rw [hx] at he;have hv:=hr.ev x;rw [he] at hv;obtain ⟨cs,hv,hA⟩:=hv;obtain ⟨fs,z,i,u1,u2,u3,u4,_⟩:=I.u;subst u3;subst u4;subst hd;refine ⟨.agg ((cs.drop z.offset).take n).toArray,?_,⟨_,rfl,(hA.drop _).take _⟩,fun k hk=>hr.nf (x:=x) he (by simp only [TV.has,V0.has] at hk ⊢;exact po (fun d hd=>List.mem_of_mem_drop (List.mem_of_mem_take hd)) hk)⟩;unfold execOp;rw [ho];simp only [hv,Instr.field,run_underlying u1,u2,Sem.run_bind,Result.andThen_ok,asAgg,Sem.run_pure,uQ w cs.toArray];congr 3
  simp [List.drop_take,Array.ext_iff]
end
theorem iN {P:Program} (t e:TypeId) (i:TypeInfo) (z:Value) (ht:P.underlying t=some (.slice e)) (hi:P.info? e=some i) (hz:i.zero=some z)
  (kl kc:IntKind) (n c:Nat) (hnc:n≤c) (hbytes:i.bytes*c≤281474976710656) (h63:c≤9223372036854775807) (w:World) :
  (Instr.makeSlice t (.int kl (n:Int)) (.int kc (c:Int))).run P w = .ok (.slice (some ⟨w.heap.size,0,none⟩) n c) (w.alloc (.cells (madeCells z.cells (c*i.size)) e)):=by
 have hb:(i.bytes:Int)*(c:Int)≤281474976710656:=by
  have h:((i.bytes*c:Nat):Int)≤281474976710656:=by omega
  rwa [Int.natCast_mul] at h
 have hr:=run_make (P:=P) w t e i z ht hi hz kl kc n c (by omega) (by omega) hb (by omega);simp only [Int.toNat_natCast] at hr;exact hr
theorem If {P:Program} (t e:TypeId) (z:Value) (by_:Nat) (ht:P.underlying t=some (.slice e)) (hi:(P.info? e).map (fun i=>(i.zero,i.size,i.bytes))=some (some z,1,by_)) (hz:z.cells = #[z]) (hb:by_≤64) (n:Nat) (hn:n≤1000000) (w:World) :
  (Instr.makeSlice t (.int .i64 (n:Int)) (.int .i64 (n:Int))).run P w = .ok (.slice (some ⟨w.heap.size,0,none⟩) n n) (w.alloc (.cells (madeCells #[z] n) e)):=by
 obtain ⟨i0,hi,hz0,hz1,hz2⟩:=info_parts hi;have hle:i0.bytes*n≤64*1000000:=Nat.mul_le_mul (by omega) hn;rw [iN t e i0 z ht hi hz0 _ _ n n (Nat.le_refl _) (by omega) (by omega),hz1,Nat.mul_one,hz]
def Gr (S:Nat→Prop) (base:Nat) (w:World) (b:Nat):Prop:=b<w.heap.size∧(S b∨base≤b)
def In (w:World) (S:Nat→Prop):Prop:=∀b,S b→b<w.heap.size
section
variable {α:Type} {E:El α} {w w' w'':World} {S T:Nat→Prop} {A:Option Addr} {l:List α} {base base':Nat} {e:TypeId} {v:Value}
theorem RowsAt.lo (h:RowsAt E w S A l) (hS:In w S):RowsAt E w (Lo w.heap.size) A l:=h.mono hS
theorem RowsAt.grNew (h:RowsAt E w (KI base w) A l):RowsAt E w (Gr S base w) A l:=h.mono fun _ hs=>⟨hs.2,.inr hs.1⟩
def El.inn {α:Type} (E:El α) (T:Nat→Prop):El α where
 n:=E.n
 pos:=E.pos
 rep:=fun w S x cs=>E.rep w (fun b=>S b∧T b) x cs
 len:=fun h=>E.len h
 one:=fun h=>E.one h
 same:=fun h hk hS=>E.same h (fun b hb=>hk b hb.1) fun b hb=>⟨hS b hb.1,hb.2⟩
theorem Reps.inn:∀{l:List α} {xs:List Value},Reps (E.inn T) w S l xs→Reps E w (fun b=>S b∧T b) l xs
 | [],_,h=>h
 | _ :: _,_,h=>by
  obtain ⟨cs,rest,rfl,h1,h2⟩:=h;exact ⟨cs,rest,rfl,h1,Reps.inn h2⟩
theorem Reps.toInn:∀{l:List α} {xs:List Value},Reps E w (fun b=>S b∧T b) l xs→Reps (E.inn T) w S l xs
 | [],_,h=>h
 | _ :: _,_,h=>by
  obtain ⟨cs,rest,rfl,h1,h2⟩:=h;exact ⟨cs,rest,rfl,h1,Reps.toInn h2⟩
theorem ElTB.inn {P:Program} {t:TypeId} {by_:Nat} (Q:ElTB P E t e by_) (T:Nat→Prop):ElTB P (E.inn T) t e by_:=⟨Q.under,Q.info⟩
theorem qM {xs cs vs:List Value} {n k j:Nat} (hk:k+n≤xs.length) (hcs:cs=(xs.drop k).take n) (hj:j+vs.length≤n) :
  xs.take (k+j)++vs++xs.drop (k+j+vs.length)=xs.take k++(cs.take j++vs++cs.drop (j+vs.length))++xs.drop (k+n):=by
 subst hcs;have e1:xs.take (k+j)=xs.take k++((xs.drop k).take n).take j:=by
  rw [List.take_take,Nat.min_eq_left (by omega),List.take_add]
 have e2:xs.drop (k+j+vs.length)=((xs.drop k).take n).drop (j+vs.length)++xs.drop (k+n):=by
  have h:(xs.drop k).drop (j+vs.length)=((xs.drop k).take n).drop (j+vs.length)++(xs.drop k).drop n:=by
   have h0:(xs.drop k).drop (j+vs.length)=((xs.drop k).take n++(xs.drop k).drop n).drop (j+vs.length):=by rw [List.take_append_drop]
   rw [h0,List.drop_append,List.length_take,List.length_drop,Nat.min_eq_left (by omega),Nat.sub_eq_zero_of_le hj,List.drop_zero]
  rw [List.drop_drop,List.drop_drop] at h;rw [←h];congr 1
  omega
 rw [e1,e2];simp
end
section
variable {α:Type} {E:El α} {S:Nat→Prop} {l:List α} {e:TypeId}
end
section
variable {α:Type} {E:El α} {w:World} {S T:Nat→Prop} {l:List α} {e:TypeId} {v:Value} {base:Nat}
end
class ST {α:Type} (P:Program) (E:El α) (t:TypeId) (e:outParam TypeId) (by_:outParam Nat):Prop where
 T:ElTB P E t e by_
section
variable {P:Program} {o:Oper} {s:Mst} {α:Type} {E:El α}
def FH (s:Mst) (E:El α) (x:Operand) (m:List α) (R:List Nat):Prop :=
 ∀(c:Ctx) (st:Mst) (ρ:Nat→Value) (a:Act) (w:World),Rp c st ρ a w→st.ev x=s.ev x→(∀k,aK R k=true→st.h k=s.h k)→
  ∃A cap ys,a.eval x = .slice A m.length cap∧Reps E w (Fz c st.h ρ w) m ys∧(0<m.length→∃b off,A=some ⟨b,off,none⟩∧∀j u,ys[j]? = some u→w.cell? ⟨b,off+j,none⟩=some u)
theorem qN {x:Operand} {m:List α} (hx:s.ev x = .c (.sl E m)):FH s E x m []:=fun c st ρ a w hr he _=>by
 have hv:=hr.ev x;rw [he,hx] at hv;obtain ⟨A,cap,hv,_,ys,h1,h2⟩:=hv;exact ⟨A,cap,ys,hv,h1,fun h=>by obtain ⟨b,off,e,_,h3⟩:=h2 h;exact ⟨b,off,e,h3⟩⟩
theorem qO {x:Operand} {m:List α} (hx:s.ev x = .c (.full E m)):FH s E x m []:=fun c st ρ a w hr he _=>by
 have hv:=hr.ev x;rw [he,hx] at hv;obtain ⟨A,hv,_,ys,h1,h2⟩:=hv;exact ⟨A,_,ys,hv,h1,fun h=>by obtain ⟨b,off,e,_,h3⟩:=h2 h;exact ⟨b,off,e,h3⟩⟩
theorem uS {x:Operand} {k:Nat} {e:TypeId} {m:List α} (hx:s.ev x = .c (.own k)) (hk:s.h k=some (.arr e E m)):FH s E x m [k]:=fun c st ρ a w hr he h2=>by
 have hv:=hr.ev x;rw [he,hx] at hv;obtain ⟨A,cap,hA,_,hp⟩:=eC (hr.hp k _ ((h2 k (by simp [aK])).trans hk));rcases Nat.eq_zero_or_pos m.length with h0|h0
 ·obtain rfl:m=[]:=List.eq_nil_of_length_eq_zero h0;exact ⟨A,cap,[],Eq.trans hv hA,rfl,fun h=>absurd h (by simp)⟩
 ·obtain ⟨g,xs,rfl,_,h3,h4,_⟩:=hp h0;exact ⟨_,cap,xs,Eq.trans hv hA,h3,fun _=>⟨g,0,rfl,fun j u hu=>by rw [Nat.zero_add];exact h4 j u hu⟩⟩
theorem eY [J:Dp E] {w:World} {F:Nat→Prop} {ρ:Nat→Value}:∀{m:List α} {vs:List Value},All2 (D.rep w F ρ) (m.flatMap J.deep) vs→Reps E w F m vs
 | [],vs,h=>by
  cases vs with
  | nil=>rfl
  | cons=>exact h.elim
 | x :: m,vs,h=>by
  rw [List.flatMap_cons] at h;refine ⟨vs.take (J.deep x).length,vs.drop (J.deep x).length,(List.take_append_drop _ _).symm,?_,?_⟩
  ·have:=h.take (J.deep x).length;rw [List.take_left] at this;exact J.put this
  ·have:=h.drop (J.deep x).length;rw [List.drop_left] at this;exact eY this
theorem aD [J:Dp E] {x:Operand} {k n:Nat} {e:TypeId} {cs:List D} (m:List α) (hx:s.ev x = .c (.slb k n)) (hk:s.h k=some (.box e cs)) (hm:m.flatMap J.deep=cs) (hn:m.length=n):FH s E x m [k]:=fun c st ρ a w hr he h2=>by
 have hv:=hr.ev x;rw [he,hx] at hv;obtain ⟨g,hg,hv⟩:=hv;subst hm;subst hn;obtain ⟨vs,hB,hA,_⟩:=hr.box ((h2 k (by simp [aK])).trans hk) hg;exact ⟨_,_,vs,hv,eY hA,fun _=>⟨g,0,rfl,fun j u hu=>by rw [Nat.zero_add];exact hB.cellx j (by simpa using hu)⟩⟩
def FI (s:Mst) (E:El α) (e:TypeId) (x:Operand) (l:List α) (kr:Option Nat):Prop :=
 (∀k,kr=some k→∃b,s.h k=some b)∧
 ∀(c:Ctx) (st:Mst) (ρ:Nat→Value) (a:Act) (w:World),Rp c st ρ a w→st.ev x=s.ev x→(∀k,kr=some k→st.h k=s.h k)→
  ∃v xs,a.eval x=v∧w.ownsRow 0 e E.n v l.length xs∧Reps E w (Fz c st.h ρ w) l xs∧(∀g,kb v=some g→∃k,kr=some k∧kb (ρ k)=some g)
theorem aB {x:Operand} {k:Nat} {e:TypeId} {l:List α} (hx:s.ev x = .c (.own k)) (hk:s.h k=some (.arr e E l)):FI s E e x l (some k) :=
 ⟨fun k' h=>by injection h with h;subst h;exact ⟨_,hk⟩,fun c st ρ a w hr he h2=>by
  have hv:=hr.ev x;rw [he,hx] at hv;obtain ⟨xs,h3,h4⟩:=hr.hp k _ ((h2 k rfl).trans hk);exact ⟨_,xs,hv,h3,h4,fun g hg=>⟨k,rfl,hg⟩⟩⟩
theorem p6 {x:Operand} {e:TypeId} (hx:s.ev x = .c (.sc (.slice none 0 0))):FI s E e x [] none :=
 ⟨(fun k h=>by cases h),fun c st ρ a w hr he h2=>by
  have hv:=hr.ev x;rw [he,hx] at hv;exact ⟨_,[],hv,World.ownsRow_nil _ _ _ _,rfl,fun g hg=>by cases hg⟩⟩
theorem uT {x:Operand} {k:Nat} {e:TypeId} (hx:s.ev x = .c (.slb k 0)) (hk:s.h k=some (.box e [])):FI s E e x [] (some k) :=
 ⟨fun k' h=>by injection h with h;subst h;exact ⟨_,hk⟩,fun c st ρ a w hr he h2=>by
  have hv:=hr.ev x;rw [he,hx] at hv;obtain ⟨g,hg,hv⟩:=hv;obtain ⟨vs,hB,hA,_⟩:=hr.box ((h2 k rfl).trans hk) hg;cases vs with
  | cons=>exact hA.elim
  | nil=>exact ⟨_,[],hv,⟨by simp,.inr ⟨g,0,#[],rfl,Nat.zero_le _,hB,Nat.le_refl _,by simp [maxLen],by simp,by simp⟩⟩,rfl,fun g' hg'=>⟨k,rfl,by rw [hg];exact hg'⟩⟩⟩
def Bg (kr:Option Nat):List (Nat×Option Box):=match kr with|some k=>[(k,none)]|none=>[]
def Ly (kr:Option Nat):List Nat:=match kr with|some k=>[k]|none=>[]
theorem ak {t e:TypeId} {by_ k:Nat} {x y:Operand} {l m l':List α} {kr:Option Nat} {R:List Nat} [T:ST P E t e by_] (ho:o.op = .call { callee:=.builtin .append,args:=#[x,y],argTypes:=#[t,t] }) (hdk:o.dst=some k) (hx:FI s E e x l kr) (hy:FH s E y m R) (hl':l++m=l')
  (hlen:l.length+m.length≤maxLen) (hby:(l.length+m.length)*by_≤140737488355328):LOp P o s (Ly kr++R) ⟨.c (.own k),(k,some (.arr e E l')) :: Bg kr,[k]⟩:=by
 intro c st ρ a w hr h1 h2 h3 h4;subst hl';have hfk:st.f k=true:=h3 k (by simp [aK]);have hkrs:∀j,kr=some j→st.h j=s.h j:=fun j hj=>h2 j (by subst hj;simp [Ly,aK]);have hkx:∀j,kr=some j→∃b,st.h j=some b:=fun j hj=>by obtain ⟨b,hb⟩:=hx.1 j hj;exact ⟨b,(hkrs j hj).trans hb⟩
 have hne:∀j,kr=some j→k.beq j=false:=fun j hj=>by
  cases h9:k.beq j with
  | false=>rfl
  | true =>
   obtain ⟨b,hb⟩:=hkx j hj;rw [←Nat.eq_of_beq_eq_true h9,hr.wf.h k hfk] at hb;cases hb
 obtain ⟨v,xs,hv,hown,hreps,hvk⟩:=hx.2 c st ρ a w hr (h1 x (by simp [ho,Op.operands,Call.operands])) hkrs;obtain ⟨A,cap,ys,hyv,hyr,hyc⟩:=hy c st ρ a w hr (h1 y (by simp [ho,Op.operands,Call.operands])) fun j hj=>h2 j (by rw [lP,hj,Bool.or_true]);have hblk:∀g,v.ownBlock=some g→kb v=some g:=fun g h=>by
  cases v with
  | slice A n c=>cases A <;> exact h
  | _=>simp [Value.ownBlock] at h
 have hblk':∀(u:Value) g,kb u=some g→∀{nn xx},(∃w:World,w.ownsRow 0 e E.n u nn xx)→u.ownBlock=some g:=fun u g h nn xx ⟨w,hw⟩=>by
  rcases hw.2 with ⟨rfl,_⟩|⟨g',cap',cur,rfl,_⟩
  ·cases h
  ·exact h
 have hFv:∀b,Fz c st.h ρ w b→v.ownBlock≠some b:=fun b hb e=>by
  obtain ⟨j,hj,hjb⟩:=hvk b (hblk b e);obtain ⟨bx,hbx⟩:=hkx j hj;exact hb.2.2 j bx hbx hjb
 have hOwn:OwnRows (E.inn (Fz c st.h ρ w)) e w 0 v l:=⟨Nat.zero_le _,xs,hown,Reps.toInn (hreps.same (fun _ _=>rfl) fun b hb=>⟨⟨hb.2.1,hFv b hb⟩,hb⟩)⟩;obtain ⟨v',w',hrun,⟨_,zs,ho1,ho2⟩,hB,hS⟩:=ta (T.T.inn (Fz c st.h ρ w)) w o.type 0 v l m A cap hOwn ys (Reps.toInn (hyr.same (fun _ _=>rfl) fun b hb=>⟨⟨hb.2.1,hFv b hb⟩,hb⟩)) hyc hlen hby;have ho3:=Reps.inn ho2;have hg':∀g,kb v'=some g→g<w'.heap.size∧(w.heap.size≤g∨kb v=some g):=fun g hg=>by
  have hgo:=hblk' v' g hg ⟨w',ho1⟩;refine ⟨ho1.lt g hgo |>.2,?_⟩;by_cases hlt:w.heap.size≤g
  ·exact .inl hlt
  ·refine .inr ?_;by_cases hvg:v.ownBlock=some g
   ·exact hblk g hvg
   ·exact absurd hgo (hS g ⟨by omega,hvg⟩).2
 have hexec:(execOp a.eval o).run P w = .ok (.value v') w':=by
  unfold execOp;simp only [ho,resolve,invoke,builtin,Sem.run_bind,Sem.run_pure,Result.andThen_ok,List.map_toArray,List.map_cons,List.map_nil,hv,hyv,hrun]
 have hky:∀n,aA ((k,some (Box.arr e E (l++m))) :: Bg kr) n=true↔n=k∨kr=some n:=fun n=>by
  simp only [aA,Bool.or_eq_true];constructor
  ·rintro (h|h)
   ·exact .inl (Nat.eq_of_beq_eq_true h).symm
   ·cases kr with
    | none=>simp [Bg,aA] at h
    | some j=>simp [Bg,aA] at h;exact .inr (by rw [h])
  ·rintro (rfl|h)
   ·exact .inl (Nat.beq_refl _)
   ·subst h;exact .inr (by simp [Bg,aA])
 have hputk:hput ((k,some (Box.arr e E (l++m))) :: Bg kr) st.h k=some (.arr e E (l++m)):=by simp [hput]
 have hputr:∀j,kr=some j→hput ((k,some (Box.arr e E (l++m))) :: Bg kr) st.h j=none:=fun j hj=>by
  simp only [hput,hne j hj,cond_false];subst hj;simp [Bg,hput]
 have hsm:∀n bx,aA ((k,some (Box.arr e E (l++m))) :: Bg kr) n=true→hput ((k,some (Box.arr e E (l++m))) :: Bg kr) st.h n=some bx→n=k∧bx = .arr e E (l++m):=fun n bx hn hb=>by
  rcases (hky n).1 hn with rfl|h
  ·rw [hputk] at hb;exact ⟨rfl,(Option.some.inj hb).symm⟩
  ·rw [hputr n h] at hb;cases hb
 have hFz:∀b,Fz c st.h ρ w b→Fz c (hput ((k,some (Box.arr e E (l++m))) :: Bg kr) st.h) (upd ρ k v') w' b∧w'.heap[b]? = w.heap[b]?:=fun b hb=>by
  refine ⟨⟨hb.1,Nat.lt_of_lt_of_le hb.2.1 hB.size,fun n bx hn he=>?_⟩,(hS b ⟨hb.2.1,hFv b hb⟩).1⟩;cases h9:aA ((k,some (Box.arr e E (l++m))) :: Bg kr) n with
  | true =>
   obtain ⟨rfl,_⟩:=hsm n bx h9 hn;rw [aI] at he;rcases (hg' b he).2 with h|h
   ·have:=hb.2.1;omega
   ·exact hFv b hb (hblk' v b h ⟨w,hown⟩)
  | false =>
   rw [bN h9] at hn;have hkn:k.beq n=false:=by
    cases h8:k.beq n with
    | false=>rfl
    | true=>rw [←Nat.eq_of_beq_eq_true h8,hr.wf.h k hfk] at hn;cases hn
   rw [df hkn] at he;exact hb.2.2 n bx hn he
 refine Oper.wp_value hexec ⟨upd ρ k v',hr.app (e:=⟨.c (.own k),(k,some (.arr e E (l++m))) :: Bg kr,[k]⟩) h4 (fun n hn=>?_) (fun n hn=>df (by simpa [aK] using hn)) (fun n hn=>?_) ⟨hB.os,hB.tape,hB.output,hB.size,fun b hlt hn=>(hS b ⟨hlt,fun e=>hn ?_⟩).1⟩ (fun n bx g hn hb hg=>?_) (fun n n' b b' g hn hn' hb hb' _ _=>?_) (fun n hn=>.inl ?_) (fun n n' bx hn hb hx2=>?_) (fun n bx hn hb=>?_) ?_⟩
 ·have:n=k:=by simp [aK] at hn;exact hn.symm
  subst this;exact ⟨hfk,(hky n).2 (.inl rfl)⟩
 ·rcases (hky n).1 hn with rfl|h
  ·exact .inl (by simp [aK])
  ·obtain ⟨b,hb⟩:=hkx n h;exact .inr (hr.nfh hb)
 ·obtain ⟨j,hj,hjb⟩:=hvk b (hblk b e);obtain ⟨bx,hbx⟩:=hkx j hj;exact ⟨j,bx,(hky j).2 (.inr hj),hbx,hjb⟩
 ·obtain ⟨rfl,_⟩:=hsm n bx hn hb;rw [aI] at hg;refine ⟨(hg' g hg).1,(hg' g hg).2.imp id fun h=>?_⟩;obtain ⟨j,hj,hjb⟩:=hvk g h;obtain ⟨b0,hb0⟩:=hkx j hj;exact ⟨j,b0,(hky j).2 (.inr hj),hb0,hjb⟩
 ·rw [(hsm n b hn hb).1,(hsm n' b' hn' hb').1]
 ·have:n=k:=by simp [TV.has,V0.has,D.has] at hn;exact hn.symm
  subst this;simp [aK]
 ·rw [(hsm n' bx hn hb).2] at hx2;simp [Box.has] at hx2
 ·obtain ⟨rfl,rfl⟩:=hsm n bx hn hb;rw [aI];refine ⟨zs,ho1,ho3.same (fun _ _=>rfl) fun b hb=>?_⟩;exact (hFz b hb.2).1
 ·exact (aI ρ k v').symm
end
end Go.Proofs.YtjndcdcbjidocaaGreatDoor
