/- Part 7 of 24 of the proof of rollbackOptions_holds (no condition). -/
import Derived.Test.YtdaajdflefnjfaaGreatK06
import Derived.KernelRfl
import Derived.IntWalk
import Derived.Laws.MakeOwn
set_option linter.unusedVariables false
set_option linter.unusedSimpArgs false
set_option maxRecDepth 100000
set_option maxHeartbeats 64000000
namespace Go.Proofs.YtdaajdflefnjfaaGreat
open Go.RowKit
def D.ren (q:Nat→Nat):D→D
 | .own k=>.own (q k)
 | .slb k n=>.slb (q k) n
 | .ptr k off=>.ptr (q k) off
 | .optr k m i off=>.optr (q k) m i off
 | .ocut k=>.ocut (q k)
 | .osl k m lo hi fl=>.osl (q k) m lo hi fl
 | .clo f ks=>.clo f (ks.map q)
 | d=>d
def V0.ren (q:Nat→Nat):V0→V0
 | .one d=>.one (d.ren q)
 | .ag l=>.ag (l.map (D.ren q))
def TV.ren (q:Nat→Nat):TV→TV
 | .v x=>.v (x.ren q)
 | .tup l=>.tup (l.map (V0.ren q))
def Box.ren (q:Nat→Nat):Box→Box
 | .box t cs=>.box t (cs.map (D.ren q))
 | .it k n l=>.it (q k) n l
 | b=>b
section
variable {w:World} {F:Nat→Prop} {ρ ρ':Nat→Value} {q:Nat→Nat}
theorem D.rep_ren {d:D} {v:Value} (hq:∀k,d.has k=true→ρ' k=ρ (q k)):(d.ren q).rep w F ρ v↔d.rep w F ρ' v:=by
 cases d with
 | clo f ks =>
  have hm:∀k,k∈ks→ρ' k=ρ (q k):=fun k hk=>hq k (by simp only [D.has];exact List.any_eq_true.2 ⟨k,hk,Nat.beq_refl k⟩)
  constructor
  ·rintro ⟨vs,e,h⟩
   exact ⟨vs,e,(All2.mapL.1 h).imp fun k u hk (hu:u=ρ (q k))=>hu.trans (hm k hk).symm⟩
  ·rintro ⟨vs,e,h⟩
   exact ⟨vs,e,All2.mapL.2 (h.imp fun k u hk (hu:u=ρ' k)=>hu.trans (hm k hk))⟩
 | _=>first|exact Iff.rfl|(simp only [D.ren,D.rep];rw [hq _ (by simp [D.has])])
theorem V0.rep_ren {d:V0} {v:Value} (hq:∀k,d.has k=true→ρ' k=ρ (q k)):(d.ren q).rep w F ρ v↔d.rep w F ρ' v:=by
 cases d with
 | one d=>exact D.rep_ren hq
 | ag l =>
  constructor
  ·rintro ⟨cs,e,h⟩
   exact ⟨cs,e,(All2.mapL.1 h).imp fun d u hd h1=>(D.rep_ren fun k hk=>hq k (by simp only [V0.has];exact List.any_eq_true.2 ⟨d,hd,hk⟩)).1 h1⟩
  ·rintro ⟨cs,e,h⟩
   exact ⟨cs,e,All2.mapL.2 (h.imp fun d u hd h1=>(D.rep_ren fun k hk=>hq k (by simp only [V0.has];exact List.any_eq_true.2 ⟨d,hd,hk⟩)).2 h1)⟩
theorem TV.rep_ren {d:TV} {v:Value} (hq:∀k,d.has k=true→ρ' k=ρ (q k)):(d.ren q).rep w F ρ v↔d.rep w F ρ' v:=by
 cases d with
 | v d=>exact V0.rep_ren hq
 | tup l =>
  constructor
  ·rintro ⟨cs,e,h⟩
   exact ⟨cs,e,(All2.mapL.1 h).imp fun d u hd h1=>(V0.rep_ren fun k hk=>hq k (by simp only [TV.has];exact List.any_eq_true.2 ⟨d,hd,hk⟩)).1 h1⟩
  ·rintro ⟨cs,e,h⟩
   exact ⟨cs,e,All2.mapL.2 (h.imp fun d u hd h1=>(V0.rep_ren fun k hk=>hq k (by simp only [TV.has];exact List.any_eq_true.2 ⟨d,hd,hk⟩)).2 h1)⟩
theorem Box.rep_ren {d:Box} {v:Value} (hq:∀k,d.has k=true→ρ' k=ρ (q k)):(d.ren q).rep w F ρ v↔d.rep w F ρ' v:=by
 cases d with
 | box t cs =>
  constructor
  ·rintro ⟨g,vs,e,hb,h,h1⟩
   exact ⟨g,vs,e,hb,(All2.mapL.1 h).imp fun d u hd h1=>(D.rep_ren fun k hk=>hq k (by simp only [Box.has];exact List.any_eq_true.2 ⟨d,hd,hk⟩)).1 h1,h1⟩
  ·rintro ⟨g,vs,e,hb,h,h1⟩
   exact ⟨g,vs,e,hb,All2.mapL.2 (h.imp fun d u hd h1=>(D.rep_ren fun k hk=>hq k (by simp only [Box.has];exact List.any_eq_true.2 ⟨d,hd,hk⟩)).2 h1),h1⟩
 | arr e E l=>exact Iff.rfl
 | mp l=>exact Iff.rfl
 | it k n l=>simp only [Box.ren,Box.rep];rw [hq k (by simp [Box.has])]
end
inductive DLe (s:Mst) (q:Nat→Nat) (gone:Nat→Prop):D→D→Prop
 | any (d0:D):DLe s q gone d0 .any
 | ren (d:D):DLe s q gone (d.ren q) d
 | nil {α:Type} (E:El α):DLe s q gone (.sc (.slice none 0 0)) (.sl E [])
 | full {α:Type} (E:El α) (l:List α):DLe s q gone (.full E l) (.sl E l)
 | froz {α:Type} (e:TypeId) (E:El α) (l:List α) (k:Nat) (hk:s.h k=some (.arr e E l)) (hg:gone k):DLe s q gone (.own k) (.sl E l)
 | frozc {α:Type} (e:TypeId) (E:El α) (l:List α) (k:Nat) (hk:s.h k=some (.arr e E l)) (hg:gone k):DLe s q gone (.ocut k) (.sl E l)
 | ocut {α:Type} (e:TypeId) (E:El α) (l:List α) (k:Nat) (hk:s.h (q k)=some (.arr e E l)):DLe s q gone (.own (q k)) (.ocut k)
inductive V0Le (s:Mst) (q:Nat→Nat) (gone:Nat→Prop):V0→V0→Prop
 | one {d0 d:D} (h:DLe s q gone d0 d):V0Le s q gone (.one d0) (.one d)
 | ag {l0 l:List D} (h:All2 (DLe s q gone) l0 l):V0Le s q gone (.ag l0) (.ag l)
 | any (x:V0):V0Le s q gone x (.one .any)
inductive TVLe (s:Mst) (q:Nat→Nat) (gone:Nat→Prop):TV→TV→Prop
 | v {d0 d:V0} (h:V0Le s q gone d0 d):TVLe s q gone (.v d0) (.v d)
 | tup {l0 l:List V0} (h:All2 (V0Le s q gone) l0 l):TVLe s q gone (.tup l0) (.tup l)
 | any (x:TV):TVLe s q gone x (.c .any)
inductive BoxLe (s:Mst) (q:Nat→Nat) (gone:Nat→Prop):Box→Box→Prop
 | box (t:TypeId) {l0 l:List D} (h:All2 (DLe s q gone) l0 l):BoxLe s q gone (.box t l0) (.box t l)
 | arr {α:Type} (e:TypeId) (E:El α) (l:List α):BoxLe s q gone (.arr e E l) (.arr e E l)
 | mp (l:List (Value×Value)):BoxLe s q gone (.mp l) (.mp l)
 | it (k n:Nat) (l:List Nat):BoxLe s q gone (.it (q k) n l) (.it k n l)
theorem zw {w:World} {c:Ctx} {h h':Nat→Option Box} {ρ ρ':Nat→Value} {α:Type} {e:TypeId} {E:El α} {l:List α} {v:Value} {s:Mst} {a:Act} (hr:Rp c s ρ a w) {k:Nat} (hk:s.h k=some (.arr e E l)) (hv:(D.ocut k).rep w (Fz c s.h ρ w) ρ v) (hF:∀b,Fz c s.h ρ w b→Fz c h' ρ' w b) (hg:∀g,kb (ρ k)=some g→Fz c h' ρ' w g):(D.sl E l).rep w (Fz c h' ρ' w) ρ' v:=by
 obtain ⟨A0,n0,cap0,c0,hρ0,hc0,rfl⟩:=hv
 obtain ⟨A,cap,hA,hc,hp⟩:=dZ (hr.hp k _ hk)
 have hA':=hA
 rw [hρ0] at hA'
 injection hA' with e1 e2 e3
 subst e1
 subst e2
 subst e3
 refine ⟨A0,c0,rfl,⟨hc0.1,Nat.le_trans hc0.2 hc.2⟩,?_⟩
 rcases Nat.eq_zero_or_pos l.length with h0|h0
 ·obtain rfl:l=[]:=List.eq_nil_of_length_eq_zero h0
  exact RowsAt.nil _ _ _ _
 ·obtain ⟨g,xs,rfl,_,h3,h4,_⟩:=hp h0
  exact ⟨xs,h3.same (fun _ _=>rfl) hF,fun _=>⟨g,0,rfl,hg g (by rw [hA];rfl),fun j u hu=>by rw [Nat.zero_add];exact h4 j u hu⟩⟩
theorem nN {w:World} {c:Ctx} {ρ:Nat→Value} {α:Type} {e:TypeId} {E:El α} {l:List α} {s:Mst} {a:Act} (hr:Rp c s ρ a w) {k:Nat} (hk:s.h k=some (.arr e E l)) {F:Nat→Prop} {v:Value} (hv:v=ρ k):(D.ocut k).rep w F ρ v:=by
 obtain ⟨A,cap,hA,hc,_⟩:=dZ (hr.hp k _ hk)
 exact ⟨A,l.length,cap,cap,hA,⟨hc.1,Nat.le_refl _⟩,hv.trans hA⟩
structure Part (s:Mst) (q:Nat→Nat) (h2:Nat→Option Box):Prop where
 inj:∀k k',h2 k≠none→h2 k'≠none→q k=q k'→k=k'
 le:∀k b,h2 k=some b→∃b0,s.h (q k)=some b0∧BoxLe s q (fun j=>∀k,h2 k≠none→q k≠j) b0 b
section
variable {c:Ctx} {s:Mst} {ρ:Nat→Value} {a:Act} {w:World} {q:Nat→Nat} {h2:Nat→Option Box}
theorem Part.fz (p:Part s q h2):∀b,Fz c s.h ρ w b→Fz c h2 (fun k=>ρ (q k)) w b:=fun b ⟨f1,f2,f3⟩=>⟨f1,f2,fun k bx hk=>by obtain ⟨b0,h1,_⟩:=p.le k bx hk;exact f3 _ b0 h1⟩
theorem Part.d (p:Part s q h2) (hr:Rp c s ρ a w) {d0 d:D} {v:Value} (hle:DLe s q (fun j=>∀k,h2 k≠none→q k≠j) d0 d) (hd:d0.rep w (Fz c s.h ρ w) ρ v):d.rep w (Fz c h2 (fun k=>ρ (q k)) w) (fun k=>ρ (q k)) v:=by
 cases hle with
 | any=>trivial
 | ren=>exact ((D.rep_ren (ρ':=fun k=>ρ (q k)) fun _ _=>rfl).1 hd).mono (fun b hb=>⟨p.fz b hb,rfl⟩) fun _ _=>rfl
 | nil E=>exact ⟨none,0,hd,by simp [maxLen],RowsAt.nil _ _ _ _⟩
 | full E l=>obtain ⟨A,h1,h2,h3⟩:=hd;exact ⟨A,_,h1,⟨Nat.le_refl _,h2⟩,h3.mono p.fz⟩
 | froz e E l k hk hg =>
  exact zw (h:=s.h) hr hk (nN hr hk hd) p.fz fun g hkb=>⟨(hr.inb k _ g hk hkb).imp (c.hX g) id,hr.ltb hk hkb,fun k' bx hk' he=>by obtain ⟨b0,h1,_⟩:=p.le k' bx hk';exact hg k' (by rw [hk'];simp) (hr.dis _ _ b0 _ g h1 hk he hkb)⟩
 | frozc e E l k hk hg =>
  exact zw (h:=s.h) hr hk hd p.fz fun g hkb=>⟨(hr.inb k _ g hk hkb).imp (c.hX g) id,hr.ltb hk hkb,fun k' bx hk' he=>by obtain ⟨b0,h1,_⟩:=p.le k' bx hk';exact hg k' (by rw [hk'];simp) (hr.dis _ _ b0 _ g h1 hk he hkb)⟩
 | ocut e E l k hk=>exact nN (F:=Fz c h2 (fun k=>ρ (q k)) w) hr hk hd
theorem Part.l (p:Part s q h2) (hr:Rp c s ρ a w):∀{l0 l:List D} {cs:List Value},All2 (DLe s q (fun j=>∀k,h2 k≠none→q k≠j)) l0 l→All2 (D.rep w (Fz c s.h ρ w) ρ) l0 cs→All2 (D.rep w (Fz c h2 (fun k=>ρ (q k)) w) (fun k=>ρ (q k))) l cs
 | [],[],[],_,_=>trivial
 | _ :: _,_ :: _,_ :: _,h,k=>⟨p.d hr h.1 k.1,p.l hr h.2 k.2⟩
 | [],_ :: _,_,h,_=>h.elim
 | _ :: _,[],_,h,_=>h.elim
 | [],[],_ :: _,_,k=>k.elim
 | _ :: _,_ :: _,[],_,k=>k.elim
theorem Part.v0 (p:Part s q h2) (hr:Rp c s ρ a w) {d0 d:V0} {v:Value} (hle:V0Le s q (fun j=>∀k,h2 k≠none→q k≠j) d0 d) (hd:d0.rep w (Fz c s.h ρ w) ρ v):d.rep w (Fz c h2 (fun k=>ρ (q k)) w) (fun k=>ρ (q k)) v:=by
 cases hle with
 | one h=>exact p.d hr h hd
 | ag h=>obtain ⟨cs,e,h2⟩:=hd;exact ⟨cs,e,p.l hr h h2⟩
 | any=>trivial
theorem Part.l0 (p:Part s q h2) (hr:Rp c s ρ a w):∀{l0 l:List V0} {cs:List Value},All2 (V0Le s q (fun j=>∀k,h2 k≠none→q k≠j)) l0 l→All2 (V0.rep w (Fz c s.h ρ w) ρ) l0 cs→All2 (V0.rep w (Fz c h2 (fun k=>ρ (q k)) w) (fun k=>ρ (q k))) l cs
 | [],[],[],_,_=>trivial
 | _ :: _,_ :: _,_ :: _,h,k=>⟨p.v0 hr h.1 k.1,p.l0 hr h.2 k.2⟩
 | [],_ :: _,_,h,_=>h.elim
 | _ :: _,[],_,h,_=>h.elim
 | [],[],_ :: _,_,k=>k.elim
 | _ :: _,_ :: _,[],_,k=>k.elim
theorem Part.tv (p:Part s q h2) (hr:Rp c s ρ a w) {d0 d:TV} {v:Value} (hle:TVLe s q (fun j=>∀k,h2 k≠none→q k≠j) d0 d) (hd:d0.rep w (Fz c s.h ρ w) ρ v):d.rep w (Fz c h2 (fun k=>ρ (q k)) w) (fun k=>ρ (q k)) v:=by
 cases hle with
 | v h=>exact p.v0 hr h hd
 | tup h=>obtain ⟨vs,e,h3⟩:=hd;exact ⟨vs,e,p.l0 hr h h3⟩
 | any=>trivial
theorem Rp.weak {s':Mst} (hr:Rp c s ρ a w) (p:Part s q s'.h) (hq:∀k,k∈c.K→q k=k∧s'.f k=false) (hwf:s'.Wf)
  (ht:∀t,TVLe s q (fun j=>∀k,s'.h k≠none→q k≠j) (s.t t) (s'.t t)):Rp c s' (fun k=>ρ (q k)) a w where
 dfr:=hr.dfr
 siz:=hr.siz
 frm:=hr.frm
 tmp:=fun t=>p.tv hr (ht t) (hr.tmp t)
 hp:=fun k b hk=>by
  obtain ⟨b0,h1,h2⟩:=p.le k b hk
  have h3:=hr.hp _ _ h1
  cases h2 with
  | box t h=>obtain ⟨g,vs,e,hb,h4,h5⟩:=h3;exact ⟨g,vs,e,hb,p.l hr h h4,h5⟩
  | arr e E l=>obtain ⟨xs,h4,h5⟩:=h3;exact ⟨xs,h4,h5.same (fun _ _=>rfl) p.fz⟩
  | mp l=>exact h3
  | it k n l=>exact h3
 inb:=fun k b g hk hg=>by
  obtain ⟨b0,h1,_⟩:=p.le k b hk
  exact hr.inb _ b0 g h1 hg
 dis:=fun k k' b b' g hk hk' hg hg'=>by
  obtain ⟨b0,h1,_⟩:=p.le k b hk
  obtain ⟨b0',h1',_⟩:=p.le k' b' hk'
  exact p.inj k k' (by rw [hk];simp) (by rw [hk'];simp) (hr.dis _ _ b0 b0' g h1 h1' hg hg')
 ent:=fun k hk=>⟨by show ρ (q k)=c.ρ0 k;rw [(hq k hk).1];exact (hr.ent k hk).1,(hq k hk).2⟩
 wf:=hwf
end
def D.keys:D→List Nat
 | .own k | .slb k _ | .ptr k _ | .optr k _ _ _ | .ocut k | .osl k _ _ _ _=>[k]
 | .clo _ ks=>ks
 | _=>[]
def Jg (U:List Nat) (l:List Nat):Bool:=l.all (aG U)
def D.in_ (U:List Nat) (d:D):Bool:=Jg U d.keys
def V0.in_ (U:List Nat):V0→Bool
 | .one d=>d.in_ U
 | .ag l=>l.all (D.in_ U)
def TV.in_ (U:List Nat):TV→Bool
 | .v x=>x.in_ U
 | .tup l=>l.all (V0.in_ U)
def Box.in_ (U:List Nat):Box→Bool
 | .box _ cs=>cs.all (D.in_ U)
 | .arr ..=>true
 | .mp _=>true
 | .it k _ _=>aG U k
section
variable {U:List Nat} {k:Nat}
theorem D.in_has {d:D} (h:d.in_ U=true) (hk:d.has k=true):aG U k=true:=by
 cases d with
 | clo f ks =>
  have hk:ks.any (fun j=>j.beq k)=true:=hk
  obtain ⟨j,hj,he⟩:=List.any_eq_true.1 hk
  rw [←Nat.eq_of_beq_eq_true he]
  have h:ks.all (aG U)=true:=h
  exact List.all_eq_true.1 h j hj
 | _=>simp [D.has] at hk <;> (subst hk;simpa [D.in_,D.keys,Jg] using h)
theorem V0.in_has {d:V0} (h:d.in_ U=true) (hk:d.has k=true):aG U k=true:=by
 cases d with
 | one d=>exact D.in_has (d:=d) h hk
 | ag l=>obtain ⟨d,h1,h2⟩:=List.any_eq_true.1 hk;exact D.in_has (List.all_eq_true.1 h d h1) h2
theorem TV.in_has {d:TV} (h:d.in_ U=true) (hk:d.has k=true):aG U k=true:=by
 cases d with
 | v d=>exact V0.in_has (d:=d) h hk
 | tup l=>obtain ⟨d,h1,h2⟩:=List.any_eq_true.1 hk;exact V0.in_has (List.all_eq_true.1 h d h1) h2
theorem Box.in_has {d:Box} (h:d.in_ U=true) (hk:d.has k=true):aG U k=true:=by
 cases d with
 | box t cs=>obtain ⟨d,h1,h2⟩:=List.any_eq_true.1 hk;exact D.in_has (List.all_eq_true.1 h d h1) h2
 | arr e E l=>simp [Box.has] at hk
 | mp l=>simp [Box.has] at hk
 | it j n l=>simp only [Box.has] at hk;rw [←Nat.eq_of_beq_eq_true hk];exact h
end
def il:List (Nat×Box)→Nat→Option Box
 | [],_=>none
 | (k,b) :: r,n=>bif k.beq n then some b else il r n
def ar {α:Type _} (l:List (Nat×α)):List Nat:=l.map (·.1)
def eX:List Nat→Bool
 | []=>true
 | k :: r=>!aG r k && eX r
def AO (args:List V0) (hin:List (Nat×Box)) (us:List Nat) (res:TV) (hout:List (Nat×Option Box)):Bool :=
 args.all (V0.in_ (ar hin)) && hin.all (fun x=>x.2.in_ (ar hin)) && Jg (ar hout) (ar hin) && Jg (ar hin++us) (ar hout) && us.all (fun k=>!aG (ar hin) k && aG (ar hout) k) &&
 res.in_ (ar hin++us) && hout.all (fun x=>match x.2 with|none=>true|some b=>b.in_ (ar hin++us))
def fA (q:Nat→Nat) (l:List (Nat×Option Box)):List (Nat×Option Box):=l.map fun x=>(q x.1,x.2.map (Box.ren q))
structure FSpec (P:Program) (f:FuncId) (args:List V0) (hin:List (Nat×Box)) (us:List Nat) (res:TV) (hout:List (Nat×Option Box)):Prop where
 en:∀(vs:Array Value) (w:World),(callFunc f vs).run P w = .ok (.enter f vs) w
 ca:∀(q:Nat→Nat) (c:Ctx) (st:Mst) (ρ:Nat→Value) (a:Act) (w:World) (vs:List Value),Rp c st ρ a w→
  (∀k k',aG (ar hin++us) k=true→aG (ar hin++us) k'=true→q k=q k'→k=k')→
  All2 (fun d v=>(V0.ren q d).rep w (Fz c st.h ρ w) ρ v) args vs→
  (∀k b,il hin k=some b→st.h (q k)=some (b.ren q))→(∀k,aG us k=true→st.f (q k)=true)→
  Calls P f vs.toArray w fun e w'=>∃v,e = .returned v∧∀dst:Option Nat,(∀d,dst=some d→d<c.nt)→∃ρ',Rp c (st.app dst ⟨res.ren q,fA q hout,us.map q⟩) ρ' (a.put dst v) w'
inductive RV (P:Program) (s:Mst):ResultVar→V0→Prop
 | tmp {t:Nat} {x:V0} (h:s.t t = .v x):RV P s (.tmp t) x
 | row {t ty k n:Nat} {tb:TypeId} {cs:List D} (h:s.t t = .c (.ptr k 0)) (hk:s.h k=some (.box tb cs)) [I:TI P ty true n] (hn:cs.length=n):RV P s (.cell t ty) (.ag cs)
 | one {t ty k n:Nat} {tb:TypeId} {y:D} {cs:List D} (h:s.t t = .c (.ptr k 0)) (hk:s.h k=some (.box tb (y :: cs))) [I:TI P ty false n]:RV P s (.cell t ty) (.one y)
def Jh:List V0→TV
 | [x]=>.v x
 | l=>.tup l
def tV (tmps:Array Value):ResultVar→Sem Value
 | .tmp t=>pure (tmps.getD t undef)
 | .cell a t=>do loadVar t (←asAddr (tmps.getD a undef))
theorem zx (fn:Func) (tmps:Array Value):results fn tmps=(do let vs ←fn.results.mapM (tV tmps);pure (if h:vs.size=1 then vs[0] else .tuple vs)):=by
 unfold results
 congr 1
theorem tt {P:Program} {c:Ctx} {s:Mst} {ρ:Nat→Value} {a:Act} {w:World} (hr:Rp c s ρ a w) {r:ResultVar} {x:V0} (h:RV P s r x) :
  ∃v,(tV a.tmps r).run P w = .ok v w∧x.rep w (Fz c s.h ρ w) ρ v:=by
 cases h with
 | @tmp t x h=>exact ⟨_,rfl,by have:=hr.tmp t;rw [h] at this;exact this⟩
 | @row t ty k n tb cs h hk I hn =>
  have h1:=hr.tmp t
  rw [h] at h1
  obtain ⟨g,hg,hv⟩:=h1
  obtain ⟨vs,hB,hA,h1c⟩:=hr.box hk hg
  refine ⟨.agg vs.toArray,?_,vs,rfl,hA⟩
  have h2:=nL (P:=P) (t:=ty) (g:=g) (p:=0) w vs (fun j u hu=>by rw [Nat.zero_add];exact hB.cellx j (by simpa using hu)) (by rw [←hA.length,hn])
  simp only [Instr.loadAt,Instr.sureAddr,Sem.run_bind,Sem.run_pure,Result.andThen_ok] at h2
  simp only [tV,hv,asAddr,Sem.run_bind,Sem.run_pure,Result.andThen_ok,h2]
 | @one t ty k n tb y cs h hk I =>
  have h1:=hr.tmp t
  rw [h] at h1
  obtain ⟨g,hg,hv⟩:=h1
  obtain ⟨vs,hB,hA,h1c⟩:=hr.box hk hg
  obtain ⟨u,hu,hrep⟩:=hA.get (i:=0) (a:=y) rfl
  refine ⟨u,?_,hrep⟩
  have h2:=nM (P:=P) (t:=ty) (g:=g) (p:=0) w u (hB.cellx 0 (by simpa using hu))
  simp only [Instr.loadAt,Instr.sureAddr,Sem.run_bind,Sem.run_pure,Result.andThen_ok] at h2
  simp only [tV,hv,asAddr,Sem.run_bind,Sem.run_pure,Result.andThen_ok,h2]
theorem ln {P:Program} {c:Ctx} {s:Mst} {ρ:Nat→Value} {a:Act} {w:World} (hr:Rp c s ρ a w) {fn:Func} {xs:List V0} (h:All2 (RV P s) fn.results.toList xs):∃v,(results fn a.tmps).run P w = .ok v w∧(Jh xs).rep w (Fz c s.h ρ w) ρ v:=by
 have key:∀(rs:List ResultVar) (xs:List V0),All2 (RV P s) rs xs→∃vs:List Value,(rs.mapM (tV a.tmps)).run P w = .ok vs w∧All2 (V0.rep w (Fz c s.h ρ w) ρ) xs vs:=by
  intro rs
  induction rs with
  | nil=>intro xs h;cases xs with
   | nil=>exact ⟨[],rfl,trivial⟩
   | cons=>exact h.elim
  | cons r rs ih =>
   intro xs h
   cases xs with
   | nil=>exact h.elim
   | cons x xs =>
    obtain ⟨v,h1,h2⟩:=tt hr h.1
    obtain ⟨vs,h3,h4⟩:=ih xs h.2
    refine ⟨v :: vs,?_,h2,h4⟩
    simp only [List.mapM_cons,Sem.run_bind,h1,Result.andThen_ok,h3,Sem.run_pure]
 obtain ⟨vs,h1,h2⟩:=key _ _ h
 have hm:(fn.results.mapM (tV a.tmps)).run P w = .ok vs.toArray w:=by
  rw [Array.mapM_eq_mapM_toList,map_eq_pure_bind]
  simp only [Sem.run_bind,h1,Result.andThen_ok,Sem.run_pure]
 have hl:=h2.length
 rw [zx]
 simp only [Sem.run_bind,hm,Result.andThen_ok,Sem.run_pure]
 match xs,vs,h2 with
 | [x],[v],h2=>exact ⟨v,rfl,h2.1⟩
 | [],[],_=>exact ⟨_,rfl,[],rfl,trivial⟩
 | x :: y :: xs,v :: u :: vs,h2=>exact ⟨_,rfl,v :: u :: vs,by simp,h2⟩
def Kt (args:List V0) (hin:List (Nat×Box)):Mst :=
 { t:=fun i=>match args[i]? with|some x=>.v x|none=>.c .any,h:=il hin,f:=fun k=>!aG (ar hin) k }
def qa (P:Program) (fn:Func) (hin:List (Nat×Box)) (res:TV) (hout:List (Nat×Option Box)) (e:Exit) (s:Mst):Prop :=
 (e = .normal∨e = .ret)∧∃xs p,All2 (RV P s) fn.results.toList xs∧(∀k,aG (ar hin) k=true→p k=k)∧Part s p (hput hout fun _=>none)∧TVLe s p (fun j=>∀k,hput hout (fun _=>none) k≠none→p k≠j) (Jh xs) res
section
variable {P:Program}
theorem bD:∀{l:List Nat} {k:Nat},aG l k=true↔k∈l
 | [],k=>by simp [aG]
 | x :: l,k=>by
  simp only [aG,Bool.or_eq_true,List.mem_cons,bD (l:=l)]
  constructor
  ·rintro (h|h)
   ·exact .inl (Nat.eq_of_beq_eq_true h).symm
   ·exact .inr h
  ·rintro (rfl|h)
   ·exact .inl (Nat.beq_refl k)
   ·exact .inr h
theorem bS {hin:List (Nat×Box)} {k:Nat} {b:Box} (h:il hin k=some b):aG (ar hin) k=true∧(k,b)∈hin:=by
 induction hin with
 | nil=>cases h
 | cons x r ih =>
  obtain ⟨j,c⟩:=x
  simp only [il] at h
  cases hj:j.beq k with
  | true =>
   rw [hj] at h
   injection h with h
   subst h
   have:=Nat.eq_of_beq_eq_true hj
   subst this
   exact ⟨by simp [ar,aG],by simp⟩
  | false =>
   rw [hj] at h
   obtain ⟨h1,h2⟩:=ih h
   exact ⟨by simp only [ar,List.map_cons,aG,Bool.or_eq_true];exact .inr h1,by simp [h2]⟩
theorem B7 {hin:List (Nat×Box)} {k:Nat} (h:aG (ar hin) k=true):∃b,il hin k=some b:=by
 induction hin with
 | nil=>simp [ar,aG] at h
 | cons x r ih =>
  obtain ⟨j,c⟩:=x
  simp only [il]
  cases hj:j.beq k with
  | true=>exact ⟨c,rfl⟩
  | false =>
   simp only [ar,List.map_cons,aG,hj,Bool.false_or] at h
   exact ih h
theorem jb {l:List (Nat×Option Box)} {k:Nat}:aB l k=aG (ar l) k:=by
 induction l with
 | nil=>rfl
 | cons x r ih=>simp only [aB,ar,List.map_cons,aG,ih]
theorem nO {l:List (Nat×Option Box)} {k:Nat} {b:Box} (h:hput l (fun _=>none) k=some b):(k,some b)∈l:=by
 induction l with
 | nil=>cases h
 | cons x r ih =>
  obtain ⟨j,c⟩:=x
  simp only [hput] at h
  cases hj:j.beq k with
  | true =>
   rw [hj] at h
   have:=Nat.eq_of_beq_eq_true hj
   subst this
   simp only [cond_true] at h
   subst h
   simp
  | false=>rw [hj] at h;simp [ih h]
theorem o9 {q:Nat→Nat} {l:List (Nat×Option Box)} {n:Nat}:aB (fA q l) n=true↔∃k,aB l k=true∧q k=n:=by
 induction l with
 | nil=>simp [fA,aB]
 | cons x r ih =>
  simp only [fA,List.map_cons,aB,Bool.or_eq_true]
  constructor
  ·rintro (h|h)
   ·exact ⟨x.1,.inl (Nat.beq_refl _),Nat.eq_of_beq_eq_true h⟩
   ·obtain ⟨k,h1,h2⟩:=ih.1 h
    exact ⟨k,.inr h1,h2⟩
  ·rintro ⟨k,h1|h1,rfl⟩
   ·rw [Nat.eq_of_beq_eq_true h1];exact .inl (Nat.beq_refl _)
   ·exact .inr (ih.2 ⟨k,h1,rfl⟩)
theorem tW {q:Nat→Nat} {h:Nat→Option Box}:∀{l:List (Nat×Option Box)} {k:Nat},(∀k',aB l k'=true→q k'=q k→k'=k)→aB l k=true→hput (fA q l) h (q k)=(hput l (fun _=>none) k).map (Box.ren q)
 | [],_,_,e=>by simp [aB] at e
 | (j,c) :: r,k,hinj,e=>by
  simp only [fA,List.map_cons,hput]
  cases hj:j.beq k with
  | true =>
   have:=Nat.eq_of_beq_eq_true hj
   subst this
   simp
  | false =>
   have:(q j).beq (q k)=false:=by
    cases h9:(q j).beq (q k) with
    | false=>rfl
    | true =>
     have:=hinj j (by simp [aB]) (Nat.eq_of_beq_eq_true h9)
     subst this
     rw [Nat.beq_refl] at hj
     cases hj
   rw [this]
   simp only [cond_false]
   simp only [aB,hj,Bool.false_or] at e
   exact tW (l:=r) (fun k' h1 h2=>hinj k' (by simp only [aB,h1,Bool.or_true]) h2) e
theorem jc {U l:List Nat} (h:Jg U l=true) {k:Nat} (hk:aG l k=true):aG U k=true:=jB h k hk
theorem D.has_ren {q:Nat→Nat} {d:D} {n:Nat} (h:(d.ren q).has n=true):∃k,d.has k=true∧q k=n:=by
 cases d with
 | clo f ks =>
  have h:(ks.map q).any (fun j=>j.beq n)=true:=h
  obtain ⟨j,hj,he⟩:=List.any_eq_true.1 h
  obtain ⟨k,hk,rfl⟩:=List.mem_map.1 hj
  exact ⟨k,(List.any_eq_true.2 ⟨k,hk,Nat.beq_refl k⟩:ks.any (fun j=>j.beq k)=true),Nat.eq_of_beq_eq_true he⟩
 | _=>simp [D.ren,D.has] at h <;> exact ⟨_,by simp [D.has],h⟩
theorem D.has_renL {q:Nat→Nat} {l:List D} {n:Nat} (h:(l.map (D.ren q)).any (D.has n)=true):∃k,l.any (D.has k)=true∧q k=n:=by
 obtain ⟨d,h1,h2⟩:=List.any_eq_true.1 h
 obtain ⟨d0,h3,rfl⟩:=List.mem_map.1 h1
 obtain ⟨k,h4,h5⟩:=D.has_ren h2
 exact ⟨k,List.any_eq_true.2 ⟨d0,h3,h4⟩,h5⟩
theorem V0.has_ren {q:Nat→Nat} {d:V0} {n:Nat} (h:(d.ren q).has n=true):∃k,d.has k=true∧q k=n:=by
 cases d with
 | one d=>exact D.has_ren (d:=d) h
 | ag l=>exact D.has_renL (l:=l) h
theorem TV.has_ren {q:Nat→Nat} {d:TV} {n:Nat} (h:(d.ren q).has n=true):∃k,d.has k=true∧q k=n:=by
 cases d with
 | v d=>exact V0.has_ren (d:=d) h
 | tup l =>
  obtain ⟨d,h1,h2⟩:=List.any_eq_true.1 h
  obtain ⟨d0,h3,rfl⟩:=List.mem_map.1 h1
  obtain ⟨k,h4,h5⟩:=V0.has_ren h2
  exact ⟨k,List.any_eq_true.2 ⟨d0,h3,h4⟩,h5⟩
theorem Box.has_ren {q:Nat→Nat} {d:Box} {n:Nat} (h:(d.ren q).has n=true):∃k,d.has k=true∧q k=n:=by
 cases d with
 | box t l=>exact D.has_renL (l:=l) h
 | arr e E l=>simp [Box.ren,Box.has] at h
 | mp l=>simp [Box.ren,Box.has] at h
 | it k m l=>exact ⟨k,by simp [Box.has],Nat.eq_of_beq_eq_true h⟩
theorem jd {f:FuncId} {fn:Func} {code:Code} {args:List V0} {hin:List (Nat×Box)} {us:List Nat} {res:TV} {hout:List (Nat×Option Box)} (hf:P.funcs[f]? = some fn) (hb:fn.body=some code) (hen:∀(vs:Array Value) (w:World),(callFunc f vs).run P w = .ok (.enter f vs) w)
  (hok:AO args hin us res hout=true) (hnt:args.length≤fn.ntmps) (h:AW P fn.ntmps (ar hin) code (qa P fn hin res hout) (Kt args hin)):FSpec P f args hin us res hout:=by
 refine ⟨hen,fun q c st ρ a w vs hr hinj hargs hhin hus=>?_⟩
 simp only [AO,Bool.and_eq_true] at hok
 obtain ⟨⟨⟨⟨⟨⟨o1,o2⟩,o3⟩,o4⟩,o5⟩,o6⟩,o7⟩:=hok
 have inK:∀{k},aG (ar hin) k=true→aG (ar hin++us) k=true:=fun h=>by rw [lN,h];rfl
 have inU:∀{k},aG us k=true→aG (ar hin++us) k=true:=fun h=>by rw [lN,h,Bool.or_true]
 have uK:∀{k},aG us k=true→aG (ar hin) k=false:=fun h=>by have:=jB o5 _ h;simp at this;exact this.1
 have hXS:∀b,(∃k bx,aG (ar hin) k=true∧st.h (q k)=some bx∧kb (ρ (q k))=some b)→b<w.heap.size:=fun b ⟨k,bx,_,h2,h3⟩=>hr.ltb h2 h3
 let c':Ctx:={ w0:=w,S:=fun b=>Fz c st.h ρ w b∨∃k bx,aG (ar hin) k=true∧st.h (q k)=some bx∧kb (ρ (q k))=some b,X:=fun b=>∃k bx,aG (ar hin) k=true∧st.h (q k)=some bx∧kb (ρ (q k))=some b,nt:=fn.ntmps,K:=ar hin,ρ0:=fun k=>ρ (q k),hS:=fun b hb=>hb.elim (fun h=>h.2.1) (hXS b),hX:=fun b hb=>.inr hb }
 have hF0:∀b,Fz c st.h ρ w b→Fz c' (il hin) (fun k=>ρ (q k)) w b∧w.heap[b]? = w.heap[b]?:=fun b hb=>⟨⟨.inl (.inl hb),hb.2.1,fun k bx hk=>hb.2.2 (q k) _ (hhin k bx hk)⟩,rfl⟩
 have hr0:Rp c' (Kt args hin) (fun k=>ρ (q k)) { tmps:=vs.toArray++Array.replicate (fn.ntmps-vs.toArray.size) undef,defers:=[] } w:=by
  have hlen:=hargs.length
  refine ⟨rfl,?_,Frx.refl _ _,fun i=>?_,fun k b hk=>?_,fun k b g hk hg=>?_,fun k k' b b' g hk hk' hg hg'=>?_,fun k hk=>⟨rfl,?_⟩,⟨fun k hk=>?_,fun k i hk=>?_,fun k k' b hk hb2=>?_⟩⟩
  ·show (vs.toArray++Array.replicate (fn.ntmps-vs.toArray.size) undef).size=fn.ntmps
   simp
   omega
  ·show TV.rep _ _ _ (match args[i]? with|some x=>.v x|none=>.c .any) _
   cases hi:args[i]? with
   | none=>trivial
   | some x =>
    obtain ⟨v,hv,hx⟩:=hargs.get hi
    have hil:i<vs.length:=(List.getElem?_eq_some_iff.1 hv).1
    have e1:(vs.toArray++Array.replicate (fn.ntmps-vs.toArray.size) undef).getD i undef=v:=by
     rw [Array.getD_eq_getD_getElem?,Array.getElem?_append_left (by simpa using hil)]
     simp [hv]
    show V0.rep _ _ _ x ((vs.toArray++Array.replicate (fn.ntmps-vs.toArray.size) undef).getD i undef)
    rw [e1]
    exact ((V0.rep_ren (ρ':=fun k=>ρ (q k)) fun _ _=>rfl).1 hx).mono hF0 fun _ _=>rfl
  ·have h1:=hr.hp _ _ (hhin k b hk)
   exact ((Box.rep_ren (ρ':=fun k=>ρ (q k)) fun _ _=>rfl).1 h1).mono (fun _ _=>rfl) hF0 fun _ _=>rfl
  ·exact .inl ⟨k,_,(bS hk).1,hhin k b hk,hg⟩
  ·exact hinj k k' (inK (bS hk).1) (inK (bS hk').1) (hr.dis _ _ _ _ g (hhin k b hk) (hhin k' b' hk') hg hg')
  ·show (!aG (ar hin) k)=false
   rw [bD.2 hk]
   rfl
  ·have hk:(!aG (ar hin) k)=true:=hk
   cases h9:il hin k with
   | none=>exact h9
   | some b=>rw [(bS h9).1] at hk;cases hk
  ·have hk:(!aG (ar hin) k)=true:=hk
   show TV.has k (match args[i]? with|some x=>.v x|none=>.c .any)=false
   cases hi:args[i]? with
   | none=>rfl
   | some x =>
    cases h9:TV.has k (.v x) with
    | false=>rfl
    | true=>rw [V0.in_has (List.all_eq_true.1 o1 x (List.mem_of_getElem? hi)) h9] at hk;cases hk
  ·have hk:(!aG (ar hin) k)=true:=hk
   cases h9:Box.has k b with
   | false=>rfl
   | true=>rw [Box.in_has (List.all_eq_true.1 o2 (k',b) (bS hb2).2) h9] at hk;cases hk
 refine calls_of_wp hf hb (wp_mono (h c' _ _ w rfl rfl hr0) ?_)
 rintro e a1 w1 ⟨s1,ρ1,⟨he,xs,p,hxs,hpK,hpart,hle⟩,hr1⟩
 obtain ⟨v,hv,hvr⟩:=ln hr1 hxs
 have hres:=hpart.tv hr1 hle hvr
 let s2:Mst:={ t:=fun _=>.c .any,h:=hput hout fun _=>none,f:=fun k=>!aG (ar hin++us) k }
 have hin2:∀k b,hput hout (fun _=>none) k=some b→aG (ar hin++us) k=true∧b.in_ (ar hin++us)=true:=fun k b hk=>by
  have hm:=nO hk
  have h1:=List.all_eq_true.1 o7 _ hm
  refine ⟨jc o4 ?_,h1⟩
  rw [bD]
  exact List.mem_map.2 ⟨_,hm,rfl⟩
 have hr2:Rp c' s2 (fun k=>ρ1 (p k)) a1 w1:=hr1.weak (s':=s2) hpart (fun k hk=>⟨hpK k (bD.2 hk),by show (!aG (ar hin++us) k)=false;rw [inK (bD.2 hk)];rfl⟩)
  ⟨(fun k hk=>by
   have hk:(!aG (ar hin++us) k)=true:=hk
   cases h9:hput hout (fun _=>none) k with
   | none=>exact h9
   | some b=>rw [(hin2 k b h9).1] at hk;cases hk),fun _ _ _=>rfl,(fun k k' b hk hb2=>by
   have hk:(!aG (ar hin++us) k)=true:=hk
   cases h9:Box.has k b with
   | false=>rfl
   | true=>rw [Box.in_has (hin2 k' b hb2).2 h9] at hk;cases hk)⟩ fun t=>.any _
 have hgo:a1.defers=[]∧∃v,(results fn a1.tmps).run P w1 = .ok v w1∧(fun e w'=>∃v,e=Ending.returned v∧∀dst:Option Nat,(∀d,dst=some d→d<c.nt)→∃ρ',Rp c (st.app dst ⟨res.ren q,fA q hout,us.map q⟩) ρ' (a.put dst v) w') (.returned v) w1:=by
  refine ⟨hr1.dfr,v,hv,v,rfl,fun dst hdst=>?_⟩
  let ρ':Nat→Value:=fun n=>match us.find? (fun k=>(q k).beq n) with|some k=>ρ1 (p k)|none=>ρ n
  have hρu:∀k,aG us k=true→ρ' (q k)=ρ1 (p k):=fun k hk=>by
   show (match us.find? (fun j=>(q j).beq (q k)) with|some k=>ρ1 (p k)|none=>ρ (q k))=_
   cases h9:us.find? (fun j=>(q j).beq (q k)) with
   | none =>
    have:=List.find?_eq_none.1 h9 k (bD.1 hk)
    simp at this
   | some j =>
    have h10:=List.find?_some (p:=fun j=>(q j).beq (q k)) h9
    have h11:=List.mem_of_find?_eq_some h9
    have:j=k:=hinj j k (inU (bD.2 h11)) (inU hk) (Nat.eq_of_beq_eq_true h10)
    rw [this]
  have hρn:∀n,(∀k,aG us k=true→q k≠n)→ρ' n=ρ n:=fun n hn=>by
   show (match us.find? (fun j=>(q j).beq n) with|some k=>ρ1 (p k)|none=>ρ n)=_
   cases h9:us.find? (fun j=>(q j).beq n) with
   | none=>rfl
   | some j=>exact absurd (Nat.eq_of_beq_eq_true (List.find?_some (p:=fun j=>(q j).beq n) h9)) (hn j (bD.2 (List.mem_of_find?_eq_some h9)))
  have hρK:∀k,aG (ar hin++us) k=true→ρ' (q k)=ρ1 (p k):=fun k hk=>by
   rw [lN,Bool.or_eq_true] at hk
   rcases hk with hk|hk
   ·rw [hρn (q k) fun j hj he=>?_,hpK k hk,(hr1.ent k (bD.1 hk)).1]
    have:=hinj j k (inU hj) (inK hk) he
    subst this
    rw [uK hj] at hk
    cases hk
   ·exact hρu k hk
  have hK:∀n,aB (fA q hout) n=true→∃k,aG (ar hin++us) k=true∧aB hout k=true∧q k=n:=fun n hn=>by
   obtain ⟨k,h1,h2⟩:=o9.1 hn
   exact ⟨k,jc o4 (by rw [←jb];exact h1),h1,h2⟩
  have hput':∀k,aG (ar hin++us) k=true→aB hout k=true→hput (fA q hout) st.h (q k)=(hput hout (fun _=>none) k).map (Box.ren q):=fun k hk hk2=>by
   refine tW (fun k' h1 h2=>?_) hk2
   exact hinj k' k (jc o4 (by rw [←jb];exact h1)) hk h2
  have hsome:∀n bx,aB (fA q hout) n=true→hput (fA q hout) st.h n=some bx→∃k b,aG (ar hin++us) k=true∧q k=n∧hput hout (fun _=>none) k=some b∧b.ren q=bx:=fun n bx hn hb2=>by
   obtain ⟨k,h1,h2,rfl⟩:=hK n hn
   rw [hput' k h1 h2] at hb2
   cases h9:hput hout (fun _=>none) k with
   | none=>rw [h9] at hb2;cases hb2
   | some b=>rw [h9] at hb2;exact ⟨k,b,h1,rfl,h9,Option.some.inj hb2⟩
  have hinKey:∀k,aG (ar hin) k=true→aB (fA q hout) (q k)=true:=fun k hk=>o9.2 ⟨k,by rw [jb];exact jc o3 hk,rfl⟩
  have hnonf:∀k,aG (ar hin) k=true→st.f (q k)=false:=fun k hk=>by obtain ⟨b,h1⟩:=B7 hk;exact hr.nfh (hhin k b h1)
  have hFz:∀b,Fz c' s2.h (fun k=>ρ1 (p k)) w1 b→Fz c (hput (fA q hout) st.h) ρ' w1 b∧w1.heap[b]? = w1.heap[b]?:=fun b ⟨f1,f2,f3⟩=>by
   refine ⟨⟨?_,f2,fun n bx hn he=>?_⟩,rfl⟩
   ·rcases f1 with (f1|⟨k,bx,_,h2,h3⟩)|f1
    ·exact f1.1
    ·rcases hr.inb _ bx b h2 h3 with h|h
     ·exact .inl (c.hX b h)
     ·exact .inr h
    ·exact .inr (Nat.le_trans hr.frm.size f1)
   ·cases h9:aB (fA q hout) n with
    | true =>
     obtain ⟨k,b2,h1,rfl,h3,_⟩:=hsome n bx h9 hn
     rw [hρK k h1] at he
     exact f3 k b2 h3 he
    | false =>
     rw [bM h9] at hn
     have hnu:∀k,aG us k=true→q k≠n:=fun k hk e=>by have:=hus k hk;rw [e,hr.nfh hn] at this;cases this
     rw [hρn n hnu] at he
     rcases f1 with (f1|⟨k,b2,h1,h2,h3⟩)|f1
     ·exact f1.2.2 n bx hn he
     ·have:=hr.dis _ _ _ _ b h2 hn h3 he
      subst this
      rw [hinKey k h1] at h9
      cases h9
     ·have:=hr.ltb hn he
      have f1:w.heap.size≤b:=f1
      omega
  have hus':∀n,aG (us.map q) n=true↔∃k,aG us k=true∧q k=n:=fun n=>by
   rw [bD,List.mem_map]
   exact ⟨fun ⟨k,h1,h2⟩=>⟨k,bD.2 h1,h2⟩,fun ⟨k,h1,h2⟩=>⟨k,bD.1 h1,h2⟩⟩
  have hkeyin:∀{d:TV},d.in_ (ar hin++us)=true→∀n,(d.ren q).has n=true→∃k,aG (ar hin++us) k=true∧q k=n:=fun h n hn=>by
   obtain ⟨k,h1,h2⟩:=TV.has_ren hn
   exact ⟨k,TV.in_has h h1,h2⟩
  have hkeyinB:∀{d:Box},d.in_ (ar hin++us)=true→∀n,(d.ren q).has n=true→∃k,aG (ar hin++us) k=true∧q k=n:=fun h n hn=>by
   obtain ⟨k,h1,h2⟩:=Box.has_ren hn
   exact ⟨k,Box.in_has h h1,h2⟩
  have hcls:∀k,aG (ar hin++us) k=true→aG (us.map q) (q k)=true∨st.f (q k)=false:=fun k hk=>by
   rw [lN,Bool.or_eq_true] at hk
   rcases hk with hk|hk
   ·exact .inr (hnonf k hk)
   ·exact .inl ((hus' _).2 ⟨k,hk,rfl⟩)
  refine ⟨ρ',hr.app (e:=⟨res.ren q,fA q hout,us.map q⟩) hdst ?_ ?_ ?_ ?_ ?_ ?_ ?_ ?_ ?_ ?_⟩
  ·intro n hn
   obtain ⟨k,h1,rfl⟩:=(hus' n).1 hn
   refine ⟨hus k h1,o9.2 ⟨k,?_,rfl⟩⟩
   have:=jB o5 k h1
   simp at this
   rw [jb]
   exact this.2
  ·intro n hn
   refine hρn n fun k hk e=>?_
   have:=(hus' n).2 ⟨k,hk,e⟩
   rw [this] at hn
   cases hn
  ·intro n hn
   obtain ⟨k,h1,_,rfl⟩:=hK n hn
   exact hcls k h1
  ·refine ⟨hr1.frm.os,hr1.frm.tape,hr1.frm.output,hr1.frm.size,fun b hlt hn=>hr1.frm.keep b hlt fun ⟨k,bx,h1,h2,h3⟩=>hn ⟨q k,bx,hinKey k h1,h2,h3⟩⟩
  ·intro n bx g hn hb2 hg
   obtain ⟨k,b,h1,rfl,h3,_⟩:=hsome n bx hn hb2
   rw [hρK k h1] at hg
   refine ⟨hr2.ltb (k:=k) h3 hg,?_⟩
   rcases hr2.inb k b g h3 hg with ⟨k0,b0,h4,h5,h6⟩|h4
   ·exact .inr ⟨q k0,b0,hinKey k0 h4,h5,h6⟩
   ·exact .inl h4
  ·intro n n' b b' g hn hn' hb2 hb2' hg hg'
   obtain ⟨k,x,h1,rfl,h3,_⟩:=hsome n b hn hb2
   obtain ⟨k',x',h1',rfl,h3',_⟩:=hsome n' b' hn' hb2'
   rw [hρK k h1] at hg
   rw [hρK k' h1'] at hg'
   rw [hr2.dis k k' x x' g h3 h3' hg hg']
  ·intro n hn
   obtain ⟨k,h1,rfl⟩:=hkeyin o6 n hn
   exact hcls k h1
  ·intro n n' bx hn' hb2 hn
   obtain ⟨k,b,h1,rfl,h3,rfl⟩:=hsome n' bx hn' hb2
   obtain ⟨k2,h4,rfl⟩:=hkeyinB (hin2 k b h3).2 n hn
   exact hcls k2 h4
  ·intro n bx hn hb2
   obtain ⟨k,b,h1,rfl,h3,rfl⟩:=hsome n bx hn hb2
   rw [hρK k h1]
   refine ((Box.rep_ren (ρ':=fun k=>ρ1 (p k)) fun j hj=>?_).2 (hr2.hp k b h3)).mono (fun _ _=>rfl) hFz fun _ _=>rfl
   exact (hρK j (Box.in_has (hin2 k b h3).2 hj)).symm
  ·refine ((TV.rep_ren (ρ':=fun k=>ρ1 (p k)) fun j hj=>?_).2 hres).mono hFz fun _ _=>rfl
   exact (hρK j (TV.in_has o6 hj)).symm
 rcases he with rfl|rfl <;> exact hgo
end
def lp (K:Mst→Prop) (Q:Exit→Mst→Prop):Exit→Mst→Prop
 | .normal,s=>K s
 | e,s=>Q e s
def fB (id:Nat) (Q:Exit→Mst→Prop):Exit→Mst→Prop
 | .exit i,s=>bif i.beq id then Q .normal s else Q (.exit i) s
 | e,s=>Q e s
section
variable {P:Program} {nt:Nat} {Ks:List Nat} {Q:Exit→Mst→Prop} {s:Mst}
theorem vj {x y:Code} (h:AW P nt Ks x (lp (AW P nt Ks y Q) Q) s):AW P nt Ks (.seq x y) Q s:=by
 intro c ρ a w hc hK hr
 refine wp_seq (wp_mono (h c ρ a w hc hK hr) ?_)
 rintro e a' w' ⟨s',ρ',hq,hr'⟩
 cases e with
 | normal=>exact hq c ρ' a' w' hc hK hr'
 | _=>exact ⟨s',ρ',hq,hr'⟩
theorem Gp (h:Q .normal s):AW P nt Ks .skip Q s:=fun _ ρ _ _ _ _ hr=>wp_skip ⟨s,ρ,h,hr⟩
theorem DI {l:Nat} (h:Q .normal s):AW P nt Ks (.label l) Q s:=fun _ ρ _ _ _ _ hr=>wp_label ⟨s,ρ,h,hr⟩
theorem Gq {i:Nat} (h:Q (.exit i) s):AW P nt Ks (.exit i) Q s:=fun _ ρ _ _ _ _ hr=>wp_exit ⟨s,ρ,h,hr⟩
theorem Ji (h:Q .ret s):AW P nt Ks .ret Q s:=fun _ ρ _ _ _ _ hr=>wp_ret ⟨s,ρ,h,hr⟩
theorem Gs {x:Operand} {t e:Code} {b:Bool} (hx:s.ev x = .b b) (h1:b=true→AW P nt Ks t Q s) (h2:b=false→AW P nt Ks e Q s):AW P nt Ks (.cond x t e) Q s:=by
 intro c ρ a w hc hK hr
 have hv:a.eval x = .bool b:=by have:=hr.ev x;rwa [hx] at this
 exact wp_cond_split hv (fun h=>h1 h c ρ a w hc hK hr) fun h=>h2 h c ρ a w hc hK hr
theorem DJ {id:Nat} {x:Code} (h:AW P nt Ks x (fB id Q) s):AW P nt Ks (.block id x) Q s:=by
 intro c ρ a w hc hK hr
 refine wp_block (wp_mono (h c ρ a w hc hK hr) ?_)
 rintro e a' w' ⟨s',ρ',hq,hr'⟩
 cases e with
 | exit i =>
  simp only [fB] at hq
  cases hb:i.beq id with
  | true =>
   rw [hb] at hq
   simp only [Exit.inBlock,Nat.eq_of_beq_eq_true hb,if_true]
   exact ⟨s',ρ',hq,hr'⟩
  | false =>
   rw [hb] at hq
   have hi:¬i=id:=fun e=>by rw [e,Nat.beq_refl] at hb;cases hb
   simp only [Exit.inBlock,hi,if_false]
   exact ⟨s',ρ',hq,hr'⟩
 | _=>exact ⟨s',ρ',hq,hr'⟩
def Le (nt:Nat) (Ks:List Nat) (s s':Mst):Prop:=∀(c:Ctx) (ρ:Nat→Value) (a:Act) (w:World),c.nt=nt→c.K=Ks→Rp c s ρ a w→∃ρ',Rp c s' ρ' a w
theorem Le.refl (s:Mst):Le nt Ks s s:=fun _ ρ _ _ _ _ h=>⟨ρ,h⟩
theorem Le.trans {s s' s'':Mst} (h:Le nt Ks s s') (k:Le nt Ks s' s''):Le nt Ks s s'':=fun c ρ a w h1 h2 hr=>by
 obtain ⟨ρ',hr'⟩:=h c ρ a w h1 h2 hr
 exact k c ρ' a w h1 h2 hr'
theorem ao {ι:Type _} {x:Code} (p:ι→Prop) (I:ι→Mst) (μ:ι→Nat) (i0:ι) (h0:p i0) (h1:Le nt Ks s (I i0))
  (h:∀i,p i→AW P nt Ks x (lp (fun s'=>∃j,p j∧μ j<μ i∧Le nt Ks s' (I j)) Q) (I i)):AW P nt Ks (.loop x) Q s:=by
 intro c ρ a w hc hK hr
 obtain ⟨ρ0,hr0⟩:=h1 c ρ a w hc hK hr
 refine wp_loop_ghost (fun n a w=>∃i ρ,μ i=n∧p i∧Rp c (I i) ρ a w) (μ i0) ⟨i0,ρ0,rfl,h0,hr0⟩ ?_
 rintro n a w ⟨i,ρ,rfl,hp,hr⟩
 refine wp_mono (h i hp c ρ a w hc hK hr) ?_
 rintro e a' w' ⟨s',ρ',hq,hr'⟩
 cases e with
 | normal =>
  obtain ⟨j,hj,hlt,hle⟩:=hq
  obtain ⟨ρ2,hr2⟩:=hle c ρ' a' w' hc hK hr'
  exact ⟨μ j,hlt,j,ρ2,rfl,hj,hr2⟩
 | _=>exact ⟨s',ρ',hq,hr'⟩
theorem bY {x:Code} {φ:Prop} (hf:∀(c:Ctx) (ρ:Nat→Value) (a:Act) (w:World),Rp c s ρ a w→φ) (h:φ→AW P nt Ks x Q s):AW P nt Ks x Q s:=fun c ρ a w hc hK hr=>h (hf c ρ a w hr) c ρ a w hc hK hr
end
def pd:List (Nat×TV)→Nat→TV
 | [],_=>.c .any
 | (k,d) :: r,n=>bif k.beq n then d else pd r n
def cy (U:List Nat) (ts:List (Nat×TV)) (hs:List (Nat×Box)):Mst:={ t:=pd ts,h:=il hs,f:=fun k=>!aG U k }
def Gt (s:Mst) (q:Nat→Nat) (g:Nat→Prop):List (Nat×TV)→Prop
 | []=>True
 | (t,d) :: r=>TVLe s q g (s.t t) d∧Gt s q g r
def Gu (s:Mst) (q:Nat→Nat) (g:Nat→Prop):List (Nat×Box)→Prop
 | []=>True
 | (k,b) :: r=>(∃b0,s.h (q k)=some b0∧BoxLe s q g b0 b)∧Gu s q g r
def qP (s:Mst) (q:Nat→Nat) (g:Nat→Prop):List (Nat×Option Box)→Prop
 | []=>True
 | (_,none) :: r=>qP s q g r
 | (k,some b) :: r=>(∃b0,s.h (q k)=some b0∧BoxLe s q g b0 b)∧qP s q g r
theorem xe {s:Mst} {q:Nat→Nat} {g:Nat→Prop}:∀{l:List (Nat×TV)},Gt s q g l→∀t d,(t,d)∈l→TVLe s q g (s.t t) d
 | (a,b) :: l,h,t,d,hx=>by
  rcases List.mem_cons.1 hx with e|hx
  ·injection e with e1 e2;subst e1;subst e2;exact h.1
  ·exact xe h.2 t d hx
theorem xf {s:Mst} {q:Nat→Nat} {g:Nat→Prop}:∀{l:List (Nat×Box)},Gu s q g l→∀k b,(k,b)∈l→∃b0,s.h (q k)=some b0∧BoxLe s q g b0 b
 | (a,b) :: l,h,t,d,hx=>by
  rcases List.mem_cons.1 hx with e|hx
  ·injection e with e1 e2;subst e1;subst e2;exact h.1
  ·exact xf h.2 t d hx
theorem rE {s:Mst} {q:Nat→Nat} {g:Nat→Prop}:∀{l:List (Nat×Option Box)},qP s q g l→∀k b,(k,some b)∈l→∃b0,s.h (q k)=some b0∧BoxLe s q g b0 b
 | (a,none) :: l,h,t,d,hx=>by
  rcases List.mem_cons.1 hx with e|hx
  ·cases e
  ·exact rE (l:=l) h t d hx
 | (a,some b) :: l,h,t,d,hx=>by
  rcases List.mem_cons.1 hx with e|hx
  ·injection e with e1 e2;injection e2 with e2;subst e1;subst e2;exact h.1
  ·exact rE h.2 t d hx
def qf:List (Nat×Nat)→Nat→Nat
 | [],k=>k
 | (a,b) :: r,k=>bif a.beq k then b else qf r k
def Jj (U:List Nat) (ts:List (Nat×TV)) (hs:List (Nat×Box)) (q:Nat→Nat) (Ks:List Nat):Bool :=
 ts.all (fun x=>x.2.in_ U) && hs.all (fun x=>x.2.in_ U) && Jg U (ar hs) && eX ((ar hs).map q) && Ks.all (fun k=>aG U k && (q k).beq k)
theorem lO {q:Nat→Nat}:∀{l:List Nat},eX (l.map q)=true→∀k k',aG l k=true→aG l k'=true→q k=q k'→k=k'
 | [],_,_,_,h,_,_=>by simp [aG] at h
 | x :: l,hn,k,k',h,h',e=>by
  simp only [List.map_cons,eX,Bool.and_eq_true,Bool.not_eq_true'] at hn
  have hx:∀j,aG l j=true→q x=q j→False:=fun j hj e=>by
   have:aG (l.map q) (q x)=true:=by rw [bD,e];exact List.mem_map.2 ⟨j,bD.1 hj,rfl⟩
   rw [this] at hn
   exact absurd hn.1 (by simp)
  simp only [aG,Bool.or_eq_true] at h h'
  rcases h with h|h <;> rcases h' with h'|h'
  ·rw [←Nat.eq_of_beq_eq_true h,←Nat.eq_of_beq_eq_true h']
  ·rw [←Nat.eq_of_beq_eq_true h] at e;exact (hx k' h' e).elim
  ·rw [←Nat.eq_of_beq_eq_true h'] at e;exact (hx k h e.symm).elim
  ·exact lO hn.2 k k' h h' e
section
variable {nt:Nat} {Ks:List Nat} {s:Mst}
theorem qU {hs:List (Nat×Box)} {q:Nat→Nat} {j:Nat} (h:aG ((ar hs).map q) j=false):∀k,il hs k≠none→q k≠j:=fun k hk e=>by
 cases h9:il hs k with
 | none=>exact hk h9
 | some b =>
  have:aG ((ar hs).map q) j=true:=by rw [bD,←e];exact List.mem_map.2 ⟨k,bD.1 (bS h9).1,rfl⟩
  rw [this] at h
  cases h
theorem DK {U:List Nat} {ts:List (Nat×TV)} {hs:List (Nat×Box)} (q:Nat→Nat) (hok:Jj U ts hs q Ks=true)
  (ht:Gt s q (fun j=>∀k,il hs k≠none→q k≠j) ts)
  (hh:Gu s q (fun j=>∀k,il hs k≠none→q k≠j) hs):Le nt Ks s (cy U ts hs):=by
 intro c ρ a w hc hK hr
 subst hK
 simp only [Jj,Bool.and_eq_true] at hok
 obtain ⟨⟨⟨⟨o1,o2⟩,o3⟩,o4⟩,o5⟩:=hok
 have aB:∀k,il hs k≠none→aG (ar hs) k=true:=fun k hk=>by
  cases h9:il hs k with
  | none=>exact absurd h9 hk
  | some b=>exact (bS h9).1
 have hU:∀k,(!aG U k)=true→aG U k=false:=fun k h=>by simpa using h
 have htg:∀(l:List (Nat×TV)) (n:Nat),(pd l n = .c .any)∨∃d,(n,d)∈l∧pd l n=d:=by
  intro l n
  induction l with
  | nil=>exact .inl rfl
  | cons x l ih =>
   obtain ⟨k,d⟩:=x
   simp only [pd]
   cases hk:k.beq n with
   | true=>rw [Nat.eq_of_beq_eq_true hk];exact .inr ⟨d,by simp,rfl⟩
   | false =>
    rcases ih with h|⟨d',h1,h2⟩
    ·exact .inl h
    ·exact .inr ⟨d',by simp [h1],h2⟩
 refine ⟨_,hr.weak (s':=cy U ts hs) (q:=q) ⟨fun k k' hk hk' e=>lO o4 k k' (aB k hk) (aB k' hk') e,fun k b hk=>?_⟩ (fun k hk=>?_) ⟨fun k hk=>?_,fun k t hk=>?_,fun k k' b hk hb=>?_⟩ fun t=>?_⟩
 ·exact xf hh k b (bS hk).2
 ·have:=List.all_eq_true.1 o5 k hk
  simp only [Bool.and_eq_true] at this
  exact ⟨Nat.eq_of_beq_eq_true this.2,by show (!aG U k)=false;rw [this.1];rfl⟩
 ·have hk:=hU k hk
  cases h9:il hs k with
  | none=>exact h9
  | some b=>rw [jc o3 (bS h9).1] at hk;cases hk
 ·have hk:=hU k hk
  show (pd ts t).has k=false
  rcases htg ts t with h|⟨d,h1,h2⟩
  ·rw [h];rfl
  ·rw [h2]
   cases h9:d.has k with
   | false=>rfl
   | true=>rw [TV.in_has (List.all_eq_true.1 o1 (t,d) h1) h9] at hk;cases hk
 ·have hk:=hU k hk
  cases h9:b.has k with
  | false=>rfl
  | true=>rw [Box.in_has (List.all_eq_true.1 o2 (k',b) (bS hb).2) h9] at hk;cases hk
 ·show TVLe _ _ _ _ (pd ts t)
  rcases htg ts t with h|⟨d,h1,h2⟩
  ·rw [h];exact .any _
  ·rw [h2];exact xe ht t d h1
theorem rF {P:Program} {fn:Func} {hin:List (Nat×Box)} {res:TV} {hout:List (Nat×Option Box)} {e:Exit} (he:e = .normal∨e = .ret) (xs:List V0) (q:Nat→Nat) (hx:All2 (RV P s) fn.results.toList xs) (hq:(ar hin).all (fun k=>(q k).beq k)=true)
  (hn:eX ((ar (hout.filter fun x=>x.2.isSome)).map q)=true) (hh:qP s q (fun j=>∀k,hput hout (fun _=>none) k≠none→q k≠j) hout)
  (hr:TVLe s q (fun j=>∀k,hput hout (fun _=>none) k≠none→q k≠j) (Jh xs) res):qa P fn hin res hout e s:=by
 have aB:∀k,hput hout (fun _=>none) k≠none→aG (ar (hout.filter fun x=>x.2.isSome)) k=true:=fun k hk=>by
  cases h9:hput hout (fun _=>none) k with
  | none=>exact absurd h9 hk
  | some b=>rw [bD];exact List.mem_map.2 ⟨(k,some b),List.mem_filter.2 ⟨nO h9,rfl⟩,rfl⟩
 refine ⟨he,xs,q,hx,fun k hk=>?_,⟨fun k k' hk hk' e=>lO hn k k' (aB k hk) (aB k' hk') e,fun k b hk=>?_⟩,hr⟩
 ·exact Nat.eq_of_beq_eq_true (List.all_eq_true.1 hq k (bD.1 hk))
 ·exact rE hh k b (nO hk)
end
section
variable {P:Program} {o:Oper} {s:Mst}
def AP (s:Mst) (q:Nat→Nat):List (Nat×Box)→Prop
 | []=>True
 | (k,b) :: r=>s.h (q k)=some (b.ren q)∧AP s q r
theorem tX {s:Mst} {q:Nat→Nat}:∀{l:List (Nat×Box)},AP s q l→∀k b,(k,b)∈l→s.h (q k)=some (b.ren q)
 | (a,b) :: l,h,t,d,hx=>by
  rcases List.mem_cons.1 hx with e|hx
  ·injection e with e1 e2;subst e1;subst e2;exact h.1
  ·exact tX h.2 t d hx
theorem DL {f:FuncId} {xs:Array Operand} {ts:Array TypeId} {args:List V0} {hin:List (Nat×Box)} {us:List Nat} {res:TV} {hout:List (Nat×Option Box)} (hs:FSpec P f args hin us res hout) (q:Nat→Nat) (ho:o.op = .call { callee:=.value (.func f),args:=xs,argTypes:=ts })
  (ha:All2 (fun x d=>s.ev x = .v (V0.ren q d)) xs.toList args) (hn:eX ((ar hin++us).map q)=true) (hh:AP s q hin):LOp P o s ((ar hin).map q) ⟨res.ren q,fA q hout,us.map q⟩:=by
 intro c st ρ a w hr h1 h2 h3 h4
 have hargs:All2 (fun d v=>(V0.ren q d).rep w (Fz c st.h ρ w) ρ v) args (xs.toList.map a.eval):=by
  have key:∀(l:List Operand) (m:List V0),(∀x∈l,st.ev x=s.ev x)→All2 (fun x d=>s.ev x = .v (V0.ren q d)) l m→All2 (fun d v=>(V0.ren q d).rep w (Fz c st.h ρ w) ρ v) m (l.map a.eval):=by
   intro l
   induction l with
   | nil=>intro m _ h;cases m with
    | nil=>trivial
    | cons=>exact h.elim
   | cons x l ih =>
    intro m hl h
    cases m with
    | nil=>exact h.elim
    | cons d m =>
     refine ⟨?_,ih m (fun y hy=>hl y (by simp [hy])) h.2⟩
     have:=hr.ev x
     rw [hl x (by simp),h.1] at this
     exact this
  exact key _ _ (fun x hx=>h1 x (by simp [ho,Op.operands,Call.operands];exact .inr (by simpa using hx))) ha
 have hin':∀k b,il hin k=some b→st.h (q k)=some (b.ren q):=fun k b hk=>by
  rw [h2 (q k) (by rw [bD];exact List.mem_map.2 ⟨k,bD.1 (bS hk).1,rfl⟩)]
  exact tX hh k b (bS hk).2
 have hc:=hs.ca q c st ρ a w (xs.toList.map a.eval) hr (fun k k' hk hk' e=>lO hn k k' hk hk' e) hargs hin' fun k hk=>h3 _ (by show aG (us.map q) (q k)=true;rw [bD];exact List.mem_map.2 ⟨k,bD.1 hk,rfl⟩)
 have he:(xs.toList.map a.eval).toArray=xs.map a.eval:=by apply Array.toList_inj.1;simp
 rw [he] at hc
 unfold Oper.wp execOp
 simp only [ho,resolve,Act.eval,Deferred.ofValue,invoke,Sem.run_bind,Sem.run_pure,Result.andThen_ok,Array.append_empty,Array.empty_append]
 rw [hs.en]
 refine hc.mono fun e w' ⟨v,hv,hk⟩=>?_
 subst hv
 exact hk o.dst h4
end
section
variable {P:Program} {o:Oper} {s:Mst}
theorem Gv {t t':TypeId} {x y:Operand} {kd:IntKind} {a b c:Int} (ho:o.op = .binOp .add t x y t') (hx:s.ev x = .c (.sc (.int kd a))) (hy:s.ev y = .c (.sc (.int kd b))) (h:kd.wrap (a+b)=c):LOp P o s [] ⟨.c (.sc (.int kd c)),[],[]⟩ :=
 fy (by rw [ho];rfl) hx hy fun ev w hx hy=>by simp [execOp,ho,hx,hy,eqGuard,binOp,Op.intArith,h]
theorem vl {t t':TypeId} {x y:Operand} {kd:IntKind} {a b c:Int} (ho:o.op = .binOp .sub t x y t') (hx:s.ev x = .c (.sc (.int kd a))) (hy:s.ev y = .c (.sc (.int kd b))) (h:kd.wrap (a-b)=c):LOp P o s [] ⟨.c (.sc (.int kd c)),[],[]⟩ :=
 fy (by rw [ho];rfl) hx hy fun ev w hx hy=>by simp [execOp,ho,hx,hy,eqGuard,binOp,Op.intArith,h]
theorem nR {t t':TypeId} {x y:Operand} {kd:IntKind} {a b c:Int} (ho:o.op = .binOp .mul t x y t') (hx:s.ev x = .c (.sc (.int kd a))) (hy:s.ev y = .c (.sc (.int kd b))) (h:kd.wrap (a*b)=c):LOp P o s [] ⟨.c (.sc (.int kd c)),[],[]⟩ :=
 fy (by rw [ho];rfl) hx hy fun ev w hx hy=>by simp [execOp,ho,hx,hy,eqGuard,binOp,Op.intArith,h]
theorem Gw {t t':TypeId} {x y:Operand} {kd:IntKind} {a b c:Int} (ho:o.op = .binOp .quo t x y t') (hx:s.ev x = .c (.sc (.int kd a))) (hy:s.ev y = .c (.sc (.int kd b))) (h0:b≠0) (h:kd.wrap (a.tdiv b)=c):LOp P o s [] ⟨.c (.sc (.int kd c)),[],[]⟩ :=
 fy (by rw [ho];rfl) hx hy fun ev w hx hy=>by simp [execOp,ho,hx,hy,eqGuard,binOp,Op.intDiv,h0,h]
theorem vm {t t':TypeId} {x y:Operand} {kd:IntKind} {a b c:Int} (ho:o.op = .binOp .rem t x y t') (hx:s.ev x = .c (.sc (.int kd a))) (hy:s.ev y = .c (.sc (.int kd b))) (h0:b≠0) (h:a.tmod b=c):LOp P o s [] ⟨.c (.sc (.int kd c)),[],[]⟩ :=
 fy (by rw [ho];rfl) hx hy fun ev w hx hy=>by simp [execOp,ho,hx,hy,eqGuard,binOp,Op.intDiv,h0,h]
theorem lP {op:BinOp} {t t':TypeId} {x y:Operand} {kd:IntKind} {a b:Int} {c:Bool} (ho:o.op = .binOp op t x y t') (hx:s.ev x = .c (.sc (.int kd a))) (hy:s.ev y = .c (.sc (.int kd b)))
  (h:(op = .eql∧(a == b)=c)∨(op = .neq∧(a != b)=c)∨(op = .lss∧decide (a<b)=c)∨(op = .leq∧decide (a≤b)=c)∨(op = .gtr∧decide (b<a)=c)∨(op = .geq∧decide (b≤a)=c)):LOp P o s [] ⟨.b c,[],[]⟩ :=
 fy (by rw [ho];rfl) hx hy fun ev w hx hy=>by
  rcases h with ⟨rfl,h⟩|⟨rfl,h⟩|⟨rfl,h⟩|⟨rfl,h⟩|⟨rfl,h⟩|⟨rfl,h⟩ <;> subst h <;> simp [execOp,ho,hx,hy,eqGuard,binOp,Op.intCmp]
theorem qV {op:BinOp} {t t':TypeId} {x y:Operand} {a b:ByteArray} {c:Bool} (ho:o.op = .binOp op t x y t') (hx:s.ev x = .c (.sc (.string a))) (hy:s.ev y = .c (.sc (.string b)))
  (h:(op = .eql∧(a.toList == b.toList)=c)∨(op = .neq∧(!(a.toList == b.toList))=c)∨(op = .lss∧Op.bytesLess a.toList b.toList=c)∨(op = .geq∧(!Op.bytesLess a.toList b.toList)=c)):LOp P o s [] ⟨.b c,[],[]⟩ :=
 fy (by rw [ho];rfl) hx hy fun ev w hx hy=>by
  rcases h with ⟨rfl,h⟩|⟨rfl,h⟩|⟨rfl,h⟩|⟨rfl,h⟩ <;> subst h <;> simp [execOp,ho,hx,hy,eqGuard,binOp,Op.stringOp]
theorem Jk {t t':TypeId} {x y:Operand} {kd:IntKind} {a b:Int} (ho:o.op = .binOp .eql t x y t') (hx:s.ev x = .c (.sc (.int kd a))) (hy:s.ev y = .c (.sc (.int kd b))):LOp P o s [] ⟨.b (a == b),[],[]⟩:=lP ho hx hy (by simp)
theorem Jl {t t':TypeId} {x y:Operand} {kd:IntKind} {a b:Int} (ho:o.op = .binOp .neq t x y t') (hx:s.ev x = .c (.sc (.int kd a))) (hy:s.ev y = .c (.sc (.int kd b))):LOp P o s [] ⟨.b (a != b),[],[]⟩:=lP ho hx hy (by simp)
theorem Jm {t t':TypeId} {x y:Operand} {kd:IntKind} {a b:Int} (ho:o.op = .binOp .lss t x y t') (hx:s.ev x = .c (.sc (.int kd a))) (hy:s.ev y = .c (.sc (.int kd b))):LOp P o s [] ⟨.b (decide (a<b)),[],[]⟩:=lP ho hx hy (by simp)
theorem Jn {t t':TypeId} {x y:Operand} {kd:IntKind} {a b:Int} (ho:o.op = .binOp .leq t x y t') (hx:s.ev x = .c (.sc (.int kd a))) (hy:s.ev y = .c (.sc (.int kd b))):LOp P o s [] ⟨.b (decide (a≤b)),[],[]⟩:=lP ho hx hy (by simp)
theorem Jo {t t':TypeId} {x y:Operand} {kd:IntKind} {a b:Int} (ho:o.op = .binOp .gtr t x y t') (hx:s.ev x = .c (.sc (.int kd a))) (hy:s.ev y = .c (.sc (.int kd b))):LOp P o s [] ⟨.b (decide (b<a)),[],[]⟩:=lP ho hx hy (by simp)
theorem Jp {t t':TypeId} {x y:Operand} {kd:IntKind} {a b:Int} (ho:o.op = .binOp .geq t x y t') (hx:s.ev x = .c (.sc (.int kd a))) (hy:s.ev y = .c (.sc (.int kd b))):LOp P o s [] ⟨.b (decide (b≤a)),[],[]⟩:=lP ho hx hy (by simp)
theorem Gx {t t':TypeId} {x y:Operand} {a b:ByteArray} (ho:o.op = .binOp .eql t x y t') (hx:s.ev x = .c (.sc (.string a))) (hy:s.ev y = .c (.sc (.string b))):LOp P o s [] ⟨.b (a.toList == b.toList),[],[]⟩:=qV ho hx hy (by simp)
theorem Gy {t t':TypeId} {x y:Operand} {a b:ByteArray} (ho:o.op = .binOp .neq t x y t') (hx:s.ev x = .c (.sc (.string a))) (hy:s.ev y = .c (.sc (.string b))):LOp P o s [] ⟨.b (!(a.toList == b.toList)),[],[]⟩:=qV ho hx hy (by simp)
theorem Gz {t t':TypeId} {x y:Operand} {a b:ByteArray} (ho:o.op = .binOp .lss t x y t') (hx:s.ev x = .c (.sc (.string a))) (hy:s.ev y = .c (.sc (.string b))):LOp P o s [] ⟨.b (Op.bytesLess a.toList b.toList),[],[]⟩:=qV ho hx hy (by simp)
theorem GA {t t':TypeId} {x y:Operand} {a b:ByteArray} (ho:o.op = .binOp .geq t x y t') (hx:s.ev x = .c (.sc (.string a))) (hy:s.ev y = .c (.sc (.string b))):LOp P o s [] ⟨.b (!Op.bytesLess a.toList b.toList),[],[]⟩:=qV ho hx hy (by simp)
theorem GB {t:TypeId} {x:Operand} {b:Bool} (ho:o.op = .unOp .not t x) (hx:s.ev x = .b b):LOp P o s [] ⟨.b (!b),[],[]⟩ :=
 AN (by rw [ho];rfl) hx fun ev w hx=>by simp [execOp,ho,hx,Op.unary]
def Ku:Value→Value→Bool
 | .int _ a,.int _ b=>a == b
 | .string a,.string b=>a == b
 | .bool a,.bool b=>a == b
 | _,_=>false
def AQ:List Value→List Value→Bool
 | [],[]=>true
 | a :: l,b :: m=>Ku a b && AQ l m
 | _,_=>false
def shp:Value→Nat
 | .int .i64 _=>0
 | .string _=>1
 | .bool _=>2
 | _=>9
def scs:List D→Option (List Value)
 | []=>some []
 | .sc v :: l=>match scs l with|some r=>some (v :: r)|none=>none
 | _ :: _=>none
class EQ (P:Program) (t:TypeId) (sh:outParam (List Nat)):Prop where
 g:P.eqGuardType P.depth t=false
 e:∀(w:World) (a b:List Value),a.map shp=sh→b.map shp=sh→(Op.equal t (.agg a.toArray) (.agg b.toArray)).run P w = .ok (AQ a b) w
theorem je {w:World} {F:Nat→Prop} {ρ:Nat→Value}:∀{l:List D} {a vs:List Value},scs l=some a→All2 (D.rep w F ρ) l vs→vs=a
 | [],a,vs,h,k=>by
  cases vs with
  | nil=>simp [scs] at h;exact h.symm▸rfl
  | cons=>exact k.elim
 | d :: l,a,vs,h,k=>by
  cases vs with
  | nil=>exact k.elim
  | cons v vs =>
   cases d with
   | sc x =>
    simp only [scs] at h
    cases hl:scs l with
    | none=>rw [hl] at h;cases h
    | some r =>
     rw [hl] at h
     have h:=Option.some.inj h
     subst h
     rw [je hl k.2,show v=x from k.1]
   | _=>simp [scs] at h
theorem GC {t t':TypeId} {x y:Operand} {la lb:List D} {a b:List Value} {sh:List Nat} {c:Bool} [I:EQ P t sh] (ho:o.op = .binOp .eql t x y t') (hx:s.ev x = .v (.ag la)) (hy:s.ev y = .v (.ag lb)) (ha:scs la=some a) (hb:scs lb=some b) (h1:a.map shp=sh) (h2:b.map shp=sh) (h:AQ a b=c):LOp P o s [] ⟨.b c,[],[]⟩ :=
 aZ fun cx st ρ ac w hr hc _=>by
  have he:=hc x (by simp [ho,Op.operands])
  have he2:=hc y (by simp [ho,Op.operands])
  rw [hx] at he
  rw [hy] at he2
  have hv:=hr.ev x
  rw [he] at hv
  have hv2:=hr.ev y
  rw [he2] at hv2
  obtain ⟨vs,hv,hA⟩:=hv
  obtain ⟨us,hv2,hB⟩:=hv2
  have e1:=je ha hA
  have e2:=je hb hB
  subst e1
  subst e2
  subst h
  refine ⟨.bool (AQ vs us),?_,rfl,fun k hk=>by simp [TV.has,V0.has,D.has] at hk⟩
  unfold execOp
  rw [ho]
  simp [hv,hv2,eqGuard,binOp,I.e w vs us h1 h2,I.g]
theorem GD {t t':TypeId} {x y:Operand} {la lb:List D} {a b:List Value} {sh:List Nat} {c:Bool} [I:EQ P t sh] (ho:o.op = .binOp .neq t x y t') (hx:s.ev x = .v (.ag la)) (hy:s.ev y = .v (.ag lb)) (ha:scs la=some a) (hb:scs lb=some b) (h1:a.map shp=sh) (h2:b.map shp=sh) (h:(!AQ a b)=c):LOp P o s [] ⟨.b c,[],[]⟩ :=
 aZ fun cx st ρ ac w hr hc _=>by
  have he:=hc x (by simp [ho,Op.operands])
  have he2:=hc y (by simp [ho,Op.operands])
  rw [hx] at he
  rw [hy] at he2
  have hv:=hr.ev x
  rw [he] at hv
  have hv2:=hr.ev y
  rw [he2] at hv2
  obtain ⟨vs,hv,hA⟩:=hv
  obtain ⟨us,hv2,hB⟩:=hv2
  have e1:=je ha hA
  have e2:=je hb hB
  subst e1
  subst e2
  subst h
  refine ⟨.bool (!AQ vs us),?_,rfl,fun k hk=>by simp [TV.has,V0.has,D.has] at hk⟩
  unfold execOp
  rw [ho]
  simp [hv,hv2,eqGuard,binOp,I.e w vs us h1 h2,I.g]
theorem DM {t e:TypeId} [I:SE P t e] (w:World) (A:Option Addr) (n c:Nat) (ty:TypeId):(Builtin.len_ #[t] ty #[.slice A n c]).run P w = .ok (.int .i64 n) w:=by
 simp [Builtin.len_,run_underlying I.u,goInt]
theorem im {t e ty:TypeId} {x:Operand} {n:Nat} {R:List Nat} [SE P t e] (ho:o.op = .call { callee:=.builtin .len,args:=#[x],argTypes:=#[t] })
  (h:∀(c:Ctx) (st:Mst) (ρ:Nat→Value) (a:Act) (w:World),Rp c st ρ a w→st.ev x=s.ev x→(∀k,aG R k=true→st.h k=s.h k)→∃A c,a.eval x = .slice A n c):LOp P o s R ⟨.i n,[],[]⟩ :=
 aZ fun c st ρ a w hr h1 h2=>by
  obtain ⟨A,cap,hv⟩:=h c st ρ a w hr (h1 x (by simp [ho,Op.operands,Call.operands])) h2
  refine ⟨.int .i64 n,?_,rfl,fun k hk=>by simp [TV.has,V0.has,D.has] at hk⟩
  unfold execOp
  rw [ho]
  simp only [resolve,invoke,builtin,Sem.run_bind,Sem.run_pure,Result.andThen_ok,List.map_toArray,List.map_cons,List.map_nil,hv,DM]
theorem GE {t e:TypeId} {x:Operand} {α:Type} {E:El α} {l:List α} [SE P t e] (ho:o.op = .call { callee:=.builtin .len,args:=#[x],argTypes:=#[t] }) (hx:s.ev x = .c (.sl E l)):LOp P o s [] ⟨.i l.length,[],[]⟩ :=
 im (ty:=0) ho fun c st ρ a w hr he _=>by
  have hv:=hr.ev x
  rw [he,hx] at hv
  obtain ⟨A,cap,hv,_⟩:=hv
  exact ⟨A,cap,hv⟩
theorem B8 {t e:TypeId} {x:Operand} {k:Nat} {e':TypeId} {α:Type} {E:El α} {l:List α} [SE P t e] (ho:o.op = .call { callee:=.builtin .len,args:=#[x],argTypes:=#[t] }) (hx:s.ev x = .c (.own k)) (hk:s.h k=some (.arr e' E l)):LOp P o s [k] ⟨.i l.length,[],[]⟩ :=
 im (ty:=0) ho fun c st ρ a w hr he h2=>by
  have hv:=hr.ev x
  rw [he,hx] at hv
  obtain ⟨A,cap,hA,_⟩:=dZ (hr.hp k _ ((h2 k (by simp [aG])).trans hk))
  exact ⟨A,cap,Eq.trans hv hA⟩
theorem B9 {t e:TypeId} {x:Operand} [SE P t e] (ho:o.op = .call { callee:=.builtin .len,args:=#[x],argTypes:=#[t] }) (hx:s.ev x = .c (.sc (.slice none 0 0))):LOp P o s [] ⟨.i (0:Nat),[],[]⟩ :=
 im (ty:=0) ho fun c st ρ a w hr he _=>by
  have hv:=hr.ev x
  rw [he,hx] at hv
  exact ⟨none,0,hv⟩
def V0.tv (x:V0):TV:=.v x
theorem qb {x:Operand} {l:List V0} {i:Nat} {y:V0} (ho:o.op = .extract x i) (hx:s.ev x = .tup l) (hy:l[i]? = some y):LOp P o s [] ⟨.v y,[],[]⟩ :=
 aZ fun c st ρ a w hr h1 _=>by
  have he:=h1 x (by simp [ho,Op.operands])
  rw [hx] at he
  have hv:=hr.ev x
  rw [he] at hv
  obtain ⟨vs,hv,hA⟩:=hv
  obtain ⟨u,hu,hrep⟩:=hA.get hy
  refine ⟨u,?_,hrep,fun k hk=>hr.nf (x:=x) he ?_⟩
  ·unfold execOp
   rw [ho]
   simp [hv,Instr.extract,hu]
  ·simp only [TV.has] at hk ⊢
   exact List.any_eq_true.2 ⟨y,List.mem_of_getElem? hy,hk⟩
theorem vn {t:TypeId} {n off:Nat} [I:TI P t true n] (w:World) (cs:Array Value):(part t cs off).run P w = .ok (.agg (cs.extract off (off+n))) w:=by
 obtain ⟨d,h1,h2⟩:=I.u
 have h3:=I.s
 cases hq:P.info? t with
 | none=>simp [hq] at h3
 | some i =>
  simp [hq] at h3
  subst h3
  cases d <;> simp_all [part,isAgg,run_underlying h1,sizeOf,typeInfo]
theorem vo {t:TypeId} {n off:Nat} [I:TI P t false n] (w:World) (cs:Array Value) (v:Value) (hv:cs[off]? = some v):(part t cs off).run P w = .ok v w:=by
 obtain ⟨d,h1,h2⟩:=I.u
 cases d <;> simp_all [part,isAgg,run_underlying h1]
theorem Ca {t ft:TypeId} {x:Operand} {f off n:Nat} {l:List D} {y:D} [I:FO P t f off ft] [J:TI P ft false n] (ho:o.op = .field t x f) (hx:s.ev x = .v (.ag l)) (hy:l[off]? = some y):LOp P o s [] ⟨.c y,[],[]⟩ :=
 aZ fun c st ρ a w hr h1 _=>by
  have he:=h1 x (by simp [ho,Op.operands])
  rw [hx] at he
  have hv:=hr.ev x
  rw [he] at hv
  obtain ⟨cs,hv,hA⟩:=hv
  obtain ⟨fs,z,i,u1,u2,u3,u4,_⟩:=I.u
  subst u3
  subst u4
  obtain ⟨v,h2,h3⟩:=hA.get hy
  refine ⟨v,?_,h3,fun k hk=>hr.nf (x:=x) he (by simp only [TV.has,V0.has];exact lh hy hk)⟩
  unfold execOp
  rw [ho]
  simp only [hv,Instr.field,run_underlying u1,u2,Sem.run_bind,Result.andThen_ok,asAgg,Sem.run_pure,vo w cs.toArray v (by simpa using h2)]
theorem tu {t ft:TypeId} {x:Operand} {f off n:Nat} {l ds:List D} [I:FO P t f off ft] [J:TI P ft true n] (ho:o.op = .field t x f) (hx:s.ev x = .v (.ag l)) (hd:(l.drop off).take n=ds):LOp P o s [] ⟨.v (.ag ds),[],[]⟩ :=
 aZ fun c st ρ a w hr h1 _=>by
  have he:=h1 x (by simp [ho,Op.operands])
  rw [hx] at he
  have hv:=hr.ev x
  rw [he] at hv
  obtain ⟨cs,hv,hA⟩:=hv
  obtain ⟨fs,z,i,u1,u2,u3,u4,_⟩:=I.u
  subst u3
  subst u4
  subst hd
  refine ⟨.agg ((cs.drop z.offset).take n).toArray,?_,⟨_,rfl,(hA.drop _).take _⟩,fun k hk=>hr.nf (x:=x) he (by simp only [TV.has,V0.has] at hk ⊢;exact p8 (fun d hd=>List.mem_of_mem_drop (List.mem_of_mem_take hd)) hk)⟩
  unfold execOp
  rw [ho]
  simp only [hv,Instr.field,run_underlying u1,u2,Sem.run_bind,Result.andThen_ok,asAgg,Sem.run_pure,vn w cs.toArray]
  congr 3
  simp [List.drop_take,Array.ext_iff]
end
theorem tw {P:Program} (t e:TypeId) (i:TypeInfo) (z:Value) (ht:P.underlying t=some (.slice e)) (hi:P.info? e=some i) (hz:i.zero=some z)
  (kl kc:IntKind) (n c:Nat) (hnc:n≤c) (hbytes:i.bytes*c≤281474976710656) (h63:c≤9223372036854775807) (w:World) :
  (Instr.makeSlice t (.int kl (n:Int)) (.int kc (c:Int))).run P w = .ok (.slice (some ⟨w.heap.size,0,none⟩) n c) (w.alloc (.cells (madeCells z.cells (c*i.size)) e)):=by
 have hb:(i.bytes:Int)*(c:Int)≤281474976710656:=by
  have h:((i.bytes*c:Nat):Int)≤281474976710656:=by omega
  rwa [Int.natCast_mul] at h
 have hr:=run_make (P:=P) w t e i z ht hi hz kl kc n c (by omega) (by omega) hb (by omega)
 simp only [Int.toNat_natCast] at hr
 exact hr
theorem Jq {P:Program} (t e:TypeId) (z:Value) (by_:Nat) (ht:P.underlying t=some (.slice e)) (hi:(P.info? e).map (fun i=>(i.zero,i.size,i.bytes))=some (some z,1,by_)) (hz:z.cells = #[z]) (hb:by_≤64) (n:Nat) (hn:n≤1000000) (w:World) :
  (Instr.makeSlice t (.int .i64 (n:Int)) (.int .i64 (n:Int))).run P w = .ok (.slice (some ⟨w.heap.size,0,none⟩) n n) (w.alloc (.cells (madeCells #[z] n) e)):=by
 obtain ⟨i0,hi,hz0,hz1,hz2⟩:=info_parts hi
 have hle:i0.bytes*n≤64*1000000:=Nat.mul_le_mul (by omega) hn
 rw [tw t e i0 z ht hi hz0 _ _ n n (Nat.le_refl _) (by omega) (by omega),hz1,Nat.mul_one,hz]
theorem OwnRows.rep {α:Type} {E:El α} {e:TypeId} (hn:E.n=1) (w:World) (base:Nat) (y:α) (z:Value) (n:Nat) (hb:base≤w.heap.size) (hm:n≤maxLen) (hy:∀w S,E.rep w S y [z]) :
  OwnRows E e (w.alloc (.cells (madeCells #[z] n) e)) base (.slice (some ⟨w.heap.size,0,none⟩) n n) (List.replicate n y):=by
 refine ⟨by simp;omega,List.replicate n z,?_,?_⟩
 ·have h:=World.ownsRow_lit (e:=e) (size:=E.n) (base:=base) w (madeCells #[z] n) n hb hm (by rw [size_madeCells,hn,Nat.mul_one])
  rw [toList_madeCells_one] at h
  rw [List.length_replicate]
  exact h
 ·generalize hS:oL (w.alloc (.cells (madeCells #[z] n) e)) (.slice (some ⟨w.heap.size,0,none⟩) n n)=S
  clear hS
  have hr:∀k,Reps E (w.alloc (.cells (madeCells #[z] n) e)) S (List.replicate k y) (List.replicate k z):=by
   intro k
   induction k with
   | zero=>rfl
   | succ k ih=>exact ⟨[z],List.replicate k z,rfl,hy _ _,ih⟩
  exact hr n
end Go.Proofs.YtdaajdflefnjfaaGreat
