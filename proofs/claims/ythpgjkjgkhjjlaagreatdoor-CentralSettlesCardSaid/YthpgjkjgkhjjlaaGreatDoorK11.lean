/- Part K11 of a proof of statements of chapter 15 (no condition). -/
import Derived.Test.YthpgjkjgkhjjlaaGreatDoorK09
import Derived.RangeFuncNested
import Derived.RangeFuncBox
import Derived.RangeFuncLeaves
set_option linter.unusedVariables false
set_option linter.unusedSimpArgs false
set_option maxRecDepth 100000
set_option maxHeartbeats 64000000
namespace Go.Proofs.YthpgjkjgkhjjlaaGreatDoor
open Go.RowKit
def D.ren (q:Nat->Nat):D->D
 | .own k=>.own (q k)
 | .slb k n=>.slb (q k) n
 | .ptr k off=>.ptr (q k) off
 | .optr k m i off=>.optr (q k) m i off
 | .ocut k=>.ocut (q k)
 | .osl k m lo hi fl=>.osl (q k) m lo hi fl
 | .clo f ks=>.clo f (ks.map q)
 | d=>d
def V0.ren (q:Nat->Nat):V0->V0
 | .one d=>.one (d.ren q)
 | .ag l=>.ag (l.map (D.ren q))
def TV.ren (q:Nat->Nat):TV->TV
 | .v x=>.v (x.ren q)
 | .tup l=>.tup (l.map (V0.ren q))
def Box.ren (q:Nat->Nat):Box->Box
 | .box t cs=>.box t (cs.map (D.ren q))
 | .it k n l=>.it (q k) n l
 | b=>b
section
variable {w:World} {F:Nat->Prop} {ρ ρ':Nat->Value} {q:Nat->Nat}
theorem D.rep_ren {d:D} {v:Value} (hq:∀k,d.has k=true->ρ' k=ρ (q k)):(d.ren q).rep w F ρ v↔d.rep w F ρ' v:=by
 cases d with
 | clo f ks =>
  have hm:∀k,k∈ks->ρ' k=ρ (q k):=fun k hk=>hq k (by simp only [D.has];exact List.any_eq_true.2 ⟨k,hk,Nat.beq_refl k⟩);constructor
  ·rintro ⟨vs,e,h⟩;exact ⟨vs,e,(All2.mapL.1 h).imp fun k u hk (hu:u=ρ (q k))=>hu.trans (hm k hk).symm⟩
  ·rintro ⟨vs,e,h⟩;exact ⟨vs,e,All2.mapL.2 (h.imp fun k u hk (hu:u=ρ' k)=>hu.trans (hm k hk))⟩
 | _=>first|exact Iff.rfl|(simp only [D.ren,D.rep];rw [hq _ (by simp [D.has])])
theorem V0.rep_ren {d:V0} {v:Value} (hq:∀k,d.has k=true->ρ' k=ρ (q k)):(d.ren q).rep w F ρ v↔d.rep w F ρ' v:=by
 cases d with
 | one d=>exact D.rep_ren hq
 | ag l =>
  constructor
  ·rintro ⟨cs,e,h⟩;exact ⟨cs,e,(All2.mapL.1 h).imp fun d u hd h1=>(D.rep_ren fun k hk=>hq k (by simp only [V0.has];exact List.any_eq_true.2 ⟨d,hd,hk⟩)).1 h1⟩
  ·rintro ⟨cs,e,h⟩;exact ⟨cs,e,All2.mapL.2 (h.imp fun d u hd h1=>(D.rep_ren fun k hk=>hq k (by simp only [V0.has];exact List.any_eq_true.2 ⟨d,hd,hk⟩)).2 h1)⟩
theorem TV.rep_ren {d:TV} {v:Value} (hq:∀k,d.has k=true->ρ' k=ρ (q k)):(d.ren q).rep w F ρ v↔d.rep w F ρ' v:=by
 cases d with
 | v d=>exact V0.rep_ren hq
 | tup l =>
  constructor
  ·rintro ⟨cs,e,h⟩;exact ⟨cs,e,(All2.mapL.1 h).imp fun d u hd h1=>(V0.rep_ren fun k hk=>hq k (by simp only [TV.has];exact List.any_eq_true.2 ⟨d,hd,hk⟩)).1 h1⟩
  ·rintro ⟨cs,e,h⟩;exact ⟨cs,e,All2.mapL.2 (h.imp fun d u hd h1=>(V0.rep_ren fun k hk=>hq k (by simp only [TV.has];exact List.any_eq_true.2 ⟨d,hd,hk⟩)).2 h1)⟩
theorem Box.rep_ren {d:Box} {v:Value} (hq:∀k,d.has k=true->ρ' k=ρ (q k)):(d.ren q).rep w F ρ v↔d.rep w F ρ' v:=by
 cases d with
 | box t cs =>
  constructor
  ·rintro ⟨g,vs,e,hb,h,h1⟩;exact ⟨g,vs,e,hb,(All2.mapL.1 h).imp fun d u hd h1=>(D.rep_ren fun k hk=>hq k (by simp only [Box.has];exact List.any_eq_true.2 ⟨d,hd,hk⟩)).1 h1,h1⟩
  ·rintro ⟨g,vs,e,hb,h,h1⟩;exact ⟨g,vs,e,hb,All2.mapL.2 (h.imp fun d u hd h1=>(D.rep_ren fun k hk=>hq k (by simp only [Box.has];exact List.any_eq_true.2 ⟨d,hd,hk⟩)).2 h1),h1⟩
 | arr e E l=>exact Iff.rfl
 | mp l=>exact Iff.rfl
 | it k n l=>simp only [Box.ren,Box.rep];rw [hq k (by simp [Box.has])]
end
inductive DLe (s:Mst) (q:Nat->Nat) (gone:Nat->Prop):D->D->Prop
 | any (d0:D):DLe s q gone d0 .any
 | ren (d:D):DLe s q gone (d.ren q) d
 | nil {α:Type} (E:El α):DLe s q gone (.sc (.slice none 0 0)) (.sl E [])
 | full {α:Type} (E:El α) (l:List α):DLe s q gone (.full E l) (.sl E l)
 | froz {α:Type} (e:TypeId) (E:El α) (l:List α) (k:Nat) (hk:s.h k=some (.arr e E l)) (hg:gone k):DLe s q gone (.own k) (.sl E l)
 | frozc {α:Type} (e:TypeId) (E:El α) (l:List α) (k:Nat) (hk:s.h k=some (.arr e E l)) (hg:gone k):DLe s q gone (.ocut k) (.sl E l)
 | ocut {α:Type} (e:TypeId) (E:El α) (l:List α) (k:Nat) (hk:s.h (q k)=some (.arr e E l)):DLe s q gone (.own (q k)) (.ocut k)
inductive V0Le (s:Mst) (q:Nat->Nat) (gone:Nat->Prop):V0->V0->Prop
 | one {d0 d:D} (h:DLe s q gone d0 d):V0Le s q gone (.one d0) (.one d)
 | ag {l0 l:List D} (h:All2 (DLe s q gone) l0 l):V0Le s q gone (.ag l0) (.ag l)
 | any (x:V0):V0Le s q gone x (.one .any)
inductive TVLe (s:Mst) (q:Nat->Nat) (gone:Nat->Prop):TV->TV->Prop
 | v {d0 d:V0} (h:V0Le s q gone d0 d):TVLe s q gone (.v d0) (.v d)
 | tup {l0 l:List V0} (h:All2 (V0Le s q gone) l0 l):TVLe s q gone (.tup l0) (.tup l)
 | any (x:TV):TVLe s q gone x (.c .any)
inductive BoxLe (s:Mst) (q:Nat->Nat) (gone:Nat->Prop):Box->Box->Prop
 | box (t:TypeId) {l0 l:List D} (h:All2 (DLe s q gone) l0 l):BoxLe s q gone (.box t l0) (.box t l)
 | arr {α:Type} (e:TypeId) (E:El α) (l:List α):BoxLe s q gone (.arr e E l) (.arr e E l)
 | mp (l:List (Value×Value)):BoxLe s q gone (.mp l) (.mp l)
 | it (k n:Nat) (l:List Nat):BoxLe s q gone (.it (q k) n l) (.it k n l)
theorem F5 {w:World} {c:Ctx} {h h':Nat->Option Box} {ρ ρ':Nat->Value} {α:Type} {e:TypeId} {E:El α} {l:List α} {v:Value} {s:Mst} {a:Act} (hr:Rp c s ρ a w) {k:Nat} (hk:s.h k=some (.arr e E l)) (hv:(D.ocut k).rep w (Fz c s.h ρ w) ρ v) (hF:∀b,Fz c s.h ρ w b->Fz c h' ρ' w b) (hg:∀g,kb (ρ k)=some g->Fz c h' ρ' w g):(D.sl E l).rep w (Fz c h' ρ' w) ρ' v:=by
 obtain ⟨A0,n0,cap0,c0,hρ0,hc0,rfl⟩:=hv;obtain ⟨A,cap,hA,hc,hp⟩:=fA (hr.hp k _ hk);have hA':=hA;rw [hρ0] at hA';injection hA' with e1 e2 e3;subst e1;subst e2;subst e3;refine ⟨A0,c0,rfl,⟨hc0.1,Nat.le_trans hc0.2 hc.2⟩,?_⟩;rcases Nat.eq_zero_or_pos l.length with h0|h0
 ·obtain rfl:l=[]:=List.eq_nil_of_length_eq_zero h0;exact RowsAt.nil _ _ _ _
 ·obtain ⟨g,xs,rfl,_,h3,h4,_⟩:=hp h0;exact ⟨xs,h3.same (fun _ _=>rfl) hF,fun _=>⟨g,0,rfl,hg g (by rw [hA];rfl),fun j u hu=>by rw [Nat.zero_add];exact h4 j u hu⟩⟩
theorem pG {w:World} {c:Ctx} {ρ:Nat->Value} {α:Type} {e:TypeId} {E:El α} {l:List α} {s:Mst} {a:Act} (hr:Rp c s ρ a w) {k:Nat} (hk:s.h k=some (.arr e E l)) {F:Nat->Prop} {v:Value} (hv:v=ρ k):(D.ocut k).rep w F ρ v:=by
 obtain ⟨A,cap,hA,hc,_⟩:=fA (hr.hp k _ hk);exact ⟨A,l.length,cap,cap,hA,⟨hc.1,Nat.le_refl _⟩,hv.trans hA⟩
structure Part (s:Mst) (q:Nat->Nat) (h2:Nat->Option Box):Prop where
 inj:∀k k',h2 k≠none->h2 k'≠none->q k=q k'->k=k'
 le:∀k b,h2 k=some b->∃b0,s.h (q k)=some b0/\BoxLe s q (fun j=>∀k,h2 k≠none->q k≠j) b0 b
section
variable {c:Ctx} {s:Mst} {ρ:Nat->Value} {a:Act} {w:World} {q:Nat->Nat} {h2:Nat->Option Box}
theorem Part.fz (p:Part s q h2):∀b,Fz c s.h ρ w b->Fz c h2 (fun k=>ρ (q k)) w b:=fun b ⟨f1,f2,f3⟩=>⟨f1,f2,fun k bx hk=>by obtain ⟨b0,h1,_⟩:=p.le k bx hk;exact f3 _ b0 h1⟩
theorem Part.d (p:Part s q h2) (hr:Rp c s ρ a w) {d0 d:D} {v:Value} (hle:DLe s q (fun j=>∀k,h2 k≠none->q k≠j) d0 d) (hd:d0.rep w (Fz c s.h ρ w) ρ v):d.rep w (Fz c h2 (fun k=>ρ (q k)) w) (fun k=>ρ (q k)) v:=by
 cases hle with
 | any=>trivial
 | ren=>exact ((D.rep_ren (ρ':=fun k=>ρ (q k)) fun _ _=>rfl).1 hd).mono (fun b hb=>⟨p.fz b hb,rfl⟩) fun _ _=>rfl
 | nil E=>exact ⟨none,0,hd,by simp [maxLen],RowsAt.nil _ _ _ _⟩
 | full E l=>obtain ⟨A,h1,h2,h3⟩:=hd;exact ⟨A,_,h1,⟨Nat.le_refl _,h2⟩,h3.mono p.fz⟩
 | froz e E l k hk hg =>
  exact F5 (h:=s.h) hr hk (pG hr hk hd) p.fz fun g hkb=>⟨(hr.inb k _ g hk hkb).imp (c.hX g) id,hr.ltb hk hkb,fun k' bx hk' he=>by obtain ⟨b0,h1,_⟩:=p.le k' bx hk';exact hg k' (by rw [hk'];simp) (hr.dis _ _ b0 _ g h1 hk he hkb)⟩
 | frozc e E l k hk hg =>
  exact F5 (h:=s.h) hr hk hd p.fz fun g hkb=>⟨(hr.inb k _ g hk hkb).imp (c.hX g) id,hr.ltb hk hkb,fun k' bx hk' he=>by obtain ⟨b0,h1,_⟩:=p.le k' bx hk';exact hg k' (by rw [hk'];simp) (hr.dis _ _ b0 _ g h1 hk he hkb)⟩
 | ocut e E l k hk=>exact pG (F:=Fz c h2 (fun k=>ρ (q k)) w) hr hk hd
theorem Part.l (p:Part s q h2) (hr:Rp c s ρ a w):∀{l0 l:List D} {cs:List Value},All2 (DLe s q (fun j=>∀k,h2 k≠none->q k≠j)) l0 l->All2 (D.rep w (Fz c s.h ρ w) ρ) l0 cs->All2 (D.rep w (Fz c h2 (fun k=>ρ (q k)) w) (fun k=>ρ (q k))) l cs
 | [],[],[],_,_=>trivial
 | _ :: _,_ :: _,_ :: _,h,k=>⟨p.d hr h.1 k.1,p.l hr h.2 k.2⟩
 | [],_ :: _,_,h,_=>h.elim
 | _ :: _,[],_,h,_=>h.elim
 | [],[],_ :: _,_,k=>k.elim
 | _ :: _,_ :: _,[],_,k=>k.elim
theorem Part.v0 (p:Part s q h2) (hr:Rp c s ρ a w) {d0 d:V0} {v:Value} (hle:V0Le s q (fun j=>∀k,h2 k≠none->q k≠j) d0 d) (hd:d0.rep w (Fz c s.h ρ w) ρ v):d.rep w (Fz c h2 (fun k=>ρ (q k)) w) (fun k=>ρ (q k)) v:=by
 cases hle with
 | one h=>exact p.d hr h hd
 | ag h=>obtain ⟨cs,e,h2⟩:=hd;exact ⟨cs,e,p.l hr h h2⟩
 | any=>trivial
theorem Part.l0 (p:Part s q h2) (hr:Rp c s ρ a w):∀{l0 l:List V0} {cs:List Value},All2 (V0Le s q (fun j=>∀k,h2 k≠none->q k≠j)) l0 l->All2 (V0.rep w (Fz c s.h ρ w) ρ) l0 cs->All2 (V0.rep w (Fz c h2 (fun k=>ρ (q k)) w) (fun k=>ρ (q k))) l cs
 | [],[],[],_,_=>trivial
 | _ :: _,_ :: _,_ :: _,h,k=>⟨p.v0 hr h.1 k.1,p.l0 hr h.2 k.2⟩
 | [],_ :: _,_,h,_=>h.elim
 | _ :: _,[],_,h,_=>h.elim
 | [],[],_ :: _,_,k=>k.elim
 | _ :: _,_ :: _,[],_,k=>k.elim
theorem Part.tv (p:Part s q h2) (hr:Rp c s ρ a w) {d0 d:TV} {v:Value} (hle:TVLe s q (fun j=>∀k,h2 k≠none->q k≠j) d0 d) (hd:d0.rep w (Fz c s.h ρ w) ρ v):d.rep w (Fz c h2 (fun k=>ρ (q k)) w) (fun k=>ρ (q k)) v:=by
 cases hle with
 | v h=>exact p.v0 hr h hd
 | tup h=>obtain ⟨vs,e,h3⟩:=hd;exact ⟨vs,e,p.l0 hr h h3⟩
 | any=>trivial
theorem Rp.weak {s':Mst} (hr:Rp c s ρ a w) (p:Part s q s'.h) (hq:∀k,k∈c.K->q k=k/\s'.f k=false) (hwf:s'.Wf)
  (ht:∀t,TVLe s q (fun j=>∀k,s'.h k≠none->q k≠j) (s.t t) (s'.t t)):Rp c s' (fun k=>ρ (q k)) a w where
 dfr:=hr.dfr
 siz:=hr.siz
 frm:=hr.frm
 tmp:=fun t=>p.tv hr (ht t) (hr.tmp t)
 hp:=fun k b hk=>by
  obtain ⟨b0,h1,h2⟩:=p.le k b hk;have h3:=hr.hp _ _ h1;cases h2 with
  | box t h=>obtain ⟨g,vs,e,hb,h4,h5⟩:=h3;exact ⟨g,vs,e,hb,p.l hr h h4,h5⟩
  | arr e E l=>obtain ⟨xs,h4,h5⟩:=h3;exact ⟨xs,h4,h5.same (fun _ _=>rfl) p.fz⟩
  | mp l=>exact h3
  | it k n l=>exact h3
 inb:=fun k b g hk hg=>by
  obtain ⟨b0,h1,_⟩:=p.le k b hk;exact hr.inb _ b0 g h1 hg
 dis:=fun k k' b b' g hk hk' hg hg'=>by
  obtain ⟨b0,h1,_⟩:=p.le k b hk;obtain ⟨b0',h1',_⟩:=p.le k' b' hk';exact p.inj k k' (by rw [hk];simp) (by rw [hk'];simp) (hr.dis _ _ b0 b0' g h1 h1' hg hg')
 ent:=fun k hk=>⟨by show ρ (q k)=c.ρ0 k;rw [(hq k hk).1];exact (hr.ent k hk).1,(hq k hk).2⟩
 wf:=hwf
end
def D.keys:D->List Nat
 | .own k | .slb k _ | .ptr k _ | .optr k _ _ _ | .ocut k | .osl k _ _ _ _=>[k]
 | .clo _ ks=>ks
 | _=>[]
def RM (U:List Nat) (l:List Nat):Bool:=l.all (aX U)
def D.in_ (U:List Nat) (d:D):Bool:=RM U d.keys
def V0.in_ (U:List Nat):V0->Bool
 | .one d=>d.in_ U
 | .ag l=>l.all (D.in_ U)
def TV.in_ (U:List Nat):TV->Bool
 | .v x=>x.in_ U
 | .tup l=>l.all (V0.in_ U)
def Box.in_ (U:List Nat):Box->Bool
 | .box _ cs=>cs.all (D.in_ U)
 | .arr ..=>true
 | .mp _=>true
 | .it k _ _=>aX U k
section
variable {U:List Nat} {k:Nat}
theorem D.in_has {d:D} (h:d.in_ U=true) (hk:d.has k=true):aX U k=true:=by
 cases d with
 | clo f ks =>
  have hk:ks.any (fun j=>j.beq k)=true:=hk;obtain ⟨j,hj,he⟩:=List.any_eq_true.1 hk;rw [<-qNb he];have h:ks.all (aX U)=true:=h;exact List.all_eq_true.1 h j hj
 | _=>simp [D.has] at hk <;> (subst hk;simpa [D.in_,D.keys,RM] using h)
theorem V0.in_has {d:V0} (h:d.in_ U=true) (hk:d.has k=true):aX U k=true:=by
 cases d with
 | one d=>exact D.in_has (d:=d) h hk
 | ag l=>obtain ⟨d,h1,h2⟩:=List.any_eq_true.1 hk;exact D.in_has (List.all_eq_true.1 h d h1) h2
theorem TV.in_has {d:TV} (h:d.in_ U=true) (hk:d.has k=true):aX U k=true:=by
 cases d with
 | v d=>exact V0.in_has (d:=d) h hk
 | tup l=>obtain ⟨d,h1,h2⟩:=List.any_eq_true.1 hk;exact V0.in_has (List.all_eq_true.1 h d h1) h2
theorem Box.in_has {d:Box} (h:d.in_ U=true) (hk:d.has k=true):aX U k=true:=by
 cases d with
 | box t cs=>obtain ⟨d,h1,h2⟩:=List.any_eq_true.1 hk;exact D.in_has (List.all_eq_true.1 h d h1) h2
 | arr e E l=>simp [Box.has] at hk
 | mp l=>simp [Box.has] at hk
 | it j n l=>simp only [Box.has] at hk;rw [<-qNb hk];exact h
end
def eS:List (Nat×Box)->Nat->Option Box
 | [],_=>none
 | (k,b) :: r,n=>bif k.beq n then some b else eS r n
def ax {α:Type _} (l:List (Nat×α)):List Nat:=l.map (·.1)
def fB:List Nat->Bool
 | []=>true
 | k :: r=>!aX r k && fB r
def Hq (args:List V0) (hin:List (Nat×Box)) (us:List Nat) (res:TV) (hout:List (Nat×Option Box)):Bool :=
 args.all (V0.in_ (ax hin)) && hin.all (fun x=>x.2.in_ (ax hin)) && RM (ax hout) (ax hin) && RM (ax hin++us) (ax hout) && us.all (fun k=>!aX (ax hin) k && aX (ax hout) k) &&
 res.in_ (ax hin++us) && hout.all (fun x=>match x.2 with|none=>true|some b=>b.in_ (ax hin++us))
def fo (q:Nat->Nat) (l:List (Nat×Option Box)):List (Nat×Option Box):=l.map fun x=>(q x.1,x.2.map (Box.ren q))
structure FSpec (P:Program) (f:FuncId) (args:List V0) (hin:List (Nat×Box)) (us:List Nat) (res:TV) (hout:List (Nat×Option Box)):Prop where
 en:∀(vs:Array Value) (w:World),(callFunc f vs).run P w = .ok (.enter f vs) w
 ca:∀(q:Nat->Nat) (c:Ctx) (st:Mst) (ρ:Nat->Value) (a:Act) (w:World) (vs:List Value),Rp c st ρ a w->
  (∀k k',aX (ax hin++us) k=true->aX (ax hin++us) k'=true->q k=q k'->k=k')->
  All2 (fun d v=>(V0.ren q d).rep w (Fz c st.h ρ w) ρ v) args vs->
  (∀k b,eS hin k=some b->st.h (q k)=some (b.ren q))->(∀k,aX us k=true->st.f (q k)=true)->
  Calls P f vs.toArray w fun e w'=>∃v,e = .returned v/\∀dst:Option Nat,(∀d,dst=some d->d<c.nt)->∃ρ',Rp c (st.app dst ⟨res.ren q,fo q hout,us.map q⟩) ρ' (a.put dst v) w'
inductive RV (P:Program) (s:Mst):ResultVar->V0->Prop
 | tmp {t:Nat} {x:V0} (h:s.t t = .v x):RV P s (.tmp t) x
 | row {t ty k n:Nat} {tb:TypeId} {cs:List D} (h:s.t t = .c (.ptr k 0)) (hk:s.h k=some (.box tb cs)) [I:TI P ty true n] (hn:cs.length=n):RV P s (.cell t ty) (.ag cs)
 | one {t ty k n:Nat} {tb:TypeId} {y:D} {cs:List D} (h:s.t t = .c (.ptr k 0)) (hk:s.h k=some (.box tb (y :: cs))) [I:TI P ty false n]:RV P s (.cell t ty) (.one y)
def Qj:List V0->TV
 | [x]=>.v x
 | l=>.tup l
def AD (tmps:Array Value):ResultVar->Sem Value
 | .tmp t=>pure (tmps.getD t undef)
 | .cell a t=>do loadVar t (<-asAddr (tmps.getD a undef))
theorem F6 (fn:Func) (tmps:Array Value):results fn tmps=(do let vs <-fn.results.mapM (AD tmps);pure (if h:vs.size=1 then vs[0] else .tuple vs)):=by
 unfold results;congr 1
theorem Ae {P:Program} {c:Ctx} {s:Mst} {ρ:Nat->Value} {a:Act} {w:World} (hr:Rp c s ρ a w) {r:ResultVar} {x:V0} (h:RV P s r x) :
  ∃v,(AD a.tmps r).run P w = .ok v w/\x.rep w (Fz c s.h ρ w) ρ v:=by
 cases h with
 | @tmp t x h=>exact ⟨_,rfl,by have:=hr.tmp t;rw [h] at this;exact this⟩
 | @row t ty k n tb cs h hk I hn =>
  have h1:=hr.tmp t;rw [h] at h1;obtain ⟨g,hg,hv⟩:=h1;obtain ⟨vs,hB,hA,h1c⟩:=hr.box hk hg;refine ⟨.agg vs.toArray,?_,vs,rfl,hA⟩;have h2:=pE (P:=P) (t:=ty) (g:=g) (p:=0) w vs (fun j u hu=>by rw [Nat.zero_add];exact hB.cellx j (by simpa using hu)) (by rw [<-hA.length,hn]);exact VN
 | @one t ty k n tb y cs h hk I =>
  have h1:=hr.tmp t;rw [h] at h1;obtain ⟨g,hg,hv⟩:=h1;obtain ⟨vs,hB,hA,h1c⟩:=hr.box hk hg;obtain ⟨u,hu,hrep⟩:=hA.get (i:=0) (a:=y) rfl;refine ⟨u,?_,hrep⟩;have h2:=pF (P:=P) (t:=ty) (g:=g) (p:=0) w u (hB.cellx 0 (by simpa using hu));exact VN
theorem Dz {P:Program} {c:Ctx} {s:Mst} {ρ:Nat->Value} {a:Act} {w:World} (hr:Rp c s ρ a w) {fn:Func} {xs:List V0} (h:All2 (RV P s) fn.results.toList xs):∃v,(results fn a.tmps).run P w = .ok v w/\(Qj xs).rep w (Fz c s.h ρ w) ρ v:=by
 have key:∀(rs:List ResultVar) (xs:List V0),All2 (RV P s) rs xs->∃vs:List Value,(rs.mapM (AD a.tmps)).run P w = .ok vs w/\All2 (V0.rep w (Fz c s.h ρ w) ρ) xs vs:=by
  intro rs;induction rs with
  | nil=>intro xs h;cases xs with
   | nil=>exact ⟨[],rfl,trivial⟩
   | cons=>exact h.elim
  | cons r rs ih =>
   intro xs h;cases xs with
   | nil=>exact h.elim
   | cons x xs =>
    obtain ⟨v,h1,h2⟩:=Ae hr h.1;obtain ⟨vs,h3,h4⟩:=ih xs h.2;refine ⟨v :: vs,?_,h2,h4⟩;simp only [List.mapM_cons,Sem.run_bind,h1,Result.andThen_ok,h3,Sem.run_pure]
 obtain ⟨vs,h1,h2⟩:=key _ _ h;have hm:(fn.results.mapM (AD a.tmps)).run P w = .ok vs.toArray w:=by
  rw [Array.mapM_eq_mapM_toList,map_eq_pure_bind];simp only [Sem.run_bind,h1,Result.andThen_ok,Sem.run_pure]
 have hl:=h2.length;rw [F6];simp only [Sem.run_bind,hm,Result.andThen_ok,Sem.run_pure]
 match xs,vs,h2 with
 | [x],[v],h2=>exact ⟨v,rfl,h2.1⟩
 | [],[],_=>exact ⟨_,rfl,[],rfl,trivial⟩
 | x :: y :: xs,v :: u :: vs,h2=>exact ⟨_,rfl,v :: u :: vs,by simp,h2⟩
def Tu (args:List V0) (hin:List (Nat×Box)):Mst :=
 { t:=fun i=>match args[i]? with|some x=>.v x|none=>.c .any,h:=eS hin,f:=fun k=>!aX (ax hin) k }
def Da (P:Program) (fn:Func) (hin:List (Nat×Box)) (res:TV) (hout:List (Nat×Option Box)) (e:Exit) (s:Mst):Prop :=
 (e = .normal\/e = .ret)/\∃xs p,All2 (RV P s) fn.results.toList xs/\(∀k,aX (ax hin) k=true->p k=k)/\Part s p (hput hout fun _=>none)/\TVLe s p (fun j=>∀k,hput hout (fun _=>none) k≠none->p k≠j) (Qj xs) res
section
variable {P:Program}
theorem ck:∀{l:List Nat} {k:Nat},aX l k=true↔k∈l
 | [],k=>by simp [aX]
 | x :: l,k=>by
  simp only [aX,Bool.or_eq_true,List.mem_cons,ck (l:=l)];constructor
  ·rintro (h|h)
   ·exact .inl (qNb h).symm
   ·exact .inr h
  ·rintro (rfl|h)
   ·exact .inl (Nat.beq_refl k)
   ·exact .inr h
theorem dv {hin:List (Nat×Box)} {k:Nat} {b:Box} (h:eS hin k=some b):aX (ax hin) k=true/\(k,b)∈hin:=by
 induction hin with
 | nil=>cases h
 | cons x r ih =>
  obtain ⟨j,c⟩:=x;simp only [eS] at h;cases hj:j.beq k with
  | true =>
   rw [hj] at h;injection h with h;subst h;have:=qNb hj;subst this;exact ⟨by simp [ax,aX],by simp⟩
  | false =>
   rw [hj] at h;obtain ⟨h1,h2⟩:=ih h;exact ⟨by simp only [ax,List.map_cons,aX,Bool.or_eq_true];exact .inr h1,by simp [h2]⟩
theorem Ju {hin:List (Nat×Box)} {k:Nat} (h:aX (ax hin) k=true):∃b,eS hin k=some b:=by
 induction hin with
 | nil=>simp [ax,aX] at h
 | cons x r ih =>
  obtain ⟨j,c⟩:=x;simp only [eS];cases hj:j.beq k with
  | true=>exact ⟨c,rfl⟩
  | false =>
   simp only [ax,List.map_cons,aX,hj,Bool.false_or] at h;exact ih h
theorem kx {l:List (Nat×Option Box)} {k:Nat}:aL l k=aX (ax l) k:=by
 induction l with
 | nil=>rfl
 | cons x r ih=>simp only [aL,ax,List.map_cons,aX,ih]
theorem pH {l:List (Nat×Option Box)} {k:Nat} {b:Box} (h:hput l (fun _=>none) k=some b):(k,some b)∈l:=by
 induction l with
 | nil=>cases h
 | cons x r ih =>
  obtain ⟨j,c⟩:=x;simp only [hput] at h;cases hj:j.beq k with
  | true =>
   rw [hj] at h;have:=qNb hj;subst this;simp only [qCt] at h;subst h;simp
  | false=>rw [hj] at h;simp [ih h]
theorem si {q:Nat->Nat} {l:List (Nat×Option Box)} {n:Nat}:aL (fo q l) n=true↔∃k,aL l k=true/\q k=n:=by
 induction l with
 | nil=>simp [fo,aL]
 | cons x r ih =>
  simp only [fo,List.map_cons,aL,Bool.or_eq_true];constructor
  ·rintro (h|h)
   ·exact ⟨x.1,.inl (Nat.beq_refl _),qNb h⟩
   ·obtain ⟨k,h1,h2⟩:=ih.1 h;exact ⟨k,.inr h1,h2⟩
  ·rintro ⟨k,h1|h1,rfl⟩
   ·rw [qNb h1];exact .inl (Nat.beq_refl _)
   ·exact .inr (ih.2 ⟨k,h1,rfl⟩)
theorem AE {q:Nat->Nat} {h:Nat->Option Box}:∀{l:List (Nat×Option Box)} {k:Nat},(∀k',aL l k'=true->q k'=q k->k'=k)->aL l k=true->hput (fo q l) h (q k)=(hput l (fun _=>none) k).map (Box.ren q)
 | [],_,_,e=>by simp [aL] at e
 | (j,c) :: r,k,hinj,e=>by
  simp only [fo,List.map_cons,hput];cases hj:j.beq k with
  | true =>
   have:=qNb hj;subst this;simp
  | false =>
   have:(q j).beq (q k)=false:=by
    cases h9:(q j).beq (q k) with
    | false=>rfl
    | true =>
     have:=hinj j (by simp [aL]) (qNb h9);subst this;rw [Nat.beq_refl] at hj;cases hj
   rw [this];simp only [qCf];simp only [aL,hj,Bool.false_or] at e;exact AE (l:=r) (fun k' h1 h2=>hinj k' (by simp only [aL,h1,Bool.or_true]) h2) e
theorem mT {U l:List Nat} (h:RM U l=true) {k:Nat} (hk:aX l k=true):aX U k=true:=lK h k hk
theorem D.has_ren {q:Nat->Nat} {d:D} {n:Nat} (h:(d.ren q).has n=true):∃k,d.has k=true/\q k=n:=by
 cases d with
 | clo f ks =>
  have h:(ks.map q).any (fun j=>j.beq n)=true:=h;obtain ⟨j,hj,he⟩:=List.any_eq_true.1 h;obtain ⟨k,hk,rfl⟩:=List.mem_map.1 hj;exact ⟨k,(List.any_eq_true.2 ⟨k,hk,Nat.beq_refl k⟩:ks.any (fun j=>j.beq k)=true),qNb he⟩
 | _=>simp [D.ren,D.has] at h <;> exact ⟨_,by simp [D.has],h⟩
theorem D.has_renL {q:Nat->Nat} {l:List D} {n:Nat} (h:(l.map (D.ren q)).any (D.has n)=true):∃k,l.any (D.has k)=true/\q k=n:=by
 obtain ⟨d,h1,h2⟩:=List.any_eq_true.1 h;obtain ⟨d0,h3,rfl⟩:=List.mem_map.1 h1;obtain ⟨k,h4,h5⟩:=D.has_ren h2;exact ⟨k,List.any_eq_true.2 ⟨d0,h3,h4⟩,h5⟩
theorem V0.has_ren {q:Nat->Nat} {d:V0} {n:Nat} (h:(d.ren q).has n=true):∃k,d.has k=true/\q k=n:=by
 cases d with
 | one d=>exact D.has_ren (d:=d) h
 | ag l=>exact D.has_renL (l:=l) h
theorem TV.has_ren {q:Nat->Nat} {d:TV} {n:Nat} (h:(d.ren q).has n=true):∃k,d.has k=true/\q k=n:=by
 cases d with
 | v d=>exact V0.has_ren (d:=d) h
 | tup l =>
  obtain ⟨d,h1,h2⟩:=List.any_eq_true.1 h;obtain ⟨d0,h3,rfl⟩:=List.mem_map.1 h1;obtain ⟨k,h4,h5⟩:=V0.has_ren h2;exact ⟨k,List.any_eq_true.2 ⟨d0,h3,h4⟩,h5⟩
theorem Box.has_ren {q:Nat->Nat} {d:Box} {n:Nat} (h:(d.ren q).has n=true):∃k,d.has k=true/\q k=n:=by
 cases d with
 | box t l=>exact D.has_renL (l:=l) h
 | arr e E l=>simp [Box.ren,Box.has] at h
 | mp l=>simp [Box.ren,Box.has] at h
 | it k m l=>exact ⟨k,by simp [Box.has],qNb h⟩
theorem iF {f:FuncId} {fn:Func} {code:Code} {args:List V0} {hin:List (Nat×Box)} {us:List Nat} {res:TV} {hout:List (Nat×Option Box)} (hf:P.funcs[f]? = some fn) (hb:fn.body=some code) (hen:∀(vs:Array Value) (w:World),(callFunc f vs).run P w = .ok (.enter f vs) w)
  (hok:Hq args hin us res hout=true) (hnt:args.length<=fn.ntmps) (h:AW P fn.ntmps (ax hin) code (Da P fn hin res hout) (Tu args hin)):FSpec P f args hin us res hout:=by
 refine ⟨hen,fun q c st ρ a w vs hr hinj hargs hhin hus=>?_⟩;simp only [Hq,qBa] at hok;obtain ⟨⟨⟨⟨⟨⟨o1,o2⟩,o3⟩,o4⟩,o5⟩,o6⟩,o7⟩:=hok;have inK:∀{k},aX (ax hin) k=true->aX (ax hin++us) k=true:=fun h=>by rw [nV,h];rfl
 have inU:∀{k},aX us k=true->aX (ax hin++us) k=true:=fun h=>by rw [nV,h,Bool.or_true]
 have uK:∀{k},aX us k=true->aX (ax hin) k=false:=fun h=>by have:=lK o5 _ h;simp at this;exact this.1
 have hXS:∀b,(∃k bx,aX (ax hin) k=true/\st.h (q k)=some bx/\kb (ρ (q k))=some b)->b<w.heap.size:=fun b ⟨k,bx,_,h2,h3⟩=>hr.ltb h2 h3
 let c':Ctx:={ w0:=w,S:=fun b=>Fz c st.h ρ w b\/∃k bx,aX (ax hin) k=true/\st.h (q k)=some bx/\kb (ρ (q k))=some b,X:=fun b=>∃k bx,aX (ax hin) k=true/\st.h (q k)=some bx/\kb (ρ (q k))=some b,nt:=fn.ntmps,K:=ax hin,ρ0:=fun k=>ρ (q k),hS:=fun b hb=>hb.elim (fun h=>h.2.1) (hXS b),hX:=fun b hb=>.inr hb,hpin:=c.hpin.sub (fun b hb hx=>hr.frm.keep b hb hx) fun b hb ⟨k,bx,_,h2,h3⟩=>(hr.inb _ bx b h2 h3).resolve_right (Nat.not_le.2 hb) }
 have hF0:∀b,Fz c st.h ρ w b->Fz c' (eS hin) (fun k=>ρ (q k)) w b/\w.heap[b]? = w.heap[b]?:=fun b hb=>⟨⟨.inl (.inl hb),hb.2.1,fun k bx hk=>hb.2.2 (q k) _ (hhin k bx hk)⟩,rfl⟩;have hr0:Rp c' (Tu args hin) (fun k=>ρ (q k)) { tmps:=vs.toArray++Array.replicate (fn.ntmps-vs.toArray.size) undef,defers:=[] } w:=by
  have hlen:=hargs.length;refine ⟨rfl,?_,Frx.refl _ _,fun i=>?_,fun k b hk=>?_,fun k b g hk hg=>?_,fun k k' b b' g hk hk' hg hg'=>?_,fun k hk=>⟨rfl,?_⟩,⟨fun k hk=>?_,fun k i hk=>?_,fun k k' b hk hb2=>?_⟩⟩
  ·show (vs.toArray++Array.replicate (fn.ntmps-vs.toArray.size) undef).size=fn.ntmps;simp;omega
  ·show TV.rep _ _ _ (match args[i]? with|some x=>.v x|none=>.c .any) _;cases hi:args[i]? with
   | none=>trivial
   | some x =>
    obtain ⟨v,hv,hx⟩:=hargs.get hi;have hil:i<vs.length:=(List.getElem?_eq_some_iff.1 hv).1;have e1:(vs.toArray++Array.replicate (fn.ntmps-vs.toArray.size) undef).getD i undef=v:=by
     rw [Array.getD_eq_getD_getElem?,Array.getElem?_append_left (by simpa using hil)];simp [hv]
    show V0.rep _ _ _ x ((vs.toArray++Array.replicate (fn.ntmps-vs.toArray.size) undef).getD i undef);rw [e1];exact ((V0.rep_ren (ρ':=fun k=>ρ (q k)) fun _ _=>rfl).1 hx).mono hF0 fun _ _=>rfl
  ·have h1:=hr.hp _ _ (hhin k b hk);exact ((Box.rep_ren (ρ':=fun k=>ρ (q k)) fun _ _=>rfl).1 h1).mono (fun _ _=>rfl) hF0 fun _ _=>rfl
  ·exact .inl ⟨k,_,(dv hk).1,hhin k b hk,hg⟩
  ·exact hinj k k' (inK (dv hk).1) (inK (dv hk').1) (hr.dis _ _ _ _ g (hhin k b hk) (hhin k' b' hk') hg hg')
  ·show (!aX (ax hin) k)=false;rw [ck.2 hk];rfl
  ·have hk:(!aX (ax hin) k)=true:=hk;cases h9:eS hin k with
   | none=>exact h9
   | some b=>rw [(dv h9).1] at hk;cases hk
  ·have hk:(!aX (ax hin) k)=true:=hk;show TV.has k (match args[i]? with|some x=>.v x|none=>.c .any)=false;cases hi:args[i]? with
   | none=>rfl
   | some x =>
    cases h9:TV.has k (.v x) with
    | false=>rfl
    | true=>rw [V0.in_has (List.all_eq_true.1 o1 x (List.mem_of_getElem? hi)) h9] at hk;cases hk
  ·have hk:(!aX (ax hin) k)=true:=hk;cases h9:Box.has k b with
   | false=>rfl
   | true=>rw [Box.in_has (List.all_eq_true.1 o2 (k',b) (dv hb2).2) h9] at hk;cases hk
 refine calls_of_wp hf hb (wp_mono (h c' _ _ w rfl rfl hr0) ?_);rintro e a1 w1 ⟨s1,ρ1,⟨he,xs,p,hxs,hpK,hpart,hle⟩,hr1⟩;obtain ⟨v,hv,hvr⟩:=Dz hr1 hxs;have hres:=hpart.tv hr1 hle hvr
 let s2:Mst:={ t:=fun _=>.c .any,h:=hput hout fun _=>none,f:=fun k=>!aX (ax hin++us) k }
 have hin2:∀k b,hput hout (fun _=>none) k=some b->aX (ax hin++us) k=true/\b.in_ (ax hin++us)=true:=fun k b hk=>by
  have hm:=pH hk;have h1:=List.all_eq_true.1 o7 _ hm;refine ⟨mT o4 ?_,h1⟩;rw [ck];exact List.mem_map.2 ⟨_,hm,rfl⟩
 have hr2:Rp c' s2 (fun k=>ρ1 (p k)) a1 w1:=hr1.weak (s':=s2) hpart (fun k hk=>⟨hpK k (ck.2 hk),by show (!aX (ax hin++us) k)=false;rw [inK (ck.2 hk)];rfl⟩)
  ⟨(fun k hk=>by
   have hk:(!aX (ax hin++us) k)=true:=hk;cases h9:hput hout (fun _=>none) k with
   | none=>exact h9
   | some b=>rw [(hin2 k b h9).1] at hk;cases hk),fun _ _ _=>rfl,(fun k k' b hk hb2=>by
   have hk:(!aX (ax hin++us) k)=true:=hk;cases h9:Box.has k b with
   | false=>rfl
   | true=>rw [Box.in_has (hin2 k' b hb2).2 h9] at hk;cases hk)⟩ fun t=>.any _
 have hgo:a1.defers=[]/\∃v,(results fn a1.tmps).run P w1 = .ok v w1/\(fun e w'=>∃v,e=Ending.returned v/\∀dst:Option Nat,(∀d,dst=some d->d<c.nt)->∃ρ',Rp c (st.app dst ⟨res.ren q,fo q hout,us.map q⟩) ρ' (a.put dst v) w') (.returned v) w1:=by
  refine ⟨hr1.dfr,v,hv,v,rfl,fun dst hdst=>?_⟩
  let ρ':Nat->Value:=fun n=>match us.find? (fun k=>(q k).beq n) with|some k=>ρ1 (p k)|none=>ρ n
  have hρu:∀k,aX us k=true->ρ' (q k)=ρ1 (p k):=fun k hk=>by
   show (match us.find? (fun j=>(q j).beq (q k)) with|some k=>ρ1 (p k)|none=>ρ (q k))=_;cases h9:us.find? (fun j=>(q j).beq (q k)) with
   | none =>
    have:=List.find?_eq_none.1 h9 k (ck.1 hk);simp at this
   | some j =>
    have h10:=List.find?_some (p:=fun j=>(q j).beq (q k)) h9;have h11:=List.mem_of_find?_eq_some h9;have:j=k:=hinj j k (inU (ck.2 h11)) (inU hk) (qNb h10);rw [this]
  have hρn:∀n,(∀k,aX us k=true->q k≠n)->ρ' n=ρ n:=fun n hn=>by
   show (match us.find? (fun j=>(q j).beq n) with|some k=>ρ1 (p k)|none=>ρ n)=_;cases h9:us.find? (fun j=>(q j).beq n) with
   | none=>rfl
   | some j=>exact absurd (qNb (List.find?_some (p:=fun j=>(q j).beq n) h9)) (hn j (ck.2 (List.mem_of_find?_eq_some h9)))
  have hρK:∀k,aX (ax hin++us) k=true->ρ' (q k)=ρ1 (p k):=fun k hk=>by
   rw [nV,Bool.or_eq_true] at hk;rcases hk with hk|hk
   ·rw [hρn (q k) fun j hj he=>?_,hpK k hk,(hr1.ent k (ck.1 hk)).1];have:=hinj j k (inU hj) (inK hk) he;subst this;rw [uK hj] at hk;cases hk
   ·exact hρu k hk
  have hK:∀n,aL (fo q hout) n=true->∃k,aX (ax hin++us) k=true/\aL hout k=true/\q k=n:=fun n hn=>by
   obtain ⟨k,h1,h2⟩:=si.1 hn;exact ⟨k,mT o4 (by rw [<-kx];exact h1),h1,h2⟩
  have hput':∀k,aX (ax hin++us) k=true->aL hout k=true->hput (fo q hout) st.h (q k)=(hput hout (fun _=>none) k).map (Box.ren q):=fun k hk hk2=>by
   refine AE (fun k' h1 h2=>?_) hk2;exact hinj k' k (mT o4 (by rw [<-kx];exact h1)) hk h2
  have hsome:∀n bx,aL (fo q hout) n=true->hput (fo q hout) st.h n=some bx->∃k b,aX (ax hin++us) k=true/\q k=n/\hput hout (fun _=>none) k=some b/\b.ren q=bx:=fun n bx hn hb2=>by
   obtain ⟨k,h1,h2,rfl⟩:=hK n hn;rw [hput' k h1 h2] at hb2;cases h9:hput hout (fun _=>none) k with
   | none=>rw [h9] at hb2;cases hb2
   | some b=>rw [h9] at hb2;exact ⟨k,b,h1,rfl,h9,Option.some.inj hb2⟩
  have hinKey:∀k,aX (ax hin) k=true->aL (fo q hout) (q k)=true:=fun k hk=>si.2 ⟨k,by rw [kx];exact mT o3 hk,rfl⟩;have hnonf:∀k,aX (ax hin) k=true->st.f (q k)=false:=fun k hk=>by obtain ⟨b,h1⟩:=Ju hk;exact hr.nfh (hhin k b h1)
  have hFz:∀b,Fz c' s2.h (fun k=>ρ1 (p k)) w1 b->Fz c (hput (fo q hout) st.h) ρ' w1 b/\w1.heap[b]? = w1.heap[b]?:=fun b ⟨f1,f2,f3⟩=>by
   refine ⟨⟨?_,f2,fun n bx hn he=>?_⟩,rfl⟩
   ·rcases f1 with (f1|⟨k,bx,_,h2,h3⟩)|f1
    ·exact f1.1
    ·rcases hr.inb _ bx b h2 h3 with h|h
     ·exact .inl (c.hX b h)
     ·exact .inr h
    ·exact .inr (Nat.le_trans hr.frm.size f1)
   ·cases h9:aL (fo q hout) n with
    | true =>
     obtain ⟨k,b2,h1,rfl,h3,_⟩:=hsome n bx h9 hn;rw [hρK k h1] at he;exact f3 k b2 h3 he
    | false =>
     rw [cz h9] at hn;have hnu:∀k,aX us k=true->q k≠n:=fun k hk e=>by have:=hus k hk;rw [e,hr.nfh hn] at this;cases this
     rw [hρn n hnu] at he;rcases f1 with (f1|⟨k,b2,h1,h2,h3⟩)|f1
     ·exact f1.2.2 n bx hn he
     ·have:=hr.dis _ _ _ _ b h2 hn h3 he;subst this;rw [hinKey k h1] at h9;cases h9
     ·have:=hr.ltb hn he;have f1:w.heap.size<=b:=f1;omega
  have hus':∀n,aX (us.map q) n=true↔∃k,aX us k=true/\q k=n:=fun n=>by
   rw [ck,List.mem_map];exact ⟨fun ⟨k,h1,h2⟩=>⟨k,ck.2 h1,h2⟩,fun ⟨k,h1,h2⟩=>⟨k,ck.1 h1,h2⟩⟩
  have hkeyin:∀{d:TV},d.in_ (ax hin++us)=true->∀n,(d.ren q).has n=true->∃k,aX (ax hin++us) k=true/\q k=n:=fun h n hn=>by
   obtain ⟨k,h1,h2⟩:=TV.has_ren hn;exact ⟨k,TV.in_has h h1,h2⟩
  have hkeyinB:∀{d:Box},d.in_ (ax hin++us)=true->∀n,(d.ren q).has n=true->∃k,aX (ax hin++us) k=true/\q k=n:=fun h n hn=>by
   obtain ⟨k,h1,h2⟩:=Box.has_ren hn;exact ⟨k,Box.in_has h h1,h2⟩
  have hcls:∀k,aX (ax hin++us) k=true->aX (us.map q) (q k)=true\/st.f (q k)=false:=fun k hk=>by
   rw [nV,Bool.or_eq_true] at hk;rcases hk with hk|hk
   ·exact .inr (hnonf k hk)
   ·exact .inl ((hus' _).2 ⟨k,hk,rfl⟩)
  refine ⟨ρ',hr.app (e:=⟨res.ren q,fo q hout,us.map q⟩) hdst ?_ ?_ ?_ ?_ ?_ ?_ ?_ ?_ ?_ ?_⟩
  ·intro n hn;obtain ⟨k,h1,rfl⟩:=(hus' n).1 hn;refine ⟨hus k h1,si.2 ⟨k,?_,rfl⟩⟩;have:=lK o5 k h1;simp at this;rw [kx];exact this.2
  ·intro n hn;refine hρn n fun k hk e=>?_;have:=(hus' n).2 ⟨k,hk,e⟩;rw [this] at hn;cases hn
  ·intro n hn;obtain ⟨k,h1,_,rfl⟩:=hK n hn;exact hcls k h1
  ·refine ⟨hr1.frm.os,hr1.frm.tape,hr1.frm.output,hr1.frm.size,fun b hlt hn=>hr1.frm.keep b hlt fun ⟨k,bx,h1,h2,h3⟩=>hn ⟨q k,bx,hinKey k h1,h2,h3⟩⟩
  ·intro n bx g hn hb2 hg;obtain ⟨k,b,h1,rfl,h3,_⟩:=hsome n bx hn hb2;rw [hρK k h1] at hg;refine ⟨hr2.ltb (k:=k) h3 hg,?_⟩;rcases hr2.inb k b g h3 hg with ⟨k0,b0,h4,h5,h6⟩|h4
   ·exact .inr ⟨q k0,b0,hinKey k0 h4,h5,h6⟩
   ·exact .inl h4
  ·intro n n' b b' g hn hn' hb2 hb2' hg hg';obtain ⟨k,x,h1,rfl,h3,_⟩:=hsome n b hn hb2;obtain ⟨k',x',h1',rfl,h3',_⟩:=hsome n' b' hn' hb2';rw [hρK k h1] at hg;rw [hρK k' h1'] at hg';rw [hr2.dis k k' x x' g h3 h3' hg hg']
  ·intro n hn;obtain ⟨k,h1,rfl⟩:=hkeyin o6 n hn;exact hcls k h1
  ·intro n n' bx hn' hb2 hn;obtain ⟨k,b,h1,rfl,h3,rfl⟩:=hsome n' bx hn' hb2;obtain ⟨k2,h4,rfl⟩:=hkeyinB (hin2 k b h3).2 n hn;exact hcls k2 h4
  ·intro n bx hn hb2;obtain ⟨k,b,h1,rfl,h3,rfl⟩:=hsome n bx hn hb2;rw [hρK k h1];refine ((Box.rep_ren (ρ':=fun k=>ρ1 (p k)) fun j hj=>?_).2 (hr2.hp k b h3)).mono (fun _ _=>rfl) hFz fun _ _=>rfl;exact (hρK j (Box.in_has (hin2 k b h3).2 hj)).symm
  ·refine ((TV.rep_ren (ρ':=fun k=>ρ1 (p k)) fun j hj=>?_).2 hres).mono hFz fun _ _=>rfl;exact (hρK j (TV.in_has o6 hj)).symm
 rcases he with rfl|rfl <;> exact hgo
end
def pI (K:Mst->Prop) (Q:Exit->Mst->Prop):Exit->Mst->Prop
 | .normal,s=>K s
 | e,s=>Q e s
def gP (id:Nat) (Q:Exit->Mst->Prop):Exit->Mst->Prop
 | .exit i,s=>bif i.beq id then Q .normal s else Q (.exit i) s
 | e,s=>Q e s
section
variable {P:Program} {nt:Nat} {Ks:List Nat} {Q:Exit->Mst->Prop} {s:Mst}
theorem sj {x y:Code} (h:AW P nt Ks x (pI (AW P nt Ks y Q) Q) s):AW P nt Ks (.seq x y) Q s:=by
 intro c ρ a w hc hK hr;refine wp_seq (wp_mono (h c ρ a w hc hK hr) ?_);rintro e a' w' ⟨s',ρ',hq,hr'⟩;cases e with
 | normal=>exact hq c ρ' a' w' hc hK hr'
 | _=>exact ⟨s',ρ',hq,hr'⟩
theorem Hr (h:Q .normal s):AW P nt Ks .skip Q s:=fun _ ρ _ _ _ _ hr=>wp_skip ⟨s,ρ,h,hr⟩
theorem Lj {l:Nat} (h:Q .normal s):AW P nt Ks (.label l) Q s:=fun _ ρ _ _ _ _ hr=>wp_label ⟨s,ρ,h,hr⟩
theorem Hs {i:Nat} (h:Q (.exit i) s):AW P nt Ks (.exit i) Q s:=fun _ ρ _ _ _ _ hr=>wp_exit ⟨s,ρ,h,hr⟩
theorem Lk (h:Q .ret s):AW P nt Ks .ret Q s:=fun _ ρ _ _ _ _ hr=>wp_ret ⟨s,ρ,h,hr⟩
theorem Ll {x:Code} (h:AW P nt Ks x (fun e s'=>(∀l,e≠.goto l)/\Q e s') s):AW P nt Ks (.scope x) Q s:=by
 intro c ρ a w hc hK hr;refine wp_scope_straight (wp_mono (h c ρ a w hc hK hr) ?_);rintro e a' w' ⟨s',ρ',⟨h1,h2⟩,hr'⟩;cases e with
 | goto l=>exact absurd rfl (h1 l)
 | _=>exact ⟨s',ρ',h2,hr'⟩
theorem B1 {x:Operand} {t e:Code} {b:Bool} (hx:s.ev x = .b b) (h1:b=true->AW P nt Ks t Q s) (h2:b=false->AW P nt Ks e Q s):AW P nt Ks (.cond x t e) Q s:=by
 intro c ρ a w hc hK hr;have hv:a.eval x = .bool b:=by have:=hr.ev x;rwa [hx] at this
 exact wp_cond_split hv (fun h=>h1 h c ρ a w hc hK hr) fun h=>h2 h c ρ a w hc hK hr
theorem DB {id:Nat} {x:Code} (h:AW P nt Ks x (gP id Q) s):AW P nt Ks (.block id x) Q s:=by
 intro c ρ a w hc hK hr;refine wp_block (wp_mono (h c ρ a w hc hK hr) ?_);rintro e a' w' ⟨s',ρ',hq,hr'⟩;cases e with
 | exit i =>
  simp only [gP] at hq;cases hb:i.beq id with
  | true =>
   rw [hb] at hq;simp only [Exit.inBlock,qNb hb,if_true];exact ⟨s',ρ',hq,hr'⟩
  | false =>
   rw [hb] at hq;have hi:¬i=id:=fun e=>by rw [e,Nat.beq_refl] at hb;cases hb
   simp only [Exit.inBlock,hi,if_false];exact ⟨s',ρ',hq,hr'⟩
 | _=>exact ⟨s',ρ',hq,hr'⟩
def Le (nt:Nat) (Ks:List Nat) (s s':Mst):Prop:=∀(c:Ctx) (ρ:Nat->Value) (a:Act) (w:World),c.nt=nt->c.K=Ks->Rp c s ρ a w->∃ρ',Rp c s' ρ' a w
theorem ab {ι:Type _} {x:Code} (p:ι->Prop) (I:ι->Mst) (μ:ι->Nat) (i0:ι) (h0:p i0) (h1:Le nt Ks s (I i0))
  (h:∀i,p i->AW P nt Ks x (pI (fun s'=>∃j,p j/\μ j<μ i/\Le nt Ks s' (I j)) Q) (I i)):AW P nt Ks (.loop x) Q s:=by
 intro c ρ a w hc hK hr;obtain ⟨ρ0,hr0⟩:=h1 c ρ a w hc hK hr;refine wp_loop_ghost (fun n a w=>∃i ρ,μ i=n/\p i/\Rp c (I i) ρ a w) (μ i0) ⟨i0,ρ0,rfl,h0,hr0⟩ ?_;rintro n a w ⟨i,ρ,rfl,hp,hr⟩;refine wp_mono (h i hp c ρ a w hc hK hr) ?_;rintro e a' w' ⟨s',ρ',hq,hr'⟩;cases e with
 | normal =>
  obtain ⟨j,hj,hlt,hle⟩:=hq;obtain ⟨ρ2,hr2⟩:=hle c ρ' a' w' hc hK hr';exact ⟨μ j,hlt,j,ρ2,rfl,hj,hr2⟩
 | _=>exact ⟨s',ρ',hq,hr'⟩
theorem aY {x:Code} {φ:Prop} (hf:∀(c:Ctx) (ρ:Nat->Value) (a:Act) (w:World),Rp c s ρ a w->φ) (h:φ->AW P nt Ks x Q s):AW P nt Ks x Q s:=fun c ρ a w hc hK hr=>h (hf c ρ a w hr) c ρ a w hc hK hr
end
def F7:List (Nat×TV)->Nat->TV
 | [],_=>.c .any
 | (k,d) :: r,n=>bif k.beq n then d else F7 r n
def bP (U:List Nat) (ts:List (Nat×TV)) (hs:List (Nat×Box)):Mst:={ t:=F7 ts,h:=eS hs,f:=fun k=>!aX U k }
def NO (s:Mst) (q:Nat->Nat) (g:Nat->Prop):List (Nat×TV)->Prop
 | []=>True
 | (t,d) :: r=>TVLe s q g (s.t t) d/\NO s q g r
def NP (s:Mst) (q:Nat->Nat) (g:Nat->Prop):List (Nat×Box)->Prop
 | []=>True
 | (k,b) :: r=>(∃b0,s.h (q k)=some b0/\BoxLe s q g b0 b)/\NP s q g r
def vD (s:Mst) (q:Nat->Nat) (g:Nat->Prop):List (Nat×Option Box)->Prop
 | []=>True
 | (_,none) :: r=>vD s q g r
 | (k,some b) :: r=>(∃b0,s.h (q k)=some b0/\BoxLe s q g b0 b)/\vD s q g r
theorem DD {s:Mst} {q:Nat->Nat} {g:Nat->Prop}:∀{l:List (Nat×TV)},NO s q g l->∀t d,(t,d)∈l->TVLe s q g (s.t t) d
 | (a,b) :: l,h,t,d,hx=>by
  rcases List.mem_cons.1 hx with e|hx
  ·injection e with e1 e2;subst e1;subst e2;exact h.1
  ·exact DD h.2 t d hx
theorem DE {s:Mst} {q:Nat->Nat} {g:Nat->Prop}:∀{l:List (Nat×Box)},NP s q g l->∀k b,(k,b)∈l->∃b0,s.h (q k)=some b0/\BoxLe s q g b0 b
 | (a,b) :: l,h,t,d,hx=>by
  rcases List.mem_cons.1 hx with e|hx
  ·injection e with e1 e2;subst e1;subst e2;exact h.1
  ·exact DE h.2 t d hx
theorem x9 {s:Mst} {q:Nat->Nat} {g:Nat->Prop}:∀{l:List (Nat×Option Box)},vD s q g l->∀k b,(k,some b)∈l->∃b0,s.h (q k)=some b0/\BoxLe s q g b0 b
 | (a,none) :: l,h,t,d,hx=>by
  rcases List.mem_cons.1 hx with e|hx
  ·cases e
  ·exact x9 (l:=l) h t d hx
 | (a,some b) :: l,h,t,d,hx=>by
  rcases List.mem_cons.1 hx with e|hx
  ·injection e with e1 e2;injection e2 with e2;subst e1;subst e2;exact h.1
  ·exact x9 h.2 t d hx
def qf:List (Nat×Nat)->Nat->Nat
 | [],k=>k
 | (a,b) :: r,k=>bif a.beq k then b else qf r k
def Qk (U:List Nat) (ts:List (Nat×TV)) (hs:List (Nat×Box)) (q:Nat->Nat) (Ks:List Nat):Bool :=
 ts.all (fun x=>x.2.in_ U) && hs.all (fun x=>x.2.in_ U) && RM U (ax hs) && fB ((ax hs).map q) && Ks.all (fun k=>aX U k && (q k).beq k)
theorem ky {q:Nat->Nat}:∀{l:List Nat},fB (l.map q)=true->∀k k',aX l k=true->aX l k'=true->q k=q k'->k=k'
 | [],_,_,_,h,_,_=>by simp [aX] at h
 | x :: l,hn,k,k',h,h',e=>by
  simp only [List.map_cons,fB,qBa,Bool.not_eq_true'] at hn;have hx:∀j,aX l j=true->q x=q j->False:=fun j hj e=>by
   have:aX (l.map q) (q x)=true:=by rw [ck,e];exact List.mem_map.2 ⟨j,ck.1 hj,rfl⟩
   rw [this] at hn;exact absurd hn.1 (by simp)
  simp only [aX,Bool.or_eq_true] at h h';rcases h with h|h <;> rcases h' with h'|h'
  ·rw [<-qNb h,<-qNb h']
  ·rw [<-qNb h] at e;exact (hx k' h' e).elim
  ·rw [<-qNb h'] at e;exact (hx k h e.symm).elim
  ·exact ky hn.2 k k' h h' e
section
variable {nt:Nat} {Ks:List Nat} {s:Mst}
theorem xk {hs:List (Nat×Box)} {q:Nat->Nat} {j:Nat} (h:aX ((ax hs).map q) j=false):∀k,eS hs k≠none->q k≠j:=fun k hk e=>by
 cases h9:eS hs k with
 | none=>exact hk h9
 | some b =>
  have:aX ((ax hs).map q) j=true:=by rw [ck,<-e];exact List.mem_map.2 ⟨k,ck.1 (dv h9).1,rfl⟩
  rw [this] at h;cases h
theorem Lm {U:List Nat} {ts:List (Nat×TV)} {hs:List (Nat×Box)} (q:Nat->Nat) (hok:Qk U ts hs q Ks=true)
  (ht:NO s q (fun j=>∀k,eS hs k≠none->q k≠j) ts)
  (hh:NP s q (fun j=>∀k,eS hs k≠none->q k≠j) hs):Le nt Ks s (bP U ts hs):=by
 intro c ρ a w hc hK hr;subst hK;simp only [Qk,qBa] at hok;obtain ⟨⟨⟨⟨o1,o2⟩,o3⟩,o4⟩,o5⟩:=hok;have aL:∀k,eS hs k≠none->aX (ax hs) k=true:=fun k hk=>by
  cases h9:eS hs k with
  | none=>exact absurd h9 hk
  | some b=>exact (dv h9).1
 have hU:∀k,(!aX U k)=true->aX U k=false:=fun k h=>by simpa using h
 have htg:∀(l:List (Nat×TV)) (n:Nat),(F7 l n = .c .any)\/∃d,(n,d)∈l/\F7 l n=d:=by
  intro l n;induction l with
  | nil=>exact .inl rfl
  | cons x l ih =>
   obtain ⟨k,d⟩:=x;simp only [F7];cases hk:k.beq n with
   | true=>rw [qNb hk];exact .inr ⟨d,by simp,rfl⟩
   | false =>
    rcases ih with h|⟨d',h1,h2⟩
    ·exact .inl h
    ·exact .inr ⟨d',by simp [h1],h2⟩
 refine ⟨_,hr.weak (s':=bP U ts hs) (q:=q) ⟨fun k k' hk hk' e=>ky o4 k k' (aL k hk) (aL k' hk') e,fun k b hk=>?_⟩ (fun k hk=>?_) ⟨fun k hk=>?_,fun k t hk=>?_,fun k k' b hk hb=>?_⟩ fun t=>?_⟩
 ·exact DE hh k b (dv hk).2
 ·have:=List.all_eq_true.1 o5 k hk;simp only [qBa] at this;exact ⟨qNb this.2,by show (!aX U k)=false;rw [this.1];rfl⟩
 ·have hk:=hU k hk;cases h9:eS hs k with
  | none=>exact h9
  | some b=>rw [mT o3 (dv h9).1] at hk;cases hk
 ·have hk:=hU k hk;show (F7 ts t).has k=false;rcases htg ts t with h|⟨d,h1,h2⟩
  ·rw [h];rfl
  ·rw [h2];cases h9:d.has k with
   | false=>rfl
   | true=>rw [TV.in_has (List.all_eq_true.1 o1 (t,d) h1) h9] at hk;cases hk
 ·have hk:=hU k hk;cases h9:b.has k with
  | false=>rfl
  | true=>rw [Box.in_has (List.all_eq_true.1 o2 (k',b) (dv hb).2) h9] at hk;cases hk
 ·show TVLe _ _ _ _ (F7 ts t);rcases htg ts t with h|⟨d,h1,h2⟩
  ·rw [h];exact .any _
  ·rw [h2];exact DD ht t d h1
theorem ya {P:Program} {fn:Func} {hin:List (Nat×Box)} {res:TV} {hout:List (Nat×Option Box)} {e:Exit} (he:e = .normal\/e = .ret) (xs:List V0) (q:Nat->Nat) (hx:All2 (RV P s) fn.results.toList xs) (hq:(ax hin).all (fun k=>(q k).beq k)=true)
  (hn:fB ((ax (hout.filter fun x=>x.2.isSome)).map q)=true) (hh:vD s q (fun j=>∀k,hput hout (fun _=>none) k≠none->q k≠j) hout)
  (hr:TVLe s q (fun j=>∀k,hput hout (fun _=>none) k≠none->q k≠j) (Qj xs) res):Da P fn hin res hout e s:=by
 have aL:∀k,hput hout (fun _=>none) k≠none->aX (ax (hout.filter fun x=>x.2.isSome)) k=true:=fun k hk=>by
  cases h9:hput hout (fun _=>none) k with
  | none=>exact absurd h9 hk
  | some b=>rw [ck];exact List.mem_map.2 ⟨(k,some b),List.mem_filter.2 ⟨pH h9,rfl⟩,rfl⟩
 refine ⟨he,xs,q,hx,fun k hk=>?_,⟨fun k k' hk hk' e=>ky hn k k' (aL k hk) (aL k' hk') e,fun k b hk=>?_⟩,hr⟩
 ·exact qNb (List.all_eq_true.1 hq k (ck.1 hk))
 ·exact x9 hh k b (pH hk)
end
section
variable {P:Program} {o:Oper} {s:Mst}
def AF (s:Mst) (q:Nat->Nat):List (Nat×Box)->Prop
 | []=>True
 | (k,b) :: r=>s.h (q k)=some (b.ren q)/\AF s q r
theorem sk {s:Mst} {q:Nat->Nat}:∀{l:List (Nat×Box)},AF s q l->∀k b,(k,b)∈l->s.h (q k)=some (b.ren q)
 | (a,b) :: l,h,t,d,hx=>by
  rcases List.mem_cons.1 hx with e|hx
  ·injection e with e1 e2;subst e1;subst e2;exact h.1
  ·exact sk h.2 t d hx
theorem Ln {f:FuncId} {xs:Array Operand} {ts:Array TypeId} {args:List V0} {hin:List (Nat×Box)} {us:List Nat} {res:TV} {hout:List (Nat×Option Box)} (hs:FSpec P f args hin us res hout) (q:Nat->Nat) (ho:o.op = .call { callee:=.value (.func f),args:=xs,argTypes:=ts })
  (ha:All2 (fun x d=>s.ev x = .v (V0.ren q d)) xs.toList args) (hn:fB ((ax hin++us).map q)=true) (hh:AF s q hin):LOp P o s ((ax hin).map q) ⟨res.ren q,fo q hout,us.map q⟩:=by
 intro c st ρ a w hr h1 h2 h3 h4;have hargs:All2 (fun d v=>(V0.ren q d).rep w (Fz c st.h ρ w) ρ v) args (xs.toList.map a.eval):=by
  have key:∀(l:List Operand) (m:List V0),(∀x∈l,st.ev x=s.ev x)->All2 (fun x d=>s.ev x = .v (V0.ren q d)) l m->All2 (fun d v=>(V0.ren q d).rep w (Fz c st.h ρ w) ρ v) m (l.map a.eval):=by
   intro l;induction l with
   | nil=>intro m _ h;cases m with
    | nil=>trivial
    | cons=>exact h.elim
   | cons x l ih =>
    intro m hl h;cases m with
    | nil=>exact h.elim
    | cons d m =>
     refine ⟨?_,ih m (fun y hy=>hl y (by simp [hy])) h.2⟩;have:=hr.ev x;rw [hl x (by simp),h.1] at this;exact this
  exact key _ _ (fun x hx=>h1 x (by simp [ho,Op.operands,Call.operands];exact .inr (by simpa using hx))) ha
 have hin':∀k b,eS hin k=some b->st.h (q k)=some (b.ren q):=fun k b hk=>by
  rw [h2 (q k) (by rw [ck];exact List.mem_map.2 ⟨k,ck.1 (dv hk).1,rfl⟩)];exact sk hh k b (dv hk).2
 have hc:=hs.ca q c st ρ a w (xs.toList.map a.eval) hr (fun k k' hk hk' e=>ky hn k k' hk hk' e) hargs hin' fun k hk=>h3 _ (by show aX (us.map q) (q k)=true;rw [ck];exact List.mem_map.2 ⟨k,ck.1 hk,rfl⟩);have he:(xs.toList.map a.eval).toArray=xs.map a.eval:=by apply Array.toList_inj.1;simp
 rw [he] at hc;unfold Oper.wp execOp;simp only [ho,resolve,Act.eval,Deferred.ofValue,invoke,Sem.run_bind,Sem.run_pure,Result.andThen_ok,Array.append_empty,Array.empty_append];rw [hs.en];refine hc.mono fun e w' ⟨v,hv,hk⟩=>?_;subst hv;exact hk o.dst h4
end
class ST {α:Type} (P:Program) (E:El α) (t:TypeId) (e:outParam TypeId) (by_:outParam Nat):Prop where
 T:ElTB P E t e by_
section
variable {P:Program} {o:Oper} {s:Mst} {α:Type} {E:El α}
def N5 (s:Mst) (E:El α) (x:Operand) (m:List α) (R:List Nat):Prop :=
 ∀(c:Ctx) (st:Mst) (ρ:Nat->Value) (a:Act) (w:World),Rp c st ρ a w->st.ev x=s.ev x->(∀k,aX R k=true->st.h k=s.h k)->
  ∃A cap ys,a.eval x = .slice A m.length cap/\Reps E w (Fz c st.h ρ w) m ys/\(0<m.length->∃b off,A=some ⟨b,off,none⟩/\∀j u,ys[j]? = some u->w.cell? ⟨b,off+j,none⟩=some u)
theorem yb {x:Operand} {m:List α} (hx:s.ev x = .c (.sl E m)):N5 s E x m []:=fun c st ρ a w hr he _=>by
 have hv:=hr.ev x;rw [he,hx] at hv;obtain ⟨A,cap,hv,_,ys,h1,h2⟩:=hv;exact ⟨A,cap,ys,hv,h1,fun h=>by obtain ⟨b,off,e,_,h3⟩:=h2 h;exact ⟨b,off,e,h3⟩⟩
theorem yc {x:Operand} {m:List α} (hx:s.ev x = .c (.full E m)):N5 s E x m []:=fun c st ρ a w hr he _=>by
 have hv:=hr.ev x;rw [he,hx] at hv;obtain ⟨A,hv,_,ys,h1,h2⟩:=hv;exact ⟨A,_,ys,hv,h1,fun h=>by obtain ⟨b,off,e,_,h3⟩:=h2 h;exact ⟨b,off,e,h3⟩⟩
theorem B5 {x:Operand} {k:Nat} {e:TypeId} {m:List α} (hx:s.ev x = .c (.own k)) (hk:s.h k=some (.arr e E m)):N5 s E x m [k]:=fun c st ρ a w hr he h2=>by
 have hv:=hr.ev x;rw [he,hx] at hv;obtain ⟨A,cap,hA,_,hp⟩:=fA (hr.hp k _ ((h2 k (by simp [aX])).trans hk));rcases Nat.eq_zero_or_pos m.length with h0|h0
 ·obtain rfl:m=[]:=List.eq_nil_of_length_eq_zero h0;exact ⟨A,cap,[],Eq.trans hv hA,rfl,fun h=>absurd h (by simp)⟩
 ·obtain ⟨g,xs,rfl,_,h3,h4,_⟩:=hp h0;exact ⟨_,cap,xs,Eq.trans hv hA,h3,fun _=>⟨g,0,rfl,fun j u hu=>by rw [Nat.zero_add];exact h4 j u hu⟩⟩
theorem ga [J:Dp E] {w:World} {F:Nat->Prop} {ρ:Nat->Value}:∀{m:List α} {vs:List Value},All2 (D.rep w F ρ) (m.flatMap J.deep) vs->Reps E w F m vs
 | [],vs,h=>by
  cases vs with
  | nil=>rfl
  | cons=>exact h.elim
 | x :: m,vs,h=>by
  rw [List.flatMap_cons] at h;refine ⟨vs.take (J.deep x).length,vs.drop (J.deep x).length,(List.take_append_drop _ _).symm,?_,?_⟩
  ·have:=h.take (J.deep x).length;rw [List.take_left] at this;exact J.put this
  ·have:=h.drop (J.deep x).length;rw [List.drop_left] at this;exact ga this
theorem aN [J:Dp E] {x:Operand} {k n:Nat} {e:TypeId} {cs:List D} (m:List α) (hx:s.ev x = .c (.slb k n)) (hk:s.h k=some (.box e cs)) (hm:m.flatMap J.deep=cs) (hn:m.length=n):N5 s E x m [k]:=fun c st ρ a w hr he h2=>by
 have hv:=hr.ev x;rw [he,hx] at hv;obtain ⟨g,hg,hv⟩:=hv;subst hm;subst hn;obtain ⟨vs,hB,hA,_⟩:=hr.box ((h2 k (by simp [aX])).trans hk) hg;exact ⟨_,_,vs,hv,ga hA,fun _=>⟨g,0,rfl,fun j u hu=>by rw [Nat.zero_add];exact hB.cellx j (by simpa using hu)⟩⟩
def N6 (s:Mst) (E:El α) (e:TypeId) (x:Operand) (l:List α) (kr:Option Nat):Prop :=
 (∀k,kr=some k->∃b,s.h k=some b)/\
 ∀(c:Ctx) (st:Mst) (ρ:Nat->Value) (a:Act) (w:World),Rp c st ρ a w->st.ev x=s.ev x->(∀k,kr=some k->st.h k=s.h k)->
  ∃v xs,a.eval x=v/\w.ownsRow 0 e E.n v l.length xs/\Reps E w (Fz c st.h ρ w) l xs/\(∀g,kb v=some g->∃k,kr=some k/\kb (ρ k)=some g)
theorem aH {x:Operand} {k:Nat} {e:TypeId} {l:List α} (hx:s.ev x = .c (.own k)) (hk:s.h k=some (.arr e E l)):N6 s E e x l (some k) :=
 ⟨fun k' h=>by injection h with h;subst h;exact ⟨_,hk⟩,fun c st ρ a w hr he h2=>by
  have hv:=hr.ev x;rw [he,hx] at hv;obtain ⟨xs,h3,h4⟩:=hr.hp k _ ((h2 k rfl).trans hk);exact ⟨_,xs,hv,h3,h4,fun g hg=>⟨k,rfl,hg⟩⟩⟩
theorem xm {x:Operand} {e:TypeId} (hx:s.ev x = .c (.sc (.slice none 0 0))):N6 s E e x [] none :=
 ⟨(fun k h=>by cases h),fun c st ρ a w hr he h2=>by
  have hv:=hr.ev x;rw [he,hx] at hv;exact ⟨_,[],hv,World.ownsRow_nil _ _ _ _,rfl,fun g hg=>by cases hg⟩⟩
theorem B6 {x:Operand} {k:Nat} {e:TypeId} (hx:s.ev x = .c (.slb k 0)) (hk:s.h k=some (.box e [])):N6 s E e x [] (some k) :=
 ⟨fun k' h=>by injection h with h;subst h;exact ⟨_,hk⟩,fun c st ρ a w hr he h2=>by
  have hv:=hr.ev x;rw [he,hx] at hv;obtain ⟨g,hg,hv⟩:=hv;obtain ⟨vs,hB,hA,_⟩:=hr.box ((h2 k rfl).trans hk) hg;cases vs with
  | cons=>exact hA.elim
  | nil=>exact ⟨_,[],hv,⟨by simp,.inr ⟨g,0,#[],rfl,Nat.zero_le _,hB,Nat.le_refl _,by simp [maxLen],by simp,by simp⟩⟩,rfl,fun g' hg'=>⟨k,rfl,by rw [hg];exact hg'⟩⟩⟩
def Jy (kr:Option Nat):List (Nat×Option Box):=match kr with|some k=>[(k,none)]|none=>[]
def Ua (kr:Option Nat):List Nat:=match kr with|some k=>[k]|none=>[]
theorem ae {t e:TypeId} {by_ k:Nat} {x y:Operand} {l m l':List α} {kr:Option Nat} {R:List Nat} [T:ST P E t e by_] (ho:o.op = .call { callee:=.builtin .append,args:=#[x,y],argTypes:=#[t,t] }) (hdk:o.dst=some k) (hx:N6 s E e x l kr) (hy:N5 s E y m R) (hl':l++m=l')
  (hlen:l.length+m.length<=maxLen) (hby:(l.length+m.length)*by_<=140737488355328):LOp P o s (Ua kr++R) ⟨.c (.own k),(k,some (.arr e E l')) :: Jy kr,[k]⟩:=by
 intro c st ρ a w hr h1 h2 h3 h4;subst hl';have hfk:st.f k=true:=h3 k (by simp [aX]);have hkrs:∀j,kr=some j->st.h j=s.h j:=fun j hj=>h2 j (by subst hj;simp [Ua,aX]);have hkx:∀j,kr=some j->∃b,st.h j=some b:=fun j hj=>by obtain ⟨b,hb⟩:=hx.1 j hj;exact ⟨b,(hkrs j hj).trans hb⟩
 have hne:∀j,kr=some j->k.beq j=false:=fun j hj=>by
  cases h9:k.beq j with
  | false=>rfl
  | true =>
   obtain ⟨b,hb⟩:=hkx j hj;rw [<-qNb h9,hr.wf.h k hfk] at hb;cases hb
 obtain ⟨v,xs,hv,hown,hreps,hvk⟩:=hx.2 c st ρ a w hr (h1 x (by simp [ho,Op.operands,Call.operands])) hkrs;obtain ⟨A,cap,ys,hyv,hyr,hyc⟩:=hy c st ρ a w hr (h1 y (by simp [ho,Op.operands,Call.operands])) fun j hj=>h2 j (by rw [nV,hj,Bool.or_true]);have hblk:∀g,v.ownBlock=some g->kb v=some g:=fun g h=>by
  cases v with
  | slice A n c=>cases A <;> exact h
  | _=>simp [Value.ownBlock] at h
 have hblk':∀(u:Value) g,kb u=some g->∀{nn xx},(∃w:World,w.ownsRow 0 e E.n u nn xx)->u.ownBlock=some g:=fun u g h nn xx ⟨w,hw⟩=>by
  rcases hw.2 with ⟨rfl,_⟩|⟨g',cap',cur,rfl,_⟩
  ·cases h
  ·exact h
 have hFv:∀b,Fz c st.h ρ w b->v.ownBlock≠some b:=fun b hb e=>by
  obtain ⟨j,hj,hjb⟩:=hvk b (hblk b e);obtain ⟨bx,hbx⟩:=hkx j hj;exact hb.2.2 j bx hbx hjb
 have hOwn:OwnRows (E.inn (Fz c st.h ρ w)) e w 0 v l:=⟨Nat.zero_le _,xs,hown,Reps.toInn (hreps.same (fun _ _=>rfl) fun b hb=>⟨⟨hb.2.1,hFv b hb⟩,hb⟩)⟩;obtain ⟨v',w',hrun,⟨_,zs,ho1,ho2⟩,hB,hS⟩:=Ap (T.T.inn (Fz c st.h ρ w)) w o.type 0 v l m A cap hOwn ys (Reps.toInn (hyr.same (fun _ _=>rfl) fun b hb=>⟨⟨hb.2.1,hFv b hb⟩,hb⟩)) hyc hlen hby;have ho3:=Reps.inn ho2;have hg':∀g,kb v'=some g->g<w'.heap.size/\(w.heap.size<=g\/kb v=some g):=fun g hg=>by
  have hgo:=hblk' v' g hg ⟨w',ho1⟩;refine ⟨ho1.lt g hgo |>.2,?_⟩;by_cases hlt:w.heap.size<=g
  ·exact .inl hlt
  ·refine .inr ?_;by_cases hvg:v.ownBlock=some g
   ·exact hblk g hvg
   ·exact absurd hgo (hS g ⟨by omega,hvg⟩).2
 have hexec:(execOp a.eval o).run P w = .ok (.value v') w':=by
  unfold execOp;simp only [ho,resolve,invoke,builtin,Sem.run_bind,Sem.run_pure,Result.andThen_ok,List.map_toArray,List.map_cons,List.map_nil,hv,hyv,hrun]
 have hky:∀n,aL ((k,some (Box.arr e E (l++m))) :: Jy kr) n=true↔n=k\/kr=some n:=fun n=>by
  simp only [aL,Bool.or_eq_true];constructor
  ·rintro (h|h)
   ·exact .inl (qNb h).symm
   ·cases kr with
    | none=>simp [Jy,aL] at h
    | some j=>simp [Jy,aL] at h;exact .inr (by rw [h])
  ·rintro (rfl|h)
   ·exact .inl (Nat.beq_refl _)
   ·subst h;exact .inr (by simp [Jy,aL])
 have hputk:hput ((k,some (Box.arr e E (l++m))) :: Jy kr) st.h k=some (.arr e E (l++m)):=by simp [hput]
 have hputr:∀j,kr=some j->hput ((k,some (Box.arr e E (l++m))) :: Jy kr) st.h j=none:=fun j hj=>by
  simp only [hput,hne j hj,qCf];subst hj;simp [Jy,hput]
 have hsm:∀n bx,aL ((k,some (Box.arr e E (l++m))) :: Jy kr) n=true->hput ((k,some (Box.arr e E (l++m))) :: Jy kr) st.h n=some bx->n=k/\bx = .arr e E (l++m):=fun n bx hn hb=>by
  rcases (hky n).1 hn with rfl|h
  ·exact VO
  ·rw [hputr n h] at hb;cases hb
 have hFz:∀b,Fz c st.h ρ w b->Fz c (hput ((k,some (Box.arr e E (l++m))) :: Jy kr) st.h) (upd ρ k v') w' b/\w'.heap[b]? = w.heap[b]?:=fun b hb=>by
  refine ⟨⟨hb.1,Nat.lt_of_lt_of_le hb.2.1 hB.size,fun n bx hn he=>?_⟩,(hS b ⟨hb.2.1,hFv b hb⟩).1⟩;cases h9:aL ((k,some (Box.arr e E (l++m))) :: Jy kr) n with
  | true =>
   obtain ⟨rfl,_⟩:=hsm n bx h9 hn;rw [aW] at he;rcases (hg' b he).2 with h|h
   ·have:=hb.2.1;omega
   ·exact hFv b hb (hblk' v b h ⟨w,hown⟩)
  | false =>
   rw [cz h9] at hn;have hkn:k.beq n=false:=by
    cases h8:k.beq n with
    | false=>rfl
    | true=>rw [<-qNb h8,hr.wf.h k hfk] at hn;cases hn
   rw [dW hkn] at he;exact hb.2.2 n bx hn he
 refine Oper.wp_value hexec ⟨upd ρ k v',hr.app (e:=⟨.c (.own k),(k,some (.arr e E (l++m))) :: Jy kr,[k]⟩) h4 (fun n hn=>?_) (fun n hn=>dW (by simpa [aX] using hn)) (fun n hn=>?_) ⟨hB.os,hB.tape,hB.output,hB.size,fun b hlt hn=>(hS b ⟨hlt,fun e=>hn ?_⟩).1⟩ (fun n bx g hn hb hg=>?_) (fun n n' b b' g hn hn' hb hb' _ _=>?_) (fun n hn=>.inl ?_) (fun n n' bx hn hb hx2=>?_) (fun n bx hn hb=>?_) ?_⟩
 ·have:n=k:=by simp [aX] at hn;exact hn.symm
  subst this;exact ⟨hfk,(hky n).2 (.inl rfl)⟩
 ·rcases (hky n).1 hn with rfl|h
  ·exact .inl (by simp [aX])
  ·obtain ⟨b,hb⟩:=hkx n h;exact .inr (hr.nfh hb)
 ·obtain ⟨j,hj,hjb⟩:=hvk b (hblk b e);obtain ⟨bx,hbx⟩:=hkx j hj;exact ⟨j,bx,(hky j).2 (.inr hj),hbx,hjb⟩
 ·obtain ⟨rfl,_⟩:=hsm n bx hn hb;rw [aW] at hg;refine ⟨(hg' g hg).1,(hg' g hg).2.imp id fun h=>?_⟩;obtain ⟨j,hj,hjb⟩:=hvk g h;obtain ⟨b0,hb0⟩:=hkx j hj;exact ⟨j,b0,(hky j).2 (.inr hj),hb0,hjb⟩
 ·rw [(hsm n b hn hb).1,(hsm n' b' hn' hb').1]
 ·have:n=k:=by simp [TV.has,V0.has,D.has] at hn;exact hn.symm
  subst this;simp [aX]
 ·exact VZ
 ·obtain ⟨rfl,rfl⟩:=hsm n bx hn hb;rw [aW];refine ⟨zs,ho1,ho3.same (fun _ _=>rfl) fun b hb=>?_⟩;exact (hFz b hb.2).1
 ·exact (aW ρ k v').symm
end
section
variable {P:Program} {nt:Nat} {Ks:List Nat} {Q:Exit->Mst->Prop} {s:Mst} {K:Mst->Prop} {ops:Array Oper}
def DA (P:Program) (ops:Array Oper) (draw:Bool) (l:List Oper) (acc:List (List Nat×List Nat)) (s:Mst) (K:Mst->Prop):Prop :=
 ∃fps,DW P ops l fps s K/\(draw=true->pD ops (acc.reverse++fps) ops.size 0 (Array.replicate ops.size false)=true)
theorem Lr {acc:List (List Nat×List Nat)} (h:K s):DA P ops false [] acc s K:=⟨[],h,fun h=>by cases h⟩
theorem N7 {acc:List (List Nat×List Nat)} (hB:pD ops acc.reverse ops.size 0 (Array.replicate ops.size false)=true) (h:K s):DA P ops true [] acc s K:=⟨[],h,fun _=>by simpa using hB⟩
theorem Ls {draw:Bool} {o:Oper} {l:List Oper} {acc:List (List Nat×List Nat)} {R:List Nat} {e:Mef} (he:LOp P o s R e) (hg:s.gd ops o=some true) (hf:e.us.all s.f=true) (h:DA P ops draw l ((R,ax e.hs) :: acc) (s.app o.dst e) K):DA P ops draw (o :: l) acc s K:=by
 obtain ⟨fps,h1,h2⟩:=h;refine ⟨(R,ax e.hs) :: fps,⟨R,ax e.hs,fps,rfl,true,hg,fun _=>⟨e,⟨he,fun k hk=>by rw [<-kx];exact hk,fun k hk=>lK hf k hk⟩,h1⟩,fun h=>by cases h⟩,fun hd=>by simpa using h2 hd⟩
theorem aQ {P:Prop} (h:P:=by (try simp only [List.length_cons,List.length_nil,List.length_append,List.length_take,List.length_drop,List.length_map,maxLen]);omega):P:=h
theorem be {draw:Bool} {o:Oper} {l:List Oper} {acc:List (List Nat×List Nat)} {R us:List Nat} {t:Nat} {d:TV} {hs:List (Nat×Option Box)} (he:LOp P o s R ⟨d,hs,us⟩) (hd:o.dst=some t) (hg:s.gd ops o=some true) (hf:us.all s.f=true) (h:DA P ops draw l ((R,ax hs) :: acc) (s.app (some t) ⟨d,hs,us⟩) K):DA P ops draw (o :: l) acc s K :=
 Ls he hg hf (by rw [hd];exact h)
theorem a8 {draw:Bool} {o:Oper} {l:List Oper} {acc:List (List Nat×List Nat)} {R us:List Nat} {d:TV} {hs:List (Nat×Option Box)} (he:LOp P o s R ⟨d,hs,us⟩) (hd:o.dst=none) (hg:s.gd ops o=some true) (hf:us.all s.f=true) (h:DA P ops draw l ((R,ax hs) :: acc) (s.app none ⟨d,hs,us⟩) K):DA P ops draw (o :: l) acc s K :=
 Ls he hg hf (by rw [hd];exact h)
theorem Hu {draw:Bool} {o:Oper} {l:List Oper} {acc:List (List Nat×List Nat)} {t:Nat} (hd:o.dst=some t) (hg:s.gd ops o=some false) (h:DA P ops draw l (([],[]) :: acc) (s.app (some t) ⟨.c (.sc undef),[],[]⟩) K):DA P ops draw (o :: l) acc s K:=by
 obtain ⟨fps,h3,h4⟩:=h;exact ⟨([],[]) :: fps,⟨[],[],fps,rfl,false,hg,fun h=>(by cases h),fun _=>by rw [hd];exact h3⟩,fun hd=>by simpa using h4 hd⟩
theorem RX {id:Nat} {l:List Oper} (hnt:jv nt l=true) (h:DA P l.toArray false l [] s fun s'=>Q .normal s'):AW P nt Ks (.region id l.toArray false) Q s:=by
 obtain ⟨fps,h1,_⟩:=h;exact Jp hnt h1
theorem PB {id:Nat} {l:List Oper} (hm:P.follows .mixedOrders=true) (hnt:jv nt l=true) (h:DA P l.toArray true l [] s fun s'=>Q .normal s'):AW P nt Ks (.region id l.toArray true) Q s:=by
 obtain ⟨fps,h1,h2⟩:=h;exact xZ hm hnt h1 (by simpa using h2 rfl)
theorem RY {id:Nat} {l:List Oper} {y:Code} (hnt:jv nt l=true) (h:DA P l.toArray false l [] s fun s'=>AW P nt Ks y Q s'):AW P nt Ks (.seq (.region id l.toArray false) y) Q s:=sj (RX hnt h)
theorem Qs {id:Nat} {l:List Oper} {y:Code} (hm:P.follows .mixedOrders=true) (hnt:jv nt l=true) (h:DA P l.toArray true l [] s fun s'=>AW P nt Ks y Q s'):AW P nt Ks (.seq (.region id l.toArray true) y) Q s:=sj (PB hm hnt h)
theorem Tw {i:Nat} (h:Q .normal s):gP i Q (.exit i) s:=by simpa [gP] using h
theorem Tx {i j:Nat} (hj:j.beq i=false) (h:Q (.exit j) s):gP i Q (.exit j) s:=by simpa [gP,hj] using h
theorem Ty {fn:Func} {t:Nat} {x:V0} {res:TV} {e:Exit} (he:e = .normal\/e = .ret) (hr:fn.results.toList=[.tmp t]) (hx:s.t t = .v x) (h:TVLe s (qf []) (fun j=>∀k:Nat,hput [] (fun _=>none) k≠none->qf [] k≠j) (.v x) res):Da P fn [] res [] e s :=
 ya he [x] (qf []) (by rw [hr];exact ⟨.tmp hx,trivial⟩) rfl rfl trivial h
theorem Qt {fn:Func} {hin:List (Nat×Box)} {r1:ResultVar} {x1:V0} {res:TV} {hout:List (Nat×Option Box)} {e:Exit} (q:Nat->Nat) (he:e = .normal\/e = .ret) (hr:fn.results.toList=[r1]) (h1:RV P s r1 x1) (hq:(ax hin).all (fun k=>(q k).beq k)=true) (hn:fB ((ax (hout.filter fun x=>x.2.isSome)).map q)=true) (hh:vD s q (fun j=>∀k,hput hout (fun _=>none) k≠none->q k≠j) hout)
  (h:TVLe s q (fun j=>∀k,hput hout (fun _=>none) k≠none->q k≠j) (.v x1) res):Da P fn hin res hout e s:=ya he [x1] q (by rw [hr];exact ⟨h1,trivial⟩) hq hn hh h
theorem Qv {fn:Func} {hin:List (Nat×Box)} {r1 r2:ResultVar} {x1 x2:V0} {res:TV} {hout:List (Nat×Option Box)} {e:Exit} (q:Nat->Nat) (he:e = .normal\/e = .ret) (hr:fn.results.toList=[r1,r2]) (h1:RV P s r1 x1) (h2:RV P s r2 x2) (hq:(ax hin).all (fun k=>(q k).beq k)=true) (hn:fB ((ax (hout.filter fun x=>x.2.isSome)).map q)=true) (hh:vD s q (fun j=>∀k,hput hout (fun _=>none) k≠none->q k≠j) hout)
  (h:TVLe s q (fun j=>∀k,hput hout (fun _=>none) k≠none->q k≠j) (.tup [x1,x2]) res):Da P fn hin res hout e s:=ya he [x1,x2] q (by rw [hr];exact ⟨h1,h2,trivial⟩) hq hn hh h
theorem Qw {fn:Func} {hin:List (Nat×Box)} {r1 r2 r3:ResultVar} {x1 x2 x3:V0} {res:TV} {hout:List (Nat×Option Box)} {e:Exit} (q:Nat->Nat) (he:e = .normal\/e = .ret) (hr:fn.results.toList=[r1,r2,r3]) (h1:RV P s r1 x1) (h2:RV P s r2 x2) (h3:RV P s r3 x3) (hq:(ax hin).all (fun k=>(q k).beq k)=true) (hn:fB ((ax (hout.filter fun x=>x.2.isSome)).map q)=true) (hh:vD s q (fun j=>∀k,hput hout (fun _=>none) k≠none->q k≠j) hout)
  (h:TVLe s q (fun j=>∀k,hput hout (fun _=>none) k≠none->q k≠j) (.tup [x1,x2,x3]) res):Da P fn hin res hout e s:=ya he [x1,x2,x3] q (by rw [hr];exact ⟨h1,h2,h3,trivial⟩) hq hn hh h
theorem Qx {fn:Func} {hin:List (Nat×Box)} {hout:List (Nat×Option Box)} {e:Exit} (q:Nat->Nat) (he:e = .normal\/e = .ret) (hr:fn.results.toList=[]) (hq:(ax hin).all (fun k=>(q k).beq k)=true) (hn:fB ((ax (hout.filter fun x=>x.2.isSome)).map q)=true) (hh:vD s q (fun j=>∀k,hput hout (fun _=>none) k≠none->q k≠j) hout):Da P fn hin (.tup []) hout e s:=ya he [] q (by rw [hr];trivial) hq hn hh (.tup trivial)
theorem F8 {fn:Func} {t:Nat} {v v':Value} {e:Exit} (he:e = .normal\/e = .ret) (hr:fn.results.toList=[.tmp t]) (hx:s.t t = .c (.sc v)) (h:v=v'):Da P fn [] (.c (.sc v')) [] e s :=
 Ty he hr hx (by subst h;exact .v (.one (.ren (.sc v))))
theorem Qy {q:Nat->Nat} {g:Nat->Prop}:∀(l:List D),All2 (DLe s q g) (l.map (D.ren q)) l
 | []=>trivial
 | d :: l=>⟨.ren d,Qy l⟩
theorem PC {q:Nat->Nat} {g:Nat->Prop} (d:V0):V0Le s q g (d.ren q) d:=by
 cases d with
 | one d=>exact .one (.ren d)
 | ag l=>exact .ag (Qy l)
theorem RZ {q:Nat->Nat} {g:Nat->Prop} (d:TV):TVLe s q g (d.ren q) d:=by
 cases d with
 | v d=>exact .v (PC d)
 | tup l =>
  refine .tup ?_;induction l with
  | nil=>trivial
  | cons d l ih=>exact ⟨PC d,ih⟩
theorem Qz {q:Nat->Nat} {g:Nat->Prop} (b:Box):BoxLe s q g (b.ren q) b:=by
 cases b with
 | box t l=>exact .box t (Qy l)
 | arr e E l=>exact .arr e E l
 | mp l=>exact .mp l
 | it k n l=>exact .it k n l
theorem gc {q:Nat->Nat} {g:Nat->Prop} {d0 d:D} (h:d0=d.ren q):DLe s q g d0 d:=h▸.ren d
theorem ge {hout:List (Nat×Option Box)} {q:Nat->Nat} {j:Nat} (h:aX ((ax (hout.filter fun x=>x.2.isSome)).map q) j=false):∀k,hput hout (fun _=>none) k≠none->q k≠j:=fun k hk e=>by
 cases h9:hput hout (fun _=>none) k with
 | none=>exact hk h9
 | some b =>
  have:aX ((ax (hout.filter fun x=>x.2.isSome)).map q) j=true:=by rw [ck,<-e];exact List.mem_map.2 ⟨k,ck.1 (by rw [ck];exact List.mem_map.2 ⟨(k,some b),List.mem_filter.2 ⟨pH h9,rfl⟩,rfl⟩),rfl⟩
  rw [this] at h;cases h
theorem iG {q:Nat->Nat} {g:Nat->Prop} {b0 b:Box} (h:b0=b.ren q):BoxLe s q g b0 b:=h▸Qz b
theorem lM {q:Nat->Nat} {g:Nat->Prop} {d0 d:TV} (h:d0=d.ren q):TVLe s q g d0 d:=h▸RZ d
theorem Lt {w:World} {F:Nat->Prop} {ρ:Nat->Value} {d:D} {v:Value} (h:d.rep w F ρ v) {α:Type} {E:El α} {l:List α} (hd:d = .sl E l):l.length<=9223372036854775807:=by
 subst hd;obtain ⟨A,cap,_,h1,_⟩:=h;have:=h1.2;simp only [maxLen] at this;omega
theorem bV {c:Ctx} {ρ:Nat->Value} {a:Act} {w:World} (hr:Rp c s ρ a w) {t:Nat} {α:Type} {E:El α} {l:List α} (h:s.t t = .c (.sl E l)):l.length<=9223372036854775807:=by
 have h1:=hr.tmp t;rw [h] at h1;have h1:(D.sl E l).rep w (Fz c s.h ρ w) ρ (a.tmps.getD t undef):=h1;exact Lt h1 rfl
theorem d7 {c:Ctx} {ρ:Nat->Value} {a:Act} {w:World} (hr:Rp c s ρ a w) {t i:Nat} {cs:List D} {α:Type} {E:El α} {l:List α} (h:s.t t = .v (.ag cs)) (hi:cs[i]? = some (.sl E l)):l.length<=9223372036854775807:=by
 have:=hr.tmp t;rw [h] at this;obtain ⟨vs,_,h2⟩:=this;obtain ⟨v,_,h3⟩:=h2.get hi;exact Lt h3 rfl
end
section
variable {P:Program}
def Ub (P:Program) (t:TypeId):Option (Bool×Nat) :=
 match P.underlying t,P.info? t with
 | some d,some i=>some ((match d with | .struct _ | .array _ _=>true|_=>false),i.size)
 | _,_=>none
theorem TI.of {t n:Nat} {row:Bool} (h:Ub P t=some (row,n)):TI P t row n:=by
 unfold Ub at h;split at h
 ·rename_i d i h1 h2
  injection h with h;injection h with e1 e2;exact ⟨⟨d,h1,e1⟩,by rw [h2];simp [e2]⟩
 ·cases h
def Uc (P:Program) (t:TypeId) (f:Nat):Option (Nat×Nat×Bool) :=
 match P.underlying t with
 | some (.struct fs)=>match fs[f]? with
  | some x=>match P.info? x.type with
   | some i=>some (x.offset,x.type,Nat.beq i.size 0)
   | none=>none
  | none=>none
 | _=>none
theorem FO.of {t f off ft:Nat} (h:Uc P t f=some (off,ft,false)):FO P t f off ft:=by
 unfold Uc at h;split at h
 ·rename_i fs h1
  split at h
  ·rename_i x h2
   split at h
   ·rename_i i h3
    injection h with h;injection h with e1 h;injection h with e2 e3;subst e1;subst e2;refine ⟨⟨fs,x,i,h1,h2,rfl,rfl,h3,fun e=>?_⟩⟩;rw [e] at e3;cases e3
   ·cases h
  ·cases h
 ·cases h
def Ti (P:Program) (t:TypeId):Option (List Value×Nat) :=
 match P.info? t with
 | some i=>match i.zero with
  | some v=>some (v.cells.toList,i.size)
  | none=>none
 | none=>none
theorem TZ.of {t:Nat} {zs:List Value} (h:Ti P t=some (zs,zs.length)) (ho:zs.all (·.oneCell')=true):TZ P t zs:=by
 unfold Ti at h;split at h
 ·rename_i i h1
  split at h
  ·rename_i v h2
   injection h with h;injection h with e1 e2;exact ⟨⟨i,v,h1,h2,by rw [<-e1]⟩,fun u hu=>List.all_eq_true.1 ho u hu,by rw [h1];simp [e2]⟩
  ·cases h
 ·cases h
def Ud (P:Program) (t:TypeId):Option (List (Nat×Option Nat)) :=
 match P.underlying t with
 | some (.struct fs)=>some (fs.toList.map fun f=>(f.offset,(P.info? f.type).map (·.size)))
 | _=>none
theorem SP.of {t:Nat} {zs:List Value} {pl:List (Nat×Nat)} (hz:Ti P t=some (zs,zs.length)) (h:Ud P t=some (pl.map fun x=>(x.1,some x.2))):SP P t zs pl:=by
 unfold Ti at hz;split at hz
 ·rename_i i h1
  split at hz
  ·rename_i v h2
   injection hz with hz;injection hz with e1 e2;refine ⟨⟨i,v,h1,h2,by rw [<-e1]⟩,?_⟩;unfold Ud at h;split at h
   ·rename_i fs h3
    have h:=Option.some.inj h;refine ⟨fs,h3,fun w=>?_⟩;rw [Array.mapM_eq_mapM_toList,map_eq_pure_bind];have key:∀(l:List Field) (pl:List (Nat×Nat)),l.map (fun f=>(f.offset,(P.info? f.type).map (·.size)))=pl.map (fun x=>(x.1,some x.2))->((l.mapM fun f=>do pure (f.offset,<-sizeOf f.type)):Sem (List (Nat×Nat))).run P w = .ok pl w:=by
     intro l;induction l with
     | nil=>intro pl h;cases pl with
      | nil=>rfl
      | cons=>simp at h
     | cons f l ih =>
      intro pl h;cases pl with
      | nil=>simp at h
      | cons x pl =>
       simp only [List.map_cons,List.cons.injEq,Prod.mk.injEq] at h;obtain ⟨⟨e3,e4⟩,e5⟩:=h;cases hq:P.info? f.type with
       | none=>rw [hq] at e4;cases e4
       | some j =>
        rw [hq] at e4;simp only [Option.map_some,Option.some.injEq] at e4;have:=ih pl e5;simp [List.mapM_cons,sizeOf,typeInfo,hq,e4,e3] at this ⊢;simp [this]
    simp only [Sem.run_bind,key _ _ h,Result.andThen_ok,Sem.run_pure]
   ·cases h
  ·cases hz
 ·cases hz
theorem N8 {o:Oper} {s:Mst} {t:TypeId} {k:Nat} {x:Operand} {ds:List D} (ho:o.op = .box t x) (hdk:o.dst=some k) (hd:(s.ev x).cells=some ds) (hok:ds.all (okD s.h)=true):LOp P o s (iW ds) ⟨.c (.ptr k 0),[(k,some (.box t ds))],[k]⟩:=by
 intro c st ρ a w hr h1 h2 h3 h4;have he:=h1 x (by simp [ho,Op.operands]);rw [<-he] at hd;obtain ⟨hc1,hc2⟩:=TV.cells_rep (hr.ev x) hd fun z hz u hu=>hr.okD (ji (List.all_eq_true.1 hok z hz) fun j hj=>h2 j (by subst hj;exact gv hz)) hu;obtain ⟨ρ',h⟩:=hr.newBox (k:=k) (t:=t) (cs:=ds) (vs:=(a.eval x).cells.toList) (d:=.c (.ptr k 0)) (v:=.pointer (some ⟨w.heap.size,0,none⟩)) h4 (h3 k (by simp [aX])) hc1 hc2
  (fun k' hh=>by
   obtain ⟨z,hz,hk⟩:=List.any_eq_true.1 hh;refine hr.nf (x:=x) rfl ?_;generalize st.ev x=q at *
   unfold TV.cells at hd;split at hd
   ·injection hd with hd;subst hd;simp at hz;subst hz;exact hk
   ·injection hd with hd;subst hd;simp only [TV.has,V0.has];exact List.any_eq_true.2 ⟨z,hz,hk⟩
   ·cases hd) (fun k' hh=>by simp [TV.has,V0.has,D.has] at hh;exact hh.symm) (fun F ρ' hρ=>⟨_,hρ,rfl⟩)
 exact Oper.wp_value (by unfold execOp;rw [ho];simp [Instr.box,newVar,newRow,run_newObj_alloc]) ⟨ρ',h⟩
end
section
variable {P:Program} {s:Mst} {o:Oper}
theorem V0.ren_id_rep {w:World} {F:Nat->Prop} {ρ:Nat->Value} {d:V0} {v:Value}:(V0.ren (fun k=>k) d).rep w F ρ v↔d.rep w F ρ v:=V0.rep_ren fun _ _=>rfl
theorem FSpec.calls {f:FuncId} {args:List V0} {res:TV} (hs:FSpec P f args [] [] res []) (hok:Hq args [] [] res []=true) {w:World} {S:Nat->Prop} {ρ:Nat->Value} {vs:List Value} (hS:∀b,S b->b<w.heap.size) (hp:PinW w fun _=>False) (ha:All2 (V0.rep w S ρ) args vs) :
  Calls P f vs.toArray w fun e w'=>∃v,e = .returned v/\Below w.heap.size w w'/\res.rep w' (Gr S w.heap.size w') ρ v:=by
 simp only [Hq,qBa] at hok;obtain ⟨⟨⟨⟨⟨⟨o1,_⟩,_⟩,_⟩,_⟩,o6⟩,_⟩:=hok;have hnor:∀k,res.has k=true->False:=fun k hk=>by have:=TV.in_has o6 hk;simp [ax,aX] at this
 let c:Ctx:={ w0:=w,S:=S,X:=fun _=>False,nt:=1,K:=[],ρ0:=ρ,hS:=hS,hX:=fun _ h=>h.elim,hpin:=hp }
 let st:Mst:={ t:=fun _=>.c .any,h:=fun _=>none,f:=fun _=>false }
 have hF:∀b,S b↔Fz c st.h ρ w b:=fun b=>⟨fun h=>⟨.inl h,hS b h,fun k bx hk=>by cases hk⟩,fun ⟨h,h2,_⟩=>h.elim id fun h3=>absurd h2 (Nat.not_lt.2 h3)⟩;have hr:Rp c st ρ { tmps:=#[undef],defers:=[] } w :=
  ⟨rfl,rfl,Frx.refl _ _,fun _=>trivial,fun k b hk=>(by cases hk),fun k b g hk=>(by cases hk),fun k k' b b' g hk=>(by cases hk),fun k hk=>(by cases hk),⟨fun k hk=>(by cases hk),fun k t hk=>(by cases hk),fun k k' b hk=>(by cases hk)⟩⟩
 refine (hs.ca (fun k=>k) c st ρ { tmps:=#[undef],defers:=[] } w vs hr (fun k k' hk=>by simp [ax,aX] at hk) (ha.imp fun d v _ h=>V0.ren_id_rep.2 (h.mono (fun b hb=>⟨(hF b).1 hb,rfl⟩) fun _ _=>rfl)) (fun k b hk=>by cases hk) fun k hk=>by simp [aX] at hk).mono ?_;rintro e w' ⟨v,rfl,h⟩;obtain ⟨ρ',h2⟩:=h (some 0) fun d hd=>by injection hd with hd;subst hd;exact Nat.one_pos
 have h3:=h2.frm;refine ⟨v,rfl,⟨h3.os,h3.tape,h3.output,h3.size,fun b hb=>h3.keep b hb fun h=>h⟩,?_⟩;have h4:=h2.tmp 0;have h5:((st.app (some 0) ⟨res.ren fun k=>k,fo (fun k=>k) [],[].map fun k=>k⟩).t 0)=res.ren fun k=>k:=rfl;rw [h5] at h4;have h6:(({ tmps:=#[undef],defers:=[] }:Act).put (some 0) v).tmps.getD 0 undef=v:=rfl;rw [h6] at h4;refine ((TV.rep_ren (ρ':=ρ) fun k hk=>(hnor k hk).elim).1 h4).mono (fun b hb=>⟨⟨hb.2.1,hb.1.imp (fun h=>h) fun h=>h⟩,rfl⟩) fun k hk=>(hnor k hk).elim
inductive DR (h:Nat->Option Box) (R:List Nat):D->D->Prop
 | same (d:D):DR h R d d
 | own {k:Nat} {α:Type} {e:TypeId} {E:El α} {l:List α} (hR:aX R k=true) (hk:h k=some (.arr e E l)):DR h R (.own k) (.sl E l)
 | ocut {k:Nat} {α:Type} {e:TypeId} {E:El α} {l:List α} (hR:aX R k=true) (hk:h k=some (.arr e E l)):DR h R (.ocut k) (.sl E l)
 | full {α:Type} {E:El α} {l:List α}:DR h R (.full E l) (.sl E l)
 | nil {α:Type} {E:El α}:DR h R (.sc (.slice none 0 0)) (.sl E [])
inductive VR (h:Nat->Option Box) (R:List Nat):V0->V0->Prop
 | same (d:V0):VR h R d d
 | one {d0 d:D} (x:DR h R d0 d):VR h R (.one d0) (.one d)
 | ag {l0 l:List D} (x:All2 (DR h R) l0 l):VR h R (.ag l0) (.ag l)
def AR (s:Mst) (R:List Nat) (x:TV) (d:V0):Prop:=∃y,x = .v y/\VR s.h R y d
theorem DR.rep {h:Nat->Option Box} {R:List Nat} {d0 d:D} (hd:DR h R d0 d) {c:Ctx} {st:Mst} {ρ:Nat->Value} {a:Act} {w:World} {F:Nat->Prop} {v:Value} (hr:Rp c st ρ a w) (hh:∀k,aX R k=true->st.h k=h k) (hF:∀b,Fz c st.h ρ w b->F b)
  (hO:∀k bx g,aX R k=true->st.h k=some bx->kb (ρ k)=some g->F g) (hv:d0.rep w (Fz c st.h ρ w) ρ v):d.rep w F ρ v:=by
 cases hd with
 | same=>exact hv.mono (fun b hb=>⟨hF b hb,rfl⟩) fun _ _=>rfl
 | @own k α e E l hR hk =>
  have hv:v=ρ k:=hv;subst hv;have hk':=(hh k hR).trans hk;obtain ⟨A,cap,hA,hc,hp⟩:=fA (hr.hp k _ hk');refine ⟨A,cap,hA,hc,?_⟩;rcases Nat.eq_zero_or_pos l.length with h0|h0
  ·obtain rfl:l=[]:=List.eq_nil_of_length_eq_zero h0;exact RowsAt.nil _ _ _ _
  ·obtain ⟨g,xs,rfl,_,h3,h4,_⟩:=hp h0;exact VY
 | @ocut k α e E l hR hk =>
  obtain ⟨A0,n0,cap0,c0,hρ0,hc0,rfl⟩:=hv;have hk':=(hh k hR).trans hk;obtain ⟨A,cap,hA,hc,hp⟩:=fA (hr.hp k _ hk');have hA':=hA;rw [hρ0] at hA';injection hA' with e1 e2 e3;subst e1;subst e2;subst e3;refine ⟨A0,c0,rfl,⟨hc0.1,Nat.le_trans hc0.2 hc.2⟩,?_⟩;rcases Nat.eq_zero_or_pos l.length with h0|h0
  ·obtain rfl:l=[]:=List.eq_nil_of_length_eq_zero h0;exact RowsAt.nil _ _ _ _
  ·obtain ⟨g,xs,rfl,_,h3,h4,_⟩:=hp h0;exact VY
 | full=>obtain ⟨A,h1,h2,h3⟩:=hv;exact ⟨A,_,h1,⟨Nat.le_refl _,h2⟩,h3.mono hF⟩
 | nil=>exact ⟨none,0,hv,by simp [maxLen],RowsAt.nil _ _ _ _⟩
theorem DR.reps {h:Nat->Option Box} {R:List Nat} {c:Ctx} {st:Mst} {ρ:Nat->Value} {a:Act} {w:World} {F:Nat->Prop} (hr:Rp c st ρ a w) (hh:∀k,aX R k=true->st.h k=h k) (hF:∀b,Fz c st.h ρ w b->F b)
  (hO:∀k bx g,aX R k=true->st.h k=some bx->kb (ρ k)=some g->F g):∀{l0 l:List D} {cs:List Value},All2 (DR h R) l0 l->All2 (D.rep w (Fz c st.h ρ w) ρ) l0 cs->All2 (D.rep w F ρ) l cs
 | [],[],[],_,_=>trivial
 | _ :: _,_ :: _,_ :: _,x,k=>⟨x.1.rep hr hh hF hO k.1,DR.reps hr hh hF hO x.2 k.2⟩
 | [],_ :: _,_,x,_=>x.elim
 | _ :: _,[],_,x,_=>x.elim
 | [],[],_ :: _,_,k=>k.elim
 | _ :: _,_ :: _,[],_,k=>k.elim
theorem VR.rep {h:Nat->Option Box} {R:List Nat} {d0 d:V0} (hd:VR h R d0 d) {c:Ctx} {st:Mst} {ρ:Nat->Value} {a:Act} {w:World} {F:Nat->Prop} {v:Value} (hr:Rp c st ρ a w) (hh:∀k,aX R k=true->st.h k=h k) (hF:∀b,Fz c st.h ρ w b->F b)
  (hO:∀k bx g,aX R k=true->st.h k=some bx->kb (ρ k)=some g->F g) (hv:d0.rep w (Fz c st.h ρ w) ρ v):d.rep w F ρ v:=by
 cases hd with
 | same=>exact hv.mono (fun b hb=>⟨hF b hb,rfl⟩) fun _ _=>rfl
 | one x=>exact x.rep hr hh hF hO hv
 | ag x=>obtain ⟨cs,e,h1⟩:=hv;exact ⟨cs,e,DR.reps hr hh hF hO x h1⟩
theorem yx {R:List Nat} {c:Ctx} {st:Mst} {ρ:Nat->Value} {a:Act} {w:World} {F:Nat->Prop} (hr:Rp c st ρ a w) (hh:∀k,aX R k=true->st.h k=s.h k) (hF:∀b,Fz c st.h ρ w b->F b)
  (hO:∀k bx g,aX R k=true->st.h k=some bx->kb (ρ k)=some g->F g):∀{l:List Operand} {m:List V0},(∀x∈l,st.ev x=s.ev x)->All2 (fun x d=>AR s R (s.ev x) d) l m->All2 (V0.rep w F ρ) m (l.map a.eval)
 | [],[],_,_=>trivial
 | x :: l,d :: m,he,h=>by
  refine ⟨?_,yx hr hh hF hO (fun y hy=>he y (by simp [hy])) h.2⟩;obtain ⟨y,h1,h2⟩:=h.1;have h3:=hr.ev x;rw [he x (by simp),h1] at h3;exact h2.rep hr hh hF hO h3
 | [],_ :: _,_,h=>h.elim
 | _ :: _,[],_,h=>h.elim
def D.isSc:D->Bool
 | .sc _=>true
 | _=>false
def V0.isSc:V0->Bool
 | .one d=>d.isSc
 | .ag l=>l.all D.isSc
def TV.isSc:TV->Bool
 | .v x=>x.isSc
 | .tup l=>l.all V0.isSc
theorem D.sc_any {w w':World} {F F':Nat->Prop} {ρ ρ':Nat->Value} {d:D} (h:d.isSc=true) {v:Value} (hv:d.rep w F ρ v):d.rep w' F' ρ' v:=by
 cases d <;> first|exact hv|cases h
theorem D.scs_any {w w':World} {F F':Nat->Prop} {ρ ρ':Nat->Value}:∀{l:List D} {vs:List Value},l.all D.isSc=true->All2 (D.rep w F ρ) l vs->All2 (D.rep w' F' ρ') l vs
 | [],[],_,_=>trivial
 | d :: l,v :: vs,h,k=>by
  simp only [List.all_cons,qBa] at h;exact ⟨D.sc_any h.1 k.1,D.scs_any h.2 k.2⟩
 | [],_ :: _,_,k=>k.elim
 | _ :: _,[],_,k=>k.elim
theorem V0.sc_any {w w':World} {F F':Nat->Prop} {ρ ρ':Nat->Value} {d:V0} (h:d.isSc=true) {v:Value} (hv:d.rep w F ρ v):d.rep w' F' ρ' v:=by
 cases d with
 | one d=>exact D.sc_any (d:=d) h hv
 | ag l=>obtain ⟨cs,e,h1⟩:=hv;exact ⟨cs,e,D.scs_any h h1⟩
theorem TV.sc_any {w w':World} {F F':Nat->Prop} {ρ ρ':Nat->Value} {d:TV} (h:d.isSc=true) {v:Value} (hv:d.rep w F ρ v):d.rep w' F' ρ' v:=by
 cases d with
 | v d=>exact V0.sc_any (d:=d) h hv
 | tup l =>
  obtain ⟨vs,e,h1⟩:=hv;refine ⟨vs,e,?_⟩;clear e;induction l generalizing vs with
  | nil=>cases vs with
   | nil=>trivial
   | cons=>exact h1.elim
  | cons x l ih=>cases vs with
   | nil=>exact h1.elim
   | cons v vs =>
    simp only [TV.isSc,List.all_cons,qBa] at h;exact ⟨V0.sc_any h.1 h1.1,ih h.2 vs h1.2⟩
theorem TV.sc_has {d:TV} (h:d.isSc=true) (k:Nat):d.has k=false:=by
 have h1:∀d:D,d.isSc=true->d.has k=false:=fun d h=>by cases d <;> first|rfl|cases h
 have h2:∀x:V0,x.isSc=true->x.has k=false:=fun x h=>by
  cases x with
  | one d=>exact h1 d h
  | ag l=>simp only [V0.has,List.any_eq_false];intro d hd;simp [h1 d (List.all_eq_true.1 h d hd)]
 cases d with
 | v x=>exact h2 x h
 | tup l=>simp only [TV.has,List.any_eq_false];intro d hd;simp [h2 d (List.all_eq_true.1 h d hd)]
theorem Ea {f:FuncId} {xs:Array Operand} {ts:Array TypeId} {a:Act} {w:World} {K:Act->World->Prop} {Q:Ending->World->Prop} (hen:∀(vs:Array Value) (w:World),(callFunc f vs).run P w = .ok (.enter f vs) w) (ho:o.op = .call { callee:=.value (.func f),args:=xs,argTypes:=ts })
  (hc:Calls P f (xs.toList.map a.eval).toArray w Q) (hK:∀e w',Q e w'->∃v,e = .returned v/\K (a.put o.dst v) w'):o.wp P a w K fun _ _ _=>False:=by
 have he:(xs.toList.map a.eval).toArray=xs.map a.eval:=by apply Array.toList_inj.1;simp
 rw [he] at hc;unfold Oper.wp execOp;simp only [ho,resolve,Act.eval,Deferred.ofValue,invoke,Sem.run_bind,Sem.run_pure,Result.andThen_ok,Array.append_empty,Array.empty_append];rw [hen];refine hc.mono fun e w' h=>?_;obtain ⟨v,rfl,h2⟩:=hK e w' h;exact h2
theorem JK {f:FuncId} {xs:Array Operand} {ts:Array TypeId} {args:List V0} {res:TV} (R:List Nat) (hs:FSpec P f args [] [] res []) (ho:o.op = .call { callee:=.value (.func f),args:=xs,argTypes:=ts }) (hok:Hq args [] [] res []=true) (hb:res.isSc=true)
  (ha:All2 (fun x d=>AR s R (s.ev x) d) xs.toList args):LOp P o s R ⟨res,[],[]⟩:=by
 intro c st ρ a w hr h1 h2 h3 h4;have hargs:=yx (F:=fun b=>b<w.heap.size) hr (fun k hk=>h2 k hk) (fun b hb=>hb.2.1) (fun k bx g _ hk hg=>hr.ltb hk hg) (fun x hx=>h1 x (by simp [ho,Op.operands,Call.operands];exact .inr (by simpa using hx))) ha;refine Ea hs.en ho (hs.calls hok (fun b hb=>hb) hr.pin hargs) ?_;rintro e w' ⟨v,rfl,hB,hv⟩;exact ⟨v,rfl,ρ,hr.app (e:=⟨res,[],[]⟩) h4 (fun k hk=>by simp [aX] at hk) (fun _ _=>rfl) (fun k hk=>by simp [aL] at hk) (Frx.below hB) (fun k bx g hk=>by simp [aL] at hk) (fun k k' b b' g hk=>by simp [aL] at hk) (fun k hk=>by rw [TV.sc_has hb k] at hk;cases hk) (fun k k' bx hk=>by simp [aL] at hk) (fun k bx hk=>by simp [aL] at hk) (TV.sc_any hb hv)⟩
def kK (ks:List Nat):List (Nat×Option Box):=ks.map fun k=>(k,none)
theorem el {ks:List Nat} {k:Nat}:aL (kK ks) k=aX ks k:=by
 induction ks with
 | nil=>rfl
 | cons x l ih=>simp only [kK,List.map_cons,aL,aX];rw [<-ih];rfl
theorem gC {ks:List Nat} {h:Nat->Option Box} {k:Nat} (hk:aX ks k=true):hput (kK ks) h k=none:=by
 induction ks with
 | nil=>simp [aX] at hk
 | cons x l ih =>
  simp only [kK,List.map_cons,hput];cases hx:x.beq k with
  | true=>rfl
  | false =>
   simp only [aX,hx,Bool.false_or] at hk;exact ih hk
theorem JL {f:FuncId} {xs:Array Operand} {ts:Array TypeId} {args:List V0} {res:TV} (ks:List Nat) (hs:FSpec P f args [] [] res []) (ho:o.op = .call { callee:=.value (.func f),args:=xs,argTypes:=ts }) (hok:Hq args [] [] res []=true)
  (hks:ks.all (fun k=>(s.h k).isSome)=true) (ha:All2 (fun x d=>AR s ks (s.ev x) d) xs.toList args):LOp P o s ks ⟨res,kK ks,[]⟩:=by
 intro c st ρ a w hr h1 h2 h3 h4;have hsome:∀k,aX ks k=true->∃b,st.h k=some b:=fun k hk=>by
  have:=lK hks k hk;rw [<-h2 k hk] at this;exact Option.isSome_iff_exists.1 this
 have hF:∀b,Fz c st.h ρ w b->Fz c (hput (kK ks) st.h) ρ w b:=fun b ⟨f1,f2,f3⟩=>⟨f1,f2,fun k bx hk=>by
  cases hh:aL (kK ks) k with
  | true=>rw [gC (by rw [<-el];exact hh)] at hk;cases hk
  | false=>rw [cz hh] at hk;exact f3 k bx hk⟩
 have hO:∀k bx g,aX ks k=true->st.h k=some bx->kb (ρ k)=some g->Fz c (hput (kK ks) st.h) ρ w g:=fun k bx g hk hb hg=>by
  refine ⟨(hr.inb k bx g hb hg).imp (c.hX g) id,hr.ltb hb hg,fun k' bx' hk' he=>?_⟩;cases hh:aL (kK ks) k' with
  | true=>rw [gC (by rw [<-el];exact hh)] at hk';cases hk'
  | false =>
   rw [cz hh] at hk';have:=hr.dis k k' bx bx' g hb hk' hg he;subst this;rw [el,hk] at hh;cases hh
 have hargs:=yx hr (fun k hk=>h2 k hk) hF hO (fun x hx=>h1 x (by simp [ho,Op.operands,Call.operands];exact .inr (by simpa using hx))) ha;have hok':=hok;simp only [Hq,qBa] at hok;obtain ⟨⟨⟨⟨⟨⟨_,_⟩,_⟩,_⟩,_⟩,o6⟩,_⟩:=hok;have hnor:∀k,res.has k=true->False:=fun k hk=>by have:=TV.in_has o6 hk;simp [ax,aX] at this
 refine Ea hs.en ho (hs.calls hok' (fun b hb=>hb.2.1) hr.pin hargs) ?_;rintro e w' ⟨v,rfl,hB,hv⟩;refine ⟨v,rfl,ρ,hr.app (e:=⟨res,kK ks,[]⟩) h4 (fun k hk=>by simp [aX] at hk) (fun _ _=>rfl) (fun k hk=>.inr ?_) (Frx.below hB) (fun k bx g hk hb=>?_) (fun k k' b b' g hk _ hb=>?_) (fun k hk=>(hnor k hk).elim) (fun k k' bx hk hb=>?_) (fun k bx hk hb=>?_) ?_⟩
 ·obtain ⟨b,hb⟩:=hsome k (by rw [<-el];exact hk);exact hr.nfh hb
 ·exact Wi
 ·exact Wi
 ·exact Wi
 ·exact Wi
 ·refine hv.mono (fun b hb=>⟨⟨?_,hb.1,fun k bx hk he=>?_⟩,rfl⟩) fun _ _=>rfl
  ·rcases hb.2 with h|h
   ·exact h.1
   ·exact .inr (Nat.le_trans hr.frm.size h)
  ·rcases hb.2 with h|h
   ·exact h.2.2 k bx hk he
   ·cases hh:aL (kK ks) k with
    | true=>rw [gC (by rw [<-el];exact hh)] at hk;cases hk
    | false =>
     rw [cz hh] at hk;have:=hr.ltb hk he;omega
end
section
variable {P:Program} {nt:Nat} {Ks:List Nat} {Q:Exit->Mst->Prop} {s:Mst}
theorem cj {x:Code} {α:Type} (t k:Nat) (e:TypeId) (E:El α) (ht:s.t t = .c (.sc (.slice none 0 0))) (hf:s.f k=true) (hnt:Nat.blt t nt=true) (h:AW P nt Ks x Q (s.app (some t) ⟨.c (.own k),[(k,some (.arr e E []))],[k]⟩)):AW P nt Ks x Q s:=by
 intro c ρ a w hc hK hr;have hkk:∀k':Nat,aL [(k,some (Box.arr e E ([]:List α)))] k'=true->k'=k:=fun k' h=>by
  exact UM
 have hv:a.tmps.getD t undef = .slice none 0 0:=by have:=hr.tmp t;rw [ht] at this;exact this
 have hput:a.put (some t) (.slice none 0 0)=a:=by
  cases a with
  | mk tmps defers =>
   simp only [Act.put];congr 1
   apply Array.ext
   ·simp
   ·intro i h1 h2;rw [Array.getElem_setIfInBounds];split
    ·rename_i h3
     subst h3;rw [<-hv];simp [Array.getD_eq_getD_getElem?,h2]
    ·rfl
 have h2:=hr.app (ρ':=upd ρ k (.slice none 0 0)) (w':=w) (dst:=some t) (v:=.slice none 0 0) (e:=⟨.c (.own k),[(k,some (.arr e E []))],[k]⟩) (fun d hd=>by injection hd with hd;subst hd;rw [hc];simpa using hnt)
  (fun k' hk=>by have h9:k'=k:=(by simp [aX] at hk;exact hk.symm);subst h9;exact ⟨hf,by simp [aL]⟩)
  (fun k' hk=>dW (by simpa [aX] using hk)) (fun k' hk=>.inl (by rw [hkk k' hk];simp [aX])) (Frx.refl _ _)
  (fun k' bx g hk _ hg=>by rw [hkk k' hk,aW] at hg;cases hg) (fun k1 k2 b b' g h1 h2 _ _ _ _=>by rw [hkk k1 h1,hkk k2 h2]) (fun k' hk=>.inl (by simp [TV.has,V0.has,D.has] at hk;simp [aX,hk])) (fun k1 k2 bx hk hb hx=>by
   rw [hkk k2 hk] at hb;simp only [Go.Proofs.YthpgjkjgkhjjlaaGreatDoor.hput,Nat.beq_refl,qCt,Option.some.injEq] at hb;subst hb;simp [Box.has] at hx)
  (fun k' bx hk hb=>by
   rw [hkk k' hk] at hb ⊢;simp only [Go.Proofs.YthpgjkjgkhjjlaaGreatDoor.hput,Nat.beq_refl,qCt,Option.some.injEq] at hb;subst hb;rw [aW];exact ⟨[],World.ownsRow_nil _ _ _ _,rfl⟩)
  (aW _ _ _).symm
 rw [hput] at h2;exact h c _ a w hc hK h2
def D.frz (d:D) (k:Nat) (r:D):D:=match d with
 | .own j=>bif j.beq k then r else .own j
 | .slb j n=>bif j.beq k then .any else .slb j n
 | .ptr j n=>bif j.beq k then .any else .ptr j n
 | .optr j m i n=>bif j.beq k then .any else .optr j m i n
 | .ocut j=>bif j.beq k then r else .ocut j
 | .osl j m a b f=>bif j.beq k then .any else .osl j m a b f
 | .clo f ks=>bif ks.any (fun j=>j.beq k) then .any else .clo f ks
 | d=>d
def V0.frz (x:V0) (k:Nat) (r:D):V0:=match x with
 | .one d=>.one (d.frz k r)
 | .ag l=>.ag (l.map (fun d=>D.frz d k r))
def TV.frz (x:TV) (k:Nat) (r:D):TV:=match x with
 | .v x=>.v (x.frz k r)
 | .tup l=>.tup (l.map (fun d=>V0.frz d k r))
def Box.frz (x:Box) (k:Nat) (r:D):Box:=match x with
 | .box t cs=>.box t (cs.map (fun d=>D.frz d k r))
 | b=>b
def Mst.frz (s:Mst) (k:Nat) (r:D):Mst:={ t:=fun t=>(s.t t).frz k r,h:=fun j=>bif j.beq k then none else (s.h j).map (fun d=>Box.frz d k r),f:=s.f }
theorem D.frz_has {k j:Nat} {α:Type} {E:El α} {l:List α} {d:D} (h:(d.frz k (.sl E l)).has j=true):d.has j=true:=by
 cases d with
 | own i=>have h0:=h;simp only [D.frz] at h0;clear h;revert h0;cases hb:i.beq k <;> intro h0 <;> first|exact h0|cases h0
 | slb i n=>have h0:=h;simp only [D.frz] at h0;clear h;revert h0;cases hb:i.beq k <;> intro h0 <;> first|exact h0|cases h0
 | ptr i n=>have h0:=h;simp only [D.frz] at h0;clear h;revert h0;cases hb:i.beq k <;> intro h0 <;> first|exact h0|cases h0
 | optr i m p n=>have h0:=h;simp only [D.frz] at h0;clear h;revert h0;cases hb:i.beq k <;> intro h0 <;> first|exact h0|cases h0
 | ocut i=>have h0:=h;simp only [D.frz] at h0;clear h;revert h0;cases hb:i.beq k <;> intro h0 <;> first|exact h0|cases h0
 | osl i m a b f=>have h0:=h;simp only [D.frz] at h0;clear h;revert h0;cases hb:i.beq k <;> intro h0 <;> first|exact h0|cases h0
 | clo f ks=>have h0:=h;simp only [D.frz] at h0;clear h;revert h0;cases hb:ks.any (fun j=>j.beq k) <;> intro h0 <;> first|exact h0|cases h0
 | _=>exact h
theorem D.frzL_has {k j:Nat} {α:Type} {E:El α} {l:List α} {ds:List D} (h:(ds.map (fun d=>D.frz d k (.sl E l))).any (D.has j)=true):ds.any (D.has j)=true:=by
 obtain ⟨d,h1,h2⟩:=List.any_eq_true.1 h;obtain ⟨d0,h3,rfl⟩:=List.mem_map.1 h1;exact List.any_eq_true.2 ⟨d0,h3,D.frz_has h2⟩
theorem V0.frz_has {k j:Nat} {α:Type} {E:El α} {l:List α} {d:V0} (h:(d.frz k (.sl E l)).has j=true):d.has j=true:=by
 cases d with
 | one d=>exact D.frz_has (d:=d) h
 | ag ds=>exact D.frzL_has (ds:=ds) h
theorem TV.frz_has {k j:Nat} {α:Type} {E:El α} {l:List α} {d:TV} (h:(d.frz k (.sl E l)).has j=true):d.has j=true:=by
 cases d with
 | v d=>exact V0.frz_has (d:=d) h
 | tup ds =>
  obtain ⟨d,h1,h2⟩:=List.any_eq_true.1 h;obtain ⟨d0,h3,rfl⟩:=List.mem_map.1 h1;exact List.any_eq_true.2 ⟨d0,h3,V0.frz_has h2⟩
theorem Box.frz_has {k j:Nat} {α:Type} {E:El α} {l:List α} {d:Box} (h:(d.frz k (.sl E l)).has j=true):d.has j=true:=by
 cases d with
 | box t ds=>exact D.frzL_has (ds:=ds) h
 | _=>exact h
theorem gU {x:Code} {α:Type} {e:TypeId} {E:El α} {l:List α} (k:Nat) (hk:s.h k=some (.arr e E l)) (h:AW P nt Ks x Q (s.frz k (.sl E l))):AW P nt Ks x Q s:=by
 intro c ρ a w hc hK hr;refine h c ρ a w hc hK ?_;have hh:∀j b,(s.frz k (.sl E l)).h j=some b->j.beq k=false/\∃b0,s.h j=some b0/\b=b0.frz k (.sl E l):=fun j b hb=>by
  simp only [Mst.frz] at hb;cases hj:j.beq k with
  | true=>rw [hj] at hb;cases hb
  | false =>
   rw [hj] at hb;cases hs:s.h j with
   | none=>simp only [qCf,hs,Option.map_none] at hb;cases hb
   | some b0=>simp only [qCf,hs,Option.map_some,Option.some.injEq] at hb;exact ⟨rfl,b0,rfl,hb.symm⟩
 have hF:∀b,Fz c s.h ρ w b->Fz c (s.frz k (.sl E l)).h ρ w b:=fun b ⟨f1,f2,f3⟩=>⟨f1,f2,fun j bx hj=>by obtain ⟨_,b0,h1,_⟩:=hh j bx hj;exact f3 j b0 h1⟩;have hsl:∀{v:Value},(D.ocut k).rep w (Fz c s.h ρ w) ρ v->(D.sl E l).rep w (Fz c (s.frz k (.sl E l)).h ρ w) ρ v:=fun hv=>F5 (h:=s.h) hr hk hv hF fun g hg=>⟨(hr.inb k _ g hk hg).imp (c.hX g) id,hr.ltb hk hg,fun j bx hj he=>by
  obtain ⟨h0,b0,h1,_⟩:=hh j bx hj;have:=hr.dis k j _ b0 g hk h1 hg he;subst this;rw [Nat.beq_refl] at h0;cases h0⟩
 have hD:∀{d:D} {v:Value},d.rep w (Fz c s.h ρ w) ρ v->(d.frz k (.sl E l)).rep w (Fz c (s.frz k (.sl E l)).h ρ w) ρ v:=fun {d v} hd=>by
  have hm:d.rep w (Fz c (s.frz k (.sl E l)).h ρ w) ρ v:=hd.mono (fun b hb=>⟨hF b hb,rfl⟩) fun _ _=>rfl;cases d with
  | own j =>
   simp only [D.frz];cases hj:j.beq k with
   | false=>exact hm
   | true =>
    have hm:v=ρ j:=hm;rw [hm,qNb hj];exact hsl (pG hr hk rfl)
  | slb j n=>simp only [D.frz];cases hj:j.beq k with
   | false=>exact hm
   | true=>trivial
  | ptr j n=>simp only [D.frz];cases hj:j.beq k with
   | false=>exact hm
   | true=>trivial
  | optr j m i n=>simp only [D.frz];cases hj:j.beq k with
   | false=>exact hm
   | true=>trivial
  | osl j m i n f=>simp only [D.frz];cases hj:j.beq k with
   | false=>exact hm
   | true=>trivial
  | clo f ks=>simp only [D.frz];cases hj:ks.any (fun j=>j.beq k) with
   | false=>exact hm
   | true=>trivial
  | ocut j =>
   simp only [D.frz];cases hj:j.beq k with
   | false=>exact hm
   | true =>
    rw [qNb hj] at hd;exact hsl hd
  | _=>exact hm
 have hL:∀{ds:List D} {vs:List Value},All2 (D.rep w (Fz c s.h ρ w) ρ) ds vs->All2 (D.rep w (Fz c (s.frz k (.sl E l)).h ρ w) ρ) (ds.map (fun d=>D.frz d k (.sl E l))) vs:=fun {ds vs} h=>All2.mapL.2 (h.imp fun d v _ hd=>hD hd);have hV:∀{d:V0} {v:Value},d.rep w (Fz c s.h ρ w) ρ v->(d.frz k (.sl E l)).rep w (Fz c (s.frz k (.sl E l)).h ρ w) ρ v:=fun {d v} hd=>by
  cases d with
  | one d=>exact hD (d:=d) hd
  | ag ds=>obtain ⟨cs,e,h1⟩:=hd;exact ⟨cs,e,hL h1⟩
 refine ⟨hr.dfr,hr.siz,hr.frm,fun t=>?_,fun j b hj=>?_,fun j b g hj hg=>?_,fun j j' b b' g hj hj' hg hg'=>?_,hr.ent,⟨fun j hj=>?_,fun j t hj=>?_,fun j j' b hj hb=>?_⟩⟩
 ·have h1:=hr.tmp t;show TV.rep _ _ _ ((s.t t).frz k (.sl E l)) _;generalize s.t t=d at *
  cases d with
  | v d=>exact hV (d:=d) h1
  | tup ds=>obtain ⟨vs,e,h2⟩:=h1;exact ⟨vs,e,All2.mapL.2 (h2.imp fun d v _ hd=>hV hd)⟩
 ·obtain ⟨_,b0,h1,rfl⟩:=hh j b hj;have h2:=hr.hp j b0 h1;cases b0 with
  | box t cs=>obtain ⟨g,vs,e,hB,hA,h5⟩:=h2;exact ⟨g,vs,e,hB,hL hA,h5⟩
  | arr e' E' l'=>obtain ⟨xs,h3,h4⟩:=h2;exact ⟨xs,h3,h4.same (fun _ _=>rfl) hF⟩
  | mp l'=>exact h2
  | it k' n' l'=>exact h2
 ·obtain ⟨_,b0,h1,_⟩:=hh j b hj;exact hr.inb j b0 g h1 hg
 ·obtain ⟨_,b0,h1,_⟩:=hh j b hj;obtain ⟨_,b0',h1',_⟩:=hh j' b' hj';exact hr.dis j j' b0 b0' g h1 h1' hg hg'
 ·have hj:s.f j=true:=hj;simp only [Mst.frz,hr.wf.h j hj,Option.map_none,Bool.cond_self]
 ·have hj:s.f j=true:=hj;cases h9:((s.frz k (.sl E l)).t t).has j with
  | false=>rfl
  | true=>have:=TV.frz_has (d:=s.t t) h9;rw [hr.wf.t j t hj] at this;cases this
 ·have hj:s.f j=true:=hj;obtain ⟨_,b0,h1,rfl⟩:=hh j' b hb;cases h9:(b0.frz k (.sl E l)).has j with
  | false=>rfl
  | true=>have:=Box.frz_has h9;rw [hr.wf.b j j' b0 hj h1] at this;cases this
end
section
variable {P:Program} {f:FuncId} {e:TypeId} {α:Type} {E:El α} {l l':List α}
theorem AU {ars:List V0} {hb:List (Nat×Box)} (hen:∀(vs:Array Value) (w:World),(callFunc f vs).run P w = .ok (.enter f vs) w) (hk1:aX (ax hb) 1=false)
  (h:∀(w:World) (F:Nat->Prop) (ρ:Nat->Value) (vs xs:List Value),w.ownsRow 0 e E.n (ρ 1) l.length xs->Reps E w F l xs->(∀b,F b->b<w.heap.size/\kb (ρ 1)≠some b)->
   All2 (fun d v=>V0.rep w F ρ d v) ars vs->(∀k b,eS hb k=some b->b.rep w F ρ (ρ k)/\∀g,kb (ρ k)=some g->kb (ρ 1)≠some g)->
   Calls P f (ρ 1 :: vs).toArray w fun e' w'=>∃v' ys,e' = .returned v'/\Frx w w' (fun b=>kb (ρ 1)=some b)/\(∀g,kb v'=some g->g<w'.heap.size/\(w.heap.size<=g\/kb (ρ 1)=some g))/\w'.ownsRow 0 e E.n v' l'.length ys/\
    ∀F':Nat->Prop,(∀b,F b->F' b/\w'.heap[b]? = w.heap[b]?)->Reps E w' F' l' ys) :
  FSpec P f (.one (.own 1) :: ars) ((1,.arr e E l) :: hb) [2] (.c (.own 2)) ((2,some (.arr e E l')) :: (1,none) :: kK (ax hb)):=by
 refine ⟨hen,fun q c st ρ a w vs hr hinj hargs hhin hus=>?_⟩
 match vs,hargs with
 | v :: vs,⟨h0,hargs⟩ =>
  obtain rfl:v=ρ (q 1):=h0;have hk:=hhin 1 _ rfl;obtain ⟨xs,hx1,hx2⟩:=hr.hp (q 1) _ hk;have hf2:st.f (q 2)=true:=hus 2 rfl;have hq12:(q 2).beq (q 1)=false:=by
   cases h9:(q 2).beq (q 1) with
   | false=>rfl
   | true=>rw [qNb h9,hr.nfh hk] at hf2;cases hf2
  refine (h w (Fz c st.h ρ w) (fun k=>ρ (q k)) vs xs hx1 hx2 (fun b hb=>⟨hb.2.1,hb.2.2 _ _ hk⟩) (All2.imp hargs fun d v _ hd=>(V0.rep_ren (q:=q) (ρ':=fun k=>ρ (q k)) fun _ _=>rfl).1 hd) (fun k b hg=>?_)).mono ?_
  ·have hne:(1:Nat).beq k=false:=by
    cases h9:(1:Nat).beq k with
    | false=>rfl
    | true =>
     exfalso;rw [<-qNb h9] at hg;have:∀(m:List (Nat×Box)),aX (ax m) 1=false->eS m 1=none:=by
      intro m;induction m with
      | nil=>intro _;rfl
      | cons y m ih =>
       intro hm;simp only [ax,List.map_cons,aX,Bool.or_eq_false_iff] at hm;simp only [eS,hm.1,qCf];exact ih hm.2
     rw [this hb hk1] at hg;cases hg
   have hin:aX (ax hb) k=true:=by
    have:∀(m:List (Nat×Box)),eS m k=some b->aX (ax m) k=true:=by
     intro m;induction m with
     | nil=>intro h;cases h
     | cons y m ih =>
      intro hm;simp only [ax,List.map_cons,aX,Bool.or_eq_true];cases h9:y.1.beq k with
      | true=>exact .inl rfl
      | false =>
       simp only [eS,h9,qCf] at hm;exact .inr (ih hm)
    exact this hb hg
   have hk':=hhin k b (by simp only [eS,hne,qCf];exact hg);refine ⟨(Box.rep_ren (q:=q) (ρ':=fun k=>ρ (q k)) fun _ _=>rfl).1 (hr.hp _ _ hk'),fun g h1 h2=>?_⟩;have e1:=hinj k 1 (by rw [ck] at hin ⊢;exact List.mem_append_left _ (List.mem_cons_of_mem _ hin)) rfl (hr.dis _ _ _ _ g hk' hk h1 h2);subst e1;cases hne
  ·rintro e' w' ⟨v',ys,rfl,hf,hkb,hy1,hy2⟩;have hou:fo q ((2,some (.arr e E l')) :: (1,none) :: kK (ax hb))=(q 2,some (.arr e E l')) :: kK ((1 :: ax hb).map q):=by
    simp [fo,kK,Box.ren,ax,Function.comp_def]
   refine ⟨v',rfl,fun dst hdst=>⟨upd ρ (q 2) v',?_⟩⟩;rw [hou];obtain ⟨hs,hhs⟩:=qGe ((q 2,some (Box.arr e E l')) :: kK ((1 :: ax hb).map q));rw [hhs];have hsm:∀n bx,aL hs n=true->hput hs st.h n=some bx->n=q 2/\bx = .arr e E l':=fun n bx hn hp=>by
    subst hhs;cases h9:(q 2).beq n with
    | true =>
     simp only [hput,h9,qCt,Option.some.injEq] at hp;exact ⟨(qNb h9).symm,hp.symm⟩
    | false =>
     simp only [aL,h9,Bool.false_or] at hn;simp only [hput,h9,qCf] at hp;rw [gC (by rw [<-el];exact hn)] at hp;cases hp
   have hke:∀n,aL hs n=true->n=q 2\/∃bx,st.h n=some bx:=fun n hn=>by
    subst hhs;cases h9:(q 2).beq n with
    | true=>exact .inl (qNb h9).symm
    | false =>
     right
     simp only [aL,h9,Bool.false_or,el] at hn;have:∃k,k∈(1 :: ax hb)/\q k=n:=by
      have h8:∀(m:List Nat),aX (m.map q) n=true->∃k,k∈m/\q k=n:=by
       intro m;induction m with
       | nil=>intro h;cases h
       | cons y m ih =>
        intro hm;simp only [List.map_cons,aX,Bool.or_eq_true] at hm;rcases hm with hm|hm
        ·exact ⟨y,by simp,qNb hm⟩
        ·obtain ⟨k,k1,k2⟩:=ih hm;exact ⟨k,by simp [k1],k2⟩
      exact h8 _ hn
     obtain ⟨k,hkm,rfl⟩:=this;rcases List.mem_cons.1 hkm with rfl|hkm
     ·exact ⟨_,hk⟩
     ·obtain ⟨b,hb⟩:∃b,eS ((1,.arr e E l) :: hb) k=some b:=by
       have:∀(m:List (Nat×Box)),k∈ax m->∃b,eS m k=some b:=by
        intro m;induction m with
        | nil=>intro h;cases h
        | cons y m ih =>
         intro hm;cases h7:y.1.beq k with
         | true=>exact ⟨y.2,by simp only [eS,h7,qCt]⟩
         | false =>
          rcases List.mem_cons.1 hm with h6|h6
          ·rw [h6,Nat.beq_refl] at h7;cases h7
          ·obtain ⟨b,hb⟩:=ih h6;exact ⟨b,by simp only [eS,h7,qCf];exact hb⟩
       exact this _ (List.mem_cons_of_mem _ hkm)
      exact ⟨_,hhin k b hb⟩
   have hkq1:aL hs (q 1)=true:=by
    subst hhs;simp [aL,el,aX]
   have hFz:∀b,Fz c st.h ρ w b->Fz c (hput hs st.h) (upd ρ (q 2) v') w' b/\w'.heap[b]? = w.heap[b]?:=fun b hb=>by
    refine ⟨⟨hb.1,Nat.lt_of_lt_of_le hb.2.1 hf.size,fun n bx hn he=>?_⟩,hf.keep b hb.2.1 fun he=>hb.2.2 _ _ hk he⟩;cases h9:aL hs n with
    | true =>
     obtain ⟨rfl,_⟩:=hsm n bx h9 hn;rw [aW] at he;rcases (hkb b he).2 with h|h
     ·have:=hb.2.1;omega
     ·exact hb.2.2 _ _ hk h
    | false =>
     rw [cz h9] at hn;have hkn:(q 2).beq n=false:=by
      cases h8:(q 2).beq n with
      | false=>rfl
      | true=>rw [<-qNb h8,hr.wf.h _ hf2] at hn;cases hn
     rw [dW hkn] at he;exact hb.2.2 n bx hn he
   refine hr.app (ρ':=upd ρ (q 2) v') (e:=⟨(TV.c (.own 2)).ren q,hs,[2].map q⟩) hdst (fun n hn=>?_) (fun n hn=>dW (by simpa [aX] using hn)) (fun n hn=>?_) ⟨hf.os,hf.tape,hf.output,hf.size,fun b hlt hn=>hf.keep b hlt fun e=>hn ⟨q 1,_,hkq1,hk,e⟩⟩ (fun n bx g' hn hb hg=>?_) (fun n n' b b' g hn hn' hb hb' _ _=>?_) (fun n hn=>.inl ?_) (fun n n' bx hn hb hx2=>?_) (fun n bx hn hb=>?_) ?_
   ·obtain rfl:q 2=n:=by simp [aX] at hn;exact hn
    exact ⟨hf2,by subst hhs;simp [aL]⟩
   ·rcases hke n hn with rfl|⟨bx,hbx⟩
    ·exact .inl (by simp [aX])
    ·exact .inr (hr.nfh hbx)
   ·obtain ⟨rfl,_⟩:=hsm n bx hn hb;rw [aW] at hg;exact ⟨(hkb g' hg).1,(hkb g' hg).2.imp id fun h=>⟨q 1,_,hkq1,hk,h⟩⟩
   ·rw [(hsm n b hn hb).1,(hsm n' b' hn' hb').1]
   ·obtain rfl:q 2=n:=by simpa [TV.ren,V0.ren,D.ren,TV.has,V0.has,D.has] using hn
    simp [aX]
   ·exact VZ
   ·obtain ⟨rfl,rfl⟩:=hsm n bx hn hb;rw [aW];exact ⟨ys,hy1,hy2 _ hFz⟩
   ·exact (aW ρ (q 2) v').symm
end
section
variable {w:World} {base:Nat} {e:TypeId} {N n cap:Nat} {A:Option Addr} {xs:List Value}
theorem m7 {g:Nat} (h:w.ownsRow base e N (.slice (some ⟨g,0,none⟩) n cap) n xs):∃ys,w.ownsRow base e N (.slice (some ⟨g,0,none⟩) cap cap) cap ys/\ys.take (n*N)=xs/\n<=cap/\cap<=maxLen/\g<w.heap.size:=by
 obtain ⟨h1,h2⟩:=h;rcases h2 with ⟨hv,_⟩|⟨g',cap',cur,hv,hg,hh,hnc,hcm,hcs,ht⟩
 ·cases hv
 ·injection hv with e1 _ e3;injection e1 with e1;injection e1 with e1;subst e1;subst e3;refine ⟨cur.toList,⟨by simpa using hcs,.inr ⟨_,_,cur,rfl,hg,hh,Nat.le_refl _,hcm,hcs,?_⟩⟩,ht,hnc,hcm,(Array.getElem?_eq_some_iff.1 hh).1⟩;rw [<-hcs];exact List.take_of_length_le (by simp)
theorem eG {g:Nat} (h:w.ownsRow base e N (.slice (some ⟨g,0,none⟩) n cap) n xs) {j:Nat} (hj:j<cap*N):(w.cell? ⟨g,j,none⟩).isSome=true/\w.frozen? ⟨g,j,none⟩=false:=by
 obtain ⟨h1,h2⟩:=h;rcases h2 with ⟨hv,_⟩|⟨g',cap',cur,hv,hg,hh,hnc,hcm,hcs,ht⟩
 ·cases hv
 ·injection hv with e1 _ e3;injection e1 with e1;injection e1 with e1;subst e1;subst e3;refine ⟨?_,frozen_of_row w _ j cur e hh⟩;have:w.cell? ⟨g,j,none⟩=cur[j]?:=by simp [World.cell?,hh]
  rw [this,Array.getElem?_eq_getElem (by rw [hcs];exact hj)];rfl
theorem pT {g:Nat} (h:w.ownsRow base e N (.slice (some ⟨g,0,none⟩) n cap) n xs) {q:Nat} {u:Value} (hu:xs[q]? = some u):w.cell? ⟨g,q,none⟩=some u:=by
 have:=h.cells rfl _ _ hu
 rwa [gL,Nat.zero_add] at this
theorem pU (h:w.ownsRow base e N (.slice A n cap) n xs):xs.length=n*N:=h.1
theorem yA {g:Nat} (h:w.ownsRow base e N (.slice (some ⟨g,0,none⟩) n cap) n xs) (vs:List Value) {j:Nat} (hj:j+vs.length<=xs.length):(w.setCells g j vs).ownsRow base e N (.slice (some ⟨g,0,none⟩) n cap) n (xs.take j++vs++xs.drop (j+vs.length)):=fy vs j w xs h hj
theorem il {g:Nat}:∀(vs:List Value) (j:Nat) (w:World),(w.setCells g j vs).os=w.os/\(w.setCells g j vs).tape=w.tape/\(w.setCells g j vs).output=w.output
 | [],_,_=>⟨rfl,rfl,rfl⟩
 | v :: r,j,w=>by rw [World.setCells];exact il r (j+1) _
theorem jd (w:World) (g j:Nat) (vs:List Value):Frx w (w.setCells g j vs) fun b=>b=g :=
 ⟨(il vs j w).1,(il vs j w).2.1,(il vs j w).2.2,by rw [cm];exact Nat.le_refl _,fun b _ hn=>cf vs j w b hn⟩
theorem Frx.trans {w1 w2 w3:World} {M:Nat->Prop} (h:Frx w1 w2 M) (k:Frx w2 w3 M):Frx w1 w3 M :=
 ⟨k.os.trans h.os,k.tape.trans h.tape,k.output.trans h.output,Nat.le_trans h.size k.size,fun b hb hn=>(k.keep b (Nat.lt_of_lt_of_le hb h.size) hn).trans (h.keep b hb hn)⟩
end
section
variable {P:Program} {o:Oper} {s:Mst}
theorem dH {f:FuncId} {xs:Array Operand} {ks:List Nat} (ho:o.op = .makeFunc (.func f) #[] xs) (hx:xs.toList.map s.ev=ks.map fun k=>.c (.ptr k 0)):LOp P o s [] ⟨.c (.clo f ks),[],[]⟩ :=
 bY fun c st ρ a w hr h1 _=>by
  have h1':xs.toList.map st.ev=ks.map fun k=>TV.c (.ptr k 0):=by
   rw [<-hx];exact List.map_congr_left fun x hx=>h1 x (by simp [ho,Op.operands];simpa using hx)
  have key:∀(l:List Operand) (ks:List Nat),l.map st.ev=ks.map (fun k=>TV.c (.ptr k 0))->All2 (fun k u=>u=ρ k) ks (l.map a.eval)/\∀k,(∃j∈ks,j.beq k=true)->st.f k=false:=by
   intro l;induction l with
   | nil=>intro ks h;cases ks with
    | nil=>exact ⟨trivial,fun k ⟨j,hj,_⟩=>by cases hj⟩
    | cons=>simp at h
   | cons x l ih =>
    intro ks h;cases ks with
    | nil=>simp at h
    | cons k ks =>
     simp only [List.map_cons,List.cons.injEq] at h;obtain ⟨i1,i2⟩:=ih ks h.2;have hv:=hr.ev x;rw [h.1] at hv;obtain ⟨g,hg,hv⟩:=hv;have hnf:st.f k=false:=hr.nf (x:=x) h.1 (by simp [TV.has,V0.has,D.has]);refine ⟨⟨?_,i1⟩,fun k' ⟨j,hj,hb⟩=>?_⟩
     ·show a.eval x=ρ k;rw [hv,hg]
     ·rcases List.mem_cons.1 hj with rfl|hj
      ·rw [<-qNb hb];exact hnf
      ·exact i2 k' ⟨j,hj,hb⟩
  obtain ⟨k1,k2⟩:=key _ _ h1';refine ⟨.func (.func f) #[] (xs.map a.eval),?_,⟨xs.toList.map a.eval,by congr 1;apply Array.toList_inj.1;simp,k1⟩,fun k hk=>k2 k ?_⟩
  ·unfold execOp;rw [ho];simp [Instr.makeFunc]
  ·obtain ⟨j,hj,hb⟩:=List.any_eq_true.1 (show (D.clo f ks).has k=true from hk);exact ⟨j,hj,hb⟩
variable {n l:Nat}
end
section
variable {P:Program} {nt:Nat} {Ks:List Nat} {Q:Exit->Mst->Prop} {s:Mst}
theorem Md {a:Act} {t:Nat} {v:Value} (hv:a.tmps.getD t undef=v):a.put (some t) v=a:=by
 cases a with
 | mk tmps defers =>
  simp only [Act.put];congr 1
  apply Array.ext
  ·simp
  ·intro i h1 h2;rw [Array.getElem_setIfInBounds];split
   ·rename_i h3
    subst h3;rw [<-hv];simp [Array.getD_eq_getD_getElem?,h2]
   ·rfl
theorem QX {x:Code} {α:Type} {E:El α} [J:Dp E] (t j k:Nat) (l:List α) {e:TypeId} {cs:List D} {n:Nat} (ht:s.t t = .c (.slb j n)) (hj:s.h j=some (.box e cs)) (hm:l.flatMap J.deep=cs) (hn:l.length=n) (hfk:s.f k=true) (hnt:Nat.blt t nt=true) (hl:Nat.ble n 1000000=true) (h:AW P nt Ks x Q (s.app (some t) ⟨.c (.own k),[(k,some (.arr e E l)),(j,none)],[k]⟩)):AW P nt Ks x Q s:=by
 intro c ρ a w hc hK hr;subst hm;subst hn;have hv:=hr.tmp t;rw [ht] at hv;obtain ⟨g,hg,hv⟩:=hv;obtain ⟨vs,hB,hA,_⟩:=hr.box hj hg;have hre:=ga hA;have hkbg:kb (ρ j)=some g:=by rw [hg];rfl
 have hne:k.beq j=false:=by
  cases h9:k.beq j with
  | false=>rfl
  | true=>rw [<-qNb h9,hr.wf.h k hfk] at hj;cases hj
 have hvl:=hre.length;have hown:w.ownsRow 0 e E.n (.slice (some ⟨g,0,none⟩) l.length l.length) l.length vs:=⟨hvl,.inr ⟨g,l.length,vs.toArray,rfl,Nat.zero_le _,hB,Nat.le_refl _,by have:=qNl hl;simp only [maxLen];omega,by simpa using hvl,by rw [<-hvl];simp⟩⟩;have hputk:hput [(k,some (Box.arr e E l)),(j,none)] s.h k=some (.arr e E l):=by simp [hput]
 have hputj:hput [(k,some (Box.arr e E l)),(j,none)] s.h j=none:=by simp [hput,hne]
 have hky:∀q,aL [(k,some (Box.arr e E l)),(j,none)] q=true->q=k\/q=j:=fun q h=>by
  simp only [aL,Bool.or_eq_true,Bool.or_false] at h;rcases h with h|h
  ·exact .inl (qNb h).symm
  ·exact .inr (qNb h).symm
 have hsm:∀q bx,aL [(k,some (Box.arr e E l)),(j,none)] q=true->hput [(k,some (Box.arr e E l)),(j,none)] s.h q=some bx->q=k/\bx = .arr e E l:=fun q bx hq hb=>by
  rcases hky q hq with rfl|rfl
  ·exact VO
  ·rw [hputj] at hb;cases hb
 have hFz:∀b,Fz c s.h ρ w b->Fz c (hput [(k,some (Box.arr e E l)),(j,none)] s.h) (upd ρ k (.slice (some ⟨g,0,none⟩) l.length l.length)) w b:=fun b hb=>by
  refine ⟨hb.1,hb.2.1,fun q bx hq he=>?_⟩;cases h9:aL [(k,some (Box.arr e E l)),(j,none)] q with
  | true =>
   obtain ⟨rfl,_⟩:=hsm q bx h9 hq;rw [aW] at he;exact hb.2.2 j _ hj (hkbg.trans (by injection he with he;rw [<-he]))
  | false =>
   rw [cz h9] at hq;have hkq:k.beq q=false:=by
    cases h8:k.beq q with
    | false=>rfl
    | true=>rw [<-qNb h8,hr.wf.h k hfk] at hq;cases hq
   rw [dW hkq] at he;exact hb.2.2 q bx hq he
 have h2:=hr.app (ρ':=upd ρ k (.slice (some ⟨g,0,none⟩) l.length l.length)) (w':=w) (dst:=some t) (v:=.slice (some ⟨g,0,none⟩) l.length l.length) (e:=⟨.c (.own k),[(k,some (.arr e E l)),(j,none)],[k]⟩) (fun d hd=>by injection hd with hd;subst hd;rw [hc];simpa using hnt)
  (fun q hq=>by
   have:q=k:=by simp [aX] at hq;exact hq.symm
   subst this;exact ⟨hfk,by simp [aL]⟩)
  (fun q hq=>dW (by simpa [aX] using hq))
  (fun q hq=>by
   rcases hky q hq with rfl|rfl
   ·exact .inl (by simp [aX])
   ·exact .inr (hr.nfh hj)) (Frx.refl _ _)
  (fun q bx g' hq hb hg'=>by
   obtain ⟨rfl,_⟩:=hsm q bx hq hb;rw [aW] at hg';injection hg' with hg';subst hg';exact ⟨hr.ltb hj hkbg,.inr ⟨j,_,by simp [aL],hj,hkbg⟩⟩)
  (fun q q' b b' g hq hq' hb hb' _ _=>by rw [(hsm q b hq hb).1,(hsm q' b' hq' hb').1])
  (fun q hq=>.inl (by
   have:q=k:=by simp [TV.has,V0.has,D.has] at hq;exact hq.symm
   subst this;simp [aX]))
  (fun q q' bx hq' hb hx2=>by
   rw [(hsm q' bx hq' hb).2] at hx2;simp [Box.has] at hx2)
  (fun q bx hq hb=>by
   obtain ⟨rfl,rfl⟩:=hsm q bx hq hb;rw [aW];exact ⟨_,hown,hre.same (fun _ _=>rfl) hFz⟩)
  (aW ρ k _).symm
 rw [Md hv] at h2;exact h c _ a w hc hK h2
end
section
variable {P:Program} {o:Oper} {s:Mst} {α:Type} {E:El α}
theorem MO {t e:TypeId} {by_ k kr:Nat} {x y:Operand} {l m l':List α} {R:List Nat} [T:ST P E t e by_] (ho:o.op = .call { callee:=.builtin .append,args:=#[x,y],argTypes:=#[t,t] }) (hdk:o.dst=some k) (hx:s.ev x = .c (.ocut kr)) (hkr:s.h kr=some (.arr e E l)) (hy:N5 s E y m R) (hl':l++m=l') (hm:0<m.length)
  (hlen:l.length+m.length<=maxLen) (hby:(l.length+m.length)*by_<=140737488355328):LOp P o s (kr :: R) ⟨.c (.ocut k),[(k,some (.arr e E l')),(kr,none)],[k]⟩:=by
 intro c st ρ a w hr h1 h2 h3 h4;subst hl';have hfk:st.f k=true:=h3 k (by simp [aX]);have hk2:=(h2 kr (by simp [aX])).trans hkr;have hne:k.beq kr=false:=by
  cases h9:k.beq kr with
  | false=>rfl
  | true=>rw [<-qNb h9,hr.wf.h k hfk] at hk2;cases hk2
 have hv1:=hr.ev x;rw [h1 x (by simp [ho,Op.operands,Call.operands]),hx] at hv1;obtain ⟨A1,n1,cap1,c1,hρ1,⟨b1,b2⟩,hv1⟩:=(show (D.ocut kr).rep w (Fz c st.h ρ w) ρ (a.eval x) from hv1);obtain ⟨xs,hown,hreps⟩:=hr.hp kr _ hk2;obtain ⟨A,cap,ys,hyv,hyr,hyc⟩:=hy c st ρ a w hr (h1 y (by simp [ho,Op.operands,Call.operands])) fun j hj=>h2 j (by simp only [aX,hj,Bool.or_true]);obtain ⟨b,off,hA,hcells⟩:=hyc hm;subst hA;have hyl:=hyr.length;have hpos:=E.pos;obtain ⟨ti,z,hi1,hi2,hi3,hi4,hi5⟩:=T.T.info;have hexec:∀v' w',(Builtin.append_ #[t,t] o.type #[.slice A1 n1 c1,.slice (some ⟨b,off,none⟩) m.length cap]).run P w = .ok v' w'->(execOp a.eval o).run P w = .ok (.value v') w':=fun v' w' hrun=>by
  unfold execOp;simp only [ho,resolve,invoke,builtin,Sem.run_bind,Sem.run_pure,Result.andThen_ok,List.map_toArray,List.map_cons,List.map_nil,hv1,hyv,hrun]
 have hya:∀j u,ys[j]? = some u->w.cell? ((⟨b,off,none⟩:Addr).add j)=some u:=fun j u hu=>by
  rw [dS];exact hcells j u hu
 rw [hρ1] at hown;have hxl:=hown.1;have hn1:n1=l.length/\(A1=none->c1=cap1):=by
  rcases hown.2 with ⟨hv,hz⟩|⟨g,cap',cur,hv,_⟩
  ·injection hv with e1 e2 e3;exact ⟨by omega,fun _=>by omega⟩
  ·injection hv with e1 e2 e3;exact ⟨e2,fun h=>by rw [h] at e1;cases e1⟩
 obtain ⟨rfl,hn1⟩:=hn1;have hyo:∀u∈ys,u.oneCell'=true:=hyr.one;have key:∃v' vg w',(execOp a.eval o).run P w = .ok (.value v') w'/\w'.ownsRow 0 e E.n vg (l.length+m.length) (xs++ys)/\w.grownBy w' (Value.slice A1 l.length cap1).ownBlock/\(∀g,vg.ownBlock=some g->(Value.slice A1 l.length cap1).ownBlock=some g\/w.heap.size<=g)/\∃A n cap c,vg = .slice A n cap/\(n<=c/\c<=cap)/\v' = .slice A n c:=by
  obtain ⟨v',w',hrun,ho1,hgr,_,hob⟩:=run_append_own_at (P:=P) w 0 t o.type e ti z E.n by_ T.T.under hi1 hi2 hi3 hi5 hi4 hpos (.slice A1 l.length cap1) l.length xs hown ⟨b,off,none⟩ m.length cap ys hyl hya hyo hlen hby (Nat.zero_le _);have hform:∃A n cap,v' = .slice A n cap/\n<=cap:=by
   rcases ho1.2 with ⟨hv,_⟩|⟨g',cap',cur',hv,_,_,hnc,_⟩
   ·exact ⟨none,0,0,hv,Nat.le_refl _⟩
   ·exact ⟨_,_,_,hv,hnc⟩
  have hobg:∀g,v'.ownBlock=some g->(Value.slice A1 l.length cap1).ownBlock=some g\/w.heap.size<=g:=fun g hg=>by
   rcases hob with h|h
   ·exact .inl (h▸hg)
   ·rw [h] at hg;injection hg with hg;exact .inr (by omega)
  by_cases hcc:c1=cap1
  ·subst hcc;obtain ⟨A,n,cp,hv',hnc⟩:=hform;exact ⟨v',v',w',hexec _ _ hrun,ho1,hgr,hobg,A,n,cp,cp,hv',⟨hnc,Nat.le_refl _⟩,hv'⟩
  ·cases A1 with
   | none=>exact absurd (hn1 rfl) hcc
   | some g0 =>
    obtain ⟨g,cur,rfl,hh,hcm,hcs,ht⟩:∃g cur,g0=⟨g,0,none⟩/\w.heap[g]? = some (.cells cur e (0,0))/\cap1<=maxLen/\cur.size=cap1*E.n/\cur.toList.take (l.length*E.n)=xs:=by
     rcases hown.2 with ⟨hv,_⟩|⟨g',cap',cur,hv,_,hh,_,q1,q2,q3⟩
     ·cases hv
     ·injection hv with e1 e2 e3;injection e1 with e1;subst e3;exact ⟨g',cur,e1,hh,q1,q2,q3⟩
    have hcell:∀j u,xs[j]? = some u->w.cell? ((⟨g,0,none⟩:Addr).add j)=some u:=fun j u hu=>by
     rw [dS,Nat.zero_add,cell_of_row w g j cur e (0,0) hh,<-Array.getElem?_toList];rw [<-ht,List.getElem?_take] at hu;split at hu
     ·exact hu
     ·cases hu
    by_cases hroom:l.length+m.length<=c1
    ·have hsz:(l.length+m.length)*E.n<=cap1*E.n:=Nat.mul_le_mul_right _ (by omega);have hin:∀j,j<ys.length->l.length*ti.size+j<cur.size:=fun j hj=>by rw [hcs,hi3];rw [hyl] at hj;rw [Nat.add_mul] at hsz;omega
     have hc:∀j,j<ys.length->(w.cell? ⟨g,0+l.length*ti.size+j,none⟩).isSome=true:=fun j hj=>by
      rw [cell_of_row w g _ cur e (0,0) hh];simp [Nat.zero_add,hin j hj]
     have hf:∀j,j<ys.length->w.frozen? ⟨g,0+l.length*ti.size+j,none⟩=false:=fun j _=>frozen_of_row w g _ cur e hh;have r1:=run_append_room_cells (P:=P) w t o.type e ti T.T.under hi1 g 0 l.length cap1 ⟨b,off,none⟩ m.length cap ys (by rw [hi3];exact hyl) hya hyo (by omega) hc hf;have r2:=run_append_room_cells (P:=P) w t o.type e ti T.T.under hi1 g 0 l.length c1 ⟨b,off,none⟩ m.length cap ys (by rw [hi3];exact hyl) hya hyo hroom hc hf;rw [hrun] at r1;injection r1 with r1 r1';subst r1;subst r1';exact ⟨_,_,_,hexec _ _ r2,ho1,hgr,hobg,_,_,_,_,rfl,⟨hroom,b2⟩,rfl⟩
    ·obtain ⟨v2,w2,hrun2,ho2,hgr2⟩:=run_append_arg_grows (P:=P) w t o.type e ti z E.n by_ T.T.under hi1 hi2 hi3 hi5 hi4 hpos ⟨g,0,none⟩ l.length c1 xs hxl hcell ⟨b,off,none⟩ m.length cap ys hyl hya (by omega) hlen hby;obtain ⟨g',cap',rfl,hb1,hb3⟩:∃g' cap',v2 = .slice (some ⟨g',0,none⟩) (l.length+m.length) cap'/\w.heap.size<=g'/\l.length+m.length<=cap':=by
      rcases ho2.2 with ⟨_,hz⟩|⟨g',cap',cur',hv,hb,_,hnc',_⟩
      ·omega
      ·exact ⟨g',cap',hv,hb,hnc'⟩
     refine ⟨_,_,w2,hexec _ _ hrun2,⟨ho2.1,ho2.2.imp id fun ⟨a1,a2,a3,a4,_,a6⟩=>⟨a1,a2,a3,a4,Nat.zero_le _,a6⟩⟩,⟨hgr2.os,hgr2.tape,hgr2.output,hgr2.size,fun b hb _=>hgr2.block b hb (by simp)⟩,fun g2 hg2=>.inr ?_,_,_,cap',cap',rfl,⟨hb3,Nat.le_refl _⟩,rfl⟩;injection hg2 with hg2;simp at hg2;omega
 obtain ⟨v',vg,w',hrun,ho1,hgr,hob,A',n',cap',c',hvg,hcc,hv'⟩:=key;have hob1:∀{g:Nat} {u:Value},(∃A n cap,u = .slice A n cap)->(kb u=some g↔u.ownBlock=some g):=fun {g u} ⟨A,n,cap,h⟩=>by
  subst h;cases A <;> exact Iff.rfl
 have hkb:∀g,(Value.slice A1 l.length cap1).ownBlock=some g↔kb (ρ kr)=some g:=fun g=>by rw [hρ1];exact (hob1 ⟨_,_,_,rfl⟩).symm
 have hg':∀g,kb vg=some g->g<w'.heap.size/\(w.heap.size<=g\/kb (ρ kr)=some g):=fun g hg=>by
  have h:=(hob1 ⟨_,_,_,hvg⟩).1 hg;exact ⟨(ho1.lt g h).2,(hob g h).symm.imp id (hkb g).1⟩
 have hky:∀n,aL [(k,some (Box.arr e E (l++m))),(kr,none)] n=true↔n=k\/n=kr:=fun n=>by
  simp only [aL,Bool.or_false,Bool.or_eq_true];constructor
  ·rintro (h|h)
   ·exact .inl (qNb h).symm
   ·exact .inr (qNb h).symm
  ·rintro (rfl|rfl)
   ·exact .inl (Nat.beq_refl _)
   ·exact .inr (Nat.beq_refl _)
 have hputk:hput [(k,some (Box.arr e E (l++m))),(kr,none)] st.h k=some (.arr e E (l++m)):=by simp [hput]
 have hputr:hput [(k,some (Box.arr e E (l++m))),(kr,none)] st.h kr=none:=by simp [hput,hne]
 have hsm:∀n bx,aL [(k,some (Box.arr e E (l++m))),(kr,none)] n=true->hput [(k,some (Box.arr e E (l++m))),(kr,none)] st.h n=some bx->n=k/\bx = .arr e E (l++m):=fun n bx hn hb=>by
  rcases (hky n).1 hn with rfl|rfl
  ·exact VO
  ·rw [hputr] at hb;cases hb
 have hblk:∀b,b<w.heap.size->kb (ρ kr)≠some b->w'.heap[b]? = w.heap[b]?:=fun b hlt hn=>hgr.block b hlt fun he=>hn ((hkb b).1 he.symm);have hFz:∀b,Fz c st.h ρ w b->Fz c (hput [(k,some (Box.arr e E (l++m))),(kr,none)] st.h) (upd ρ k vg) w' b/\w'.heap[b]? = w.heap[b]?:=fun b hb=>by
  have hnb:=hb.2.2 kr _ hk2;refine ⟨⟨hb.1,Nat.lt_of_lt_of_le hb.2.1 hgr.size,fun n bx hn he=>?_⟩,hblk b hb.2.1 hnb⟩;cases h9:aL [(k,some (Box.arr e E (l++m))),(kr,none)] n with
  | true =>
   obtain ⟨rfl,_⟩:=hsm n bx h9 hn;rw [aW] at he;rcases (hg' b he).2 with h|h
   ·have:=hb.2.1;omega
   ·exact hnb h
  | false =>
   rw [cz h9] at hn;have hkn:k.beq n=false:=by
    cases h8:k.beq n with
    | false=>rfl
    | true=>rw [<-qNb h8,hr.wf.h k hfk] at hn;cases hn
   rw [dW hkn] at he;exact hb.2.2 n bx hn he
 refine Oper.wp_value hrun ⟨upd ρ k vg,hr.app (e:=⟨.c (.ocut k),[(k,some (.arr e E (l++m))),(kr,none)],[k]⟩) h4 (fun n hn=>?_) (fun n hn=>dW (by simpa [aX] using hn)) (fun n hn=>?_) ⟨hgr.os,hgr.tape,hgr.output,hgr.size,fun b hlt hn=>hblk b hlt fun e=>hn ⟨kr,_,(hky kr).2 (.inr rfl),hk2,e⟩⟩ (fun n bx g' hn hb hg=>?_) (fun n n' b b' g' hn hn' hb hb' _ _=>?_) (fun n hn=>.inl ?_) (fun n n' bx hn hb hx2=>?_) (fun n bx hn hb=>?_) ?_⟩
 ·have:n=k:=by simp [aX] at hn;exact hn.symm
  subst this;exact ⟨hfk,(hky n).2 (.inl rfl)⟩
 ·rcases (hky n).1 hn with rfl|rfl
  ·exact .inl (by simp [aX])
  ·exact .inr (hr.nfh hk2)
 ·obtain ⟨rfl,_⟩:=hsm n bx hn hb;rw [aW] at hg;exact ⟨(hg' g' hg).1,(hg' g' hg).2.imp id fun h=>⟨kr,_,(hky kr).2 (.inr rfl),hk2,h⟩⟩
 ·rw [(hsm n b hn hb).1,(hsm n' b' hn' hb').1]
 ·have:n=k:=by simp [TV.has,V0.has,D.has] at hn;exact hn.symm
  subst this;simp [aX]
 ·exact VZ
 ·obtain ⟨rfl,rfl⟩:=hsm n bx hn hb;rw [aW];exact ⟨xs++ys,by rw [List.length_append];exact ho1,(hreps.append hyr).same (fun b hb=>(hFz b hb).2) fun b hb=>(hFz b hb).1⟩
 ·exact ⟨A',n',cap',c',(aW ρ k vg).trans hvg,hcc,hv'⟩
end
theorem Ry {α:Type} {E:El α} [J:Dp E] {w:World} {F F':Nat->Prop} {ρ ρ':Nat->Value} {k n:Nat} {e:TypeId} {m:List α} {cs:List D} (hb:(Box.box e cs).rep w F ρ (ρ k)) (hm:m.flatMap J.deep=cs) (hF:∀b,F b->F' b) (hF':∀g,kb (ρ k)=some g->F' g) (hn:m.length=n/\n<=maxLen) {v:Value} (hv:(D.slb k n).rep w F ρ v):(D.sl E m).rep w F' ρ' v:=by
 subst hm;obtain ⟨g,hg,rfl⟩:=hv;obtain ⟨g',vs,e1,h3,h4,_⟩:=hb;rw [hg] at e1;injection e1 with e1;injection e1 with e1;injection e1 with e1;subst e1;exact ⟨_,_,by rw [hn.1],⟨Nat.le_of_eq hn.1,hn.2⟩,vs,(ga h4).same (fun _ _=>rfl) hF,fun _=>⟨g,0,rfl,hF' g (by rw [hg];rfl),fun j u hu=>by rw [Nat.zero_add];exact h3.cellx j (by simpa using hu)⟩⟩
theorem FSpec.lit {P:Program} {f:FuncId} {α:Type} {E:El α} [J:Dp E] {l:List α} {n:Nat} {e:TypeId} {cs:List D} {res:TV} (h:FSpec P f [.one (.sl E l)] [] [] res []) (hl:l.flatMap J.deep=cs) (hn:l.length=n) (hm:n<=maxLen):FSpec P f [.one (.slb 0 n)] [(0,.box e cs)] [] res [(0,none)]:=by
 refine ⟨h.en,fun q c st ρ a w vs hr hq hargs hin hfree=>?_⟩;have hk:=hin 0 _ rfl;have hb:(Box.box e cs).rep w (Fz c st.h ρ w) (fun k=>ρ (q k)) (ρ (q 0)):=(Box.rep_ren (q:=q) (ρ':=fun k=>ρ (q k)) fun _ _=>rfl).1 (hr.hp _ _ hk);have hkk:∀k':Nat,aL [(q 0,(none:Option Box))] k'=true->k'=q 0:=fun k' h=>by
  exact UM
 have hno:∀k',k'=q 0->hput [(q 0,(none:Option Box))] st.h k'=none:=fun k' e=>by subst e;simp [hput]
 have h2:=hr.app (ρ':=ρ) (w':=w) (dst:=none) (v:=undef) (e:=⟨.c .any,[(q 0,none)],[]⟩) (fun d hd=>by cases hd)
  (fun k' hk=>by simp [aX] at hk) (fun k' _=>rfl) (fun k' h=>.inr (by rw [hkk k' h];exact hr.nfh hk)) (Frx.refl _ _)
  (fun k' bx g h hp _=>by rw [hno k' (hkk k' h)] at hp;cases hp) (fun k1 k2 b b' g h1 h2 _ _ _ _=>by rw [hkk k1 h1,hkk k2 h2]) (fun k' hk=>by simp [TV.has,V0.has,D.has] at hk)
  (fun k1 k2 bx h hp _=>by rw [hno k2 (hkk k2 h)] at hp;cases hp) (fun k2 bx h hp=>by rw [hno k2 (hkk k2 h)] at hp;cases hp) trivial
 match vs,hargs with
 | [v],⟨hv,_⟩ =>
  have hv:(D.slb (q 0) n).rep w (Fz c st.h ρ w) ρ v:=hv;obtain ⟨g,hg,hv⟩:=hv;have hs:(D.sl E l).rep w (Fz c (hput [(q 0,(none:Option Box))] st.h) ρ w) ρ v:=Ry (F':=Fz c (hput [(q 0,(none:Option Box))] st.h) ρ w) (ρ:=fun k=>ρ (q k)) (k:=0) hb hl (fun b hb=>⟨hb.1,hb.2.1,fun k bx hk' he=>by
    by_cases e9:k=q 0
    ·rw [hno k e9] at hk';cases hk'
    ·have:hput [(q 0,(none:Option Box))] st.h k=st.h k:=cz (by
      cases h8:aL [(q 0,(none:Option Box))] k with
      | false=>rfl
      | true=>exact absurd (hkk k h8) e9)
     rw [this] at hk';exact hb.2.2 k bx hk' he⟩)
   (fun g' hg'=>⟨(hr.inb (q 0) _ g' hk hg').imp (c.hX g') id,hr.ltb hk hg',fun k bx hk' he=>by
    by_cases e9:k=q 0
    ·rw [hno k e9] at hk';cases hk'
    ·have:hput [(q 0,(none:Option Box))] st.h k=st.h k:=cz (by
      cases h8:aL [(q 0,(none:Option Box))] k with
      | false=>rfl
      | true=>exact absurd (hkk k h8) e9)
     rw [this] at hk';exact e9 (hr.dis k (q 0) bx _ g' hk' hk he hg')⟩) ⟨hn,hm⟩ ⟨g,hg,hv⟩
  refine (h.ca q c _ ρ a w [v] h2 (fun k k' hk _ _=>by simp [ax,aX] at hk) ⟨hs,trivial⟩ (fun k b hb=>by cases hb) (fun k hk=>by simp [aX] at hk)).mono ?_;rintro e' w' ⟨v',rfl,hk9⟩;refine ⟨v',rfl,fun dst hd=>?_⟩;obtain ⟨ρ',hr'⟩:=hk9 dst hd;refine ⟨ρ',?_⟩;have he:(st.app none ⟨.c .any,[(q 0,none)],[]⟩).app dst ⟨res.ren q,fo q [],[].map q⟩=st.app dst ⟨res.ren q,fo q [(0,none)],[].map q⟩:=by
   simp [Mst.app,fo,hput,mw,aX]
  rw [<-he];exact hr'
end Go.Proofs.YthpgjkjgkhjjlaaGreatDoor
