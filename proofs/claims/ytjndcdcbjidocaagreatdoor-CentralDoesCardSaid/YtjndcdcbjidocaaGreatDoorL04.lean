/- Part 4 of 33 of the proof of centralDoes_holds (no condition). -/
import Derived.Test.YtjndcdcbjidocaaGreatDoorL03
import Derived.Orders
import Derived.Still
set_option linter.unusedVariables false
set_option linter.unusedSimpArgs false
set_option maxRecDepth 100000
set_option maxHeartbeats 64000000
namespace Go.Proofs.YtjndcdcbjidocaaGreatDoor
open Go.RowKit
def All2 {α:Type _} {β:Type _} (R:α→β→Prop):List α→List β→Prop
 | [],[]=>True
 | a :: l,b :: m=>R a b∧All2 R l m
 | _,_=>False
section
variable {α:Type _} {β:Type _} {R R':α→β→Prop}
theorem All2.length:∀{l:List α} {m:List β},All2 R l m→l.length=m.length
 | [],[],_=>rfl
 | _ :: _,_ :: _,h=>by simp [All2.length h.2]
 | [],_ :: _,h=>h.elim
 | _ :: _,[],h=>h.elim
theorem All2.imp:∀{l:List α} {m:List β},All2 R l m→(∀a b,a∈l→R a b→R' a b)→All2 R' l m
 | [],[],_,_=>trivial
 | _ :: _,_ :: _,h,f=>⟨f _ _ (by simp) h.1,All2.imp h.2 fun a b ha=>f a b (by simp [ha])⟩
 | [],_ :: _,h,_=>h.elim
 | _ :: _,[],h,_=>h.elim
theorem All2.get:∀{l:List α} {m:List β},All2 R l m→∀{i:Nat} {a:α},l[i]? = some a→∃b,m[i]? = some b∧R a b
 | [],[],_,_,_,h=>by simp at h
 | _ :: _,_ :: _,h,0,_,e=>by simp at e;subst e;exact ⟨_,by simp,h.1⟩
 | _ :: _,_ :: _,h,i+1,_,e=>by simpa using All2.get h.2 (by simpa using e)
 | [],_ :: _,h,_,_,_=>h.elim
 | _ :: _,[],h,_,_,_=>h.elim
theorem All2.append:∀{l l':List α} {m m':List β},All2 R l m→All2 R l' m'→All2 R (l++l') (m++m')
 | [],_,[],_,_,k=>k
 | _ :: _,_,_ :: _,_,h,k=>⟨h.1,All2.append h.2 k⟩
 | [],_,_ :: _,_,h,_=>h.elim
 | _ :: _,_,[],_,h,_=>h.elim
theorem All2.drop:∀(k:Nat) {l:List α} {m:List β},All2 R l m→All2 R (l.drop k) (m.drop k)
 | 0,_,_,h=>by simpa using h
 | _+1,[],[],_=>trivial
 | k+1,_ :: _,_ :: _,h=>by simpa using All2.drop k h.2
 | _+1,[],_ :: _,h=>h.elim
 | _+1,_ :: _,[],h=>h.elim
theorem All2.take:∀(k:Nat) {l:List α} {m:List β},All2 R l m→All2 R (l.take k) (m.take k)
 | 0,_,_,h=>by simp [All2]
 | _+1,[],[],_=>trivial
 | k+1,_ :: _,_ :: _,h=>by simpa using ⟨h.1,All2.take k h.2⟩
 | _+1,[],_ :: _,h=>h.elim
 | _+1,_ :: _,[],h=>h.elim
theorem All2.mapL {γ:Type _} {f:γ→α}:∀{l:List γ} {m:List β},All2 R (l.map f) m↔All2 (fun c b=>R (f c) b) l m
 | [],[]=>Iff.rfl
 | _ :: _,_ :: _=>and_congr Iff.rfl All2.mapL
 | [],_ :: _=>Iff.rfl
 | _ :: _,[]=>Iff.rfl
end
inductive D:Type 1 where
 | any
 | sc (v:Value)
 | sl {α:Type} (E:El α) (l:List α)
 | full {α:Type} (E:El α) (l:List α)
 | own (k:Nat)
 | slb (k n:Nat)
 | ptr (k off:Nat)
 | eptr {α:Type} (E:El α) (l:List α) (i off:Nat)
 | optr (k m i off:Nat)
 | ocut (k:Nat)
 | osl (k m lo hi:Nat) (fl:Bool)
 | clo (f:FuncId) (ks:List Nat)
inductive V0:Type 1 where
 | one (d:D)
 | ag (l:List D)
inductive TV:Type 1 where
 | v (x:V0)
 | tup (l:List V0)
inductive Box:Type 1 where
 | box (t:TypeId) (cs:List D)
 | arr {α:Type} (e:TypeId) (E:El α) (l:List α)
 | mp (l:List (Value×Value))
 | it (k n:Nat) (seen:List Nat)
structure Mst:Type 1 where
 t:Nat→TV
 h:Nat→Option Box
 f:Nat→Bool
def kb:Value→Option Nat
 | .pointer (some a)=>some a.block
 | .slice (some a) _ _=>some a.block
 | .map (some b)=>some b
 | _=>none
def eO:Nat→List (Value×Value)→List MapEntry
 | _,[]=>[]
 | i,x :: l=>⟨x.1,x.2,i⟩ :: eO (i+1) l
def ky (l:List (Value×Value)):Obj:=.map (eO 0 l).toArray l.length
def D.rep (w:World) (F:Nat→Prop) (ρ:Nat→Value):D→Value→Prop
 | .any,_=>True
 | .sc x,v=>v=x
 | .sl E l,v=>∃A cap,v = .slice A l.length cap∧(l.length≤cap∧cap≤maxLen)∧RowsAt E w F A l
 | .full E l,v=>∃A,v = .slice A l.length l.length∧l.length≤maxLen∧RowsAt E w F A l
 | .own k,v=>v=ρ k
 | .slb k n,v=>∃g,ρ k = .pointer (some ⟨g,0,none⟩)∧v = .slice (some ⟨g,0,none⟩) n n
 | .ptr k off,v=>∃g,ρ k = .pointer (some ⟨g,0,none⟩)∧v = .pointer (some ⟨g,off,none⟩)
 | .eptr E l i off,v=>∃b o,v = .pointer (some ⟨b,o+i*E.n+off,none⟩)∧RowsAt E w F (some ⟨b,o,none⟩) l∧i<l.length
 | .optr k m i off,v=>∃g n cap,ρ k = .slice (some ⟨g,0,none⟩) n cap∧v = .pointer (some ⟨g,i*m+off,none⟩)
 | .ocut k,v=>∃A n cap c,ρ k = .slice A n cap∧(n≤c∧c≤cap)∧v = .slice A n c
 | .osl k m lo hi fl,v=>∃g n cap c A,ρ k = .slice (some ⟨g,0,none⟩) n cap∧(lo≤hi∧hi≤n∧hi≤lo+c∧lo+c≤cap)∧(fl=true→lo+c=hi)∧v = .slice (some A) (hi-lo) c∧(lo=0∨0<c→A=⟨g,lo*m,none⟩)
 | .clo f ks,v=>∃vs:List Value,v = .func (.func f) #[] vs.toArray∧All2 (fun k u=>u=ρ k) ks vs
def V0.rep (w:World) (F:Nat→Prop) (ρ:Nat→Value):V0→Value→Prop
 | .one d,v=>d.rep w F ρ v
 | .ag l,v=>∃cs:List Value,v = .agg cs.toArray∧All2 (D.rep w F ρ) l cs
def TV.rep (w:World) (F:Nat→Prop) (ρ:Nat→Value):TV→Value→Prop
 | .v x,u=>x.rep w F ρ u
 | .tup l,u=>∃vs:List Value,u = .tuple vs.toArray∧All2 (V0.rep w F ρ) l vs
def Box.rep (w:World) (F:Nat→Prop) (ρ:Nat→Value):Box→Value→Prop
 | .box t cs,v=>∃(g:Nat) (vs:List Value),v = .pointer (some ⟨g,0,none⟩)∧Blk w g t vs.toArray∧All2 (D.rep w F ρ) cs vs∧∀u∈vs,u.oneCell'=true
 | .arr e E l,v=>∃xs,w.ownsRow 0 e E.n v l.length xs∧Reps E w F l xs
 | .mp l,v=>∃g,v = .map (some g)∧w.heap[g]? = some (ky l)
 | .it k n seen,v=>∃g m,v = .pointer (some ⟨g,0,none⟩)∧ρ k = .map (some m)∧w.heap[g]? = some (.mapIter (some m) n seen.toArray n)
def D.has (k:Nat):D→Bool
 | .own j | .slb j _ | .ptr j _ | .optr j _ _ _ | .ocut j | .osl j _ _ _ _=>j.beq k
 | .clo _ ks=>ks.any fun j=>j.beq k
 | _=>false
def V0.has (k:Nat):V0→Bool
 | .one d=>d.has k
 | .ag l=>l.any (D.has k)
def TV.has (k:Nat):TV→Bool
 | .v x=>x.has k
 | .tup l=>l.any (V0.has k)
def Box.has (k:Nat):Box→Bool
 | .box _ cs=>cs.any (D.has k)
 | .arr ..=>false
 | .mp _=>false
 | .it j _ _=>j.beq k
section
variable {w w':World} {F F':Nat→Prop} {ρ ρ':Nat→Value}
theorem D.rep.mono {d:D} {v:Value} (h:d.rep w F ρ v) (hF:∀b,F b→F' b∧w'.heap[b]? = w.heap[b]?) (hρ:∀k,d.has k=true→ρ' k=ρ k):d.rep w' F' ρ' v:=by
 have h1:∀b,F b→w'.heap[b]? = w.heap[b]?:=fun b hb=>(hF b hb).2;have h2:∀b,F b→F' b:=fun b hb=>(hF b hb).1;cases d with
 | any=>trivial
 | sc x=>exact h
 | sl E l=>obtain ⟨A,cap,e,h3,h4⟩:=h;exact ⟨A,cap,e,h3,h4.same h1 h2⟩
 | full E l=>obtain ⟨A,e,h3,h4⟩:=h;exact ⟨A,e,h3,h4.same h1 h2⟩
 | own k=>exact h.trans (hρ k (by simp [D.has])).symm
 | slb k n=>obtain ⟨g,h3,h4⟩:=h;exact ⟨g,(hρ k (by simp [D.has])).trans h3,h4⟩
 | ptr k off=>obtain ⟨g,h3,h4⟩:=h;exact ⟨g,(hρ k (by simp [D.has])).trans h3,h4⟩
 | eptr E l i off=>obtain ⟨b,o,e,h3,h4⟩:=h;exact ⟨b,o,e,h3.same h1 h2,h4⟩
 | optr k m i off=>obtain ⟨g,n,cap,h3,h4⟩:=h;exact ⟨g,n,cap,(hρ k (by simp [D.has])).trans h3,h4⟩
 | ocut k=>obtain ⟨A,n,cap,c,h3,h4⟩:=h;exact ⟨A,n,cap,c,(hρ k (by simp [D.has])).trans h3,h4⟩
 | osl k m lo hi fl=>obtain ⟨g,n,cap,c,A,h3,h4⟩:=h;exact ⟨g,n,cap,c,A,(hρ k (by simp [D.has])).trans h3,h4⟩
 | clo f ks=>obtain ⟨vs,e,h3⟩:=h;exact ⟨vs,e,h3.imp fun j u hj (hu:u=ρ j)=>hu.trans (hρ j (by simp only [D.has];exact List.any_eq_true.2 ⟨j,hj,Nat.beq_refl j⟩)).symm⟩
theorem V0.rep.mono {d:V0} {v:Value} (h:d.rep w F ρ v) (hF:∀b,F b→F' b∧w'.heap[b]? = w.heap[b]?) (hρ:∀k,d.has k=true→ρ' k=ρ k):d.rep w' F' ρ' v:=by
 cases d with
 | one d=>exact D.rep.mono (d:=d) h hF hρ
 | ag l =>
  obtain ⟨cs,e,h1⟩:=h;exact ⟨cs,e,h1.imp fun a b ha (h2:D.rep w F ρ a b)=>D.rep.mono h2 hF fun k hk=>hρ k (by simp only [V0.has,List.any_eq_true];exact ⟨a,ha,hk⟩)⟩
theorem TV.rep.mono {d:TV} {v:Value} (h:d.rep w F ρ v) (hF:∀b,F b→F' b∧w'.heap[b]? = w.heap[b]?) (hρ:∀k,d.has k=true→ρ' k=ρ k):d.rep w' F' ρ' v:=by
 cases d with
 | v d=>exact V0.rep.mono (d:=d) h hF hρ
 | tup l =>
  obtain ⟨cs,e,h1⟩:=h;exact ⟨cs,e,h1.imp fun a b ha (h2:V0.rep w F ρ a b)=>V0.rep.mono h2 hF fun k hk=>hρ k (by simp only [TV.has,List.any_eq_true];exact ⟨a,ha,hk⟩)⟩
theorem uF {e:TypeId} {n m:Nat} {v:Value} {xs:List Value} (h:w.ownsRow 0 e n v m xs) (hb:∀g,kb v=some g→w'.heap[g]? = w.heap[g]?):w'.ownsRow 0 e n v m xs:=by
 refine ⟨h.1,?_⟩;rcases h.2 with hn|⟨g,cap,cur,hv,hg,hh,rest⟩
 ·exact .inl hn
 ·exact .inr ⟨g,cap,cur,hv,hg,by rw [hb g (by rw [hv];rfl)];exact hh,rest⟩
theorem Box.rep.mono {d:Box} {v:Value} (h:d.rep w F ρ v) (hb:∀g,kb v=some g→w'.heap[g]? = w.heap[g]?) (hF:∀b,F b→F' b∧w'.heap[b]? = w.heap[b]?) (hρ:∀k,d.has k=true→ρ' k=ρ k):d.rep w' F' ρ' v:=by
 cases d with
 | box t cs =>
  obtain ⟨g,vs,e,h1,h2,h3⟩:=h;exact ⟨g,vs,e,(hb g (by rw [e];rfl)).trans h1,h2.imp fun a b ha (h4:D.rep w F ρ a b)=>D.rep.mono h4 hF fun k hk=>hρ k (by simp only [Box.has,List.any_eq_true];exact ⟨a,ha,hk⟩),h3⟩
 | arr e E l =>
  obtain ⟨xs,h1,h2⟩:=h;exact ⟨xs,uF h1 hb,h2.same (fun b hb2=>(hF b hb2).2) fun b hb2=>(hF b hb2).1⟩
 | mp l =>
  obtain ⟨g,e,h1⟩:=h;exact ⟨g,e,(hb g (by rw [e];rfl)).trans h1⟩
 | it k n seen =>
  obtain ⟨g,m,e,h1,h2⟩:=h;exact ⟨g,m,e,(hρ k (by simp [Box.has])).trans h1,(hb g (by rw [e];rfl)).trans h2⟩
theorem Box.lt {d:Box} {v:Value} {g:Nat} (h:d.rep w F ρ v) (hg:kb v=some g):g<w.heap.size:=by
 cases d with
 | box t cs =>
  obtain ⟨g',vs,e,h1,_⟩:=h;subst e;injection hg with hg;subst hg;exact h1.lt
 | arr e E l =>
  obtain ⟨xs,h1,h2⟩:=h;rcases h1.2 with ⟨hv,hn⟩|⟨g',cap,cur,hv,_,hh,_⟩
  ·subst hv;cases hg
  ·subst hv;injection hg with hg;subst hg;exact (Array.getElem?_eq_some_iff.1 hh).1
 | mp l =>
  obtain ⟨g',e,h1⟩:=h;subst e;injection hg with hg;subst hg;exact (Array.getElem?_eq_some_iff.1 h1).1
 | it k n seen =>
  obtain ⟨g',m,e,_,h1⟩:=h;subst e;injection hg with hg;subst hg;exact (Array.getElem?_eq_some_iff.1 h1).1
end
def PinW (w:World) (X:Nat→Prop):Prop:=Tog w∧¬X 1
theorem PinW.sub {w w':World} {X X':Nat→Prop} (h:PinW w X) (hw:∀b,b<w.heap.size→¬X b→w'.heap[b]? = w.heap[b]?) (hX:∀b,b<w.heap.size→X' b→X b):PinW w' X':=by
 have hb:1<w.heap.size:=World.block_lt_of_cell? w _ (h.1.at_ 0 0 (by decide) (by decide));exact ⟨⟨fun i j hi hj=>(World.cell?_of_block (a:=⟨1,i*5+j,none⟩) (hw _ hb h.2)).trans (h.1.at_ i j hi hj)⟩,fun hx=>h.2 (hX _ hb hx)⟩
structure Ctx where
 w0:World
 S:Nat→Prop
 X:Nat→Prop
 nt:Nat
 K:List Nat
 ρ0:Nat→Value
 hS:∀b,S b→b<w0.heap.size
 hX:∀b,X b→S b
 hpin:PinW w0 X:=by exact trivial
 dfr:List Deferred:=[]
def Fz (c:Ctx) (h:Nat→Option Box) (ρ:Nat→Value) (w:World) (b:Nat):Prop :=
 (c.S b∨c.w0.heap.size≤b)∧b<w.heap.size∧∀k bx,h k=some bx→kb (ρ k)≠some b
structure Frx (w w':World) (M:Nat→Prop):Prop where
 os:w'.os=w.os
 tape:w'.tape=w.tape
 output:w'.output=w.output
 size:w.heap.size≤w'.heap.size
 keep:∀b,b<w.heap.size→¬M b→w'.heap[b]? = w.heap[b]?
theorem Frx.refl (w:World) (M:Nat→Prop):Frx w w M:=⟨rfl,rfl,rfl,Nat.le_refl _,fun _ _ _=>rfl⟩
theorem Frx.drew {w w':World} {M:Nat→Prop} (h:Frx w w' M):Frx w { w' with drawn:=w'.drawn+1 } M:=⟨h.os,h.tape,h.output,h.size,h.keep⟩
theorem Frx.alloc (w:World) (o:Obj) (M:Nat→Prop):Frx w (w.alloc o) M:=⟨rfl,rfl,rfl,by simp,fun b hb _=>Below.heap_alloc w o b hb⟩
theorem Frx.below {w w':World} {M:Nat→Prop} (h:Below w.heap.size w w'):Frx w w' M:=⟨h.os,h.tape,h.output,h.size,fun b hb _=>h.block b hb⟩
structure Mst.Wf (s:Mst):Prop where
 h:∀k,s.f k=true→s.h k=none
 t:∀k t,s.f k=true→(s.t t).has k=false
 b:∀k k' b,s.f k=true→s.h k'=some b→b.has k=false
structure Rp (c:Ctx) (s:Mst) (ρ:Nat→Value) (a:Act) (w:World):Prop where
 dfr:a.defers=c.dfr
 siz:a.tmps.size=c.nt
 frm:Frx c.w0 w c.X
 tmp:∀t,(s.t t).rep w (Fz c s.h ρ w) ρ (a.tmps.getD t undef)
 hp:∀k b,s.h k=some b→b.rep w (Fz c s.h ρ w) ρ (ρ k)
 inb:∀k b g,s.h k=some b→kb (ρ k)=some g→c.X g∨c.w0.heap.size≤g
 dis:∀k k' b b' g,s.h k=some b→s.h k'=some b'→kb (ρ k)=some g→kb (ρ k')=some g→k=k'
 ent:∀k,k∈c.K→ρ k=c.ρ0 k∧s.f k=false
 wf:s.Wf
section
variable {c:Ctx} {s s':Mst} {ρ ρ':Nat→Value} {a a':Act} {w w':World} {M:Nat→Prop}
theorem Rp.pin (h:Rp c s ρ a w):PinW w fun _=>False:=c.hpin.sub h.frm.keep fun _ _ h=>h.elim
theorem Rp.ltb (h:Rp c s ρ a w) {k:Nat} {b:Box} {g:Nat} (hk:s.h k=some b) (hg:kb (ρ k)=some g):g<w.heap.size:=Box.lt (h.hp k b hk) hg
structure Stp (c:Ctx) (s s':Mst) (ρ ρ':Nat→Value) (w w':World) (M:Nat→Prop):Prop where
 ch:∀k,¬M k→s'.h k=s.h k
 pl:∀k,s.f k=false→ρ' k=ρ k
 fr:∀k,s'.f k=true→s.f k=true
 fw:Frx w w' fun b=>∃k bx,M k∧s.h k=some bx∧kb (ρ k)=some b
 nb:∀k bx g,M k→s'.h k=some bx→kb (ρ' k)=some g→g<w'.heap.size∧(w.heap.size≤g∨∃k0 b0,M k0∧s.h k0=some b0∧kb (ρ k0)=some g)
 ds:∀k k' b b' g,M k→M k'→s'.h k=some b→s'.h k'=some b'→kb (ρ' k)=some g→kb (ρ' k')=some g→k=k'
theorem Rp.place (h:Rp c s ρ a w) (p:Stp c s s' ρ ρ' w w' M) {k:Nat} {b:Box} (hk:s.h k=some b):ρ' k=ρ k:=by
 refine p.pl k ?_;cases hf:s.f k with
 | false=>rfl
 | true=>rw [h.wf.h k hf] at hk;cases hk
theorem Rp.fz (h:Rp c s ρ a w) (p:Stp c s s' ρ ρ' w w' M):∀b,Fz c s.h ρ w b→Fz c s'.h ρ' w' b∧w'.heap[b]? = w.heap[b]?:=by
 intro b ⟨h1,h2,h3⟩;refine ⟨⟨h1,Nat.lt_of_lt_of_le h2 p.fw.size,fun k bx hk hg=>?_⟩,p.fw.keep b h2 fun ⟨k,bx,_,hk,hg⟩=>h3 k bx hk hg⟩;by_cases hm:M k
 ·rcases (p.nb k bx b hm hk hg).2 with h4|⟨k0,b0,_,hk0,hg0⟩
  ·omega
  ·exact h3 k0 b0 hk0 hg0
 ·rw [p.ch k hm] at hk;rw [h.place p hk] at hg;exact h3 k bx hk hg
theorem Rp.old (h:Rp c s ρ a w) (p:Stp c s s' ρ ρ' w w' M) {d:TV} {v:Value} (hd:d.rep w (Fz c s.h ρ w) ρ v) (hk:∀k,s.f k=true→d.has k=false):d.rep w' (Fz c s'.h ρ' w') ρ' v :=
 hd.mono (h.fz p) fun k hh=>p.pl k (by
  cases hf:s.f k with
  | false=>rfl
  | true=>rw [hk k hf] at hh;cases hh)
theorem Rp.step (h:Rp c s ρ a w) (p:Stp c s s' ρ ρ' w w' M) (hd:a'.defers=c.dfr) (hsz:a'.tmps.size=c.nt) (hwf:s'.Wf) (hfr:∀k,k∈c.K→s'.f k=false)
  (hnew:∀k bx,M k→s'.h k=some bx→bx.rep w' (Fz c s'.h ρ' w') ρ' (ρ' k))
  (htmp:∀t,(s'.t t).rep w' (Fz c s'.h ρ' w') ρ' (a'.tmps.getD t undef)):Rp c s' ρ' a' w' where
 dfr:=hd
 siz:=hsz
 frm:=⟨p.fw.os.trans h.frm.os,p.fw.tape.trans h.frm.tape,p.fw.output.trans h.frm.output,Nat.le_trans h.frm.size p.fw.size,fun b hb hx=>by
  rw [p.fw.keep b (Nat.lt_of_lt_of_le hb h.frm.size) fun ⟨k,bx,_,hk,hg⟩=>?_,h.frm.keep b hb hx];rcases h.inb k bx b hk hg with h1|h1
  ·exact hx h1
  ·omega⟩
 tmp:=htmp
 hp:=fun k b hk=>by
  by_cases hm:M k
  ·exact hnew k b hm hk
  ·rw [p.ch k hm] at hk;have hpl:=h.place p hk;rw [hpl];refine (h.hp k b hk).mono (fun g hg=>p.fw.keep g (h.ltb hk hg) fun ⟨k',b',hm',hk',hg'⟩=>hm (by rw [h.dis k k' b b' g hk hk' hg hg'];exact hm')) (h.fz p) fun k' hh=>p.pl k' ?_;cases hf:s.f k' with
   | false=>rfl
   | true=>rw [h.wf.b k' k b hf hk] at hh;cases hh
 inb:=fun k b g hk hg=>by
  by_cases hm:M k
  ·rcases (p.nb k b g hm hk hg).2 with h1|⟨k0,b0,_,hk0,hg0⟩
   ·exact .inr (Nat.le_trans h.frm.size h1)
   ·exact h.inb k0 b0 g hk0 hg0
  ·rw [p.ch k hm] at hk;rw [h.place p hk] at hg;exact h.inb k b g hk hg
 dis:=by
  have mix:∀k k' b b' g,M k→¬M k'→s'.h k=some b→s'.h k'=some b'→kb (ρ' k)=some g→kb (ρ' k')=some g→False:=fun k k' b b' g hm hm' hk hk' hg hg'=>by
   rw [p.ch k' hm'] at hk';rw [h.place p hk'] at hg';rcases (p.nb k b g hm hk hg).2 with h1|⟨k0,b0,hm0,hk0,hg0⟩
   ·have:=h.ltb hk' hg';omega
   ·exact hm' (by rw [←h.dis k0 k' b0 b' g hk0 hk' hg0 hg'];exact hm0)
  intro k k' b b' g hk hk' hg hg';by_cases hm:M k
  ·by_cases hm':M k'
   ·exact p.ds k k' b b' g hm hm' hk hk' hg hg'
   ·exact (mix k k' b b' g hm hm' hk hk' hg hg').elim
  ·by_cases hm':M k'
   ·exact (mix k' k b' b g hm' hm hk' hk hg' hg).elim
   ·rw [p.ch k hm] at hk;rw [p.ch k' hm'] at hk';rw [h.place p hk] at hg;rw [h.place p hk'] at hg';exact h.dis k k' b b' g hk hk' hg hg'
 ent:=fun k hk=>⟨(p.pl k (h.ent k hk).2).trans (h.ent k hk).1,hfr k hk⟩
 wf:=hwf
end
structure Mef:Type 1 where
 d:TV
 hs:List (Nat×Option Box)
 us:List Nat
def aK:List Nat→Nat→Bool
 | [],_=>false
 | k :: r,n=>k.beq n || aK r n
def aA:List (Nat×Option Box)→Nat→Bool
 | [],_=>false
 | (k,_) :: r,n=>k.beq n || aA r n
def hput:List (Nat×Option Box)→(Nat→Option Box)→Nat→Option Box
 | [],h=>h
 | (k,b) :: r,h=>fun n=>bif k.beq n then b else hput r h n
def jZ:Option Nat→TV→(Nat→TV)→Nat→TV
 | none,_,t=>t
 | some k,d,t=>fun n=>bif k.beq n then d else t n
def Mst.app (s:Mst) (dst:Option Nat) (e:Mef):Mst:={ t:=jZ dst e.d s.t,h:=hput e.hs s.h,f:=fun n=>s.f n && !aK e.us n }
abbrev TV.c (d:D):TV:=.v (.one d)
abbrev TV.i (n:Int):TV:=.v (.one (.sc (.int .i64 n)))
abbrev TV.b (x:Bool):TV:=.v (.one (.sc (.bool x)))
def uG:Value→TV
 | .agg cs=>.v (.ag (cs.toList.map .sc))
 | v=>.v (.one (.sc v))
def Mst.ev (s:Mst):Operand→TV
 | .tmp t=>s.t t
 | .const v=>uG v
 | .global g=>.v (.one (.sc (.pointer (some ⟨g,0,none⟩))))
 | .func f=>.v (.one (.sc (.func (.func f) #[] #[])))
theorem bN:∀{l:List (Nat×Option Box)} {h:Nat→Option Box} {n:Nat},aA l n=false→hput l h n=h n
 | [],_,_,_=>rfl
 | (k,b) :: r,h,n,e=>by
  simp only [aA,Bool.or_eq_false_iff] at e;simp only [hput,e.1,cond_false];exact bN e.2
theorem uH:∀{l:List (Nat×Option Box)} {h h':Nat→Option Box} {n:Nat},aA l n=true→hput l h n=hput l h' n
 | [],_,_,_,e=>by simp [aA] at e
 | (k,b) :: r,h,h',n,e=>by
  simp only [hput];cases hk:k.beq n with
  | true=>rfl
  | false =>
   simp only [aA,hk,Bool.false_or] at e;simp only [cond_false];exact uH e
theorem A4 {l m:List (Nat×Option Box)} {h:Nat→Option Box} (hd:∀n,aA l n=true→aA m n=false):hput l (hput m h)=hput m (hput l h):=by
 funext n
 cases hl:aA l n with
 | true=>rw [bN (hd n hl),uH hl]
 | false =>
  rw [bN hl];cases hm:aA m n with
  | true=>exact uH hm
  | false=>rw [bN hm,bN hm,bN hl]
theorem A5 {a b:Option Nat} {x y:TV} {t:Nat→TV} (h:∀d,a=some d→b≠some d):jZ a x (jZ b y t)=jZ b y (jZ a x t):=by
 cases a with
 | none=>rfl
 | some d =>
  cases b with
  | none=>rfl
  | some e =>
   have hne:d≠e:=fun he=>h d rfl (he▸rfl);funext n
   simp only [jZ];cases h1:d.beq n with
   | false=>rfl
   | true =>
    have:e.beq n=false:=by
     cases h2:e.beq n with
     | false=>rfl
     | true=>exact absurd ((Nat.eq_of_beq_eq_true h1).trans (Nat.eq_of_beq_eq_true h2).symm) hne
    simp [this]
theorem uI {a:Option Nat} {x:TV} {t:Nat→TV} {n:Nat} (h:a≠some n):jZ a x t n=t n:=by
 cases a with
 | none=>rfl
 | some d =>
  simp only [jZ];cases h1:d.beq n with
  | false=>rfl
  | true=>exact absurd (by rw [Nat.eq_of_beq_eq_true h1]) h
theorem Mst.app_comm {s:Mst} {a b:Option Nat} {x y:Mef} (h:∀d,a=some d→b≠some d) (hd:∀n,aA x.hs n=true→aA y.hs n=false):(s.app a x).app b y=(s.app b y).app a x:=by
 simp only [Mst.app,Mst.mk.injEq];refine ⟨(A5 h).symm,(A4 hd).symm,?_⟩;funext n
 cases s.f n <;> cases aK x.us n <;> cases aK y.us n <;> rfl
section
variable {c:Ctx} {s st:Mst} {ρ:Nat→Value} {a:Act} {w:World} {P:Program}
theorem All2.scs {w:World} {F:Nat→Prop} {ρ:Nat→Value}:∀(l:List Value),All2 (D.rep w F ρ) (l.map .sc) l
 | []=>trivial
 | x :: l=>⟨rfl,All2.scs l⟩
theorem Rp.ev (h:Rp c s ρ a w) (x:Operand):(s.ev x).rep w (Fz c s.h ρ w) ρ (a.eval x):=by
 cases x with
 | tmp t=>exact h.tmp t
 | const v =>
  cases v with
  | agg cs=>exact ⟨cs.toList,by simp [Act.eval],All2.scs _⟩
  | _=>exact rfl
 | global g=>exact rfl
 | func f=>exact rfl
theorem Rp.drew (h:Rp c s ρ a w):Rp c s ρ a { w with drawn:=w.drawn+1 } where
 dfr:=h.dfr
 siz:=h.siz
 frm:=⟨h.frm.os,h.frm.tape,h.frm.output,h.frm.size,h.frm.keep⟩
 tmp:=fun t=>(h.tmp t).mono (fun b hb=>⟨hb,rfl⟩) fun _ _=>rfl
 hp:=fun k b hk=>(h.hp k b hk).mono (fun _ _=>rfl) (fun b hb=>⟨hb,rfl⟩) fun _ _=>rfl
 inb:=h.inb
 dis:=h.dis
 ent:=h.ent
 wf:=h.wf
def LOp (P:Program) (o:Oper) (s:Mst) (R:List Nat) (e:Mef):Prop :=
 ∀(c:Ctx) (st:Mst) (ρ:Nat→Value) (a:Act) (w:World),Rp c st ρ a w→(∀x,x∈o.op.operands→st.ev x=s.ev x)→(∀k,aK R k=true→st.h k=s.h k)→(∀k,aK e.us k=true→st.f k=true)→(∀d,o.dst=some d→d<c.nt)→
  o.wp P a w (fun a' w'=>∃ρ',Rp c (st.app o.dst e) ρ' a' w') fun _ _ _=>False
theorem Oper.wp_post {o:Oper} {a:Act} {w:World} {K K':Act→World→Prop} {Q:Exit→Act→World→Prop} (h:o.wp P a w K fun _ _ _=>False) (hK:∀a w,K a w→K' a w):o.wp P a w K' Q:=by
 unfold Oper.wp at *
 generalize (execOp a.eval o).run P w=r at *
 cases r with
 | ok n w' =>
  cases n <;> simp only [Oper.upon] at h ⊢ <;>
   first|exact hK _ _ h|exact Calls.mono h (fun e w'' he=>by cases e <;> first|exact hK _ _ he|exact he.elim|(obtain ⟨_,_,hf⟩:=he;exact hf.elim))|exact Rows.mono h (fun _ _ he=>hK _ _ he)
 | halt x w'=>cases x <;> simp only [Oper.upon] at h
def Mst.gd (s:Mst) (ops:Array Oper) (o:Oper):Option Bool :=
 match o.guard with
 | none=>some true
 | some (j,want) =>
  match ((ops[j]?).bind (·.dst)).map s.t with
  | some (.v (.one (.sc (.bool b))))=>some (b == want)
  | some (.v (.one (.sc (.tuple _))))=>some false
  | _=>none
theorem Rp.gd {ops:Array Oper} {o:Oper} {g:Bool} (h:Rp c s ρ a w) (hg:s.gd ops o=some g):Region.wanted o (yielded ops a.tmps)=g:=by
 unfold Mst.gd at hg;unfold Region.wanted;split at hg
 ·rename_i h1
  rw [h1];exact Option.some.inj hg
 ·rename_i j want h1
  rw [h1];dsimp only;unfold yielded;cases hd:(ops[j]?).bind (·.dst) with
  | none=>rw [hd] at hg;simp at hg
  | some t =>
   rw [hd] at hg;simp only [Option.map_some,Option.bind_some] at hg ⊢;have ht:=h.tmp t;generalize s.t t=d at *
   split at hg
   ·rename_i b hb
    injection hb with hb;subst hb;have h2:a.tmps.getD t undef = .bool b:=ht;have h3:a.tmps[t]? = some (.bool b):=by
     rw [Array.getD_eq_getD_getElem?] at h2;cases h4:a.tmps[t]? with
     | none=>rw [h4] at h2;simp [undef] at h2
     | some v=>rw [h4] at h2;simp at h2;rw [h2]
    rw [h3];have hg:=Option.some.inj hg;rw [←hg];cases b <;> cases want <;> rfl
   ·rename_i vs hb
    injection hb with hb;subst hb;have h2:a.tmps.getD t undef = .tuple vs:=ht;rw [Array.getD_eq_getD_getElem?] at h2;have hg:=Option.some.inj hg;rw [←hg];cases h4:a.tmps[t]? with
    | none=>rfl
    | some v=>rw [h4] at h2;simp at h2;subst h2;rfl
   ·cases hg
def DW (P:Program) (ops:Array Oper):List Oper→List (List Nat×List Nat)→Mst→(Mst→Prop)→Prop
 | [],_,s,K=>K s
 | o :: r,fps,s,K=>∃R W fps',fps=(R,W) :: fps'∧∃g,s.gd ops o=some g∧
   (g=true→∃e,(LOp P o s R e∧(∀k,aA e.hs k=true→aK W k=true)∧∀k,aK e.us k=true→s.f k=true)∧DW P ops r fps' (s.app o.dst e) K)∧
   (g=false→DW P ops r fps' (s.app o.dst ⟨.c (.sc undef),[],[]⟩) K)
def ie (nt:Nat) (l:List Oper):Bool:=l.all fun o=>match o.dst with|some d=>Nat.blt d nt|none=>true
theorem tq {nt:Nat} {l:List Oper} (h:ie nt l=true) {o:Oper} (ho:o∈l) {d:Nat} (hd:o.dst=some d):d<nt:=by
 have:=List.all_eq_true.1 h o ho;rw [hd] at this;simpa using this
theorem Rp.put_any (h:Rp c s ρ a w) (dst:Option Nat):Rp c (s.app dst ⟨.c (.sc undef),[],[]⟩) ρ (a.put dst undef) w where
 dfr:=by cases dst <;> exact h.dfr
 siz:=by cases dst <;> simp [Act.put,h.siz]
 frm:=h.frm
 tmp:=fun t=>by
  cases dst with
  | none=>exact h.tmp t
  | some d =>
   simp only [Mst.app,jZ];by_cases e:d=t
   ·subst e;simp only [Nat.beq_refl,cond_true];show (a.tmps.setIfInBounds d undef).getD d undef=undef;rw [Array.getD_eq_getD_getElem?,Array.getElem?_setIfInBounds];simp only [if_true];split <;> rfl
   ·have:d.beq t=false:=by
     cases h2:d.beq t with
     | false=>rfl
     | true=>exact absurd (Nat.eq_of_beq_eq_true h2) e
    simp only [this,cond_false,Act.put,Array.getD_eq_getD_getElem?,Array.getElem?_setIfInBounds_ne e];have:=h.tmp t
    rwa [Array.getD_eq_getD_getElem?] at this
 hp:=h.hp
 inb:=h.inb
 dis:=h.dis
 ent:=fun k hk=>⟨(h.ent k hk).1,by simp [Mst.app,aK,(h.ent k hk).2]⟩
 wf:=⟨fun k hk=>h.wf.h k (by simpa [Mst.app,aK] using hk),fun k t hk=>by
   have hk':s.f k=true:=by simpa [Mst.app,aK] using hk
   cases dst with
   | none=>exact h.wf.t k t hk'
   | some d =>
    simp only [Mst.app,jZ];cases d.beq t with
    | true=>rfl
    | false=>exact h.wf.t k t hk',fun k k' b hk hb=>h.wf.b k k' b (by simpa [Mst.app,aK] using hk) hb⟩
def AW (P:Program) (nt:Nat) (K:List Nat) (code:Code) (Q:Exit→Mst→Prop) (s:Mst):Prop :=
 ∀(c:Ctx) (ρ:Nat→Value) (a:Act) (w:World),c.nt=nt→c.K=K→Rp c s ρ a w→code.wp P (fun e a' w'=>∃s' ρ',Q e s'∧Rp c s' ρ' a' w') a w
theorem jx {ops:Array Oper} {Q:Exit→Act→World→Prop} (c:Ctx):∀(l:List Oper) (fps:List (List Nat×List Nat)) (s:Mst) (K:Mst→Prop),ie c.nt l=true→DW P ops l fps s K→(∀s' ρ' a' w',K s'→Rp c s' ρ' a' w'→Q .normal a' w')→
  ∀(ρ:Nat→Value) (a:Act) (w:World),Rp c s ρ a w→wpList P ops Q l a w
 | [],_,s,K,_,h,hQ,ρ,a,w,hr=>hQ s ρ a w h hr
 | o :: l,fps,s,K,hnt,h,hQ,ρ,a,w,hr=>by
  obtain ⟨R,W,fps',_,g,hg,h1,h2⟩:=h;have hnt':ie c.nt l=true:=by simp [ie] at hnt ⊢;exact hnt.2
  refine wpList_step fun K' hK'=>?_;rw [hr.gd hg];cases g with
  | true =>
   obtain ⟨e,⟨he,hkw,hu⟩,hn⟩:=h1 rfl;rw [if_pos rfl];have h3:=he c s ρ a w hr (fun _ _=>rfl) (fun _ _=>rfl) hu (fun d hd=>tq hnt (by simp) hd);refine Oper.wp_post h3 ?_;rintro a' w' ⟨ρ',hr'⟩;exact hK' _ _ (jx c l fps' _ K hnt' hn hQ ρ' a' w' hr')
  | false =>
   rw [if_neg (by simp)];exact hK' _ _ (jx c l fps' _ K hnt' (h2 rfl) hQ ρ _ w (hr.put_any o.dst))
theorem A6 {nt id:Nat} {Ks:List Nat} {l:List Oper} {fps:List (List Nat×List Nat)} {Q:Exit→Mst→Prop} (hnt:ie nt l=true) (h:DW P l.toArray l fps s fun s'=>Q .normal s'):AW P nt Ks (.region id l.toArray false) Q s:=by
 intro c ρ a w hc _ hr;subst hc;exact wp_region_lit (jx c l fps s _ hnt h (fun s' ρ' a' w' hq hr'=>⟨s',ρ',hq,hr'⟩) ρ a w hr)
end
section
variable {P:Program} {ops:Array Oper}
def Fl (ops:Array Oper):Nat→Nat→Nat→Bool
 | 0,_,_=>false
 | n+1,i,j=>match ops[j]? with
  | none=>false
  | some o=>o.after.any fun e=>Region.binds .any e && (e.on == i || Fl ops n i e.on)
def Jn (x y:List Nat×List Nat):Bool:=x.2.all (fun k=>!aK y.1 k && !aK y.2 k) && y.2.all fun k=>!aK x.1 k
def mJ (fps:List (List Nat×List Nat)) (i:Nat):List Nat×List Nat:=fps.getD i ([],[])
def uJ (ops:Array Oper) (fps:List (List Nat×List Nat)) (listed:Array Bool) (k:Nat):Bool :=
 match ops[k]? with
 | none=>false
 | some o=>(List.range ops.size).all fun j=>j == k || listed.getD j true || Fl ops 6 k j || (match ops[j]? with|none=>true|some o'=>o.apart ops o' && Jn (mJ fps k) (mJ fps j))
def nu (ops:Array Oper) (fps:List (List Nat×List Nat)):Nat→Nat→Array Bool→Bool
 | 0,_,listed=>(Region.ready .any ops listed).isEmpty
 | fuel+1,k,listed=>(Region.ready .any ops listed).contains k && uJ ops fps listed k && nu ops fps fuel (k+1) (listed.setIfInBounds k true)
def DC (ops:Array Oper) (listed:Array Bool):Prop:=∀(k:Nat) (o:Oper),ops[k]? = some o→listed.getD k false=true→∀e∈o.after,Region.binds .any e=true→listed.getD e.on false=true
theorem zA {l:Array Bool} {i:Nat} (h:l.getD i true=false):l.getD i false=false:=by
 rw [Array.getD_eq_getD_getElem?] at *
 cases h1:l[i]? with
 | none=>rfl
 | some b=>rw [h1] at h;exact h
theorem qD {listed:Array Bool} (hd:DC ops listed) {i:Nat} (hi:listed.getD i true=false):∀(n k:Nat),listed.getD k false=true→Fl ops n i k=false
 | 0,_,_=>rfl
 | n+1,k,hk=>by
  unfold Fl;cases ho:ops[k]? with
  | none=>rfl
  | some o =>
   dsimp only;rw [Array.any_eq_false'];intro e he;cases hb:Region.binds .any e with
   | false=>simp
   | true =>
    have h1:=hd k o ho hk e he hb;have h2:(e.on == i)=false:=by
     rw [beq_eq_false_iff_ne];intro heq;rw [heq,zA hi] at h1;cases h1
    simp [h2,qD hd hi n e.on h1]
theorem A7 {listed:Array Bool} (hd:DC ops listed) {i j:Nat} (hi:listed.getD i true=false) (hj:j∈Region.ready .any ops listed) (n:Nat):Fl ops n i j=false:=by
 cases n with
 | zero=>rfl
 | succ n =>
  obtain ⟨_,o,ho,hall⟩:=mem_ready.1 hj;unfold Fl;rw [ho];dsimp only;rw [Array.any_eq_false'];intro e he;cases hb:Region.binds .any e with
  | false=>simp
  | true =>
   have h1:=hall e he hb;have h2:(e.on == i)=false:=by
    rw [beq_eq_false_iff_ne];intro heq;rw [heq,zA hi] at h1;cases h1
   simp [h2,qD hd hi n e.on h1]
theorem DC.set {listed:Array Bool} (hd:DC ops listed) {i:Nat} (hi:i∈Region.ready .any ops listed):DC ops (listed.setIfInBounds i true):=by
 have up:∀k,listed.getD k false=true→(listed.setIfInBounds i true).getD k false=true:=fun k hk=>by
  rw [Array.getD_eq_getD_getElem?] at *
  rw [Array.getElem?_setIfInBounds];split
  ·rename_i h1
   subst h1;split
   ·rfl
   ·rename_i h2
    rw [Array.getElem?_eq_none (by omega)] at hk;exact hk
  ·exact hk
 intro k o ho hk e he hb;by_cases hki:i=k
 ·subst hki;obtain ⟨_,o',ho',hall⟩:=mem_ready.1 hi;rw [ho] at ho';injection ho' with ho';subst ho';exact up _ (hall e he hb)
 ·refine up _ (hd k o ho ?_ e he hb);rw [Array.getD_eq_getD_getElem?] at *
  rwa [Array.getElem?_setIfInBounds_ne hki] at hk
def Acts (P:Program) (ops:Array Oper) (o:Oper) (s:Mst) (R W:List Nat) (e:Mef):Prop :=
 (s.gd ops o=some true∧LOp P o s R e∧(∀k,aA e.hs k=true→aK W k=true)∧∀k,aK e.us k=true→s.f k=true)∨(s.gd ops o=some false∧e=⟨.c (.sc undef),[],[]⟩)
def Jy (P:Program) (ops:Array Oper) (fps:List (List Nat×List Nat)) (i:Nat) (K:Mst→Prop) (s:Mst):Prop :=
 match ops[i]? with
 | none=>K s
 | some o=>∃e,Acts P ops o s (mJ fps i).1 (mJ fps i).2 e∧K (s.app o.dst e)
theorem LOp.congr {o:Oper} {s s':Mst} {R:List Nat} {e:Mef} (h:LOp P o s R e) (he:∀x,x∈o.op.operands→s'.ev x=s.ev x) (hR:∀k,aK R k=true→s'.h k=s.h k):LOp P o s' R e :=
 fun c st ρ a w hr h1 h2 h3 h4=>h c st ρ a w hr (fun x hx=>(h1 x hx).trans (he x hx)) (fun k hk=>(h2 k hk).trans (hR k hk)) h3 h4
theorem wl {o:Oper} {s s':Mst} (h:∀t,t∈o.looksAt ops→s'.t t=s.t t):s'.gd ops o=s.gd ops o:=by
 unfold Mst.gd;cases hg:o.guard with
 | none=>rfl
 | some g =>
  obtain ⟨j,want⟩:=g;dsimp only;cases hd:(ops[j]?).bind (·.dst) with
  | none=>rfl
  | some t=>simp only [Option.map_some];rw [h t (by simp [Oper.looksAt,hg,hd])]
theorem CL {o:Oper} {s s':Mst} (h:∀t,t∈o.looksAt ops→s'.t t=s.t t) {x:Operand} (hx:x∈o.op.operands):s'.ev x=s.ev x:=by
 cases x with
 | tmp t=>exact h t (by simp [Oper.looksAt];exact .inl ⟨_,hx,rfl⟩)
 | _=>rfl
theorem Acts.congr {o:Oper} {s s':Mst} {R W:List Nat} {e:Mef} (h:Acts P ops o s R W e) (ht:∀t,t∈o.looksAt ops→s'.t t=s.t t) (hR:∀k,aK R k=true→s'.h k=s.h k) (hf:∀k,aK e.us k=true→s.f k=true→s'.f k=true):Acts P ops o s' R W e:=by
 rcases h with ⟨h1,h2,h3,h4⟩|⟨h1,h2⟩
 ·exact .inl ⟨(wl ht).trans h1,h2.congr (fun x hx=>CL ht hx) hR,h3,fun k hk=>hf k hk (h4 k hk)⟩
 ·exact .inr ⟨(wl ht).trans h1,h2⟩
theorem Acts.keys {o:Oper} {s:Mst} {R W:List Nat} {e:Mef} (h:Acts P ops o s R W e) {k:Nat} (hk:aA e.hs k=true):aK W k=true:=by
 rcases h with ⟨_,_,h3,_⟩|⟨_,rfl⟩
 ·exact h3 k hk
 ·simp [aA] at hk
theorem Acts.fr {o:Oper} {s:Mst} {R W:List Nat} {e:Mef} (h:Acts P ops o s R W e) {k:Nat} (hk:aK e.us k=true):s.f k=true:=by
 rcases h with ⟨_,_,_,h4⟩|⟨_,rfl⟩
 ·exact h4 k hk
 ·simp [aK] at hk
theorem jy {l:List Nat} {p:Nat→Bool} (h:l.all p=true):∀k,aK l k=true→p k=true:=by
 induction l with
 | nil=>intro k hk;simp [aK] at hk
 | cons x l ih =>
  intro k hk;simp only [List.all_cons,Bool.and_eq_true] at h;simp only [aK,Bool.or_eq_true] at hk;rcases hk with hk|hk
  ·rw [←Nat.eq_of_beq_eq_true hk];exact h.1
  ·exact ih h.2 k hk
theorem CM {x y:List Nat×List Nat} (h:Jn x y=true):(∀k,aK x.2 k=true→aK y.1 k=false∧aK y.2 k=false)∧∀k,aK y.2 k=true→aK x.1 k=false:=by
 simp only [Jn,Bool.and_eq_true] at h;refine ⟨fun k hk=>?_,fun k hk=>?_⟩
 ·have:=jy h.1 k hk;simpa using this
 ·have:=jy h.2 k hk;simpa using this
theorem Acts.swap {oi oj:Oper} {s:Mst} {fi fj:List Nat×List Nat} {ei ej:Mef} (hap:oi.apart ops oj=true) (hnc:Jn fi fj=true) (hi:Acts P ops oi s fi.1 fi.2 ei) (hj:Acts P ops oj (s.app oi.dst ei) fj.1 fj.2 ej) :
  Acts P ops oj s fj.1 fj.2 ej∧Acts P ops oi (s.app oj.dst ej) fi.1 fi.2 ei∧(s.app oj.dst ej).app oi.dst ei=(s.app oi.dst ei).app oj.dst ej:=by
 obtain ⟨h1,h2,h3⟩:=Oper.apart_spec hap;obtain ⟨n1,n2⟩:=CM hnc;have ki:∀k,aK fj.1 k=true→aA ei.hs k=false:=fun k hk=>by
  cases hh:aA ei.hs k with
  | false=>rfl
  | true=>rw [(n1 k (hi.keys hh)).1] at hk;cases hk
 have kj:∀k,aK fi.1 k=true→aA ej.hs k=false:=fun k hk=>by
  cases hh:aA ej.hs k with
  | false=>rfl
  | true=>rw [n2 k (hj.keys hh)] at hk;cases hk
 have kk:∀k,aA ei.hs k=true→aA ej.hs k=false:=fun k hk=>by
  cases hh:aA ej.hs k with
  | false=>rfl
  | true=>have:=(n1 k (hi.keys hk)).2;rw [hj.keys hh] at this;cases this
 refine ⟨hj.congr (fun t ht=>?_) (fun k hk=>?_) fun k _ hf=>?_,hi.congr (fun t ht=>?_) (fun k hk=>?_) fun k hk hf=>?_,(Mst.app_comm h2 kk).symm⟩
 ·exact (uI (fun e=>h1 t e ht)).symm
 ·exact (bN (ki k hk)).symm
 ·simp only [Mst.app,Bool.and_eq_true] at hf;exact hf.1
 ·exact uI (fun e=>h3 t e ht)
 ·exact bN (kj k hk)
 ·simp only [Mst.app,hf,Bool.true_and];cases hh:aK ej.us k with
  | false=>rfl
  | true =>
   have:=hj.fr hh;simp only [Mst.app,hk,Bool.not_true,Bool.and_false] at this;cases this
def qE (P:Program) (ops:Array Oper) (fps:List (List Nat×List Nat)) (K:Mst→Prop):Nat→Array Bool→Mst→Prop
 | 0,listed,s=>Region.ready .any ops listed=[]∧K s
 | fuel+1,listed,s=>(Region.ready .any ops listed=[]→K s)∧∀i∈Region.ready .any ops listed,Jy P ops fps i (qE P ops fps K fuel (listed.setIfInBounds i true)) s
theorem uL {fps:List (List Nat×List Nat)} {K:Mst→Prop} {i:Nat} {oi:Oper} {ei:Mef} (hi:ops[i]? = some oi) :
  ∀(fuel:Nat) (listed:Array Bool) (s:Mst),DC ops listed→
   (∀j oj,ops[j]? = some oj→j≠i→listed.getD j true=false→Fl ops 6 i j=false→oi.apart ops oj=true∧Jn (mJ fps i) (mJ fps j)=true)→
   i∈Region.ready .any ops listed→Acts P ops oi s (mJ fps i).1 (mJ fps i).2 ei→
   qE P ops fps K fuel (listed.setIfInBounds i true) (s.app oi.dst ei)→qE P ops fps K (fuel+1) listed s:=by
 intro fuel;induction fuel with
 | zero =>
  intro listed s hdc _ hr hy H;refine ⟨fun h=>(by rw [h] at hr;cases hr),fun j hj=>?_⟩;by_cases hji:j=i
  ·subst hji;unfold Jy;rw [hi];exact ⟨ei,hy,H⟩
  ·have:=ready_mono hj hji;rw [H.1] at this;cases this
 | succ fuel ih =>
  intro listed s hdc hfree hr hy H;refine ⟨fun h=>(by rw [h] at hr;cases hr),fun j hj=>?_⟩;by_cases hji:j=i
  ·subst hji;unfold Jy;rw [hi];exact ⟨ei,hy,H⟩
  ·have h1:=H.2 j (ready_mono hj hji);obtain ⟨hjun,oj,hoj,hall⟩:=mem_ready.1 hj;obtain ⟨hap,hnc⟩:=hfree j oj hoj hji hjun (A7 hdc (mem_ready.1 hr).1 hj 6);unfold Jy at h1 ⊢;rw [hoj] at h1 ⊢;obtain ⟨ej,hej,hK⟩:=h1;obtain ⟨a1,a2,a3⟩:=hy.swap hap hnc hej;refine ⟨ej,a1,ih (listed.setIfInBounds j true) _ (hdc.set hj) ?_ (ready_mono hr (Ne.symm hji)) a2 ?_⟩
   ·intro k ok hk hki hun hno;refine hfree k ok hk hki ?_ hno;by_cases hjk:j=k
    ·subst hjk;exact hjun
    ·rw [getD_set_ne true hjk] at hun;exact hun
   ·rw [Array.setIfInBounds_comm _ _ hji,a3];exact hK
theorem qF {fps:List (List Nat×List Nat)} {K:Mst→Prop}:∀(l:List Oper) (k:Nat) (listed:Array Bool) (s:Mst) (gps:List (List Nat×List Nat)),(∀j,l[j]? = ops[k+j]?)→(∀j,j<l.length→gps.getD j ([],[])=mJ fps (k+j))→DC ops listed→
  nu ops fps l.length k listed=true→DW P ops l gps s K→qE P ops fps K l.length listed s
 | [],_,_,_,_,_,_,_,hB,h=>⟨by simpa [nu] using hB,h⟩
 | o :: l,k,listed,s,gps,hl,hg,hdc,hB,h=>by
  have h0:ops[k]? = some o:=by simpa using (hl 0).symm
  simp only [List.length_cons,nu,Bool.and_eq_true] at hB;obtain ⟨⟨hr,hf⟩,hB'⟩:=hB;have hr':k∈Region.ready .any ops listed:=by simpa using hr
  obtain ⟨R,W,gps',rfl,g,hgd,ht,hff⟩:=h;have hfp:mJ fps k=(R,W):=by have:=hg 0 (by simp);simpa using this.symm
  have step:∃e,Acts P ops o s (mJ fps k).1 (mJ fps k).2 e∧DW P ops l gps' (s.app o.dst e) K:=by
   rw [hfp];cases g with
   | true=>obtain ⟨e,⟨h1,h2,h3⟩,h4⟩:=ht rfl;exact ⟨e,.inl ⟨hgd,h1,h2,h3⟩,h4⟩
   | false=>exact ⟨_,.inr ⟨hgd,rfl⟩,hff rfl⟩
  obtain ⟨e,hy,hK⟩:=step;refine uL h0 l.length listed s hdc ?_ hr' hy ?_
  ·intro j oj hj hji hun hno;unfold uJ at hf;rw [h0] at hf;dsimp only at hf;have hlt:j<ops.size:=(Array.getElem?_eq_some_iff.1 hj).1;have h5:=List.all_eq_true.1 hf j (by simpa using hlt);rw [hj] at h5;simp only [hun,hno,Bool.or_false,Bool.or_eq_true,Bool.and_eq_true,beq_iff_eq] at h5;rcases h5 with h5|h5
   ·exact absurd h5 hji
   ·exact h5
  ·exact qF l (k+1) _ _ gps' (fun j=>by have:=hl (j+1);simpa [Nat.add_assoc,Nat.add_comm 1 j] using this) (fun j hj=>by have:=hg (j+1) (by simpa using hj);simpa [Nat.add_assoc,Nat.add_comm 1 j] using this) (hdc.set hr') hB' hK
theorem jz {fps:List (List Nat×List Nat)} {K:Mst→Prop} {Q:Exit→Act→World→Prop} (c:Ctx) (hnt:ie c.nt ops.toList=true) (hQ:∀s' ρ' a' w',K s'→Rp c s' ρ' a' w'→Q .normal a' w') :
  ∀(fuel:Nat) (listed:Array Bool) (s:Mst) (ρ:Nat→Value) (a:Act) (w:World),Rp c s ρ a w→qE P ops fps K fuel listed s→wpAny P .any ops Q fuel listed a w
 | 0,_,s,ρ,a,w,hr,h=>⟨h.1,hQ _ _ _ _ h.2 hr⟩
 | fuel+1,listed,s,ρ,a,w,hr,h=>by
  refine ⟨fun h0=>hQ _ _ _ _ (h.1 h0) hr,fun i hi=>?_⟩;have h1:=h.2 i hi;unfold Jy at h1;unfold wpOp;split
  ·rename_i ho
   rw [ho] at h1;exact jz c hnt hQ fuel _ s ρ a w hr h1
  ·rename_i o ho
   rw [ho] at h1;obtain ⟨e,he,hK⟩:=h1;have hmem:o∈ops.toList:=by
    have:=(Array.getElem?_eq_some_iff.1 ho).2;rw [←this];simp
   rcases he with ⟨hg,hl,hk,hu⟩|⟨hg,rfl⟩
   ·rw [hr.gd hg,if_pos rfl];refine .inl (Oper.wp_post (hl c s ρ a w hr (fun _ _=>rfl) (fun _ _=>rfl) hu fun d hd=>tq hnt hmem hd) ?_);rintro a' w' ⟨ρ',hr'⟩;exact jz c hnt hQ fuel _ _ ρ' a' w' hr' hK
   ·rw [hr.gd hg,if_neg (by simp)];exact jz c hnt hQ fuel _ _ ρ _ w (hr.put_any o.dst) hK
theorem qG {nt id:Nat} {Ks:List Nat} {l:List Oper} {fps:List (List Nat×List Nat)} {Q:Exit→Mst→Prop} {s:Mst} (hm:P.follows .mixedOrders=true) (hnt:ie nt l=true) (h:DW P l.toArray l fps s fun s'=>Q .normal s') (hB:nu l.toArray fps l.length 0 (Array.replicate l.length false)=true):AW P nt Ks (.region id l.toArray true) Q s:=by
 intro c ρ a w hc _ hr;subst hc;refine wp_region_any hm ?_;have h1:=qF (P:=P) (ops:=l.toArray) (fps:=fps) l 0 (Array.replicate l.length false) s fps (by simp) (fun j _=>by simp [mJ]) (fun k o _ hk=>by
  exfalso;rw [Array.getD_eq_getD_getElem?,Array.getElem?_replicate] at hk;split at hk <;> simp at hk) hB h
 exact jz c (by simpa using hnt) (fun s' ρ' a' w' hq hr'=>⟨s',ρ',hq,hr'⟩) _ _ s ρ a _ hr.drew (by simpa using h1)
end
class TI (P:Program) (t:TypeId) (row:outParam Bool) (n:outParam Nat):Prop where
 u:∃d,P.underlying t=some d∧(match d with | .struct _ | .array _ _=>true|_=>false)=row
 s:(P.info? t).map (·.size)=some n
class FO (P:Program) (t:TypeId) (f:Nat) (off:outParam Nat) (ft:outParam TypeId):Prop where
 u:∃fs x i,P.underlying t=some (.struct fs)∧fs[f]? = some x∧x.offset=off∧x.type=ft∧P.info? ft=some i∧i.size≠0
class SE (P:Program) (t:TypeId) (e:outParam TypeId):Prop where
 u:P.underlying t=some (.slice e)
class TZ (P:Program) (t:TypeId) (zs:outParam (List Value)):Prop where
 z:∃i v,P.info? t=some i∧i.zero=some v∧v.cells=zs.toArray
 o:∀u∈zs,u.oneCell'=true
 n:(P.info? t).map (·.size)=some zs.length
class Dp {α:Type} (E:El α) where
 deep:α→List D
 get:∀{w:World} {F:Nat→Prop} {ρ:Nat→Value} {x:α} {cs:List Value},E.rep w F x cs→All2 (D.rep w F ρ) (deep x) cs
 put:∀{w:World} {F:Nat→Prop} {ρ:Nat→Value} {x:α} {cs:List Value},All2 (D.rep w F ρ) (deep x) cs→E.rep w F x cs
 nok:∀x k,(deep x).any (D.has k)=false
theorem cZ (b off j:Nat):(Addr.mk b off none).add j=⟨b,off+j,none⟩:=ew b off j
section
variable {P:Program} {o:Oper} {s:Mst} {R:List Nat} {d:TV}
theorem Oper.wp_value {a:Act} {w w':World} {v:Value} {K:Act→World→Prop} {Q:Exit→Act→World→Prop} (h:(execOp a.eval o).run P w = .ok (.value v) w') (hK:K (a.put o.dst v) w'):o.wp P a w K Q:=by
 unfold Oper.wp;rw [h];exact hK
theorem Oper.wp_skip {a:Act} {w w':World} {K:Act→World→Prop} {Q:Exit→Act→World→Prop} (h:(execOp a.eval o).run P w = .ok .skip w') (hK:K (a.put o.dst undef) w'):o.wp P a w K Q:=by
 unfold Oper.wp;rw [h];exact hK
theorem Fm {c:Ctx} {a:Act} {dst:Option Nat} {v:Value} (hs:a.tmps.size=c.nt) (hd:∀d,dst=some d→d<c.nt) (t:Nat) :
  (a.put dst v).tmps.getD t undef=if dst=some t then v else a.tmps.getD t undef:=by
 cases dst with
 | none=>simp [Act.put]
 | some d =>
  by_cases e:d=t
  ·subst e;have:d<a.tmps.size:=by rw [hs];exact hd d rfl
   simp [Act.put,Array.getD_eq_getD_getElem?,this]
  ·have h1:¬(some d=some t):=fun h=>e (by injection h);rw [if_neg h1];simp [Act.put,Array.getD_eq_getD_getElem?,Array.getElem?_setIfInBounds_ne e]
theorem CN {a:Act} {dst:Option Nat} {v:Value}:(a.put dst v).tmps.size=a.tmps.size:=by cases dst <;> simp [Act.put]
theorem yn {a:Act} {dst:Option Nat} {v:Value}:(a.put dst v).defers=a.defers:=by cases dst <;> rfl
theorem zB (dst:Option Nat) (d:TV) (t:Nat→TV) (n:Nat):jZ dst d t n=if dst=some n then d else t n:=by
 by_cases h:dst=some n
 ·subst h;simp [jZ]
 ·rw [if_neg h,uI h]
theorem uM {l:List (Nat×Option Box)} {h:Nat→Option Box} {k:Nat} (h1:h k=none) (h2:aA l k=false):hput l h k=none:=by rw [bN h2,h1]
theorem Rp.app {c:Ctx} {st:Mst} {ρ ρ':Nat→Value} {a:Act} {w w':World} {dst:Option Nat} {e:Mef} {v:Value} (hr:Rp c st ρ a w) (hdst:∀d,dst=some d→d<c.nt)
  (hu:∀k,aK e.us k=true→st.f k=true∧aA e.hs k=true)
  (hpl:∀k,aK e.us k=false→ρ' k=ρ k)
  (hex:∀k,aA e.hs k=true→aK e.us k=true∨st.f k=false)
  (hfw:Frx w w' fun b=>∃k bx,aA e.hs k=true∧st.h k=some bx∧kb (ρ k)=some b)
  (hnb:∀k bx g,aA e.hs k=true→hput e.hs st.h k=some bx→kb (ρ' k)=some g→g<w'.heap.size∧(w.heap.size≤g∨∃k0 b0,aA e.hs k0=true∧st.h k0=some b0∧kb (ρ k0)=some g))
  (hds:∀k k' b b' g,aA e.hs k=true→aA e.hs k'=true→hput e.hs st.h k=some b→hput e.hs st.h k'=some b'→kb (ρ' k)=some g→kb (ρ' k')=some g→k=k')
  (hkd:∀k,e.d.has k=true→aK e.us k=true∨st.f k=false)
  (hkb:∀k k' bx,aA e.hs k'=true→hput e.hs st.h k'=some bx→bx.has k=true→aK e.us k=true∨st.f k=false)
  (hnew:∀k bx,aA e.hs k=true→hput e.hs st.h k=some bx→bx.rep w' (Fz c (hput e.hs st.h) ρ' w') ρ' (ρ' k))
  (hv:e.d.rep w' (Fz c (hput e.hs st.h) ρ' w') ρ' v):Rp c (st.app dst e) ρ' (a.put dst v) w':=by
 have hst:Stp c st (st.app dst e) ρ ρ' w w' fun k=>aA e.hs k=true:=by
  refine ⟨fun k hk=>bN (by simpa using hk),fun k hk=>hpl k ?_,fun k hk=>?_,hfw,hnb,hds⟩
  ·cases h:aK e.us k with
   | false=>rfl
   | true=>rw [(hu k h).1] at hk;cases hk
  ·simp only [Mst.app,Bool.and_eq_true] at hk;exact hk.1
 have ff:∀k,(st.app dst e).f k=true→st.f k=true∧aK e.us k=false:=fun k hk=>by simpa [Mst.app] using hk
 refine hr.step hst ?_ ?_ ⟨fun k hk=>?_,fun k t hk=>?_,fun k k' b hk hb=>?_⟩ (fun k hk=>?_) hnew fun t=>?_
 ·rw [yn];exact hr.dfr
 ·rw [CN];exact hr.siz
 ·obtain ⟨h1,h2⟩:=ff k hk;refine uM (hr.wf.h k h1) ?_;cases h:aA e.hs k with
  | false=>rfl
  | true=>rcases hex k h with h3|h3 <;> simp_all
 ·obtain ⟨h1,h2⟩:=ff k hk;show (jZ dst e.d st.t t).has k=false;rw [zB];split
  ·cases h:e.d.has k with
   | false=>rfl
   | true=>rcases hkd k h with h3|h3 <;> simp_all
  ·exact hr.wf.t k t h1
 ·obtain ⟨h1,h2⟩:=ff k hk;have hb:hput e.hs st.h k'=some b:=hb;cases h:aA e.hs k' with
  | false=>rw [bN h] at hb;exact hr.wf.b k k' b h1 hb
  | true =>
   cases h4:b.has k with
   | false=>rfl
   | true=>rcases hkb k k' b h hb h4 with h3|h3 <;> simp_all
 ·simp [Mst.app,(hr.ent k hk).2]
 ·show (jZ dst e.d st.t t).rep _ _ _ _;rw [zB,Fm hr.siz hdst];by_cases h:dst=some t
  ·rw [if_pos h,if_pos h];exact hv
  ·rw [if_neg h,if_neg h];exact hr.old hst (hr.tmp t) fun k hk=>hr.wf.t k t hk
theorem bp (h:∀(c:Ctx) (st:Mst) (ρ:Nat→Value) (a:Act) (w:World),Rp c st ρ a w→(∀x,x∈o.op.operands→st.ev x=s.ev x)→(∀k,aK R k=true→st.h k=s.h k)→
  ∃v,(execOp a.eval o).run P w = .ok (.value v) w∧d.rep w (Fz c st.h ρ w) ρ v∧∀k,d.has k=true→st.f k=false):LOp P o s R ⟨d,[],[]⟩:=by
 intro c st ρ a w hr h1 h2 _ h4;obtain ⟨v,hv,hd,hk⟩:=h c st ρ a w hr h1 h2;refine Oper.wp_value hv ⟨ρ,hr.app (e:=⟨d,[],[]⟩) h4 (fun k hk=>by simp [aK] at hk) (fun _ _=>rfl) (fun k hk=>by simp [aA] at hk) (Frx.refl _ _) (fun k bx g hk=>by simp [aA] at hk) (fun k k' b b' g hk=>by simp [aA] at hk) (fun k h=>.inr (hk k h)) (fun k k' bx hk=>by simp [aA] at hk) (fun k bx hk=>by simp [aA] at hk) hd⟩
theorem Rp.nf {c:Ctx} {st:Mst} {ρ:Nat→Value} {a:Act} {w:World} (hr:Rp c st ρ a w) {x:Operand} {d:TV} (hx:st.ev x=d) {k:Nat} (hk:d.has k=true):st.f k=false:=by
 subst hx;cases hf:st.f k with
 | false=>rfl
 | true =>
  exfalso;cases x with
  | tmp t=>have:=hr.wf.t k t hf;simp only [Mst.ev] at hk;rw [this] at hk;cases hk
  | const v =>
   have:(uG v).has k=false:=by
    unfold uG;split
    ·simp [TV.has,V0.has,D.has]
    ·rfl
   simp only [Mst.ev] at hk;rw [this] at hk;cases hk
  | global g=>simp [Mst.ev,TV.has,V0.has,D.has] at hk
  | func f=>simp [Mst.ev,TV.has,V0.has,D.has] at hk
theorem Rp.nfb {c:Ctx} {st:Mst} {ρ:Nat→Value} {a:Act} {w:World} (hr:Rp c st ρ a w) {k':Nat} {b:Box} (hx:st.h k'=some b) {k:Nat} (hk:b.has k=true):st.f k=false:=by
 cases hf:st.f k with
 | false=>rfl
 | true=>rw [hr.wf.b k k' b hf hx] at hk;cases hk
theorem Rp.nfh {c:Ctx} {st:Mst} {ρ:Nat→Value} {a:Act} {w:World} (hr:Rp c st ρ a w) {k:Nat} {b:Box} (hx:st.h k=some b):st.f k=false:=by
 cases hf:st.f k with
 | false=>rfl
 | true=>rw [hr.wf.h k hf] at hx;cases hx
theorem pn {l:List D} {d:D} {i k:Nat} (h:l[i]? = some d) (hk:d.has k=true):l.any (D.has k)=true:=List.any_eq_true.2 ⟨d,List.mem_of_getElem? h,hk⟩
theorem po {l m:List D} {k:Nat} (h:∀d∈l,d∈m) (hk:l.any (D.has k)=true):m.any (D.has k)=true:=by
 obtain ⟨d,hd,h1⟩:=List.any_eq_true.1 hk;exact List.any_eq_true.2 ⟨d,h d hd,h1⟩
theorem uN {x:Operand} (ho:o.op = .move x∨o.op = .assign x) (hx:s.ev x=d):LOp P o s [] ⟨d,[],[]⟩ :=
 bp fun c st ρ a w hr h1 _=>by
  have he:=h1 x (by rcases ho with ho|ho <;> simp [ho,Op.operands]);rw [hx] at he;exact ⟨a.eval x,by unfold execOp;rcases ho with ho|ho <;> rw [ho] <;> rfl,by have:=hr.ev x;rwa [he] at this,fun k hk=>hr.nf he hk⟩
theorem CO {x:Operand} {y:V0} (ho:o.op = .move x) (hx:s.ev x = .v y):LOp P o s [] ⟨.v y,[],[]⟩:=uN (.inl ho) hx
theorem yo {x:Operand} {y:V0} (ho:o.op = .assign x) (hx:s.ev x = .v y):LOp P o s [] ⟨.v y,[],[]⟩:=uN (.inr ho) hx
theorem yp {x:Operand} {y:List V0} (ho:o.op = .move x) (hx:s.ev x = .tup y):LOp P o s [] ⟨.tup y,[],[]⟩:=uN (.inl ho) hx
theorem Fo {x:Operand} {u r:Value} (hop:o.op.operands = #[x]) (hx:s.ev x = .c (.sc u)) (h:∀(ev:Operand→Value) (w:World),ev x=u→(execOp ev o).run P w = .ok (.value r) w):LOp P o s [] ⟨.c (.sc r),[],[]⟩ :=
 bp fun c st ρ a w hr h1 _=>by
  have he:=h1 x (by simp [hop]);rw [hx] at he;have hu:a.eval x=u:=by have:=hr.ev x;rwa [he] at this
  exact ⟨r,h _ _ hu,rfl,fun k hk=>by simp [TV.has,V0.has,D.has] at hk⟩
theorem iC {x y:Operand} {u u' r:Value} (hop:o.op.operands = #[x,y]) (hx:s.ev x = .c (.sc u)) (hy:s.ev y = .c (.sc u')) (h:∀(ev:Operand→Value) (w:World),ev x=u→ev y=u'→(execOp ev o).run P w = .ok (.value r) w):LOp P o s [] ⟨.c (.sc r),[],[]⟩ :=
 bp fun c st ρ a w hr h1 _=>by
  have he:=h1 x (by simp [hop]);have he2:=h1 y (by simp [hop]);rw [hx] at he;rw [hy] at he2;have hu:a.eval x=u:=by have:=hr.ev x;rwa [he] at this
  have hu2:a.eval y=u':=by have:=hr.ev y;rwa [he2] at this
  exact ⟨r,h _ _ hu hu2,rfl,fun k hk=>by simp [TV.has,V0.has,D.has] at hk⟩
theorem kz {s':TypeId} {f off g p:Nat} {ft:TypeId} [I:FO P s' f off ft] (w:World):(Instr.fieldAt s' (.pointer (some ⟨g,p,none⟩)) f).run P w = .ok (.pointer (some ⟨g,p+off,none⟩)) w:=by
 obtain ⟨fs,x,i,h1,h2,h3,h4,h5,h6⟩:=I.u;subst h3;subst h4;simp [Instr.fieldAt,run_underlying h1,h2,Instr.sureAddr,fieldPlace,sizeOf,typeInfo,h5,h6,cZ]
theorem A8 {s':TypeId} {x:Operand} {f k p off:Nat} {ft:TypeId} (ho:o.op = .fieldAddr s' x f) (hx:s.ev x = .c (.ptr k p)) [FO P s' f off ft]:LOp P o s [] ⟨.c (.ptr k (p+off)),[],[]⟩ :=
 bp fun c st ρ a w hr h1 _=>by
  have he:=h1 x (by simp [ho,Op.operands]);rw [hx] at he;have hv:=hr.ev x;rw [he] at hv;obtain ⟨g,hg,hv⟩:=hv;refine ⟨_,by unfold execOp;rw [ho];simp only [hv,Sem.run_bind,kz,Result.andThen_ok,Sem.run_pure],⟨g,hg,rfl⟩,fun k' hk=>hr.nf (x:=x) he hk⟩
theorem wm {s':TypeId} {x:Operand} {f p off i:Nat} {ft:TypeId} {α:Type} {E:El α} {l:List α} (ho:o.op = .fieldAddr s' x f) (hx:s.ev x = .c (.eptr E l i p)) [FO P s' f off ft]:LOp P o s [] ⟨.c (.eptr E l i (p+off)),[],[]⟩ :=
 bp fun c st ρ a w hr h1 _=>by
  have he:=h1 x (by simp [ho,Op.operands]);rw [hx] at he;have hv:=hr.ev x;rw [he] at hv;obtain ⟨b,q,hv,h3,h4⟩:=hv;exact ⟨.pointer (some ⟨b,q+i*E.n+(p+off),none⟩),by unfold execOp;rw [ho];simp only [hv,Sem.run_bind,kz,Result.andThen_ok,Sem.run_pure,Nat.add_assoc],⟨b,q,rfl,h3,h4⟩,fun k' hk=>hr.nf (x:=x) he hk⟩
theorem wn {s':TypeId} {x:Operand} {f p off i k m:Nat} {ft:TypeId} (ho:o.op = .fieldAddr s' x f) (hx:s.ev x = .c (.optr k m i p)) [FO P s' f off ft]:LOp P o s [] ⟨.c (.optr k m i (p+off)),[],[]⟩ :=
 bp fun c st ρ a w hr h1 _=>by
  have he:=h1 x (by simp [ho,Op.operands]);rw [hx] at he;have hv:=hr.ev x;rw [he] at hv;obtain ⟨g,n,cap,h3,hv⟩:=hv;exact ⟨.pointer (some ⟨g,i*m+(p+off),none⟩),by unfold execOp;rw [ho];simp only [hv,Sem.run_bind,kz,Result.andThen_ok,Sem.run_pure,Nat.add_assoc],⟨g,n,cap,h3,rfl⟩,fun k' hk=>hr.nf (x:=x) he hk⟩
theorem iD {t e:TypeId} {row:Bool} {n g p:Nat} {kd:IntKind} [I:SE P t e] [J:TI P e row n] (w:World) (len cap i:Nat) (hi:i<len) :
  (Instr.indexAt t (.slice (some ⟨g,p,none⟩) len cap) (.int kd (i:Int))).run P w = .ok (.pointer (some ⟨g,p+i*n,none⟩)) w:=by
 obtain ⟨j,hj,hn⟩:∃j,P.info? e=some j∧j.size=n:=by
  have:=J.s;cases h:P.info? e with
  | none=>simp [h] at this
  | some j=>exact ⟨j,rfl,by simpa [h] using this⟩
 subst hn;simp [Instr.indexAt,asIntOf,run_underlying I.u,sizeOf,typeInfo,hj,hi,cZ]
theorem tt {t e:TypeId} {x y:Operand} {row:Bool} {n i:Nat} {kd:IntKind} {z:Int} {α:Type} {E:El α} {l:List α} (ho:o.op = .indexAddr t x y) (hx:s.ev x = .c (.sl E l)) (hy:s.ev y = .c (.sc (.int kd z))) [SE P t e] [TI P e row n] (hn:E.n=n) (hz:z=(i:Int)) (hi:i<l.length) :
  LOp P o s [] ⟨.c (.eptr E l i 0),[],[]⟩ :=
 bp fun c st ρ a w hr h1 _=>by
  have he:=h1 x (by simp [ho,Op.operands]);have he2:=h1 y (by simp [ho,Op.operands]);rw [hx] at he;rw [hy] at he2;have hv:=hr.ev x;rw [he] at hv;have hv2:=hr.ev y;rw [he2] at hv2;obtain ⟨A,cap,hv,hc,hR⟩:=hv;have hv2:a.eval y = .int kd z:=hv2;obtain ⟨xs,h3,h4⟩:=hR;obtain ⟨b,off,hA,hb,hcl⟩:=h4 (by omega);subst hA;subst hz;subst hn;refine ⟨.pointer (some ⟨b,off+i*E.n,none⟩),by unfold execOp;rw [ho];simp only [hv,hv2,Sem.run_bind,iD w l.length cap i hi,Result.andThen_ok,Sem.run_pure],⟨b,off,rfl,⟨xs,h3,h4⟩,hi⟩,fun k' hk=>by simp [TV.has,V0.has,D.has] at hk⟩
theorem eC {w:World} {F:Nat→Prop} {α:Type} {e:TypeId} {E:El α} {l:List α} {ρ:Nat→Value} {v:Value} (h:(Box.arr e E l).rep w F ρ v) :
  ∃A cap,v = .slice A l.length cap∧(l.length≤cap∧cap≤maxLen)∧(0<l.length→∃g xs,A=some ⟨g,0,none⟩∧g<w.heap.size∧Reps E w F l xs∧(∀j u,xs[j]? = some u→w.cell? ⟨g,j,none⟩=some u)∧∀j,j<xs.length→w.frozen? ⟨g,j,none⟩=false):=by
 obtain ⟨xs,h1,h2⟩:=h;rcases h1.2 with ⟨hv,hn⟩|⟨g,cap,cur,hv,_,hh,hnc,hcm,hcs,ht⟩
 ·exact ⟨none,0,by rw [hv,hn],by rw [hn];simp [maxLen],fun h=>by omega⟩
 ·refine ⟨_,cap,hv,⟨hnc,hcm⟩,fun _=>⟨g,xs,rfl,(Array.getElem?_eq_some_iff.1 hh).1,h2,fun j u hu=>?_,fun j _=>by simp [World.frozen?,hh]⟩⟩;rw [cell_of_row w g j cur e (0,0) hh,←Array.getElem?_toList];rw [←ht,List.getElem?_take] at hu;split at hu
  ·exact hu
  ·cases hu
theorem pq {t e:TypeId} {x y:Operand} {row:Bool} {n i k:Nat} {kd:IntKind} {z:Int} {α:Type} {e':TypeId} {E:El α} {l:List α} (ho:o.op = .indexAddr t x y) (hx:s.ev x = .c (.own k)) (hk:s.h k=some (.arr e' E l)) (hy:s.ev y = .c (.sc (.int kd z))) [SE P t e] [TI P e row n] (hn:E.n=n) (hz:z=(i:Int)) (hi:i<l.length) :
  LOp P o s [k] ⟨.c (.optr k n i 0),[],[]⟩ :=
 bp fun c st ρ a w hr h1 h2=>by
  have he:=h1 x (by simp [ho,Op.operands]);have he2:=h1 y (by simp [ho,Op.operands]);rw [hx] at he;rw [hy] at he2;have hv:=hr.ev x;rw [he] at hv;have hv2:=hr.ev y;rw [he2] at hv2;have hv:a.eval x=ρ k:=hv;have hv2:a.eval y = .int kd z:=hv2;have hb:=hr.hp k _ ((h2 k (by simp [aK])).trans hk);obtain ⟨A,cap,hA,hc,hp⟩:=eC hb;obtain ⟨g,xs,rfl,_⟩:=hp (by omega);subst hz;subst hn;rw [hA] at hv;refine ⟨.pointer (some ⟨g,0+i*E.n,none⟩),by unfold execOp;rw [ho];simp only [hv,hv2,Sem.run_bind,iD w l.length cap i hi,Result.andThen_ok,Sem.run_pure],⟨g,_,_,hA,by simp⟩,fun k' hk'=>hr.nf (x:=x) he (by simpa [TV.has,V0.has,D.has] using hk')⟩
theorem nv {t:TypeId} {n g p:Nat} [I:TI P t true n] (w:World) (cs:List Value) (hc:∀j u,cs[j]? = some u→w.cell? ⟨g,p+j,none⟩=some u) (hn:cs.length=n) :
  (Instr.loadAt t (.pointer (some ⟨g,p,none⟩))).run P w = .ok (.agg cs.toArray) w:=by
 obtain ⟨d,hu,hd⟩:=I.u;simp only [Instr.loadAt,Instr.sureAddr,Sem.run_bind,Sem.run_pure,Result.andThen_ok];exact run_loadVar_mid w g p t cs d hc hu (by cases d <;> simp_all [TypeDesc.isRow]) (by rw [I.s,hn])
theorem nx {t:TypeId} {n g p:Nat} [I:TI P t false n] (w:World) (u:Value) (hc:w.cell? ⟨g,p,none⟩=some u):(Instr.loadAt t (.pointer (some ⟨g,p,none⟩))).run P w = .ok u w:=by
 obtain ⟨d,hu,hd⟩:=I.u;simp only [Instr.loadAt,Instr.sureAddr,Sem.run_bind,Sem.run_pure,Result.andThen_ok,loadVar,isAgg,run_underlying hu];cases d <;> simp_all [load,Sem.run]
theorem kK {t:TypeId} {x:Operand} {row:Bool} {n off:Nat} {ds:List D} {d:TV} (ho:o.op = .load t x) [I:TI P t row n]
  (hd:(row=true∧d = .v (.ag ((ds.drop off).take n))∧off+n≤ds.length)∨(row=false∧∃y,ds[off]? = some y∧d = .c y))
  (h:∀(c:Ctx) (st:Mst) (ρ:Nat→Value) (a:Act) (w:World),Rp c st ρ a w→(∀x,x∈o.op.operands→st.ev x=s.ev x)→(∀k,aK R k=true→st.h k=s.h k)→
   ∃g p vs,a.eval x = .pointer (some ⟨g,p+off,none⟩)∧All2 (D.rep w (Fz c st.h ρ w) ρ) ds vs∧(∀j u,vs[j]? = some u→w.cell? ⟨g,p+j,none⟩=some u)∧∀k,ds.any (D.has k)=true→st.f k=false):LOp P o s R ⟨d,[],[]⟩ :=
 bp fun c st ρ a w hr h1 h2=>by
  obtain ⟨g,p,vs,hv,h3,h4,h5⟩:=h c st ρ a w hr h1 h2;rcases hd with ⟨rfl,rfl,hle⟩|⟨rfl,y,hy,rfl⟩
  ·refine ⟨.agg ((vs.drop off).take n).toArray,?_,⟨_,rfl,(h3.drop off).take n⟩,fun k hk=>h5 k ?_⟩
   ·unfold execOp;rw [ho];simp only [hv,Sem.run_bind];rw [nv w ((vs.drop off).take n) (fun j u hu=>?_) (by rw [List.length_take,List.length_drop,←h3.length];omega)]
    ·rfl
    ·rw [Nat.add_assoc];refine h4 _ u ?_;rw [List.getElem?_take] at hu;split at hu
     ·rwa [List.getElem?_drop] at hu
     ·cases hu
   ·exact po (fun d hd=>List.mem_of_mem_drop (List.mem_of_mem_take hd)) hk
  ·obtain ⟨u,hu,hrep⟩:=h3.get hy;refine ⟨u,?_,hrep,fun k hk=>h5 k (pn hy hk)⟩;unfold execOp;rw [ho];simp only [hv,Sem.run_bind];rw [nx w u (h4 off u hu)];rfl
theorem CP {t ty:TypeId} {x:Operand} {row:Bool} {n k off:Nat} {cs:List D} {d:TV} [I:TI P t row n] (ho:o.op = .load t x) (hx:s.ev x = .c (.ptr k off)) (hk:s.h k=some (.box ty cs))
  (hd:(row=true∧d = .v (.ag ((cs.drop off).take n))∧off+n≤cs.length)∨(row=false∧∃y,cs[off]? = some y∧d = .c y)):LOp P o s [k] ⟨d,[],[]⟩ :=
 kK ho hd fun c st ρ a w hr h1 h2=>by
  have he:=h1 x (by simp [ho,Op.operands]);rw [hx] at he;have hv:=hr.ev x;rw [he] at hv;obtain ⟨g,hg,hv⟩:=hv;have hk':=(h2 k (by simp [aK])).trans hk;obtain ⟨g',vs,e1,h3,h4,_⟩:=hr.hp k _ hk';rw [hg] at e1;injection e1 with e1;injection e1 with e1;injection e1 with e1;subst e1;exact ⟨g,0,vs,by rw [Nat.zero_add];exact hv,h4,fun j u hu=>by rw [Nat.zero_add];exact h3.cellx j (by simpa using hu),fun k' hh=>hr.nfb hk' (by simpa [Box.has] using hh)⟩
theorem CQ {t ty:TypeId} {x:Operand} {n k off:Nat} {cs:List D} {y:D} [TI P t false n] (ho:o.op = .load t x) (hx:s.ev x = .c (.ptr k off)) (hk:s.h k=some (.box ty cs)) (hy:cs[off]? = some y):LOp P o s [k] ⟨.c y,[],[]⟩:=CP ho hx hk (.inr ⟨rfl,y,hy,rfl⟩)
theorem uO {t ty:TypeId} {x:Operand} {n k off:Nat} {cs ds:List D} [TI P t true n] (ho:o.op = .load t x) (hx:s.ev x = .c (.ptr k off)) (hk:s.h k=some (.box ty cs)) (hd:(cs.drop off).take n=ds) (hl:off+n≤cs.length):LOp P o s [k] ⟨.v (.ag ds),[],[]⟩:=CP ho hx hk (.inl ⟨rfl,by rw [hd],hl⟩)
theorem CR {t:TypeId} {x:Operand} {row:Bool} {n i off:Nat} {α:Type} {E:El α} {l:List α} {y:α} {d:TV} [I:TI P t row n] [J:Dp E] (ho:o.op = .load t x) (hx:s.ev x = .c (.eptr E l i off)) (hy:l[i]? = some y)
  (hd:(row=true∧d = .v (.ag (((J.deep y).drop off).take n))∧off+n≤(J.deep y).length)∨(row=false∧∃z,(J.deep y)[off]? = some z∧d = .c z)):LOp P o s [] ⟨d,[],[]⟩ :=
 kK ho hd fun c st ρ a w hr h1 h2=>by
  have he:=h1 x (by simp [ho,Op.operands]);rw [hx] at he;have hv:=hr.ev x;rw [he] at hv;obtain ⟨b,q,hv,h3,h4⟩:=hv;have hyx:l[i]=y:=by rw [List.getElem?_eq_getElem h4] at hy;exact Option.some.inj hy
  obtain ⟨b',q',cs,e1,_,h5,h6⟩:=h3.getx h4 hyx;injection e1 with e1;injection e1 with e1 e2;subst e1;subst e2;refine ⟨b,q+i*E.n,cs,hv,J.get h5,fun j u hu=>?_,fun k' hh=>by rw [J.nok] at hh;cases hh⟩;rw [h6 j (by rw [←E.len h5];exact (List.getElem?_eq_some_iff.1 hu).1),hu]
theorem yq {t:TypeId} {x:Operand} {n i off:Nat} {α:Type} {E:El α} {l:List α} {y:α} {z:D} [TI P t false n] [J:Dp E] (ho:o.op = .load t x) (hx:s.ev x = .c (.eptr E l i off)) (hy:l[i]? = some y) (hz:(J.deep y)[off]? = some z):LOp P o s [] ⟨.c z,[],[]⟩:=CR ho hx hy (.inr ⟨rfl,z,hz,rfl⟩)
theorem qH {t:TypeId} {x:Operand} {n i off:Nat} {α:Type} {E:El α} {l:List α} {y:α} {ds:List D} [TI P t true n] [J:Dp E] (ho:o.op = .load t x) (hx:s.ev x = .c (.eptr E l i off)) (hy:l[i]? = some y) (hd:((J.deep y).drop off).take n=ds) (hl:off+n≤(J.deep y).length):LOp P o s [] ⟨.v (.ag ds),[],[]⟩:=CR ho hx hy (.inl ⟨rfl,by rw [hd],hl⟩)
theorem CS {t e:TypeId} {x:Operand} {row:Bool} {n m i k off:Nat} {α:Type} {E:El α} {l:List α} {y:α} {d:TV} [I:TI P t row n] [J:Dp E] (ho:o.op = .load t x) (hx:s.ev x = .c (.optr k m i off)) (hk:s.h k=some (.arr e E l)) (hm:E.n=m) (hy:l[i]? = some y)
  (hd:(row=true∧d = .v (.ag (((J.deep y).drop off).take n))∧off+n≤(J.deep y).length)∨(row=false∧∃z,(J.deep y)[off]? = some z∧d = .c z)):LOp P o s [k] ⟨d,[],[]⟩ :=
 kK ho hd fun c st ρ a w hr h1 h2=>by
  have he:=h1 x (by simp [ho,Op.operands]);rw [hx] at he;have hv:=hr.ev x;rw [he] at hv;obtain ⟨g,nn,cap,hg,hv⟩:=hv;have hk':=(h2 k (by simp [aK])).trans hk;have hil:i<l.length:=(List.getElem?_eq_some_iff.1 hy).1;obtain ⟨A,cap',hA,_,hp⟩:=eC (hr.hp k _ hk');obtain ⟨g',xs,rfl,_,h3,h4,_⟩:=hp (by omega);rw [hg] at hA;injection hA with e1 _ _;injection e1 with e1;injection e1 with e1;subst e1;obtain ⟨cs,h5,h6⟩:=h3.get i hil;rw [List.getElem?_eq_getElem hil] at hy;rw [Option.some.inj hy] at h5;subst hm;refine ⟨g,i*E.n,cs,hv,J.get h5,fun j u hu=>?_,fun k' hh=>by rw [J.nok] at hh;cases hh⟩;exact h4 _ u (by rw [h6 j (by rw [←E.len h5];exact (List.getElem?_eq_some_iff.1 hu).1),hu])
theorem yr {t e:TypeId} {x:Operand} {n m i k off:Nat} {α:Type} {E:El α} {l:List α} {y:α} {z:D} [TI P t false n] [J:Dp E] (ho:o.op = .load t x) (hx:s.ev x = .c (.optr k m i off)) (hk:s.h k=some (.arr e E l)) (hm:E.n=m) (hy:l[i]? = some y) (hz:(J.deep y)[off]? = some z):LOp P o s [k] ⟨.c z,[],[]⟩:=CS ho hx hk hm hy (.inr ⟨rfl,z,hz,rfl⟩)
theorem qI {t e:TypeId} {x:Operand} {n m i k off:Nat} {α:Type} {E:El α} {l:List α} {y:α} {ds:List D} [TI P t true n] [J:Dp E] (ho:o.op = .load t x) (hx:s.ev x = .c (.optr k m i off)) (hk:s.h k=some (.arr e E l)) (hm:E.n=m) (hy:l[i]? = some y) (hd:((J.deep y).drop off).take n=ds) (hl:off+n≤(J.deep y).length):LOp P o s [k] ⟨.v (.ag ds),[],[]⟩:=CS ho hx hk hm hy (.inl ⟨rfl,by rw [hd],hl⟩)
end
def D.okc:D→Bool
 | .any=>false
 | .sc x=>x.oneCell'
 | .own _=>false
 | _=>true
section
variable {P:Program} {o:Oper} {s:Mst} {R:List Nat} {d:TV}
theorem D.one_of {w:World} {F:Nat→Prop} {ρ:Nat→Value} {d:D} {v:Value} (h:d.rep w F ρ v) (hk:d.okc=true):v.oneCell'=true:=by
 cases d with
 | any=>cases hk
 | sc x=>have h:v=x:=h;rw [h];exact hk
 | sl E l=>obtain ⟨A,cap,rfl,_⟩:=h;rfl
 | full E l=>obtain ⟨A,rfl,_⟩:=h;rfl
 | own k=>cases hk
 | slb k n=>obtain ⟨g,_,rfl⟩:=h;rfl
 | ptr k off=>obtain ⟨g,_,rfl⟩:=h;rfl
 | eptr E l i off=>obtain ⟨b,o,rfl,_⟩:=h;rfl
 | optr k m i off=>obtain ⟨g,n,cap,_,rfl⟩:=h;rfl
 | ocut k=>obtain ⟨A,n,cap,c,_,_,rfl⟩:=h;rfl
 | osl k m lo hi fl=>obtain ⟨g,n,cap,c,A,_,_,_,rfl,_⟩:=h;rfl
 | clo f ks=>obtain ⟨vs,rfl,_⟩:=h;rfl
theorem Fp {w:World} {F:Nat→Prop} {α:Type} {e:TypeId} {E:El α} {l:List α} {ρ:Nat→Value} {v:Value} (h:(Box.arr e E l).rep w F ρ v):v.oneCell'=true:=by
 obtain ⟨A,cap,rfl,_⟩:=eC h;rfl
theorem Rp.box {c:Ctx} {st:Mst} {ρ:Nat→Value} {a:Act} {w:World} (hr:Rp c st ρ a w) {k:Nat} {t:TypeId} {cs:List D} (hk:st.h k=some (.box t cs)) {g:Nat} (hg:ρ k = .pointer (some ⟨g,0,none⟩)) :
  ∃vs:List Value,Blk w g t vs.toArray∧All2 (D.rep w (Fz c st.h ρ w) ρ) cs vs∧∀u∈vs,u.oneCell'=true:=by
 obtain ⟨g',vs,e1,h3,h4,h5⟩:=hr.hp k _ hk;rw [hg] at e1;injection e1 with e1;injection e1 with e1;injection e1 with e1;subst e1;exact ⟨vs,h3,h4,h5⟩
theorem yt {w:World} {g:Nat} {t:TypeId} {old new:Array Value} (hb:Blk w g t old):Blk (w.setRow g new) g t new∧But g w (w.setRow g new) :=
 ⟨setRow_heap w g old new t (0,0) hb,⟨rfl,rfl,rfl,by simp,fun k hk hg=>setRow_other w g k new hg⟩⟩
theorem Rp.setBox {c:Ctx} {st:Mst} {ρ:Nat→Value} {a:Act} {w w':World} {dst:Option Nat} {v:Value} {k g:Nat} {t:TypeId} {cs cs':List D} {vs':List Value} (hr:Rp c st ρ a w) (hdst:∀d,dst=some d→d<c.nt)
  (hk:st.h k=some (.box t cs)) (hg:ρ k = .pointer (some ⟨g,0,none⟩)) (hb:But g w w') (hB:Blk w' g t vs'.toArray) (h2:All2 (D.rep w (Fz c st.h ρ w) ρ) cs' vs') (h1:∀u∈vs',u.oneCell'=true)
  (hh:∀k',cs'.any (D.has k')=true→st.f k'=false):Rp c (st.app dst ⟨.c .any,[(k,some (.box t cs'))],[]⟩) ρ (a.put dst v) w':=by
 have hkk:∀k':Nat,aA [(k,some (Box.box t cs'))] k'=true→k'=k:=fun k' h=>by
  simp only [aA,Bool.or_false] at h;exact (Nat.eq_of_beq_eq_true h).symm
 have hkb:kb (ρ k)=some g:=by rw [hg];rfl
 have hfz:∀b,Fz c st.h ρ w b→Fz c (hput [(k,some (Box.box t cs'))] st.h) ρ w' b∧w'.heap[b]? = w.heap[b]?:=fun b ⟨f1,f2,f3⟩=>by
  have hbg:b≠g:=fun e=>f3 k _ hk (by rw [hkb,e]);refine ⟨⟨f1,Nat.lt_of_lt_of_le f2 hb.size,fun k' bx hk'=>?_⟩,hb.block b f2 hbg⟩;simp only [hput] at hk';cases h9:k.beq k' with
  | true=>rw [←Nat.eq_of_beq_eq_true h9,hkb];intro e;injection e with e;exact hbg e.symm
  | false=>rw [h9] at hk';exact f3 k' bx hk'
 refine hr.app (e:=⟨.c .any,[(k,some (.box t cs'))],[]⟩) hdst (fun k h=>by simp [aK] at h) (fun _ _=>rfl) (fun k' h=>.inr (by rw [hkk k' h];exact hr.nfh hk)) ⟨hb.os,hb.tape,hb.output,hb.size,fun b hlt hn=>hb.block b hlt fun e=>hn ⟨k,_,by simp [aA],hk,by rw [hkb,e]⟩⟩ ?_ ?_ (fun k h=>by simp [TV.has,V0.has,D.has] at h) ?_ ?_ trivial
 ·intro k' bx g' h _ hg';rw [hkk k' h,hkb] at hg';injection hg' with hg';subst hg';exact ⟨hB.lt,.inr ⟨k,_,by simp [aA],hk,hkb⟩⟩
 ·intro k1 k2 _ _ _ h h' _ _ _ _;rw [hkk k1 h,hkk k2 h']
 ·intro k1 k2 bx h hp hx;rw [hkk k2 h] at hp;simp only [hput,Nat.beq_refl,cond_true,Option.some.injEq] at hp;subst hp;exact .inr (hh k1 hx)
 ·intro k2 bx h hp;rw [hkk k2 h] at hp ⊢;simp only [hput,Nat.beq_refl,cond_true,Option.some.injEq] at hp;subst hp;exact ⟨g,vs',hg,hB,h2.imp fun d v _ hd=>hd.mono hfz fun _ _=>rfl,h1⟩
theorem sJ {t ty:TypeId} {row:Bool} {n g off:Nat} [I:TI P t row n] {w:World} {old:List Value} {v:Value} (hb:Blk w g ty old.toArray) (hn:v.cells.size=n) (hl:off+n≤old.length) (h1:∀u∈v.cells.toList,u.oneCell'=true) :
  (Instr.storeAt t (.pointer (some ⟨g,off,none⟩)) v).run P w = .ok () (w.setRow g (old.take off++v.cells.toList++old.drop (off+n)).toArray):=by
 have h2:=run_storeCells_at (P:=P) g off ty v.cells.toList 0 old.toArray w hb (by simp [hn];omega) h1;simp only [Nat.add_zero,Array.length_toList,hn] at h2;have hi:=I.s;cases hq:P.info? t with
 | none=>simp [hq] at hi
 | some i =>
  have hs:v.cells.size=i.size:=by simp [hq] at hi;omega
  simp only [Instr.storeAt,Instr.sureAddr,Sem.run_bind,Sem.run_pure,Result.andThen_ok];simp [storeVar,sizeOf,typeInfo,hq,hs,h2]
def TV.cells:TV→Option (List D)
 | .v (.one d)=>some [d]
 | .v (.ag l)=>some l
 | _=>none
theorem TV.cells_rep {w:World} {F:Nat→Prop} {ρ:Nat→Value} {d:TV} {ds:List D} {v:Value} (h:d.rep w F ρ v) (hc:d.cells=some ds) (hok:∀x∈ds,∀u,x.rep w F ρ u→u.oneCell'=true):All2 (D.rep w F ρ) ds v.cells.toList∧∀u∈v.cells.toList,u.oneCell'=true:=by
 unfold TV.cells at hc;split at hc
 ·rename_i y
  injection hc with hc;subst hc;have h:y.rep w F ρ v:=h;have h1:=hok y (by simp) v h;have h2:v.cells = #[v]:=by cases v <;> first|rfl|(simp [Value.oneCell'] at h1)
  rw [h2];exact ⟨⟨h,trivial⟩,by simpa using h1⟩
 ·injection hc with hc;subst hc;obtain ⟨cs,rfl,h2⟩:=h;refine ⟨by simpa [Value.cells] using h2,?_⟩;have:∀(l:List D) (cs:List Value),All2 (D.rep w F ρ) l cs→(∀x∈l,∀u,x.rep w F ρ u→u.oneCell'=true)→∀u∈cs,u.oneCell'=true:=by
   intro l;induction l with
   | nil=>intro cs h;cases cs with
    | nil=>intro _ u hu;cases hu
    | cons=>exact h.elim
   | cons x l ih =>
    intro cs h hx;cases cs with
    | nil=>exact h.elim
    | cons c cs =>
     intro u hu;rcases List.mem_cons.1 hu with rfl|hu
     ·exact hx x (by simp) _ h.1
     ·exact ih cs h.2 (fun y hy=>hx y (by simp [hy])) u hu
  simpa [Value.cells] using this _ _ h2 hok
 ·cases hc
def okD (h:Nat→Option Box):D→Bool
 | .any=>false
 | .sc x=>x.oneCell'
 | .own k=>match h k with|some (.arr ..)=>true|some (.mp ..)=>true|_=>false
 | _=>true
def gG:List D→List Nat
 | []=>[]
 | .own k :: l=>k :: gG l
 | _ :: l=>gG l
theorem fv:∀{l:List D} {k:Nat},D.own k∈l→aK (gG l) k=true
 | [],_,h=>by cases h
 | d :: l,k,h=>by
  rcases List.mem_cons.1 h with rfl|h2
  ·simp [gG,aK]
  ·have h3:=fv h2;cases d <;> simp [gG,aK,h3]
theorem Rp.okD {c:Ctx} {st:Mst} {ρ:Nat→Value} {a:Act} {w:World} (hr:Rp c st ρ a w) {d:D} (hd:okD st.h d=true) {u:Value} (h:d.rep w (Fz c st.h ρ w) ρ u):u.oneCell'=true:=by
 cases d with
 | own k =>
  unfold Go.Proofs.YtjndcdcbjidocaaGreatDoor.okD at hd;have h:u=ρ k:=h;cases hk:st.h k with
  | none=>simp only [hk] at hd;cases hd
  | some b =>
   cases b with
   | box=>simp only [hk] at hd;cases hd
   | arr e E l=>rw [h];exact Fp (hr.hp k _ hk)
   | mp l=>obtain ⟨g,e,_⟩:=hr.hp k _ hk;rw [h,e];rfl
   | it=>simp only [hk] at hd;cases hd
 | any=>cases hd
 | sc x=>exact D.one_of h hd
 | _=>exact D.one_of h rfl
theorem gZ {h h':Nat→Option Box} {d:D} (hd:okD h d=true) (he:∀k,d = .own k→h' k=h k):okD h' d=true:=by
 cases d with
 | own k=>simp only [okD] at hd ⊢;rw [he k rfl];exact hd
 | _=>exact hd
theorem lP:∀{l m:List Nat} {k:Nat},aK (l++m) k=(aK l k || aK m k)
 | [],_,_=>by simp [aK]
 | x :: l,m,k=>by simp [aK,lP (l:=l),Bool.or_assoc]
theorem A9 {t ty:TypeId} {x y:Operand} {row:Bool} {n k off:Nat} {cs ds new:List D} [I:TI P t row n] (ho:o.op = .store t x y) (hx:s.ev x = .c (.ptr k off)) (hk:s.h k=some (.box ty cs)) (hd:(s.ev y).cells=some ds) (hn:ds.length=n) (hl:off+n≤cs.length) (hok:ds.all (okD s.h)=true)
  (hnew:cs.take off++ds++cs.drop (off+n)=new):LOp P o s (k :: gG ds) ⟨.c .any,[(k,some (.box ty new))],[]⟩:=by
 intro c st ρ a w hr h1 h2 _ h4;subst hnew;have he:=h1 x (by simp [ho,Op.operands]);have he2:=h1 y (by simp [ho,Op.operands]);rw [hx] at he;rw [←he2] at hd;have hv:=hr.ev x;rw [he] at hv;obtain ⟨g,hg,hv⟩:=hv;have hk':=(h2 k (by simp [aK])).trans hk;obtain ⟨vs,hB,hA,h1c⟩:=hr.box hk' hg;have hok':∀z∈ds,∀u,z.rep w (Fz c st.h ρ w) ρ u→u.oneCell'=true:=fun z hz u hu=>hr.okD (gZ (List.all_eq_true.1 hok z hz) fun j hj=>h2 j (by subst hj;simp only [aK,fv hz,Bool.or_true])) hu;obtain ⟨hc1,hc2⟩:=TV.cells_rep (hr.ev y) hd hok';have hsz:(a.eval y).cells.size=n:=by rw [←Array.length_toList,←hc1.length,hn]
 have hvl:=hA.length;have hrun:=sJ (P:=P) (t:=t) (off:=off) hB hsz (by omega) hc2;obtain ⟨hB',hBut⟩:=yt (new:=(vs.take off++(a.eval y).cells.toList++vs.drop (off+n)).toArray) hB;refine Oper.wp_skip (w':=w.setRow g (vs.take off++(a.eval y).cells.toList++vs.drop (off+n)).toArray) ?_ ⟨ρ,hr.setBox h4 hk' hg hBut hB' (((hA.take off).append hc1).append (hA.drop (off+n))) ?_ ?_⟩
 ·unfold execOp;rw [ho];simp only [hv,Sem.run_bind,hrun,Result.andThen_ok,Sem.run_pure]
 ·intro u hu;simp only [List.mem_append] at hu;rcases hu with (hu|hu)|hu
  ·exact h1c u (List.mem_of_mem_take hu)
  ·exact hc2 u hu
  ·exact h1c u (List.mem_of_mem_drop hu)
 ·intro k' hh;obtain ⟨z,hz,hz2⟩:=List.any_eq_true.1 hh;simp only [List.mem_append] at hz;rcases hz with (hz|hz)|hz
  ·exact hr.nfb hk' (by simp only [Box.has];exact List.any_eq_true.2 ⟨z,List.mem_of_mem_take hz,hz2⟩)
  ·refine hr.nf (x:=y) rfl ?_;generalize st.ev y=q at *
   unfold TV.cells at hd;split at hd
   ·injection hd with hd;subst hd;simp at hz;subst hz;exact hz2
   ·injection hd with hd;subst hd;simp only [TV.has,V0.has];exact List.any_eq_true.2 ⟨z,hz,hz2⟩
   ·cases hd
  ·exact hr.nfb hk' (by simp only [Box.has];exact List.any_eq_true.2 ⟨z,List.mem_of_mem_drop hz,hz2⟩)
def upd (ρ:Nat→Value) (k:Nat) (v:Value) (n:Nat):Value:=bif k.beq n then v else ρ n
theorem aI (ρ:Nat→Value) (k:Nat) (v:Value):upd ρ k v k=v:=by simp [upd]
theorem df {ρ:Nat→Value} {k n:Nat} {v:Value} (h:k.beq n=false):upd ρ k v n=ρ n:=by simp [upd,h]
theorem Rp.newBox {c:Ctx} {st:Mst} {ρ:Nat→Value} {a:Act} {w:World} {dst:Option Nat} {k:Nat} {t:TypeId} {cs:List D} {vs:List Value} {d:TV} {v:Value} (hr:Rp c st ρ a w) (hdst:∀d,dst=some d→d<c.nt) (hf:st.f k=true)
  (h2:All2 (D.rep w (Fz c st.h ρ w) ρ) cs vs) (h1:∀u∈vs,u.oneCell'=true) (hh:∀k',cs.any (D.has k')=true→st.f k'=false) (hd:∀k',d.has k'=true→k'=k)
  (hv:∀F ρ',ρ' k = .pointer (some ⟨w.heap.size,0,none⟩)→d.rep (w.alloc (.cells vs.toArray t)) F ρ' v):∃ρ',Rp c (st.app dst ⟨d,[(k,some (.box t cs))],[k]⟩) ρ' (a.put dst v) (w.alloc (.cells vs.toArray t)):=by
 have hkk:∀k':Nat,aA [(k,some (Box.box t cs))] k'=true→k'=k:=fun k' h=>by
  simp only [aA,Bool.or_false] at h;exact (Nat.eq_of_beq_eq_true h).symm
 have hul:∀k':Nat,aK [k] k'=k.beq k':=fun k'=>by simp [aK]
 have hfz:∀b,Fz c st.h ρ w b→Fz c (hput [(k,some (Box.box t cs))] st.h) (upd ρ k (.pointer (some ⟨w.heap.size,0,none⟩))) (w.alloc (.cells vs.toArray t)) b∧(w.alloc (.cells vs.toArray t)).heap[b]? = w.heap[b]?:=fun b ⟨f1,f2,f3⟩=>by
  refine ⟨⟨f1,by simp;omega,fun k' bx hk'=>?_⟩,Below.heap_alloc w _ b f2⟩;simp only [hput] at hk';cases h9:k.beq k' with
  | true=>rw [←Nat.eq_of_beq_eq_true h9,aI];intro e;injection e with e;simp at e;omega
  | false=>rw [h9] at hk';rw [df h9];exact f3 k' bx hk'
 refine ⟨upd ρ k (.pointer (some ⟨w.heap.size,0,none⟩)),hr.app (e:=⟨d,[(k,some (.box t cs))],[k]⟩) hdst (fun k' h=>?_) (fun k' h=>?_) (fun k' h=>.inl ?_) (Frx.alloc _ _ _) ?_ ?_ (fun k' h=>.inl ?_) ?_ ?_ ?_⟩
 ·rw [hul] at h;rw [←Nat.eq_of_beq_eq_true h];exact ⟨hf,by simp [aA]⟩
 ·exact df (by rw [←hul];exact h)
 ·rw [hkk k' h];simp [aK]
 ·intro k' bx g' h _ hg';rw [hkk k' h,aI] at hg';injection hg' with hg';subst hg';exact ⟨by simp,.inl (Nat.le_refl _)⟩
 ·intro k1 k2 _ _ _ h h' _ _ _ _;rw [hkk k1 h,hkk k2 h']
 ·rw [hd k' h];simp [aK]
 ·intro k1 k2 bx h hp hx;rw [hkk k2 h] at hp;simp only [hput,Nat.beq_refl,cond_true,Option.some.injEq] at hp;subst hp;exact .inr (hh k1 hx)
 ·intro k2 bx h hp;rw [hkk k2 h] at hp ⊢;simp only [hput,Nat.beq_refl,cond_true,Option.some.injEq] at hp;subst hp;rw [aI];refine ⟨_,vs,rfl,Blk.new w t vs.toArray,h2.imp fun d v hm hd=>hd.mono hfz fun k' hk'=>df ?_,h1⟩;have h3:=hh k' (List.any_eq_true.2 ⟨d,hm,hk'⟩);cases h9:k.beq k' with
  | false=>rfl
  | true=>rw [←Nat.eq_of_beq_eq_true h9,hf] at h3;cases h3
 ·exact hv _ _ (aI _ _ _)
theorem wt {t:TypeId} {zs:List Value} [I:TZ P t zs] (w:World):(Instr.alloc t true (.tuple #[])).run P w = .ok (.pointer (some ⟨w.heap.size,0,none⟩)) (w.alloc (.cells zs.toArray t)):=by
 obtain ⟨i,v,h1,h2,h3⟩:=I.z;simp [Instr.alloc,zeroValue,typeInfo,h1,h2,newVar,newRow,run_newObj,h3]
theorem Ba {t:TypeId} {k:Nat} {zs:List Value} {ds:List D} [I:TZ P t zs] (ho:o.op = .alloc t) (hdk:o.dst=some k) (hz:zs.map D.sc=ds):LOp P o s [] ⟨.c (.ptr k 0),[(k,some (.box t ds))],[k]⟩:=by
 intro c st ρ a w hr h1 h2 h3 h4;subst hz;obtain ⟨ρ',h⟩:=hr.newBox (k:=k) (t:=t) (cs:=zs.map D.sc) (vs:=zs) (d:=.c (.ptr k 0)) (v:=.pointer (some ⟨w.heap.size,0,none⟩)) h4 (h3 k (by simp [aK])) (All2.scs _) I.o
  (fun k' hh=>by simp [D.has] at hh) (fun k' hh=>by simp [TV.has,V0.has,D.has] at hh;exact hh.symm) (fun F ρ' hρ=>⟨_,hρ,rfl⟩)
 exact Oper.wp_value (by unfold execOp;rw [ho];simp only [Sem.run_bind,wt,Result.andThen_ok,Sem.run_pure]) ⟨ρ',h⟩
end
end Go.Proofs.YtjndcdcbjidocaaGreatDoor
