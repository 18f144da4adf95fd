/- Part K02 of a proof of statements of chapter 15 (no condition). -/
import Derived.Test.YtkkbopkbjacfmaaGreatDoorK01
import Derived.Orders
import Derived.Still
import Derived.Scope
import Derived.KernelRfl
import Derived.IntWalk
import Derived.Carry
import Derived.Deep.RegionHeld3
import Derived.Deep.RegionLaw
import Derived.Ground.SlsfProg
import Derived.Handy
import Derived.JoinedTies
import Derived.Laws.BitsAllLaws
import Derived.Lib.AppendZerosOnto
import Derived.Lib.SliceRun
import Derived.Lib.SlicesCompact
import Derived.Lib.SmallJoins
import Derived.ProofKit
import Derived.Shelf.RegionOpenPlain
import Derived.Shelf.SlGeneric
import Derived.Shelf.SlLaysF0
import Derived.Shelf.SlSortCmp.NoneTotal
import Derived.SizedLaws
import Derived.Sort.LotA
import GoSem.Claim
import GoSem.ClaimJoined
import GoSem.ClaimMapViews
import Derived.Maps.OwnSet
import Derived.Maps.RangeRun
set_option linter.unusedVariables false
set_option linter.unusedSimpArgs false
set_option maxRecDepth 100000
set_option maxHeartbeats 64000000
namespace Go.Proofs.YtkkbopkbjacfmaaGreatDoor
open Go.RowKit Go.Proofs.Tryz
def All2 {α:Type _} {β:Type _} (R:α->β->Prop):List α->List β->Prop
 | [],[]=>True
 | a :: l,b :: m=>R a b/\All2 R l m
 | _,_=>False
section
variable {α:Type _} {β:Type _} {R R':α->β->Prop}
theorem All2.length:∀{l:List α} {m:List β},All2 R l m->l.length=m.length
 | [],[],_=>rfl
 | _ :: _,_ :: _,h=>by simp [All2.length h.2]
 | [],_ :: _,h=>h.elim
 | _ :: _,[],h=>h.elim
theorem All2.imp:∀{l:List α} {m:List β},All2 R l m->(∀a b,a∈l->R a b->R' a b)->All2 R' l m
 | [],[],_,_=>trivial
 | _ :: _,_ :: _,h,f=>⟨f _ _ (by simp) h.1,All2.imp h.2 fun a b ha=>f a b (by simp [ha])⟩
 | [],_ :: _,h,_=>h.elim
 | _ :: _,[],h,_=>h.elim
theorem All2.get:∀{l:List α} {m:List β},All2 R l m->∀{i:Nat} {a:α},l[i]? = some a->∃b,m[i]? = some b/\R a b
 | [],[],_,_,_,h=>by simp at h
 | _ :: _,_ :: _,h,0,_,e=>by simp at e;subst e;exact ⟨_,by simp,h.1⟩
 | _ :: _,_ :: _,h,i+1,_,e=>by simpa using All2.get h.2 (by simpa using e)
 | [],_ :: _,h,_,_,_=>h.elim
 | _ :: _,[],h,_,_,_=>h.elim
theorem All2.append:∀{l l':List α} {m m':List β},All2 R l m->All2 R l' m'->All2 R (l++l') (m++m')
 | [],_,[],_,_,k=>k
 | _ :: _,_,_ :: _,_,h,k=>⟨h.1,All2.append h.2 k⟩
 | [],_,_ :: _,_,h,_=>h.elim
 | _ :: _,_,[],_,h,_=>h.elim
theorem All2.drop:∀(k:Nat) {l:List α} {m:List β},All2 R l m->All2 R (l.drop k) (m.drop k)
 | 0,_,_,h=>by simpa using h
 | _+1,[],[],_=>trivial
 | k+1,_ :: _,_ :: _,h=>by simpa using All2.drop k h.2
 | _+1,[],_ :: _,h=>h.elim
 | _+1,_ :: _,[],h=>h.elim
theorem All2.take:∀(k:Nat) {l:List α} {m:List β},All2 R l m->All2 R (l.take k) (m.take k)
 | 0,_,_,h=>by simp [All2]
 | _+1,[],[],_=>trivial
 | k+1,_ :: _,_ :: _,h=>by simpa using ⟨h.1,All2.take k h.2⟩
 | _+1,[],_ :: _,h=>h.elim
 | _+1,_ :: _,[],h=>h.elim
theorem All2.mapL {γ:Type _} {f:γ->α}:∀{l:List γ} {m:List β},All2 R (l.map f) m↔All2 (fun c b=>R (f c) b) l m
 | [],[]=>Iff.rfl
 | _ :: _,_ :: _=>and_congr Iff.rfl All2.mapL
 | [],_ :: _=>Iff.rfl
 | _ :: _,[]=>Iff.rfl
end
inductive D:Type 1 where
 | any
 | sc (v:Value)
 | sl {α:Type} (E:El α) (l:List α)
 | full {α:Type} (E:El α) (l:List α)
 | own (k:Nat)
 | slb (k n:Nat)
 | ptr (k off:Nat)
 | eptr {α:Type} (E:El α) (l:List α) (i off:Nat)
 | optr (k m i off:Nat)
 | ocut (k:Nat)
 | osl (k m lo hi:Nat) (fl:Bool)
 | clo (f:FuncId) (ks:List Nat)
inductive V0:Type 1 where
 | one (d:D)
 | ag (l:List D)
inductive TV:Type 1 where
 | v (x:V0)
 | tup (l:List V0)
inductive Box:Type 1 where
 | box (t:TypeId) (cs:List D)
 | arr {α:Type} (e:TypeId) (E:El α) (l:List α)
 | mp (l:List (Value×Value))
 | it (k n:Nat) (seen:List Nat)
structure Mst:Type 1 where
 t:Nat->TV
 h:Nat->Option Box
 f:Nat->Bool
def kb:Value->Option Nat
 | .pointer (some a)=>some a.block
 | .slice (some a) _ _=>some a.block
 | .map (some b)=>some b
 | _=>none
def eY:Nat->List (Value×Value)->List MapEntry
 | _,[]=>[]
 | i,x :: l=>⟨x.1,x.2,i⟩ :: eY (i+1) l
def lW (l:List (Value×Value)):Obj:=.map (eY 0 l).toArray l.length
def D.rep (w:World) (F:Nat->Prop) (ρ:Nat->Value):D->Value->Prop
 | .any,_=>True
 | .sc x,v=>v=x
 | .sl E l,v=>∃A cap,v = .slice A l.length cap/\(l.length<=cap/\cap<=maxLen)/\RowsAt E w F A l
 | .full E l,v=>∃A,v = .slice A l.length l.length/\l.length<=maxLen/\RowsAt E w F A l
 | .own k,v=>v=ρ k
 | .slb k n,v=>∃g,ρ k = .pointer (some ⟨g,0,none⟩)/\v = .slice (some ⟨g,0,none⟩) n n
 | .ptr k off,v=>∃g,ρ k = .pointer (some ⟨g,0,none⟩)/\v = .pointer (some ⟨g,off,none⟩)
 | .eptr E l i off,v=>∃b o,v = .pointer (some ⟨b,o+i*E.n+off,none⟩)/\RowsAt E w F (some ⟨b,o,none⟩) l/\i<l.length
 | .optr k m i off,v=>∃g n cap,ρ k = .slice (some ⟨g,0,none⟩) n cap/\v = .pointer (some ⟨g,i*m+off,none⟩)
 | .ocut k,v=>∃A n cap c,ρ k = .slice A n cap/\(n<=c/\c<=cap)/\v = .slice A n c
 | .osl k m lo hi fl,v=>∃g n cap c A,ρ k = .slice (some ⟨g,0,none⟩) n cap/\(lo<=hi/\hi<=n/\hi<=lo+c/\lo+c<=cap)/\(fl=true->lo+c=hi)/\v = .slice (some A) (hi-lo) c/\(lo=0\/0<c->A=⟨g,lo*m,none⟩)
 | .clo f ks,v=>∃vs:List Value,v = .func (.func f) #[] vs.toArray/\All2 (fun k u=>u=ρ k) ks vs
def V0.rep (w:World) (F:Nat->Prop) (ρ:Nat->Value):V0->Value->Prop
 | .one d,v=>d.rep w F ρ v
 | .ag l,v=>∃cs:List Value,v = .agg cs.toArray/\All2 (D.rep w F ρ) l cs
def TV.rep (w:World) (F:Nat->Prop) (ρ:Nat->Value):TV->Value->Prop
 | .v x,u=>x.rep w F ρ u
 | .tup l,u=>∃vs:List Value,u = .tuple vs.toArray/\All2 (V0.rep w F ρ) l vs
def Box.rep (w:World) (F:Nat->Prop) (ρ:Nat->Value):Box->Value->Prop
 | .box t cs,v=>∃(g:Nat) (vs:List Value),v = .pointer (some ⟨g,0,none⟩)/\Blk w g t vs.toArray/\All2 (D.rep w F ρ) cs vs/\∀u∈vs,u.oneCell'=true
 | .arr e E l,v=>∃xs,w.ownsRow 0 e E.n v l.length xs/\Reps E w F l xs
 | .mp l,v=>∃g,v = .map (some g)/\w.heap[g]? = some (lW l)
 | .it k n seen,v=>∃g m,v = .pointer (some ⟨g,0,none⟩)/\ρ k = .map (some m)/\w.heap[g]? = some (.mapIter (some m) n seen.toArray n)
def D.has (k:Nat):D->Bool
 | .own j | .slb j _ | .ptr j _ | .optr j _ _ _ | .ocut j | .osl j _ _ _ _=>j.beq k
 | .clo _ ks=>ks.any fun j=>j.beq k
 | _=>false
def V0.has (k:Nat):V0->Bool
 | .one d=>d.has k
 | .ag l=>l.any (D.has k)
def TV.has (k:Nat):TV->Bool
 | .v x=>x.has k
 | .tup l=>l.any (V0.has k)
def Box.has (k:Nat):Box->Bool
 | .box _ cs=>cs.any (D.has k)
 | .arr ..=>false
 | .mp _=>false
 | .it j _ _=>j.beq k
section
variable {w w':World} {F F':Nat->Prop} {ρ ρ':Nat->Value}
theorem D.rep.mono {d:D} {v:Value} (h:d.rep w F ρ v) (hF:∀b,F b->F' b/\w'.heap[b]? = w.heap[b]?) (hρ:∀k,d.has k=true->ρ' k=ρ k):d.rep w' F' ρ' v:=by
 have h1:∀b,F b->w'.heap[b]? = w.heap[b]?:=fun b hb=>(hF b hb).2;have h2:∀b,F b->F' b:=fun b hb=>(hF b hb).1;cases d with
 | any=>trivial
 | sc x=>exact h
 | sl E l=>obtain ⟨A,cap,e,h3,h4⟩:=h;exact ⟨A,cap,e,h3,h4.same h1 h2⟩
 | full E l=>obtain ⟨A,e,h3,h4⟩:=h;exact ⟨A,e,h3,h4.same h1 h2⟩
 | own k=>exact h.trans (hρ k (by simp [D.has])).symm
 | slb k n=>obtain ⟨g,h3,h4⟩:=h;exact ⟨g,(hρ k (by simp [D.has])).trans h3,h4⟩
 | ptr k off=>obtain ⟨g,h3,h4⟩:=h;exact ⟨g,(hρ k (by simp [D.has])).trans h3,h4⟩
 | eptr E l i off=>obtain ⟨b,o,e,h3,h4⟩:=h;exact ⟨b,o,e,h3.same h1 h2,h4⟩
 | optr k m i off=>obtain ⟨g,n,cap,h3,h4⟩:=h;exact ⟨g,n,cap,(hρ k (by simp [D.has])).trans h3,h4⟩
 | ocut k=>obtain ⟨A,n,cap,c,h3,h4⟩:=h;exact ⟨A,n,cap,c,(hρ k (by simp [D.has])).trans h3,h4⟩
 | osl k m lo hi fl=>obtain ⟨g,n,cap,c,A,h3,h4⟩:=h;exact ⟨g,n,cap,c,A,(hρ k (by simp [D.has])).trans h3,h4⟩
 | clo f ks=>obtain ⟨vs,e,h3⟩:=h;exact ⟨vs,e,h3.imp fun j u hj (hu:u=ρ j)=>hu.trans (hρ j (by simp only [D.has];exact List.any_eq_true.2 ⟨j,hj,Nat.beq_refl j⟩)).symm⟩
theorem V0.rep.mono {d:V0} {v:Value} (h:d.rep w F ρ v) (hF:∀b,F b->F' b/\w'.heap[b]? = w.heap[b]?) (hρ:∀k,d.has k=true->ρ' k=ρ k):d.rep w' F' ρ' v:=by
 cases d with
 | one d=>exact D.rep.mono (d:=d) h hF hρ
 | ag l =>
  obtain ⟨cs,e,h1⟩:=h;exact ⟨cs,e,h1.imp fun a b ha (h2:D.rep w F ρ a b)=>D.rep.mono h2 hF fun k hk=>hρ k (by simp only [V0.has,List.any_eq_true];exact ⟨a,ha,hk⟩)⟩
theorem TV.rep.mono {d:TV} {v:Value} (h:d.rep w F ρ v) (hF:∀b,F b->F' b/\w'.heap[b]? = w.heap[b]?) (hρ:∀k,d.has k=true->ρ' k=ρ k):d.rep w' F' ρ' v:=by
 cases d with
 | v d=>exact V0.rep.mono (d:=d) h hF hρ
 | tup l =>
  obtain ⟨cs,e,h1⟩:=h;exact ⟨cs,e,h1.imp fun a b ha (h2:V0.rep w F ρ a b)=>V0.rep.mono h2 hF fun k hk=>hρ k (by simp only [TV.has,List.any_eq_true];exact ⟨a,ha,hk⟩)⟩
theorem yA {e:TypeId} {n m:Nat} {v:Value} {xs:List Value} (h:w.ownsRow 0 e n v m xs) (hb:∀g,kb v=some g->w'.heap[g]? = w.heap[g]?):w'.ownsRow 0 e n v m xs:=by
 refine ⟨h.1,?_⟩;rcases h.2 with hn|⟨g,cap,cur,hv,hg,hh,rest⟩
 ·exact .inl hn
 ·exact .inr ⟨g,cap,cur,hv,hg,by rw [hb g (by rw [hv];rfl)];exact hh,rest⟩
theorem Box.rep.mono {d:Box} {v:Value} (h:d.rep w F ρ v) (hb:∀g,kb v=some g->w'.heap[g]? = w.heap[g]?) (hF:∀b,F b->F' b/\w'.heap[b]? = w.heap[b]?) (hρ:∀k,d.has k=true->ρ' k=ρ k):d.rep w' F' ρ' v:=by
 cases d with
 | box t cs =>
  obtain ⟨g,vs,e,h1,h2,h3⟩:=h;exact ⟨g,vs,e,(hb g (by rw [e];rfl)).trans h1,h2.imp fun a b ha (h4:D.rep w F ρ a b)=>D.rep.mono h4 hF fun k hk=>hρ k (by simp only [Box.has,List.any_eq_true];exact ⟨a,ha,hk⟩),h3⟩
 | arr e E l =>
  obtain ⟨xs,h1,h2⟩:=h;exact ⟨xs,yA h1 hb,h2.same (fun b hb2=>(hF b hb2).2) fun b hb2=>(hF b hb2).1⟩
 | mp l =>
  obtain ⟨g,e,h1⟩:=h;exact ⟨g,e,(hb g (by rw [e];rfl)).trans h1⟩
 | it k n seen =>
  obtain ⟨g,m,e,h1,h2⟩:=h;exact ⟨g,m,e,(hρ k (by simp [Box.has])).trans h1,(hb g (by rw [e];rfl)).trans h2⟩
theorem Box.lt {d:Box} {v:Value} {g:Nat} (h:d.rep w F ρ v) (hg:kb v=some g):g<w.heap.size:=by
 cases d with
 | box t cs =>
  obtain ⟨g',vs,e,h1,_⟩:=h;subst e;injection hg with hg;subst hg;exact h1.lt
 | arr e E l =>
  obtain ⟨xs,h1,h2⟩:=h;rcases h1.2 with ⟨hv,hn⟩|⟨g',cap,cur,hv,_,hh,_⟩
  ·subst hv;cases hg
  ·subst hv;injection hg with hg;subst hg;exact (Array.getElem?_eq_some_iff.1 hh).1
 | mp l =>
  obtain ⟨g',e,h1⟩:=h;subst e;injection hg with hg;subst hg;exact (Array.getElem?_eq_some_iff.1 h1).1
 | it k n seen =>
  obtain ⟨g',m,e,_,h1⟩:=h;subst e;injection hg with hg;subst hg;exact (Array.getElem?_eq_some_iff.1 h1).1
end
def PinW (w:World) (X:Nat->Prop):Prop:=Tog w/\¬X 0
theorem PinW.sub {w w':World} {X X':Nat->Prop} (h:PinW w X) (hw:∀b,b<w.heap.size->¬X b->w'.heap[b]? = w.heap[b]?) (hX:∀b,b<w.heap.size->X' b->X b):PinW w' X':=by
 have hb:0<w.heap.size:=World.block_lt_of_cell? w _ (h.1.at_ 0 0 (by decide) (by decide));exact ⟨⟨fun i j hi hj=>(World.cell?_of_block (a:=⟨0,i*5+j,none⟩) (hw _ hb h.2)).trans (h.1.at_ i j hi hj)⟩,fun hx=>h.2 (hX _ hb hx)⟩
structure Ctx where
 w0:World
 S:Nat->Prop
 X:Nat->Prop
 nt:Nat
 K:List Nat
 ρ0:Nat->Value
 hS:∀b,S b->b<w0.heap.size
 hX:∀b,X b->S b
 hpin:PinW w0 X:=by exact trivial
 dfr:List Deferred:=[]
def Fz (c:Ctx) (h:Nat->Option Box) (ρ:Nat->Value) (w:World) (b:Nat):Prop :=
 (c.S b\/c.w0.heap.size<=b)/\b<w.heap.size/\∀k bx,h k=some bx->kb (ρ k)≠some b
structure Frx (w w':World) (M:Nat->Prop):Prop where
 os:w'.os=w.os
 tape:w'.tape=w.tape
 output:w'.output=w.output
 size:w.heap.size<=w'.heap.size
 keep:∀b,b<w.heap.size->¬M b->w'.heap[b]? = w.heap[b]?
theorem Frx.refl (w:World) (M:Nat->Prop):Frx w w M:=⟨rfl,rfl,rfl,Nat.le_refl _,fun _ _ _=>rfl⟩
theorem Frx.alloc (w:World) (o:Obj) (M:Nat->Prop):Frx w (w.alloc o) M:=⟨rfl,rfl,rfl,by simp,fun b hb _=>Below.heap_alloc w o b hb⟩
theorem Frx.below {w w':World} {M:Nat->Prop} (h:Below w.heap.size w w'):Frx w w' M:=⟨h.os,h.tape,h.output,h.size,fun b hb _=>h.block b hb⟩
structure Mst.Wf (s:Mst):Prop where
 h:∀k,s.f k=true->s.h k=none
 t:∀k t,s.f k=true->(s.t t).has k=false
 b:∀k k' b,s.f k=true->s.h k'=some b->b.has k=false
structure Rp (c:Ctx) (s:Mst) (ρ:Nat->Value) (a:Act) (w:World):Prop where
 dfr:a.defers=c.dfr
 siz:a.tmps.size=c.nt
 frm:Frx c.w0 w c.X
 tmp:∀t,(s.t t).rep w (Fz c s.h ρ w) ρ (a.tmps.getD t undef)
 hp:∀k b,s.h k=some b->b.rep w (Fz c s.h ρ w) ρ (ρ k)
 inb:∀k b g,s.h k=some b->kb (ρ k)=some g->c.X g\/c.w0.heap.size<=g
 dis:∀k k' b b' g,s.h k=some b->s.h k'=some b'->kb (ρ k)=some g->kb (ρ k')=some g->k=k'
 ent:∀k,k∈c.K->ρ k=c.ρ0 k/\s.f k=false
 wf:s.Wf
section
variable {c:Ctx} {s s':Mst} {ρ ρ':Nat->Value} {a a':Act} {w w':World} {M:Nat->Prop}
theorem Rp.pin (h:Rp c s ρ a w):PinW w fun _=>False:=c.hpin.sub h.frm.keep fun _ _ h=>h.elim
theorem Rp.ltb (h:Rp c s ρ a w) {k:Nat} {b:Box} {g:Nat} (hk:s.h k=some b) (hg:kb (ρ k)=some g):g<w.heap.size:=Box.lt (h.hp k b hk) hg
structure Stp (c:Ctx) (s s':Mst) (ρ ρ':Nat->Value) (w w':World) (M:Nat->Prop):Prop where
 ch:∀k,¬M k->s'.h k=s.h k
 pl:∀k,s.f k=false->ρ' k=ρ k
 fr:∀k,s'.f k=true->s.f k=true
 fw:Frx w w' fun b=>∃k bx,M k/\s.h k=some bx/\kb (ρ k)=some b
 nb:∀k bx g,M k->s'.h k=some bx->kb (ρ' k)=some g->g<w'.heap.size/\(w.heap.size<=g\/∃k0 b0,M k0/\s.h k0=some b0/\kb (ρ k0)=some g)
 ds:∀k k' b b' g,M k->M k'->s'.h k=some b->s'.h k'=some b'->kb (ρ' k)=some g->kb (ρ' k')=some g->k=k'
theorem Rp.place (h:Rp c s ρ a w) (p:Stp c s s' ρ ρ' w w' M) {k:Nat} {b:Box} (hk:s.h k=some b):ρ' k=ρ k:=by
 refine p.pl k ?_;cases hf:s.f k with
 | false=>rfl
 | true=>rw [h.wf.h k hf] at hk;cases hk
theorem Rp.fz (h:Rp c s ρ a w) (p:Stp c s s' ρ ρ' w w' M):∀b,Fz c s.h ρ w b->Fz c s'.h ρ' w' b/\w'.heap[b]? = w.heap[b]?:=by
 intro b ⟨h1,h2,h3⟩;refine ⟨⟨h1,Nat.lt_of_lt_of_le h2 p.fw.size,fun k bx hk hg=>?_⟩,p.fw.keep b h2 fun ⟨k,bx,_,hk,hg⟩=>h3 k bx hk hg⟩;by_cases hm:M k
 ·rcases (p.nb k bx b hm hk hg).2 with h4|⟨k0,b0,_,hk0,hg0⟩
  ·omega
  ·exact h3 k0 b0 hk0 hg0
 ·rw [p.ch k hm] at hk;rw [h.place p hk] at hg;exact h3 k bx hk hg
theorem Rp.old (h:Rp c s ρ a w) (p:Stp c s s' ρ ρ' w w' M) {d:TV} {v:Value} (hd:d.rep w (Fz c s.h ρ w) ρ v) (hk:∀k,s.f k=true->d.has k=false):d.rep w' (Fz c s'.h ρ' w') ρ' v :=
 hd.mono (h.fz p) fun k hh=>p.pl k (by
  cases hf:s.f k with
  | false=>rfl
  | true=>rw [hk k hf] at hh;cases hh)
theorem Rp.step (h:Rp c s ρ a w) (p:Stp c s s' ρ ρ' w w' M) (hd:a'.defers=c.dfr) (hsz:a'.tmps.size=c.nt) (hwf:s'.Wf) (hfr:∀k,k∈c.K->s'.f k=false)
  (hnew:∀k bx,M k->s'.h k=some bx->bx.rep w' (Fz c s'.h ρ' w') ρ' (ρ' k))
  (htmp:∀t,(s'.t t).rep w' (Fz c s'.h ρ' w') ρ' (a'.tmps.getD t undef)):Rp c s' ρ' a' w' where
 dfr:=hd
 siz:=hsz
 frm:=⟨p.fw.os.trans h.frm.os,p.fw.tape.trans h.frm.tape,p.fw.output.trans h.frm.output,Nat.le_trans h.frm.size p.fw.size,fun b hb hx=>by
  rw [p.fw.keep b (Nat.lt_of_lt_of_le hb h.frm.size) fun ⟨k,bx,_,hk,hg⟩=>?_,h.frm.keep b hb hx];rcases h.inb k bx b hk hg with h1|h1
  ·exact hx h1
  ·omega⟩
 tmp:=htmp
 hp:=fun k b hk=>by
  by_cases hm:M k
  ·exact hnew k b hm hk
  ·rw [p.ch k hm] at hk;have hpl:=h.place p hk;rw [hpl];refine (h.hp k b hk).mono (fun g hg=>p.fw.keep g (h.ltb hk hg) fun ⟨k',b',hm',hk',hg'⟩=>hm (by rw [h.dis k k' b b' g hk hk' hg hg'];exact hm')) (h.fz p) fun k' hh=>p.pl k' ?_;cases hf:s.f k' with
   | false=>rfl
   | true=>rw [h.wf.b k' k b hf hk] at hh;cases hh
 inb:=fun k b g hk hg=>by
  by_cases hm:M k
  ·rcases (p.nb k b g hm hk hg).2 with h1|⟨k0,b0,_,hk0,hg0⟩
   ·exact .inr (Nat.le_trans h.frm.size h1)
   ·exact h.inb k0 b0 g hk0 hg0
  ·rw [p.ch k hm] at hk;rw [h.place p hk] at hg;exact h.inb k b g hk hg
 dis:=by
  have mix:∀k k' b b' g,M k->¬M k'->s'.h k=some b->s'.h k'=some b'->kb (ρ' k)=some g->kb (ρ' k')=some g->False:=fun k k' b b' g hm hm' hk hk' hg hg'=>by
   rw [p.ch k' hm'] at hk';rw [h.place p hk'] at hg';rcases (p.nb k b g hm hk hg).2 with h1|⟨k0,b0,hm0,hk0,hg0⟩
   ·have:=h.ltb hk' hg';omega
   ·exact hm' (by rw [<-h.dis k0 k' b0 b' g hk0 hk' hg0 hg'];exact hm0)
  intro k k' b b' g hk hk' hg hg';by_cases hm:M k
  ·by_cases hm':M k'
   ·exact p.ds k k' b b' g hm hm' hk hk' hg hg'
   ·exact (mix k k' b b' g hm hm' hk hk' hg hg').elim
  ·by_cases hm':M k'
   ·exact (mix k' k b' b g hm' hm hk' hk hg' hg).elim
   ·rw [p.ch k hm] at hk;rw [p.ch k' hm'] at hk';rw [h.place p hk] at hg;rw [h.place p hk'] at hg';exact h.dis k k' b b' g hk hk' hg hg'
 ent:=fun k hk=>⟨(p.pl k (h.ent k hk).2).trans (h.ent k hk).1,hfr k hk⟩
 wf:=hwf
end
structure Mef:Type 1 where
 d:TV
 hs:List (Nat×Option Box)
 us:List Nat
def aI:List Nat->Nat->Bool
 | [],_=>false
 | k :: r,n=>k.beq n || aI r n
def aF:List (Nat×Option Box)->Nat->Bool
 | [],_=>false
 | (k,_) :: r,n=>k.beq n || aF r n
def hput:List (Nat×Option Box)->(Nat->Option Box)->Nat->Option Box
 | [],h=>h
 | (k,b) :: r,h=>fun n=>bif k.beq n then b else hput r h n
def lX:Option Nat->TV->(Nat->TV)->Nat->TV
 | none,_,t=>t
 | some k,d,t=>fun n=>bif k.beq n then d else t n
def Mst.app (s:Mst) (dst:Option Nat) (e:Mef):Mst:={ t:=lX dst e.d s.t,h:=hput e.hs s.h,f:=fun n=>s.f n && !aI e.us n }
abbrev TV.c (d:D):TV:=.v (.one d)
abbrev TV.i (n:Int):TV:=.v (.one (.sc (.int .i64 n)))
abbrev TV.b (x:Bool):TV:=.v (.one (.sc (.bool x)))
def yB:Value->TV
 | .agg cs=>.v (.ag (cs.toList.map .sc))
 | v=>.v (.one (.sc v))
def Mst.ev (s:Mst):Operand->TV
 | .tmp t=>s.t t
 | .const v=>yB v
 | .global g=>.v (.one (.sc (.pointer (some ⟨g,0,none⟩))))
 | .func f=>.v (.one (.sc (.func (.func f) #[] #[])))
theorem cc:∀{l:List (Nat×Option Box)} {h:Nat->Option Box} {n:Nat},aF l n=false->hput l h n=h n
 | [],_,_,_=>rfl
 | (k,b) :: r,h,n,e=>by
  simp only [aF,Bool.or_eq_false_iff] at e;simp only [hput,e.1,qCf];exact cc e.2
theorem yC:∀{l:List (Nat×Option Box)} {h h':Nat->Option Box} {n:Nat},aF l n=true->hput l h n=hput l h' n
 | [],_,_,_,e=>by simp [aF] at e
 | (k,b) :: r,h,h',n,e=>by
  simp only [hput];cases hk:k.beq n with
  | true=>rfl
  | false =>
   simp only [aF,hk,Bool.false_or] at e;simp only [qCf];exact yC e
theorem Fp {l m:List (Nat×Option Box)} {h:Nat->Option Box} (hd:∀n,aF l n=true->aF m n=false):hput l (hput m h)=hput m (hput l h):=by
 funext n
 cases hl:aF l n with
 | true=>rw [cc (hd n hl),yC hl]
 | false =>
  rw [cc hl];cases hm:aF m n with
  | true=>exact yC hm
  | false=>rw [cc hm,cc hm,cc hl]
theorem Fq {a b:Option Nat} {x y:TV} {t:Nat->TV} (h:∀d,a=some d->b≠some d):lX a x (lX b y t)=lX b y (lX a x t):=by
 cases a with
 | none=>rfl
 | some d =>
  cases b with
  | none=>rfl
  | some e =>
   have hne:d≠e:=fun he=>h d rfl (he▸rfl);funext n
   simp only [lX];cases h1:d.beq n with
   | false=>rfl
   | true =>
    have:e.beq n=false:=by
     cases h2:e.beq n with
     | false=>rfl
     | true=>exact absurd ((qNb h1).trans (qNb h2).symm) hne
    simp [this]
theorem yD {a:Option Nat} {x:TV} {t:Nat->TV} {n:Nat} (h:a≠some n):lX a x t n=t n:=by
 cases a with
 | none=>rfl
 | some d =>
  simp only [lX];cases h1:d.beq n with
  | false=>rfl
  | true=>exact absurd (by rw [qNb h1]) h
theorem Mst.app_comm {s:Mst} {a b:Option Nat} {x y:Mef} (h:∀d,a=some d->b≠some d) (hd:∀n,aF x.hs n=true->aF y.hs n=false):(s.app a x).app b y=(s.app b y).app a x:=by
 simp only [Mst.app,Mst.mk.injEq];refine ⟨(Fq h).symm,(Fp hd).symm,?_⟩;funext n
 cases s.f n <;> cases aI x.us n <;> cases aI y.us n <;> rfl
section
variable {c:Ctx} {s st:Mst} {ρ:Nat->Value} {a:Act} {w:World} {P:Program}
theorem All2.scs {w:World} {F:Nat->Prop} {ρ:Nat->Value}:∀(l:List Value),All2 (D.rep w F ρ) (l.map .sc) l
 | []=>trivial
 | x :: l=>⟨rfl,All2.scs l⟩
theorem Rp.ev (h:Rp c s ρ a w) (x:Operand):(s.ev x).rep w (Fz c s.h ρ w) ρ (a.eval x):=by
 cases x with
 | tmp t=>exact h.tmp t
 | const v =>
  cases v with
  | agg cs=>exact ⟨cs.toList,by simp [Act.eval],All2.scs _⟩
  | _=>exact rfl
 | global g=>exact rfl
 | func f=>exact rfl
theorem Rp.drew (h:Rp c s ρ a w):Rp c s ρ a { w with drawn:=w.drawn+1 } where
 dfr:=h.dfr
 siz:=h.siz
 frm:=⟨h.frm.os,h.frm.tape,h.frm.output,h.frm.size,h.frm.keep⟩
 tmp:=fun t=>(h.tmp t).mono (fun b hb=>⟨hb,rfl⟩) fun _ _=>rfl
 hp:=fun k b hk=>(h.hp k b hk).mono (fun _ _=>rfl) (fun b hb=>⟨hb,rfl⟩) fun _ _=>rfl
 inb:=h.inb
 dis:=h.dis
 ent:=h.ent
 wf:=h.wf
def LOp (P:Program) (o:Oper) (s:Mst) (R:List Nat) (e:Mef):Prop :=
 ∀(c:Ctx) (st:Mst) (ρ:Nat->Value) (a:Act) (w:World),Rp c st ρ a w->(∀x,x∈o.op.operands->st.ev x=s.ev x)->(∀k,aI R k=true->st.h k=s.h k)->(∀k,aI e.us k=true->st.f k=true)->(∀d,o.dst=some d->d<c.nt)->
  o.wp P a w (fun a' w'=>∃ρ',Rp c (st.app o.dst e) ρ' a' w') fun _ _ _=>False
theorem Oper.wp_post {o:Oper} {a:Act} {w:World} {K K':Act->World->Prop} {Q:Exit->Act->World->Prop} (h:o.wp P a w K fun _ _ _=>False) (hK:∀a w,K a w->K' a w):o.wp P a w K' Q:=by
 unfold Oper.wp at *
 generalize (execOp a.eval o).run P w=r at *
 cases r with
 | ok n w' =>
  cases n <;> simp only [Oper.upon] at h ⊢ <;>
   first|exact hK _ _ h|exact Calls.mono h (fun e w'' he=>by cases e <;> first|exact hK _ _ he|exact he.elim|(obtain ⟨_,_,hf⟩:=he;exact hf.elim))|exact Rows.mono h (fun _ _ he=>hK _ _ he)
 | halt x w'=>cases x <;> simp only [Oper.upon] at h
def Mst.gd (s:Mst) (ops:Array Oper) (o:Oper):Option Bool :=
 match o.guard with
 | none=>some true
 | some (j,want) =>
  match ((ops[j]?).bind (·.dst)).map s.t with
  | some (.v (.one (.sc (.bool b))))=>some (b == want)
  | some (.v (.one (.sc (.tuple _))))=>some false
  | _=>none
theorem Rp.gd {ops:Array Oper} {o:Oper} {g:Bool} (h:Rp c s ρ a w) (hg:s.gd ops o=some g):Region.wanted o (yielded ops a.tmps)=g:=by
 unfold Mst.gd at hg;unfold Region.wanted;split at hg
 ·rename_i h1
  rw [h1];exact Option.some.inj hg
 ·rename_i j want h1
  rw [h1];dsimp only;unfold yielded;cases hd:(ops[j]?).bind (·.dst) with
  | none=>rw [hd] at hg;simp at hg
  | some t =>
   rw [hd] at hg;simp only [Option.map_some,Option.bind_some] at hg ⊢;have ht:=h.tmp t;generalize s.t t=d at *
   split at hg
   ·rename_i b hb
    injection hb with hb;subst hb;have h2:a.tmps.getD t undef = .bool b:=ht;have h3:a.tmps[t]? = some (.bool b):=by
     rw [Array.getD_eq_getD_getElem?] at h2;cases h4:a.tmps[t]? with
     | none=>rw [h4] at h2;simp [undef] at h2
     | some v=>rw [h4] at h2;simp at h2;rw [h2]
    rw [h3];have hg:=Option.some.inj hg;rw [<-hg];cases b <;> cases want <;> rfl
   ·rename_i vs hb
    injection hb with hb;subst hb;have h2:a.tmps.getD t undef = .tuple vs:=ht;rw [Array.getD_eq_getD_getElem?] at h2;have hg:=Option.some.inj hg;rw [<-hg];cases h4:a.tmps[t]? with
    | none=>rfl
    | some v=>rw [h4] at h2;simp at h2;subst h2;rfl
   ·cases hg
def DW (P:Program) (ops:Array Oper):List Oper->List (List Nat×List Nat)->Mst->(Mst->Prop)->Prop
 | [],_,s,K=>K s
 | o :: r,fps,s,K=>∃R W fps',fps=(R,W) :: fps'/\∃g,s.gd ops o=some g/\
   (g=true->∃e,(LOp P o s R e/\(∀k,aF e.hs k=true->aI W k=true)/\∀k,aI e.us k=true->s.f k=true)/\DW P ops r fps' (s.app o.dst e) K)/\
   (g=false->DW P ops r fps' (s.app o.dst ⟨.c (.sc undef),[],[]⟩) K)
def fW (nt:Nat) (l:List Oper):Bool:=l.all fun o=>match o.dst with|some d=>Nat.blt d nt|none=>true
theorem qJ {nt:Nat} {l:List Oper} (h:fW nt l=true) {o:Oper} (ho:o∈l) {d:Nat} (hd:o.dst=some d):d<nt:=by
 have:=List.all_eq_true.1 h o ho;rw [hd] at this;simpa using this
theorem Rp.put_any (h:Rp c s ρ a w) (dst:Option Nat):Rp c (s.app dst ⟨.c (.sc undef),[],[]⟩) ρ (a.put dst undef) w where
 dfr:=by cases dst <;> exact h.dfr
 siz:=by cases dst <;> simp [Act.put,h.siz]
 frm:=h.frm
 tmp:=fun t=>by
  cases dst with
  | none=>exact h.tmp t
  | some d =>
   simp only [Mst.app,lX];by_cases e:d=t
   ·subst e;simp only [Nat.beq_refl,qCt];show (a.tmps.setIfInBounds d undef).getD d undef=undef;rw [Array.getD_eq_getD_getElem?,Array.getElem?_setIfInBounds];simp only [if_true];split <;> rfl
   ·have:d.beq t=false:=by
     cases h2:d.beq t with
     | false=>rfl
     | true=>exact absurd (qNb h2) e
    simp only [this,qCf,Act.put,Array.getD_eq_getD_getElem?,Array.getElem?_setIfInBounds_ne e];have:=h.tmp t
    rwa [Array.getD_eq_getD_getElem?] at this
 hp:=h.hp
 inb:=h.inb
 dis:=h.dis
 ent:=fun k hk=>⟨(h.ent k hk).1,by simp [Mst.app,aI,(h.ent k hk).2]⟩
 wf:=⟨fun k hk=>h.wf.h k (by simpa [Mst.app,aI] using hk),fun k t hk=>by
   have hk':s.f k=true:=by simpa [Mst.app,aI] using hk
   cases dst with
   | none=>exact h.wf.t k t hk'
   | some d =>
    simp only [Mst.app,lX];cases d.beq t with
    | true=>rfl
    | false=>exact h.wf.t k t hk',fun k k' b hk hb=>h.wf.b k k' b (by simpa [Mst.app,aI] using hk) hb⟩
def AW (P:Program) (nt:Nat) (K:List Nat) (code:Code) (Q:Exit->Mst->Prop) (s:Mst):Prop :=
 ∀(c:Ctx) (ρ:Nat->Value) (a:Act) (w:World),c.nt=nt->c.K=K->Rp c s ρ a w->code.wp P (fun e a' w'=>∃s' ρ',Q e s'/\Rp c s' ρ' a' w') a w
theorem j8 {ops:Array Oper} {Q:Exit->Act->World->Prop} (c:Ctx):∀(l:List Oper) (fps:List (List Nat×List Nat)) (s:Mst) (K:Mst->Prop),fW c.nt l=true->DW P ops l fps s K->(∀s' ρ' a' w',K s'->Rp c s' ρ' a' w'->Q .normal a' w')->
  ∀(ρ:Nat->Value) (a:Act) (w:World),Rp c s ρ a w->wpList P ops Q l a w
 | [],_,s,K,_,h,hQ,ρ,a,w,hr=>hQ s ρ a w h hr
 | o :: l,fps,s,K,hnt,h,hQ,ρ,a,w,hr=>by
  obtain ⟨R,W,fps',_,g,hg,h1,h2⟩:=h;have hnt':fW c.nt l=true:=by simp [fW] at hnt ⊢;exact hnt.2
  refine wpList_step fun K' hK'=>?_;rw [hr.gd hg];cases g with
  | true =>
   obtain ⟨e,⟨he,hkw,hu⟩,hn⟩:=h1 rfl;rw [if_pos rfl];have h3:=he c s ρ a w hr (fun _ _=>rfl) (fun _ _=>rfl) hu (fun d hd=>qJ hnt (by simp) hd);refine Oper.wp_post h3 ?_;rintro a' w' ⟨ρ',hr'⟩;exact hK' _ _ (j8 c l fps' _ K hnt' hn hQ ρ' a' w' hr')
  | false =>
   rw [if_neg (by simp)];exact hK' _ _ (j8 c l fps' _ K hnt' (h2 rfl) hQ ρ _ w (hr.put_any o.dst))
theorem Fr {nt id:Nat} {Ks:List Nat} {l:List Oper} {fps:List (List Nat×List Nat)} {Q:Exit->Mst->Prop} (hnt:fW nt l=true) (h:DW P l.toArray l fps s fun s'=>Q .normal s'):AW P nt Ks (.region id l.toArray false) Q s:=by
 intro c ρ a w hc _ hr;subst hc;exact wp_region_lit (j8 c l fps s _ hnt h (fun s' ρ' a' w' hq hr'=>⟨s',ρ',hq,hr'⟩) ρ a w hr)
end
section
variable {P:Program} {ops:Array Oper}
def Ku (ops:Array Oper):Nat->Nat->Nat->Bool
 | 0,_,_=>false
 | n+1,i,j=>match ops[j]? with
  | none=>false
  | some o=>o.after.any fun e=>Region.binds .any e && (e.on == i || Ku ops n i e.on)
def Ow (x y:List Nat×List Nat):Bool:=x.2.all (fun k=>!aI y.1 k && !aI y.2 k) && y.2.all fun k=>!aI x.1 k
def n4 (fps:List (List Nat×List Nat)) (i:Nat):List Nat×List Nat:=fps.getD i ([],[])
def yE (ops:Array Oper) (fps:List (List Nat×List Nat)) (listed:Array Bool) (k:Nat):Bool :=
 match ops[k]? with
 | none=>false
 | some o=>(List.range ops.size).all fun j=>j == k || listed.getD j true || Ku ops 6 k j || (match ops[j]? with|none=>true|some o'=>o.apart ops o' && Ow (n4 fps k) (n4 fps j))
def oV (ops:Array Oper) (fps:List (List Nat×List Nat)):Nat->Nat->Array Bool->Bool
 | 0,_,listed=>(Region.ready .any ops listed).isEmpty
 | fuel+1,k,listed=>(Region.ready .any ops listed).contains k && yE ops fps listed k && oV ops fps fuel (k+1) (listed.setIfInBounds k true)
def DC (ops:Array Oper) (listed:Array Bool):Prop:=∀(k:Nat) (o:Oper),ops[k]? = some o->listed.getD k false=true->∀e∈o.after,Region.binds .any e=true->listed.getD e.on false=true
theorem DN {l:Array Bool} {i:Nat} (h:l.getD i true=false):l.getD i false=false:=by
 rw [Array.getD_eq_getD_getElem?] at *
 cases h1:l[i]? with
 | none=>rfl
 | some b=>rw [h1] at h;exact h
theorem uz {listed:Array Bool} (hd:DC ops listed) {i:Nat} (hi:listed.getD i true=false):∀(n k:Nat),listed.getD k false=true->Ku ops n i k=false
 | 0,_,_=>rfl
 | n+1,k,hk=>by
  unfold Ku;cases ho:ops[k]? with
  | none=>rfl
  | some o =>
   dsimp only;rw [Array.any_eq_false'];intro e he;cases hb:Region.binds .any e with
   | false=>simp
   | true =>
    have h1:=hd k o ho hk e he hb;have h2:(e.on == i)=false:=by
     rw [beq_eq_false_iff_ne];intro heq;rw [heq,DN hi] at h1;cases h1
    simp [h2,uz hd hi n e.on h1]
theorem Fs {listed:Array Bool} (hd:DC ops listed) {i j:Nat} (hi:listed.getD i true=false) (hj:j∈Region.ready .any ops listed) (n:Nat):Ku ops n i j=false:=by
 cases n with
 | zero=>rfl
 | succ n =>
  obtain ⟨_,o,ho,hall⟩:=mem_ready.1 hj;unfold Ku;rw [ho];dsimp only;rw [Array.any_eq_false'];intro e he;cases hb:Region.binds .any e with
  | false=>simp
  | true =>
   have h1:=hall e he hb;have h2:(e.on == i)=false:=by
    rw [beq_eq_false_iff_ne];intro heq;rw [heq,DN hi] at h1;cases h1
   simp [h2,uz hd hi n e.on h1]
theorem DC.set {listed:Array Bool} (hd:DC ops listed) {i:Nat} (hi:i∈Region.ready .any ops listed):DC ops (listed.setIfInBounds i true):=by
 have up:∀k,listed.getD k false=true->(listed.setIfInBounds i true).getD k false=true:=fun k hk=>by
  rw [Array.getD_eq_getD_getElem?] at *
  rw [Array.getElem?_setIfInBounds];split
  ·rename_i h1
   subst h1;split
   ·rfl
   ·rename_i h2
    rw [Array.getElem?_eq_none (by omega)] at hk;exact hk
  ·exact hk
 intro k o ho hk e he hb;by_cases hki:i=k
 ·subst hki;obtain ⟨_,o',ho',hall⟩:=mem_ready.1 hi;rw [ho] at ho';injection ho' with ho';subst ho';exact up _ (hall e he hb)
 ·refine up _ (hd k o ho ?_ e he hb);rw [Array.getD_eq_getD_getElem?] at *
  rwa [Array.getElem?_setIfInBounds_ne hki] at hk
def Acts (P:Program) (ops:Array Oper) (o:Oper) (s:Mst) (R W:List Nat) (e:Mef):Prop :=
 (s.gd ops o=some true/\LOp P o s R e/\(∀k,aF e.hs k=true->aI W k=true)/\∀k,aI e.us k=true->s.f k=true)\/(s.gd ops o=some false/\e=⟨.c (.sc undef),[],[]⟩)
def OF (P:Program) (ops:Array Oper) (fps:List (List Nat×List Nat)) (i:Nat) (K:Mst->Prop) (s:Mst):Prop :=
 match ops[i]? with
 | none=>K s
 | some o=>∃e,Acts P ops o s (n4 fps i).1 (n4 fps i).2 e/\K (s.app o.dst e)
theorem LOp.congr {o:Oper} {s s':Mst} {R:List Nat} {e:Mef} (h:LOp P o s R e) (he:∀x,x∈o.op.operands->s'.ev x=s.ev x) (hR:∀k,aI R k=true->s'.h k=s.h k):LOp P o s' R e :=
 fun c st ρ a w hr h1 h2 h3 h4=>h c st ρ a w hr (fun x hx=>(h1 x hx).trans (he x hx)) (fun k hk=>(h2 k hk).trans (hR k hk)) h3 h4
theorem zZ {o:Oper} {s s':Mst} (h:∀t,t∈o.looksAt ops->s'.t t=s.t t):s'.gd ops o=s.gd ops o:=by
 unfold Mst.gd;cases hg:o.guard with
 | none=>rfl
 | some g =>
  obtain ⟨j,want⟩:=g;dsimp only;cases hd:(ops[j]?).bind (·.dst) with
  | none=>rfl
  | some t=>simp only [Option.map_some];rw [h t (by simp [Oper.looksAt,hg,hd])]
theorem Hk {o:Oper} {s s':Mst} (h:∀t,t∈o.looksAt ops->s'.t t=s.t t) {x:Operand} (hx:x∈o.op.operands):s'.ev x=s.ev x:=by
 cases x with
 | tmp t=>exact h t (by simp [Oper.looksAt];exact .inl ⟨_,hx,rfl⟩)
 | _=>rfl
theorem Acts.congr {o:Oper} {s s':Mst} {R W:List Nat} {e:Mef} (h:Acts P ops o s R W e) (ht:∀t,t∈o.looksAt ops->s'.t t=s.t t) (hR:∀k,aI R k=true->s'.h k=s.h k) (hf:∀k,aI e.us k=true->s.f k=true->s'.f k=true):Acts P ops o s' R W e:=by
 rcases h with ⟨h1,h2,h3,h4⟩|⟨h1,h2⟩
 ·exact .inl ⟨(zZ ht).trans h1,h2.congr (fun x hx=>Hk ht hx) hR,h3,fun k hk=>hf k hk (h4 k hk)⟩
 ·exact .inr ⟨(zZ ht).trans h1,h2⟩
theorem Acts.keys {o:Oper} {s:Mst} {R W:List Nat} {e:Mef} (h:Acts P ops o s R W e) {k:Nat} (hk:aF e.hs k=true):aI W k=true:=by
 rcases h with ⟨_,_,h3,_⟩|⟨_,rfl⟩
 ·exact h3 k hk
 ·simp [aF] at hk
theorem Acts.fr {o:Oper} {s:Mst} {R W:List Nat} {e:Mef} (h:Acts P ops o s R W e) {k:Nat} (hk:aI e.us k=true):s.f k=true:=by
 rcases h with ⟨_,_,_,h4⟩|⟨_,rfl⟩
 ·exact h4 k hk
 ·simp [aI] at hk
theorem j9 {l:List Nat} {p:Nat->Bool} (h:l.all p=true):∀k,aI l k=true->p k=true:=by
 induction l with
 | nil=>intro k hk;simp [aI] at hk
 | cons x l ih =>
  intro k hk;simp only [List.all_cons,qBa] at h;simp only [aI,Bool.or_eq_true] at hk;rcases hk with hk|hk
  ·rw [<-qNb hk];exact h.1
  ·exact ih h.2 k hk
theorem Hl {x y:List Nat×List Nat} (h:Ow x y=true):(∀k,aI x.2 k=true->aI y.1 k=false/\aI y.2 k=false)/\∀k,aI y.2 k=true->aI x.1 k=false:=by
 simp only [Ow,qBa] at h;refine ⟨fun k hk=>?_,fun k hk=>?_⟩
 ·have:=j9 h.1 k hk;simpa using this
 ·have:=j9 h.2 k hk;simpa using this
theorem Acts.swap {oi oj:Oper} {s:Mst} {fi fj:List Nat×List Nat} {ei ej:Mef} (hap:oi.apart ops oj=true) (hnc:Ow fi fj=true) (hi:Acts P ops oi s fi.1 fi.2 ei) (hj:Acts P ops oj (s.app oi.dst ei) fj.1 fj.2 ej) :
  Acts P ops oj s fj.1 fj.2 ej/\Acts P ops oi (s.app oj.dst ej) fi.1 fi.2 ei/\(s.app oj.dst ej).app oi.dst ei=(s.app oi.dst ei).app oj.dst ej:=by
 obtain ⟨h1,h2,h3⟩:=Oper.apart_spec hap;obtain ⟨n1,n2⟩:=Hl hnc;have ki:∀k,aI fj.1 k=true->aF ei.hs k=false:=fun k hk=>by
  cases hh:aF ei.hs k with
  | false=>rfl
  | true=>rw [(n1 k (hi.keys hh)).1] at hk;cases hk
 have kj:∀k,aI fi.1 k=true->aF ej.hs k=false:=fun k hk=>by
  cases hh:aF ej.hs k with
  | false=>rfl
  | true=>rw [n2 k (hj.keys hh)] at hk;cases hk
 have kk:∀k,aF ei.hs k=true->aF ej.hs k=false:=fun k hk=>by
  cases hh:aF ej.hs k with
  | false=>rfl
  | true=>have:=(n1 k (hi.keys hk)).2;rw [hj.keys hh] at this;cases this
 refine ⟨hj.congr (fun t ht=>?_) (fun k hk=>?_) fun k _ hf=>?_,hi.congr (fun t ht=>?_) (fun k hk=>?_) fun k hk hf=>?_,(Mst.app_comm h2 kk).symm⟩
 ·exact (yD (fun e=>h1 t e ht)).symm
 ·exact (cc (ki k hk)).symm
 ·simp only [Mst.app,qBa] at hf;exact hf.1
 ·exact yD (fun e=>h3 t e ht)
 ·exact cc (kj k hk)
 ·simp only [Mst.app,hf,Bool.true_and];cases hh:aI ej.us k with
  | false=>rfl
  | true =>
   have:=hj.fr hh;simp only [Mst.app,hk,Bool.not_true,Bool.and_false] at this;cases this
def uA (P:Program) (ops:Array Oper) (fps:List (List Nat×List Nat)) (K:Mst->Prop):Nat->Array Bool->Mst->Prop
 | 0,listed,s=>Region.ready .any ops listed=[]/\K s
 | fuel+1,listed,s=>(Region.ready .any ops listed=[]->K s)/\∀i∈Region.ready .any ops listed,OF P ops fps i (uA P ops fps K fuel (listed.setIfInBounds i true)) s
theorem yF {fps:List (List Nat×List Nat)} {K:Mst->Prop} {i:Nat} {oi:Oper} {ei:Mef} (hi:ops[i]? = some oi) :
  ∀(fuel:Nat) (listed:Array Bool) (s:Mst),DC ops listed->
   (∀j oj,ops[j]? = some oj->j≠i->listed.getD j true=false->Ku ops 6 i j=false->oi.apart ops oj=true/\Ow (n4 fps i) (n4 fps j)=true)->
   i∈Region.ready .any ops listed->Acts P ops oi s (n4 fps i).1 (n4 fps i).2 ei->
   uA P ops fps K fuel (listed.setIfInBounds i true) (s.app oi.dst ei)->uA P ops fps K (fuel+1) listed s:=by
 intro fuel;induction fuel with
 | zero =>
  intro listed s hdc _ hr hy H;refine ⟨fun h=>(by rw [h] at hr;cases hr),fun j hj=>?_⟩;by_cases hji:j=i
  ·subst hji;unfold OF;rw [hi];exact ⟨ei,hy,H⟩
  ·have:=ready_mono hj hji;rw [H.1] at this;cases this
 | succ fuel ih =>
  intro listed s hdc hfree hr hy H;refine ⟨fun h=>(by rw [h] at hr;cases hr),fun j hj=>?_⟩;by_cases hji:j=i
  ·subst hji;unfold OF;rw [hi];exact ⟨ei,hy,H⟩
  ·have h1:=H.2 j (ready_mono hj hji);obtain ⟨hjun,oj,hoj,hall⟩:=mem_ready.1 hj;obtain ⟨hap,hnc⟩:=hfree j oj hoj hji hjun (Fs hdc (mem_ready.1 hr).1 hj 6);unfold OF at h1 ⊢;rw [hoj] at h1 ⊢;obtain ⟨ej,hej,hK⟩:=h1;obtain ⟨a1,a2,a3⟩:=hy.swap hap hnc hej;refine ⟨ej,a1,ih (listed.setIfInBounds j true) _ (hdc.set hj) ?_ (ready_mono hr (Ne.symm hji)) a2 ?_⟩
   ·intro k ok hk hki hun hno;refine hfree k ok hk hki ?_ hno;by_cases hjk:j=k
    ·subst hjk;exact hjun
    ·rw [getD_set_ne true hjk] at hun;exact hun
   ·rw [Array.setIfInBounds_comm _ _ hji,a3];exact hK
theorem uB {fps:List (List Nat×List Nat)} {K:Mst->Prop}:∀(l:List Oper) (k:Nat) (listed:Array Bool) (s:Mst) (gps:List (List Nat×List Nat)),(∀j,l[j]? = ops[k+j]?)->(∀j,j<l.length->gps.getD j ([],[])=n4 fps (k+j))->DC ops listed->
  oV ops fps l.length k listed=true->DW P ops l gps s K->uA P ops fps K l.length listed s
 | [],_,_,_,_,_,_,_,hB,h=>⟨by simpa [oV] using hB,h⟩
 | o :: l,k,listed,s,gps,hl,hg,hdc,hB,h=>by
  have h0:ops[k]? = some o:=by simpa using (hl 0).symm
  simp only [List.length_cons,oV,qBa] at hB;obtain ⟨⟨hr,hf⟩,hB'⟩:=hB;have hr':k∈Region.ready .any ops listed:=by simpa using hr
  obtain ⟨R,W,gps',rfl,g,hgd,ht,hff⟩:=h;have hfp:n4 fps k=(R,W):=by have:=hg 0 (by simp);simpa using this.symm
  have step:∃e,Acts P ops o s (n4 fps k).1 (n4 fps k).2 e/\DW P ops l gps' (s.app o.dst e) K:=by
   rw [hfp];cases g with
   | true=>obtain ⟨e,⟨h1,h2,h3⟩,h4⟩:=ht rfl;exact ⟨e,.inl ⟨hgd,h1,h2,h3⟩,h4⟩
   | false=>exact ⟨_,.inr ⟨hgd,rfl⟩,hff rfl⟩
  obtain ⟨e,hy,hK⟩:=step;refine yF h0 l.length listed s hdc ?_ hr' hy ?_
  ·intro j oj hj hji hun hno;unfold yE at hf;rw [h0] at hf;dsimp only at hf;have hlt:j<ops.size:=(Array.getElem?_eq_some_iff.1 hj).1;have h5:=List.all_eq_true.1 hf j (by simpa using hlt);rw [hj] at h5;simp only [hun,hno,Bool.or_false,Bool.or_eq_true,qBa,beq_iff_eq] at h5;rcases h5 with h5|h5
   ·exact absurd h5 hji
   ·exact h5
  ·exact uB l (k+1) _ _ gps' (fun j=>by have:=hl (j+1);simpa [Nat.add_assoc,Nat.add_comm 1 j] using this) (fun j hj=>by have:=hg (j+1) (by simpa using hj);simpa [Nat.add_assoc,Nat.add_comm 1 j] using this) (hdc.set hr') hB' hK
theorem ka {fps:List (List Nat×List Nat)} {K:Mst->Prop} {Q:Exit->Act->World->Prop} (c:Ctx) (hnt:fW c.nt ops.toList=true) (hQ:∀s' ρ' a' w',K s'->Rp c s' ρ' a' w'->Q .normal a' w') :
  ∀(fuel:Nat) (listed:Array Bool) (s:Mst) (ρ:Nat->Value) (a:Act) (w:World),Rp c s ρ a w->uA P ops fps K fuel listed s->wpAny P .any ops Q fuel listed a w
 | 0,_,s,ρ,a,w,hr,h=>⟨h.1,hQ _ _ _ _ h.2 hr⟩
 | fuel+1,listed,s,ρ,a,w,hr,h=>by
  refine ⟨fun h0=>hQ _ _ _ _ (h.1 h0) hr,fun i hi=>?_⟩;have h1:=h.2 i hi;unfold OF at h1;unfold wpOp;split
  ·rename_i ho
   rw [ho] at h1;exact ka c hnt hQ fuel _ s ρ a w hr h1
  ·rename_i o ho
   rw [ho] at h1;obtain ⟨e,he,hK⟩:=h1;have hmem:o∈ops.toList:=by
    have:=(Array.getElem?_eq_some_iff.1 ho).2;rw [<-this];simp
   rcases he with ⟨hg,hl,hk,hu⟩|⟨hg,rfl⟩
   ·rw [hr.gd hg,if_pos rfl];refine .inl (Oper.wp_post (hl c s ρ a w hr (fun _ _=>rfl) (fun _ _=>rfl) hu fun d hd=>qJ hnt hmem hd) ?_);rintro a' w' ⟨ρ',hr'⟩;exact ka c hnt hQ fuel _ _ ρ' a' w' hr' hK
   ·rw [hr.gd hg,if_neg (by simp)];exact ka c hnt hQ fuel _ _ ρ _ w (hr.put_any o.dst) hK
theorem uC {nt id:Nat} {Ks:List Nat} {l:List Oper} {fps:List (List Nat×List Nat)} {Q:Exit->Mst->Prop} {s:Mst} (hm:P.follows .mixedOrders=true) (hnt:fW nt l=true) (h:DW P l.toArray l fps s fun s'=>Q .normal s') (hB:oV l.toArray fps l.length 0 (Array.replicate l.length false)=true):AW P nt Ks (.region id l.toArray true) Q s:=by
 intro c ρ a w hc _ hr;subst hc;refine wp_region_any hm ?_;have h1:=uB (P:=P) (ops:=l.toArray) (fps:=fps) l 0 (Array.replicate l.length false) s fps (by simp) (fun j _=>by simp [n4]) (fun k o _ hk=>by
  exfalso;rw [Array.getD_eq_getD_getElem?,Array.getElem?_replicate] at hk;split at hk <;> simp at hk) hB h
 exact ka c (by simpa using hnt) (fun s' ρ' a' w' hq hr'=>⟨s',ρ',hq,hr'⟩) _ _ s ρ a _ hr.drew (by simpa using h1)
end
class TI (P:Program) (t:TypeId) (row:outParam Bool) (n:outParam Nat):Prop where
 u:∃d,P.underlying t=some d/\(match d with | .struct _ | .array _ _=>true|_=>false)=row
 s:(P.info? t).map (·.size)=some n
class FO (P:Program) (t:TypeId) (f:Nat) (off:outParam Nat) (ft:outParam TypeId):Prop where
 u:∃fs x i,P.underlying t=some (.struct fs)/\fs[f]? = some x/\x.offset=off/\x.type=ft/\P.info? ft=some i/\i.size≠0
class SE (P:Program) (t:TypeId) (e:outParam TypeId):Prop where
 u:P.underlying t=some (.slice e)
class TZ (P:Program) (t:TypeId) (zs:outParam (List Value)):Prop where
 z:∃i v,P.info? t=some i/\i.zero=some v/\v.cells=zs.toArray
 o:∀u∈zs,u.oneCell'=true
 n:(P.info? t).map (·.size)=some zs.length
class Dp {α:Type} (E:El α) where
 deep:α->List D
 get:∀{w:World} {F:Nat->Prop} {ρ:Nat->Value} {x:α} {cs:List Value},E.rep w F x cs->All2 (D.rep w F ρ) (deep x) cs
 put:∀{w:World} {F:Nat->Prop} {ρ:Nat->Value} {x:α} {cs:List Value},All2 (D.rep w F ρ) (deep x) cs->E.rep w F x cs
 nok:∀x k,(deep x).any (D.has k)=false
theorem dd (b off j:Nat):(Addr.mk b off none).add j=⟨b,off+j,none⟩:=fy b off j
section
variable {P:Program} {o:Oper} {s:Mst} {R:List Nat} {d:TV}
theorem Oper.wp_value {a:Act} {w w':World} {v:Value} {K:Act->World->Prop} {Q:Exit->Act->World->Prop} (h:(execOp a.eval o).run P w = .ok (.value v) w') (hK:K (a.put o.dst v) w'):o.wp P a w K Q:=by
 unfold Oper.wp;rw [h];exact hK
theorem Oper.wp_skip {a:Act} {w w':World} {K:Act->World->Prop} {Q:Exit->Act->World->Prop} (h:(execOp a.eval o).run P w = .ok .skip w') (hK:K (a.put o.dst undef) w'):o.wp P a w K Q:=by
 unfold Oper.wp;rw [h];exact hK
theorem Kv {c:Ctx} {a:Act} {dst:Option Nat} {v:Value} (hs:a.tmps.size=c.nt) (hd:∀d,dst=some d->d<c.nt) (t:Nat) :
  (a.put dst v).tmps.getD t undef=if dst=some t then v else a.tmps.getD t undef:=by
 cases dst with
 | none=>simp [Act.put]
 | some d =>
  by_cases e:d=t
  ·subst e;have:d<a.tmps.size:=by rw [hs];exact hd d rfl
   simp [Act.put,Array.getD_eq_getD_getElem?,this]
  ·have h1:¬(some d=some t):=fun h=>e (by injection h);rw [if_neg h1];simp [Act.put,Array.getD_eq_getD_getElem?,Array.getElem?_setIfInBounds_ne e]
theorem Hm {a:Act} {dst:Option Nat} {v:Value}:(a.put dst v).tmps.size=a.tmps.size:=by cases dst <;> simp [Act.put]
theorem Cv {a:Act} {dst:Option Nat} {v:Value}:(a.put dst v).defers=a.defers:=by cases dst <;> rfl
theorem DO (dst:Option Nat) (d:TV) (t:Nat->TV) (n:Nat):lX dst d t n=if dst=some n then d else t n:=by
 by_cases h:dst=some n
 ·subst h;simp [lX]
 ·rw [if_neg h,yD h]
theorem yG {l:List (Nat×Option Box)} {h:Nat->Option Box} {k:Nat} (h1:h k=none) (h2:aF l k=false):hput l h k=none:=by rw [cc h2,h1]
theorem Rp.app {c:Ctx} {st:Mst} {ρ ρ':Nat->Value} {a:Act} {w w':World} {dst:Option Nat} {e:Mef} {v:Value} (hr:Rp c st ρ a w) (hdst:∀d,dst=some d->d<c.nt)
  (hu:∀k,aI e.us k=true->st.f k=true/\aF e.hs k=true)
  (hpl:∀k,aI e.us k=false->ρ' k=ρ k)
  (hex:∀k,aF e.hs k=true->aI e.us k=true\/st.f k=false)
  (hfw:Frx w w' fun b=>∃k bx,aF e.hs k=true/\st.h k=some bx/\kb (ρ k)=some b)
  (hnb:∀k bx g,aF e.hs k=true->hput e.hs st.h k=some bx->kb (ρ' k)=some g->g<w'.heap.size/\(w.heap.size<=g\/∃k0 b0,aF e.hs k0=true/\st.h k0=some b0/\kb (ρ k0)=some g))
  (hds:∀k k' b b' g,aF e.hs k=true->aF e.hs k'=true->hput e.hs st.h k=some b->hput e.hs st.h k'=some b'->kb (ρ' k)=some g->kb (ρ' k')=some g->k=k')
  (hkd:∀k,e.d.has k=true->aI e.us k=true\/st.f k=false)
  (hkb:∀k k' bx,aF e.hs k'=true->hput e.hs st.h k'=some bx->bx.has k=true->aI e.us k=true\/st.f k=false)
  (hnew:∀k bx,aF e.hs k=true->hput e.hs st.h k=some bx->bx.rep w' (Fz c (hput e.hs st.h) ρ' w') ρ' (ρ' k))
  (hv:e.d.rep w' (Fz c (hput e.hs st.h) ρ' w') ρ' v):Rp c (st.app dst e) ρ' (a.put dst v) w':=by
 have hst:Stp c st (st.app dst e) ρ ρ' w w' fun k=>aF e.hs k=true:=by
  refine ⟨fun k hk=>cc (by simpa using hk),fun k hk=>hpl k ?_,fun k hk=>?_,hfw,hnb,hds⟩
  ·cases h:aI e.us k with
   | false=>rfl
   | true=>rw [(hu k h).1] at hk;cases hk
  ·simp only [Mst.app,qBa] at hk;exact hk.1
 have ff:∀k,(st.app dst e).f k=true->st.f k=true/\aI e.us k=false:=fun k hk=>by simpa [Mst.app] using hk
 refine hr.step hst ?_ ?_ ⟨fun k hk=>?_,fun k t hk=>?_,fun k k' b hk hb=>?_⟩ (fun k hk=>?_) hnew fun t=>?_
 ·rw [Cv];exact hr.dfr
 ·rw [Hm];exact hr.siz
 ·obtain ⟨h1,h2⟩:=ff k hk;refine yG (hr.wf.h k h1) ?_;cases h:aF e.hs k with
  | false=>rfl
  | true=>rcases hex k h with h3|h3 <;> simp_all
 ·obtain ⟨h1,h2⟩:=ff k hk;show (lX dst e.d st.t t).has k=false;rw [DO];split
  ·cases h:e.d.has k with
   | false=>rfl
   | true=>rcases hkd k h with h3|h3 <;> simp_all
  ·exact hr.wf.t k t h1
 ·obtain ⟨h1,h2⟩:=ff k hk;have hb:hput e.hs st.h k'=some b:=hb;cases h:aF e.hs k' with
  | false=>rw [cc h] at hb;exact hr.wf.b k k' b h1 hb
  | true =>
   cases h4:b.has k with
   | false=>rfl
   | true=>rcases hkb k k' b h hb h4 with h3|h3 <;> simp_all
 ·simp [Mst.app,(hr.ent k hk).2]
 ·show (lX dst e.d st.t t).rep _ _ _ _;rw [DO,Kv hr.siz hdst];by_cases h:dst=some t
  ·rw [if_pos h,if_pos h];exact hv
  ·rw [if_neg h,if_neg h];exact hr.old hst (hr.tmp t) fun k hk=>hr.wf.t k t hk
theorem bq (h:∀(c:Ctx) (st:Mst) (ρ:Nat->Value) (a:Act) (w:World),Rp c st ρ a w->(∀x,x∈o.op.operands->st.ev x=s.ev x)->(∀k,aI R k=true->st.h k=s.h k)->
  ∃v,(execOp a.eval o).run P w = .ok (.value v) w/\d.rep w (Fz c st.h ρ w) ρ v/\∀k,d.has k=true->st.f k=false):LOp P o s R ⟨d,[],[]⟩:=by
 intro c st ρ a w hr h1 h2 _ h4;obtain ⟨v,hv,hd,hk⟩:=h c st ρ a w hr h1 h2;refine Oper.wp_value hv ⟨ρ,hr.app (e:=⟨d,[],[]⟩) h4 (fun k hk=>by simp [aI] at hk) (fun _ _=>rfl) (fun k hk=>by simp [aF] at hk) (Frx.refl _ _) (fun k bx g hk=>by simp [aF] at hk) (fun k k' b b' g hk=>by simp [aF] at hk) (fun k h=>.inr (hk k h)) (fun k k' bx hk=>by simp [aF] at hk) (fun k bx hk=>by simp [aF] at hk) hd⟩
theorem Rp.nf {c:Ctx} {st:Mst} {ρ:Nat->Value} {a:Act} {w:World} (hr:Rp c st ρ a w) {x:Operand} {d:TV} (hx:st.ev x=d) {k:Nat} (hk:d.has k=true):st.f k=false:=by
 subst hx;cases hf:st.f k with
 | false=>rfl
 | true =>
  exfalso;cases x with
  | tmp t=>have:=hr.wf.t k t hf;simp only [Mst.ev] at hk;rw [this] at hk;cases hk
  | const v =>
   have:(yB v).has k=false:=by
    unfold yB;split
    ·simp [TV.has,V0.has,D.has]
    ·rfl
   simp only [Mst.ev] at hk;rw [this] at hk;cases hk
  | global g=>simp [Mst.ev,TV.has,V0.has,D.has] at hk
  | func f=>simp [Mst.ev,TV.has,V0.has,D.has] at hk
theorem Rp.nfb {c:Ctx} {st:Mst} {ρ:Nat->Value} {a:Act} {w:World} (hr:Rp c st ρ a w) {k':Nat} {b:Box} (hx:st.h k'=some b) {k:Nat} (hk:b.has k=true):st.f k=false:=by
 cases hf:st.f k with
 | false=>rfl
 | true=>rw [hr.wf.b k k' b hf hx] at hk;cases hk
theorem Rp.nfh {c:Ctx} {st:Mst} {ρ:Nat->Value} {a:Act} {w:World} (hr:Rp c st ρ a w) {k:Nat} {b:Box} (hx:st.h k=some b):st.f k=false:=by
 cases hf:st.f k with
 | false=>rfl
 | true=>rw [hr.wf.h k hf] at hx;cases hx
theorem lY {l:List D} {d:D} {i k:Nat} (h:l[i]? = some d) (hk:d.has k=true):l.any (D.has k)=true:=List.any_eq_true.2 ⟨d,List.mem_of_getElem? h,hk⟩
theorem sD {l m:List D} {k:Nat} (h:∀d∈l,d∈m) (hk:l.any (D.has k)=true):m.any (D.has k)=true:=by
 obtain ⟨d,hd,h1⟩:=List.any_eq_true.1 hk;exact List.any_eq_true.2 ⟨d,h d hd,h1⟩
theorem yH {x:Operand} (ho:o.op = .move x\/o.op = .assign x) (hx:s.ev x=d):LOp P o s [] ⟨d,[],[]⟩ :=
 bq fun c st ρ a w hr h1 _=>by
  have he:=h1 x (by rcases ho with ho|ho <;> simp [ho,Op.operands]);rw [hx] at he;exact ⟨a.eval x,by unfold execOp;rcases ho with ho|ho <;> rw [ho] <;> rfl,by have:=hr.ev x;rwa [he] at this,fun k hk=>hr.nf he hk⟩
theorem Hn {x:Operand} {y:V0} (ho:o.op = .move x) (hx:s.ev x = .v y):LOp P o s [] ⟨.v y,[],[]⟩:=yH (.inl ho) hx
theorem Cw {x:Operand} {y:V0} (ho:o.op = .assign x) (hx:s.ev x = .v y):LOp P o s [] ⟨.v y,[],[]⟩:=yH (.inr ho) hx
theorem Cx {x:Operand} {y:List V0} (ho:o.op = .move x) (hx:s.ev x = .tup y):LOp P o s [] ⟨.tup y,[],[]⟩:=yH (.inl ho) hx
theorem DP {x:Operand} {u r:Value} (hop:o.op.operands = #[x]) (hx:s.ev x = .c (.sc u)) (h:∀(ev:Operand->Value) (w:World),ev x=u->(execOp ev o).run P w = .ok (.value r) w):LOp P o s [] ⟨.c (.sc r),[],[]⟩ :=
 bq fun c st ρ a w hr h1 _=>by
  have he:=h1 x (by simp [hop]);rw [hx] at he;have hu:a.eval x=u:=by have:=hr.ev x;rwa [he] at this
  exact ⟨r,h _ _ hu,rfl,fun k hk=>by simp [TV.has,V0.has,D.has] at hk⟩
theorem gE {x y:Operand} {u u' r:Value} (hop:o.op.operands = #[x,y]) (hx:s.ev x = .c (.sc u)) (hy:s.ev y = .c (.sc u')) (h:∀(ev:Operand->Value) (w:World),ev x=u->ev y=u'->(execOp ev o).run P w = .ok (.value r) w):LOp P o s [] ⟨.c (.sc r),[],[]⟩ :=
 bq fun c st ρ a w hr h1 _=>by
  have he:=h1 x (by simp [hop]);have he2:=h1 y (by simp [hop]);rw [hx] at he;rw [hy] at he2;have hu:a.eval x=u:=by have:=hr.ev x;rwa [he] at this
  have hu2:a.eval y=u':=by have:=hr.ev y;rwa [he2] at this
  exact ⟨r,h _ _ hu hu2,rfl,fun k hk=>by simp [TV.has,V0.has,D.has] at hk⟩
theorem lZ {s':TypeId} {f off g p:Nat} {ft:TypeId} [I:FO P s' f off ft] (w:World):(Instr.fieldAt s' (.pointer (some ⟨g,p,none⟩)) f).run P w = .ok (.pointer (some ⟨g,p+off,none⟩)) w:=by
 obtain ⟨fs,x,i,h1,h2,h3,h4,h5,h6⟩:=I.u;subst h3;subst h4;simp [Instr.fieldAt,run_underlying h1,h2,Instr.sureAddr,fieldPlace,sizeOf,typeInfo,h5,h6,dd]
theorem Ft {s':TypeId} {x:Operand} {f k p off:Nat} {ft:TypeId} (ho:o.op = .fieldAddr s' x f) (hx:s.ev x = .c (.ptr k p)) [FO P s' f off ft]:LOp P o s [] ⟨.c (.ptr k (p+off)),[],[]⟩ :=
 bq fun c st ρ a w hr h1 _=>by
  have he:=h1 x (by simp [ho,Op.operands]);rw [hx] at he;have hv:=hr.ev x;rw [he] at hv;obtain ⟨g,hg,hv⟩:=hv;refine ⟨_,by unfold execOp;rw [ho];simp only [hv,Sem.run_bind,lZ,Result.andThen_ok,Sem.run_pure],⟨g,hg,rfl⟩,fun k' hk=>hr.nf (x:=x) he hk⟩
theorem z6 {s':TypeId} {x:Operand} {f p off i:Nat} {ft:TypeId} {α:Type} {E:El α} {l:List α} (ho:o.op = .fieldAddr s' x f) (hx:s.ev x = .c (.eptr E l i p)) [FO P s' f off ft]:LOp P o s [] ⟨.c (.eptr E l i (p+off)),[],[]⟩ :=
 bq fun c st ρ a w hr h1 _=>by
  have he:=h1 x (by simp [ho,Op.operands]);rw [hx] at he;have hv:=hr.ev x;rw [he] at hv;obtain ⟨b,q,hv,h3,h4⟩:=hv;exact ⟨.pointer (some ⟨b,q+i*E.n+(p+off),none⟩),by unfold execOp;rw [ho];simp only [hv,Sem.run_bind,lZ,Result.andThen_ok,Sem.run_pure,Nat.add_assoc],⟨b,q,rfl,h3,h4⟩,fun k' hk=>hr.nf (x:=x) he hk⟩
theorem z7 {s':TypeId} {x:Operand} {f p off i k m:Nat} {ft:TypeId} (ho:o.op = .fieldAddr s' x f) (hx:s.ev x = .c (.optr k m i p)) [FO P s' f off ft]:LOp P o s [] ⟨.c (.optr k m i (p+off)),[],[]⟩ :=
 bq fun c st ρ a w hr h1 _=>by
  have he:=h1 x (by simp [ho,Op.operands]);rw [hx] at he;have hv:=hr.ev x;rw [he] at hv;obtain ⟨g,n,cap,h3,hv⟩:=hv;exact ⟨.pointer (some ⟨g,i*m+(p+off),none⟩),by unfold execOp;rw [ho];simp only [hv,Sem.run_bind,lZ,Result.andThen_ok,Sem.run_pure,Nat.add_assoc],⟨g,n,cap,h3,rfl⟩,fun k' hk=>hr.nf (x:=x) he hk⟩
theorem i9 {t e:TypeId} {row:Bool} {n g p:Nat} {kd:IntKind} [I:SE P t e] [J:TI P e row n] (w:World) (len cap i:Nat) (hi:i<len) :
  (Instr.indexAt t (.slice (some ⟨g,p,none⟩) len cap) (.int kd (i:Int))).run P w = .ok (.pointer (some ⟨g,p+i*n,none⟩)) w:=by
 obtain ⟨j,hj,hn⟩:∃j,P.info? e=some j/\j.size=n:=by
  have:=J.s;cases h:P.info? e with
  | none=>simp [h] at this
  | some j=>exact ⟨j,rfl,by simpa [h] using this⟩
 subst hn;simp [Instr.indexAt,asIntOf,run_underlying I.u,sizeOf,typeInfo,hj,hi,dd]
theorem xv {t e:TypeId} {x y:Operand} {row:Bool} {n i:Nat} {kd:IntKind} {z:Int} {α:Type} {E:El α} {l:List α} (ho:o.op = .indexAddr t x y) (hx:s.ev x = .c (.sl E l)) (hy:s.ev y = .c (.sc (.int kd z))) [SE P t e] [TI P e row n] (hn:E.n=n) (hz:z=(i:Int)) (hi:i<l.length) :
  LOp P o s [] ⟨.c (.eptr E l i 0),[],[]⟩ :=
 bq fun c st ρ a w hr h1 _=>by
  have he:=h1 x (by simp [ho,Op.operands]);have he2:=h1 y (by simp [ho,Op.operands]);rw [hx] at he;rw [hy] at he2;have hv:=hr.ev x;rw [he] at hv;have hv2:=hr.ev y;rw [he2] at hv2;obtain ⟨A,cap,hv,hc,hR⟩:=hv;have hv2:a.eval y = .int kd z:=hv2;obtain ⟨xs,h3,h4⟩:=hR;obtain ⟨b,off,hA,hb,hcl⟩:=h4 (by omega);subst hA;subst hz;subst hn;refine ⟨.pointer (some ⟨b,off+i*E.n,none⟩),by unfold execOp;rw [ho];simp only [hv,hv2,Sem.run_bind,i9 w l.length cap i hi,Result.andThen_ok,Sem.run_pure],⟨b,off,rfl,⟨xs,h3,h4⟩,hi⟩,fun k' hk=>by simp [TV.has,V0.has,D.has] at hk⟩
theorem dP {w:World} {F:Nat->Prop} {α:Type} {e:TypeId} {E:El α} {l:List α} {ρ:Nat->Value} {v:Value} (h:(Box.arr e E l).rep w F ρ v) :
  ∃A cap,v = .slice A l.length cap/\(l.length<=cap/\cap<=maxLen)/\(0<l.length->∃g xs,A=some ⟨g,0,none⟩/\g<w.heap.size/\Reps E w F l xs/\(∀j u,xs[j]? = some u->w.cell? ⟨g,j,none⟩=some u)/\∀j,j<xs.length->w.frozen? ⟨g,j,none⟩=false):=by
 obtain ⟨xs,h1,h2⟩:=h;rcases h1.2 with ⟨hv,hn⟩|⟨g,cap,cur,hv,_,hh,hnc,hcm,hcs,ht⟩
 ·exact ⟨none,0,by rw [hv,hn],by rw [hn];simp [maxLen],fun h=>by omega⟩
 ·refine ⟨_,cap,hv,⟨hnc,hcm⟩,fun _=>⟨g,xs,rfl,(Array.getElem?_eq_some_iff.1 hh).1,h2,fun j u hu=>?_,fun j _=>by simp [World.frozen?,hh]⟩⟩;rw [cell_of_row w g j cur e (0,0) hh,<-Array.getElem?_toList];rw [<-ht,List.getElem?_take] at hu;split at hu
  ·exact hu
  ·cases hu
theorem sE {t e:TypeId} {x y:Operand} {row:Bool} {n i k:Nat} {kd:IntKind} {z:Int} {α:Type} {e':TypeId} {E:El α} {l:List α} (ho:o.op = .indexAddr t x y) (hx:s.ev x = .c (.own k)) (hk:s.h k=some (.arr e' E l)) (hy:s.ev y = .c (.sc (.int kd z))) [SE P t e] [TI P e row n] (hn:E.n=n) (hz:z=(i:Int)) (hi:i<l.length) :
  LOp P o s [k] ⟨.c (.optr k n i 0),[],[]⟩ :=
 bq fun c st ρ a w hr h1 h2=>by
  have he:=h1 x (by simp [ho,Op.operands]);have he2:=h1 y (by simp [ho,Op.operands]);rw [hx] at he;rw [hy] at he2;have hv:=hr.ev x;rw [he] at hv;have hv2:=hr.ev y;rw [he2] at hv2;have hv:a.eval x=ρ k:=hv;have hv2:a.eval y = .int kd z:=hv2;have hb:=hr.hp k _ ((h2 k (by simp [aI])).trans hk);obtain ⟨A,cap,hA,hc,hp⟩:=dP hb;obtain ⟨g,xs,rfl,_⟩:=hp (by omega);subst hz;subst hn;rw [hA] at hv;refine ⟨.pointer (some ⟨g,0+i*E.n,none⟩),by unfold execOp;rw [ho];simp only [hv,hv2,Sem.run_bind,i9 w l.length cap i hi,Result.andThen_ok,Sem.run_pure],⟨g,_,_,hA,by simp⟩,fun k' hk'=>hr.nf (x:=x) he (by simpa [TV.has,V0.has,D.has] using hk')⟩
theorem oW {t:TypeId} {n g p:Nat} [I:TI P t true n] (w:World) (cs:List Value) (hc:∀j u,cs[j]? = some u->w.cell? ⟨g,p+j,none⟩=some u) (hn:cs.length=n) :
  (Instr.loadAt t (.pointer (some ⟨g,p,none⟩))).run P w = .ok (.agg cs.toArray) w:=by
 obtain ⟨d,hu,hd⟩:=I.u;simp only [Instr.loadAt,Instr.sureAddr,Sem.run_bind,Sem.run_pure,Result.andThen_ok];exact run_loadVar_mid w g p t cs d hc hu (by cases d <;> simp_all [TypeDesc.isRow]) (by rw [I.s,hn])
theorem oX {t:TypeId} {n g p:Nat} [I:TI P t false n] (w:World) (u:Value) (hc:w.cell? ⟨g,p,none⟩=some u):(Instr.loadAt t (.pointer (some ⟨g,p,none⟩))).run P w = .ok u w:=by
 obtain ⟨d,hu,hd⟩:=I.u;simp only [Instr.loadAt,Instr.sureAddr,Sem.run_bind,Sem.run_pure,Result.andThen_ok,loadVar,isAgg,run_underlying hu];cases d <;> simp_all [load,Sem.run]
theorem l9 {t:TypeId} {x:Operand} {row:Bool} {n off:Nat} {ds:List D} {d:TV} (ho:o.op = .load t x) [I:TI P t row n]
  (hd:(row=true/\d = .v (.ag ((ds.drop off).take n))/\off+n<=ds.length)\/(row=false/\∃y,ds[off]? = some y/\d = .c y))
  (h:∀(c:Ctx) (st:Mst) (ρ:Nat->Value) (a:Act) (w:World),Rp c st ρ a w->(∀x,x∈o.op.operands->st.ev x=s.ev x)->(∀k,aI R k=true->st.h k=s.h k)->
   ∃g p vs,a.eval x = .pointer (some ⟨g,p+off,none⟩)/\All2 (D.rep w (Fz c st.h ρ w) ρ) ds vs/\(∀j u,vs[j]? = some u->w.cell? ⟨g,p+j,none⟩=some u)/\∀k,ds.any (D.has k)=true->st.f k=false):LOp P o s R ⟨d,[],[]⟩ :=
 bq fun c st ρ a w hr h1 h2=>by
  obtain ⟨g,p,vs,hv,h3,h4,h5⟩:=h c st ρ a w hr h1 h2;rcases hd with ⟨rfl,rfl,hle⟩|⟨rfl,y,hy,rfl⟩
  ·refine ⟨.agg ((vs.drop off).take n).toArray,?_,⟨_,rfl,(h3.drop off).take n⟩,fun k hk=>h5 k ?_⟩
   ·unfold execOp;rw [ho];simp only [hv,Sem.run_bind];rw [oW w ((vs.drop off).take n) (fun j u hu=>?_) (by rw [List.length_take,List.length_drop,<-h3.length];omega)]
    ·rfl
    ·rw [Nat.add_assoc];refine h4 _ u ?_;rw [List.getElem?_take] at hu;split at hu
     ·rwa [List.getElem?_drop] at hu
     ·cases hu
   ·exact sD (fun d hd=>List.mem_of_mem_drop (List.mem_of_mem_take hd)) hk
  ·obtain ⟨u,hu,hrep⟩:=h3.get hy;refine ⟨u,?_,hrep,fun k hk=>h5 k (lY hy hk)⟩;unfold execOp;rw [ho];simp only [hv,Sem.run_bind];rw [oX w u (h4 off u hu)];rfl
theorem Hp {t ty:TypeId} {x:Operand} {row:Bool} {n k off:Nat} {cs:List D} {d:TV} [I:TI P t row n] (ho:o.op = .load t x) (hx:s.ev x = .c (.ptr k off)) (hk:s.h k=some (.box ty cs))
  (hd:(row=true/\d = .v (.ag ((cs.drop off).take n))/\off+n<=cs.length)\/(row=false/\∃y,cs[off]? = some y/\d = .c y)):LOp P o s [k] ⟨d,[],[]⟩ :=
 l9 ho hd fun c st ρ a w hr h1 h2=>by
  have he:=h1 x (by simp [ho,Op.operands]);rw [hx] at he;have hv:=hr.ev x;rw [he] at hv;obtain ⟨g,hg,hv⟩:=hv;have hk':=(h2 k (by simp [aI])).trans hk;obtain ⟨g',vs,e1,h3,h4,_⟩:=hr.hp k _ hk';rw [hg] at e1;injection e1 with e1;injection e1 with e1;injection e1 with e1;subst e1;exact ⟨g,0,vs,by rw [Nat.zero_add];exact hv,h4,fun j u hu=>by rw [Nat.zero_add];exact h3.cellx j (by simpa using hu),fun k' hh=>hr.nfb hk' (by simpa [Box.has] using hh)⟩
theorem Hq {t ty:TypeId} {x:Operand} {n k off:Nat} {cs:List D} {y:D} [TI P t false n] (ho:o.op = .load t x) (hx:s.ev x = .c (.ptr k off)) (hk:s.h k=some (.box ty cs)) (hy:cs[off]? = some y):LOp P o s [k] ⟨.c y,[],[]⟩:=Hp ho hx hk (.inr ⟨rfl,y,hy,rfl⟩)
theorem yI {t ty:TypeId} {x:Operand} {n k off:Nat} {cs ds:List D} [TI P t true n] (ho:o.op = .load t x) (hx:s.ev x = .c (.ptr k off)) (hk:s.h k=some (.box ty cs)) (hd:(cs.drop off).take n=ds) (hl:off+n<=cs.length):LOp P o s [k] ⟨.v (.ag ds),[],[]⟩:=Hp ho hx hk (.inl ⟨rfl,by rw [hd],hl⟩)
theorem Hr {t:TypeId} {x:Operand} {row:Bool} {n i off:Nat} {α:Type} {E:El α} {l:List α} {y:α} {d:TV} [I:TI P t row n] [J:Dp E] (ho:o.op = .load t x) (hx:s.ev x = .c (.eptr E l i off)) (hy:l[i]? = some y)
  (hd:(row=true/\d = .v (.ag (((J.deep y).drop off).take n))/\off+n<=(J.deep y).length)\/(row=false/\∃z,(J.deep y)[off]? = some z/\d = .c z)):LOp P o s [] ⟨d,[],[]⟩ :=
 l9 ho hd fun c st ρ a w hr h1 h2=>by
  have he:=h1 x (by simp [ho,Op.operands]);rw [hx] at he;have hv:=hr.ev x;rw [he] at hv;obtain ⟨b,q,hv,h3,h4⟩:=hv;have hyx:l[i]=y:=by rw [qGg h4] at hy;exact Option.some.inj hy
  obtain ⟨b',q',cs,e1,_,h5,h6⟩:=h3.getx h4 hyx;injection e1 with e1;injection e1 with e1 e2;subst e1;subst e2;refine ⟨b,q+i*E.n,cs,hv,J.get h5,fun j u hu=>?_,fun k' hh=>by rw [J.nok] at hh;cases hh⟩;rw [h6 j (by rw [<-E.len h5];exact (List.getElem?_eq_some_iff.1 hu).1),hu]
theorem Cy {t:TypeId} {x:Operand} {n i off:Nat} {α:Type} {E:El α} {l:List α} {y:α} {z:D} [TI P t false n] [J:Dp E] (ho:o.op = .load t x) (hx:s.ev x = .c (.eptr E l i off)) (hy:l[i]? = some y) (hz:(J.deep y)[off]? = some z):LOp P o s [] ⟨.c z,[],[]⟩:=Hr ho hx hy (.inr ⟨rfl,z,hz,rfl⟩)
theorem uD {t:TypeId} {x:Operand} {n i off:Nat} {α:Type} {E:El α} {l:List α} {y:α} {ds:List D} [TI P t true n] [J:Dp E] (ho:o.op = .load t x) (hx:s.ev x = .c (.eptr E l i off)) (hy:l[i]? = some y) (hd:((J.deep y).drop off).take n=ds) (hl:off+n<=(J.deep y).length):LOp P o s [] ⟨.v (.ag ds),[],[]⟩:=Hr ho hx hy (.inl ⟨rfl,by rw [hd],hl⟩)
theorem Hs {t e:TypeId} {x:Operand} {row:Bool} {n m i k off:Nat} {α:Type} {E:El α} {l:List α} {y:α} {d:TV} [I:TI P t row n] [J:Dp E] (ho:o.op = .load t x) (hx:s.ev x = .c (.optr k m i off)) (hk:s.h k=some (.arr e E l)) (hm:E.n=m) (hy:l[i]? = some y)
  (hd:(row=true/\d = .v (.ag (((J.deep y).drop off).take n))/\off+n<=(J.deep y).length)\/(row=false/\∃z,(J.deep y)[off]? = some z/\d = .c z)):LOp P o s [k] ⟨d,[],[]⟩ :=
 l9 ho hd fun c st ρ a w hr h1 h2=>by
  have he:=h1 x (by simp [ho,Op.operands]);rw [hx] at he;have hv:=hr.ev x;rw [he] at hv;obtain ⟨g,nn,cap,hg,hv⟩:=hv;have hk':=(h2 k (by simp [aI])).trans hk;have hil:i<l.length:=(List.getElem?_eq_some_iff.1 hy).1;obtain ⟨A,cap',hA,_,hp⟩:=dP (hr.hp k _ hk');obtain ⟨g',xs,rfl,_,h3,h4,_⟩:=hp (by omega);rw [hg] at hA;injection hA with e1 _ _;injection e1 with e1;injection e1 with e1;subst e1;obtain ⟨cs,h5,h6⟩:=h3.get i hil;rw [qGg hil] at hy;rw [Option.some.inj hy] at h5;subst hm;refine ⟨g,i*E.n,cs,hv,J.get h5,fun j u hu=>?_,fun k' hh=>by rw [J.nok] at hh;cases hh⟩;exact h4 _ u (by rw [h6 j (by rw [<-E.len h5];exact (List.getElem?_eq_some_iff.1 hu).1),hu])
theorem Cz {t e:TypeId} {x:Operand} {n m i k off:Nat} {α:Type} {E:El α} {l:List α} {y:α} {z:D} [TI P t false n] [J:Dp E] (ho:o.op = .load t x) (hx:s.ev x = .c (.optr k m i off)) (hk:s.h k=some (.arr e E l)) (hm:E.n=m) (hy:l[i]? = some y) (hz:(J.deep y)[off]? = some z):LOp P o s [k] ⟨.c z,[],[]⟩:=Hs ho hx hk hm hy (.inr ⟨rfl,z,hz,rfl⟩)
theorem uE {t e:TypeId} {x:Operand} {n m i k off:Nat} {α:Type} {E:El α} {l:List α} {y:α} {ds:List D} [TI P t true n] [J:Dp E] (ho:o.op = .load t x) (hx:s.ev x = .c (.optr k m i off)) (hk:s.h k=some (.arr e E l)) (hm:E.n=m) (hy:l[i]? = some y) (hd:((J.deep y).drop off).take n=ds) (hl:off+n<=(J.deep y).length):LOp P o s [k] ⟨.v (.ag ds),[],[]⟩:=Hs ho hx hk hm hy (.inl ⟨rfl,by rw [hd],hl⟩)
end
def D.okc:D->Bool
 | .any=>false
 | .sc x=>x.oneCell'
 | .own _=>false
 | _=>true
section
variable {P:Program} {o:Oper} {s:Mst} {R:List Nat} {d:TV}
theorem D.one_of {w:World} {F:Nat->Prop} {ρ:Nat->Value} {d:D} {v:Value} (h:d.rep w F ρ v) (hk:d.okc=true):v.oneCell'=true:=by
 cases d with
 | any=>cases hk
 | sc x=>have h:v=x:=h;rw [h];exact hk
 | sl E l=>obtain ⟨A,cap,rfl,_⟩:=h;rfl
 | full E l=>obtain ⟨A,rfl,_⟩:=h;rfl
 | own k=>cases hk
 | slb k n=>obtain ⟨g,_,rfl⟩:=h;rfl
 | ptr k off=>obtain ⟨g,_,rfl⟩:=h;rfl
 | eptr E l i off=>obtain ⟨b,o,rfl,_⟩:=h;rfl
 | optr k m i off=>obtain ⟨g,n,cap,_,rfl⟩:=h;rfl
 | ocut k=>obtain ⟨A,n,cap,c,_,_,rfl⟩:=h;rfl
 | osl k m lo hi fl=>obtain ⟨g,n,cap,c,A,_,_,_,rfl,_⟩:=h;rfl
 | clo f ks=>obtain ⟨vs,rfl,_⟩:=h;rfl
theorem Kw {w:World} {F:Nat->Prop} {α:Type} {e:TypeId} {E:El α} {l:List α} {ρ:Nat->Value} {v:Value} (h:(Box.arr e E l).rep w F ρ v):v.oneCell'=true:=by
 obtain ⟨A,cap,rfl,_⟩:=dP h;rfl
theorem Rp.box {c:Ctx} {st:Mst} {ρ:Nat->Value} {a:Act} {w:World} (hr:Rp c st ρ a w) {k:Nat} {t:TypeId} {cs:List D} (hk:st.h k=some (.box t cs)) {g:Nat} (hg:ρ k = .pointer (some ⟨g,0,none⟩)) :
  ∃vs:List Value,Blk w g t vs.toArray/\All2 (D.rep w (Fz c st.h ρ w) ρ) cs vs/\∀u∈vs,u.oneCell'=true:=by
 obtain ⟨g',vs,e1,h3,h4,h5⟩:=hr.hp k _ hk;rw [hg] at e1;injection e1 with e1;injection e1 with e1;injection e1 with e1;subst e1;exact ⟨vs,h3,h4,h5⟩
theorem CA {w:World} {g:Nat} {t:TypeId} {old new:Array Value} (hb:Blk w g t old):Blk (w.setRow g new) g t new/\But g w (w.setRow g new) :=
 ⟨setRow_heap w g old new t (0,0) hb,⟨rfl,rfl,rfl,by simp,fun k hk hg=>setRow_other w g k new hg⟩⟩
theorem Rp.setBox {c:Ctx} {st:Mst} {ρ:Nat->Value} {a:Act} {w w':World} {dst:Option Nat} {v:Value} {k g:Nat} {t:TypeId} {cs cs':List D} {vs':List Value} (hr:Rp c st ρ a w) (hdst:∀d,dst=some d->d<c.nt)
  (hk:st.h k=some (.box t cs)) (hg:ρ k = .pointer (some ⟨g,0,none⟩)) (hb:But g w w') (hB:Blk w' g t vs'.toArray) (h2:All2 (D.rep w (Fz c st.h ρ w) ρ) cs' vs') (h1:∀u∈vs',u.oneCell'=true)
  (hh:∀k',cs'.any (D.has k')=true->st.f k'=false):Rp c (st.app dst ⟨.c .any,[(k,some (.box t cs'))],[]⟩) ρ (a.put dst v) w':=by
 have hkk:∀k':Nat,aF [(k,some (Box.box t cs'))] k'=true->k'=k:=fun k' h=>by
  exact Q0
 have hkb:kb (ρ k)=some g:=by rw [hg];rfl
 have hfz:∀b,Fz c st.h ρ w b->Fz c (hput [(k,some (Box.box t cs'))] st.h) ρ w' b/\w'.heap[b]? = w.heap[b]?:=fun b ⟨f1,f2,f3⟩=>by
  have hbg:b≠g:=fun e=>f3 k _ hk (by rw [hkb,e]);refine ⟨⟨f1,Nat.lt_of_lt_of_le f2 hb.size,fun k' bx hk'=>?_⟩,hb.block b f2 hbg⟩;simp only [hput] at hk';cases h9:k.beq k' with
  | true=>rw [<-qNb h9,hkb];intro e;injection e with e;exact hbg e.symm
  | false=>rw [h9] at hk';exact f3 k' bx hk'
 refine hr.app (e:=⟨.c .any,[(k,some (.box t cs'))],[]⟩) hdst (fun k h=>by simp [aI] at h) (fun _ _=>rfl) (fun k' h=>.inr (by rw [hkk k' h];exact hr.nfh hk)) ⟨hb.os,hb.tape,hb.output,hb.size,fun b hlt hn=>hb.block b hlt fun e=>hn ⟨k,_,by simp [aF],hk,by rw [hkb,e]⟩⟩ ?_ ?_ (fun k h=>by simp [TV.has,V0.has,D.has] at h) ?_ ?_ trivial
 ·intro k' bx g' h _ hg';rw [hkk k' h,hkb] at hg';injection hg' with hg';subst hg';exact ⟨hB.lt,.inr ⟨k,_,by simp [aF],hk,hkb⟩⟩
 ·intro k1 k2 _ _ _ h h' _ _ _ _;exact RK
 ·intro k1 k2 bx h hp hx;rw [hkk k2 h] at hp;simp only [hput,Nat.beq_refl,qCt,Option.some.injEq] at hp;subst hp;exact .inr (hh k1 hx)
 ·intro k2 bx h hp;rw [hkk k2 h] at hp ⊢;simp only [hput,Nat.beq_refl,qCt,Option.some.injEq] at hp;subst hp;exact ⟨g,vs',hg,hB,h2.imp fun d v _ hd=>hd.mono hfz fun _ _=>rfl,h1⟩
theorem wO {t ty:TypeId} {row:Bool} {n g off:Nat} [I:TI P t row n] {w:World} {old:List Value} {v:Value} (hb:Blk w g ty old.toArray) (hn:v.cells.size=n) (hl:off+n<=old.length) (h1:∀u∈v.cells.toList,u.oneCell'=true) :
  (Instr.storeAt t (.pointer (some ⟨g,off,none⟩)) v).run P w = .ok () (w.setRow g (old.take off++v.cells.toList++old.drop (off+n)).toArray):=by
 have h2:=run_storeCells_at (P:=P) g off ty v.cells.toList 0 old.toArray w hb (by simp [hn];omega) h1;simp only [Nat.add_zero,Array.length_toList,hn] at h2;have hi:=I.s;cases hq:P.info? t with
 | none=>simp [hq] at hi
 | some i =>
  have hs:v.cells.size=i.size:=by simp [hq] at hi;omega
  simp only [Instr.storeAt,Instr.sureAddr,Sem.run_bind,Sem.run_pure,Result.andThen_ok];simp [storeVar,sizeOf,typeInfo,hq,hs,h2]
def TV.cells:TV->Option (List D)
 | .v (.one d)=>some [d]
 | .v (.ag l)=>some l
 | _=>none
theorem TV.cells_rep {w:World} {F:Nat->Prop} {ρ:Nat->Value} {d:TV} {ds:List D} {v:Value} (h:d.rep w F ρ v) (hc:d.cells=some ds) (hok:∀x∈ds,∀u,x.rep w F ρ u->u.oneCell'=true):All2 (D.rep w F ρ) ds v.cells.toList/\∀u∈v.cells.toList,u.oneCell'=true:=by
 unfold TV.cells at hc;split at hc
 ·rename_i y
  injection hc with hc;subst hc;have h:y.rep w F ρ v:=h;have h1:=hok y (by simp) v h;have h2:v.cells = #[v]:=by cases v <;> first|rfl|(simp [Value.oneCell'] at h1)
  rw [h2];exact ⟨⟨h,trivial⟩,by simpa using h1⟩
 ·injection hc with hc;subst hc;obtain ⟨cs,rfl,h2⟩:=h;refine ⟨by simpa [Value.cells] using h2,?_⟩;have:∀(l:List D) (cs:List Value),All2 (D.rep w F ρ) l cs->(∀x∈l,∀u,x.rep w F ρ u->u.oneCell'=true)->∀u∈cs,u.oneCell'=true:=by
   intro l;induction l with
   | nil=>intro cs h;cases cs with
    | nil=>intro _ u hu;cases hu
    | cons=>exact h.elim
   | cons x l ih =>
    intro cs h hx;cases cs with
    | nil=>exact h.elim
    | cons c cs =>
     intro u hu;rcases List.mem_cons.1 hu with rfl|hu
     ·exact hx x (by simp) _ h.1
     ·exact ih cs h.2 (fun y hy=>hx y (by simp [hy])) u hu
  simpa [Value.cells] using this _ _ h2 hok
 ·cases hc
def okD (h:Nat->Option Box):D->Bool
 | .any=>false
 | .sc x=>x.oneCell'
 | .own k=>match h k with|some (.arr ..)=>true|some (.mp ..)=>true|_=>false
 | _=>true
def gu:List D->List Nat
 | []=>[]
 | .own k :: l=>k :: gu l
 | _ :: l=>gu l
theorem fJ:∀{l:List D} {k:Nat},D.own k∈l->aI (gu l) k=true
 | [],_,h=>by cases h
 | d :: l,k,h=>by
  rcases List.mem_cons.1 h with rfl|h2
  ·simp [gu,aI]
  ·have h3:=fJ h2;cases d <;> simp [gu,aI,h3]
theorem Rp.okD {c:Ctx} {st:Mst} {ρ:Nat->Value} {a:Act} {w:World} (hr:Rp c st ρ a w) {d:D} (hd:okD st.h d=true) {u:Value} (h:d.rep w (Fz c st.h ρ w) ρ u):u.oneCell'=true:=by
 cases d with
 | own k =>
  unfold Go.Proofs.YtkkbopkbjacfmaaGreatDoor.okD at hd;have h:u=ρ k:=h;cases hk:st.h k with
  | none=>simp only [hk] at hd;cases hd
  | some b =>
   cases b with
   | box=>simp only [hk] at hd;cases hd
   | arr e E l=>rw [h];exact Kw (hr.hp k _ hk)
   | mp l=>obtain ⟨g,e,_⟩:=hr.hp k _ hk;rw [h,e];rfl
   | it=>simp only [hk] at hd;cases hd
 | any=>cases hd
 | sc x=>exact D.one_of h hd
 | _=>exact D.one_of h rfl
theorem ir {h h':Nat->Option Box} {d:D} (hd:okD h d=true) (he:∀k,d = .own k->h' k=h k):okD h' d=true:=by
 cases d with
 | own k=>simp only [okD] at hd ⊢;rw [he k rfl];exact hd
 | _=>exact hd
theorem mL:∀{l m:List Nat} {k:Nat},aI (l++m) k=(aI l k || aI m k)
 | [],_,_=>by simp [aI]
 | x :: l,m,k=>by simp [aI,mL (l:=l),Bool.or_assoc]
theorem Fu {t ty:TypeId} {x y:Operand} {row:Bool} {n k off:Nat} {cs ds new:List D} [I:TI P t row n] (ho:o.op = .store t x y) (hx:s.ev x = .c (.ptr k off)) (hk:s.h k=some (.box ty cs)) (hd:(s.ev y).cells=some ds) (hn:ds.length=n) (hl:off+n<=cs.length) (hok:ds.all (okD s.h)=true)
  (hnew:cs.take off++ds++cs.drop (off+n)=new):LOp P o s (k :: gu ds) ⟨.c .any,[(k,some (.box ty new))],[]⟩:=by
 intro c st ρ a w hr h1 h2 _ h4;subst hnew;have he:=h1 x (by simp [ho,Op.operands]);have he2:=h1 y (by simp [ho,Op.operands]);rw [hx] at he;rw [<-he2] at hd;have hv:=hr.ev x;rw [he] at hv;obtain ⟨g,hg,hv⟩:=hv;have hk':=(h2 k (by simp [aI])).trans hk;obtain ⟨vs,hB,hA,h1c⟩:=hr.box hk' hg;have hok':∀z∈ds,∀u,z.rep w (Fz c st.h ρ w) ρ u->u.oneCell'=true:=fun z hz u hu=>hr.okD (ir (List.all_eq_true.1 hok z hz) fun j hj=>h2 j (by subst hj;simp only [aI,fJ hz,Bool.or_true])) hu;obtain ⟨hc1,hc2⟩:=TV.cells_rep (hr.ev y) hd hok';have hsz:(a.eval y).cells.size=n:=by rw [<-Array.length_toList,<-hc1.length,hn]
 have hvl:=hA.length;have hrun:=wO (P:=P) (t:=t) (off:=off) hB hsz (by omega) hc2;obtain ⟨hB',hBut⟩:=CA (new:=(vs.take off++(a.eval y).cells.toList++vs.drop (off+n)).toArray) hB;refine Oper.wp_skip (w':=w.setRow g (vs.take off++(a.eval y).cells.toList++vs.drop (off+n)).toArray) ?_ ⟨ρ,hr.setBox h4 hk' hg hBut hB' (((hA.take off).append hc1).append (hA.drop (off+n))) ?_ ?_⟩
 ·unfold execOp;rw [ho];simp only [hv,Sem.run_bind,hrun,Result.andThen_ok,Sem.run_pure]
 ·intro u hu;simp only [List.mem_append] at hu;rcases hu with (hu|hu)|hu
  ·exact h1c u (List.mem_of_mem_take hu)
  ·exact hc2 u hu
  ·exact h1c u (List.mem_of_mem_drop hu)
 ·intro k' hh;obtain ⟨z,hz,hz2⟩:=List.any_eq_true.1 hh;simp only [List.mem_append] at hz;rcases hz with (hz|hz)|hz
  ·exact hr.nfb hk' (by simp only [Box.has];exact List.any_eq_true.2 ⟨z,List.mem_of_mem_take hz,hz2⟩)
  ·refine hr.nf (x:=y) rfl ?_;generalize st.ev y=q at *
   unfold TV.cells at hd;split at hd
   ·injection hd with hd;subst hd;simp at hz;subst hz;exact hz2
   ·injection hd with hd;subst hd;simp only [TV.has,V0.has];exact List.any_eq_true.2 ⟨z,hz,hz2⟩
   ·cases hd
  ·exact hr.nfb hk' (by simp only [Box.has];exact List.any_eq_true.2 ⟨z,List.mem_of_mem_drop hz,hz2⟩)
def upd (ρ:Nat->Value) (k:Nat) (v:Value) (n:Nat):Value:=bif k.beq n then v else ρ n
theorem aN (ρ:Nat->Value) (k:Nat) (v:Value):upd ρ k v k=v:=by simp [upd]
theorem dQ {ρ:Nat->Value} {k n:Nat} {v:Value} (h:k.beq n=false):upd ρ k v n=ρ n:=by simp [upd,h]
theorem Rp.newBox {c:Ctx} {st:Mst} {ρ:Nat->Value} {a:Act} {w:World} {dst:Option Nat} {k:Nat} {t:TypeId} {cs:List D} {vs:List Value} {d:TV} {v:Value} (hr:Rp c st ρ a w) (hdst:∀d,dst=some d->d<c.nt) (hf:st.f k=true)
  (h2:All2 (D.rep w (Fz c st.h ρ w) ρ) cs vs) (h1:∀u∈vs,u.oneCell'=true) (hh:∀k',cs.any (D.has k')=true->st.f k'=false) (hd:∀k',d.has k'=true->k'=k)
  (hv:∀F ρ',ρ' k = .pointer (some ⟨w.heap.size,0,none⟩)->d.rep (w.alloc (.cells vs.toArray t)) F ρ' v):∃ρ',Rp c (st.app dst ⟨d,[(k,some (.box t cs))],[k]⟩) ρ' (a.put dst v) (w.alloc (.cells vs.toArray t)):=by
 have hkk:∀k':Nat,aF [(k,some (Box.box t cs))] k'=true->k'=k:=fun k' h=>by
  exact Q0
 have hul:∀k':Nat,aI [k] k'=k.beq k':=fun k'=>by simp [aI]
 have hfz:∀b,Fz c st.h ρ w b->Fz c (hput [(k,some (Box.box t cs))] st.h) (upd ρ k (.pointer (some ⟨w.heap.size,0,none⟩))) (w.alloc (.cells vs.toArray t)) b/\(w.alloc (.cells vs.toArray t)).heap[b]? = w.heap[b]?:=fun b ⟨f1,f2,f3⟩=>by
  refine ⟨⟨f1,by simp;omega,fun k' bx hk'=>?_⟩,Below.heap_alloc w _ b f2⟩;simp only [hput] at hk';cases h9:k.beq k' with
  | true=>rw [<-qNb h9,aN];intro e;injection e with e;simp at e;omega
  | false=>rw [h9] at hk';rw [dQ h9];exact f3 k' bx hk'
 refine ⟨upd ρ k (.pointer (some ⟨w.heap.size,0,none⟩)),hr.app (e:=⟨d,[(k,some (.box t cs))],[k]⟩) hdst (fun k' h=>?_) (fun k' h=>?_) (fun k' h=>.inl ?_) (Frx.alloc _ _ _) ?_ ?_ (fun k' h=>.inl ?_) ?_ ?_ ?_⟩
 ·rw [hul] at h;rw [<-qNb h];exact ⟨hf,by simp [aF]⟩
 ·exact dQ (by rw [<-hul];exact h)
 ·rw [hkk k' h];simp [aI]
 ·intro k' bx g' h _ hg';exact Q9
 ·intro k1 k2 _ _ _ h h' _ _ _ _;exact RK
 ·rw [hd k' h];simp [aI]
 ·intro k1 k2 bx h hp hx;rw [hkk k2 h] at hp;simp only [hput,Nat.beq_refl,qCt,Option.some.injEq] at hp;subst hp;exact .inr (hh k1 hx)
 ·intro k2 bx h hp;rw [hkk k2 h] at hp ⊢;simp only [hput,Nat.beq_refl,qCt,Option.some.injEq] at hp;subst hp;rw [aN];refine ⟨_,vs,rfl,Blk.new w t vs.toArray,h2.imp fun d v hm hd=>hd.mono hfz fun k' hk'=>dQ ?_,h1⟩;have h3:=hh k' (List.any_eq_true.2 ⟨d,hm,hk'⟩);cases h9:k.beq k' with
  | false=>rfl
  | true=>rw [<-qNb h9,hf] at h3;cases h3
 ·exact hv _ _ (aN _ _ _)
theorem z8 {t:TypeId} {zs:List Value} [I:TZ P t zs] (w:World):(Instr.alloc t true (.tuple #[])).run P w = .ok (.pointer (some ⟨w.heap.size,0,none⟩)) (w.alloc (.cells zs.toArray t)):=by
 obtain ⟨i,v,h1,h2,h3⟩:=I.z;simp [Instr.alloc,zeroValue,typeInfo,h1,h2,newVar,newRow,run_newObj,h3]
theorem Fv {t:TypeId} {k:Nat} {zs:List Value} {ds:List D} [I:TZ P t zs] (ho:o.op = .alloc t) (hdk:o.dst=some k) (hz:zs.map D.sc=ds):LOp P o s [] ⟨.c (.ptr k 0),[(k,some (.box t ds))],[k]⟩:=by
 intro c st ρ a w hr h1 h2 h3 h4;subst hz;obtain ⟨ρ',h⟩:=hr.newBox (k:=k) (t:=t) (cs:=zs.map D.sc) (vs:=zs) (d:=.c (.ptr k 0)) (v:=.pointer (some ⟨w.heap.size,0,none⟩)) h4 (h3 k (by simp [aI])) (All2.scs _) I.o
  (fun k' hh=>by simp [D.has] at hh) (fun k' hh=>by simp [TV.has,V0.has,D.has] at hh;exact hh.symm) (fun F ρ' hρ=>⟨_,hρ,rfl⟩)
 exact Oper.wp_value (by unfold execOp;rw [ho];simp only [Sem.run_bind,z8,Result.andThen_ok,Sem.run_pure]) ⟨ρ',h⟩
end
def D.ren (q:Nat->Nat):D->D
 | .own k=>.own (q k)
 | .slb k n=>.slb (q k) n
 | .ptr k off=>.ptr (q k) off
 | .optr k m i off=>.optr (q k) m i off
 | .ocut k=>.ocut (q k)
 | .osl k m lo hi fl=>.osl (q k) m lo hi fl
 | .clo f ks=>.clo f (ks.map q)
 | d=>d
def V0.ren (q:Nat->Nat):V0->V0
 | .one d=>.one (d.ren q)
 | .ag l=>.ag (l.map (D.ren q))
def TV.ren (q:Nat->Nat):TV->TV
 | .v x=>.v (x.ren q)
 | .tup l=>.tup (l.map (V0.ren q))
def Box.ren (q:Nat->Nat):Box->Box
 | .box t cs=>.box t (cs.map (D.ren q))
 | .it k n l=>.it (q k) n l
 | b=>b
section
variable {w:World} {F:Nat->Prop} {ρ ρ':Nat->Value} {q:Nat->Nat}
theorem D.rep_ren {d:D} {v:Value} (hq:∀k,d.has k=true->ρ' k=ρ (q k)):(d.ren q).rep w F ρ v↔d.rep w F ρ' v:=by
 cases d with
 | clo f ks =>
  have hm:∀k,k∈ks->ρ' k=ρ (q k):=fun k hk=>hq k (by simp only [D.has];exact List.any_eq_true.2 ⟨k,hk,Nat.beq_refl k⟩);constructor
  ·rintro ⟨vs,e,h⟩;exact ⟨vs,e,(All2.mapL.1 h).imp fun k u hk (hu:u=ρ (q k))=>hu.trans (hm k hk).symm⟩
  ·rintro ⟨vs,e,h⟩;exact ⟨vs,e,All2.mapL.2 (h.imp fun k u hk (hu:u=ρ' k)=>hu.trans (hm k hk))⟩
 | _=>first|exact Iff.rfl|(simp only [D.ren,D.rep];rw [hq _ (by simp [D.has])])
theorem V0.rep_ren {d:V0} {v:Value} (hq:∀k,d.has k=true->ρ' k=ρ (q k)):(d.ren q).rep w F ρ v↔d.rep w F ρ' v:=by
 cases d with
 | one d=>exact D.rep_ren hq
 | ag l =>
  constructor
  ·rintro ⟨cs,e,h⟩;exact ⟨cs,e,(All2.mapL.1 h).imp fun d u hd h1=>(D.rep_ren fun k hk=>hq k (by simp only [V0.has];exact List.any_eq_true.2 ⟨d,hd,hk⟩)).1 h1⟩
  ·rintro ⟨cs,e,h⟩;exact ⟨cs,e,All2.mapL.2 (h.imp fun d u hd h1=>(D.rep_ren fun k hk=>hq k (by simp only [V0.has];exact List.any_eq_true.2 ⟨d,hd,hk⟩)).2 h1)⟩
theorem TV.rep_ren {d:TV} {v:Value} (hq:∀k,d.has k=true->ρ' k=ρ (q k)):(d.ren q).rep w F ρ v↔d.rep w F ρ' v:=by
 cases d with
 | v d=>exact V0.rep_ren hq
 | tup l =>
  constructor
  ·rintro ⟨cs,e,h⟩;exact ⟨cs,e,(All2.mapL.1 h).imp fun d u hd h1=>(V0.rep_ren fun k hk=>hq k (by simp only [TV.has];exact List.any_eq_true.2 ⟨d,hd,hk⟩)).1 h1⟩
  ·rintro ⟨cs,e,h⟩;exact ⟨cs,e,All2.mapL.2 (h.imp fun d u hd h1=>(V0.rep_ren fun k hk=>hq k (by simp only [TV.has];exact List.any_eq_true.2 ⟨d,hd,hk⟩)).2 h1)⟩
theorem Box.rep_ren {d:Box} {v:Value} (hq:∀k,d.has k=true->ρ' k=ρ (q k)):(d.ren q).rep w F ρ v↔d.rep w F ρ' v:=by
 cases d with
 | box t cs =>
  constructor
  ·rintro ⟨g,vs,e,hb,h,h1⟩;exact ⟨g,vs,e,hb,(All2.mapL.1 h).imp fun d u hd h1=>(D.rep_ren fun k hk=>hq k (by simp only [Box.has];exact List.any_eq_true.2 ⟨d,hd,hk⟩)).1 h1,h1⟩
  ·rintro ⟨g,vs,e,hb,h,h1⟩;exact ⟨g,vs,e,hb,All2.mapL.2 (h.imp fun d u hd h1=>(D.rep_ren fun k hk=>hq k (by simp only [Box.has];exact List.any_eq_true.2 ⟨d,hd,hk⟩)).2 h1),h1⟩
 | arr e E l=>exact Iff.rfl
 | mp l=>exact Iff.rfl
 | it k n l=>simp only [Box.ren,Box.rep];rw [hq k (by simp [Box.has])]
end
inductive DLe (s:Mst) (q:Nat->Nat) (gone:Nat->Prop):D->D->Prop
 | any (d0:D):DLe s q gone d0 .any
 | ren (d:D):DLe s q gone (d.ren q) d
 | nil {α:Type} (E:El α):DLe s q gone (.sc (.slice none 0 0)) (.sl E [])
 | full {α:Type} (E:El α) (l:List α):DLe s q gone (.full E l) (.sl E l)
 | froz {α:Type} (e:TypeId) (E:El α) (l:List α) (k:Nat) (hk:s.h k=some (.arr e E l)) (hg:gone k):DLe s q gone (.own k) (.sl E l)
 | frozc {α:Type} (e:TypeId) (E:El α) (l:List α) (k:Nat) (hk:s.h k=some (.arr e E l)) (hg:gone k):DLe s q gone (.ocut k) (.sl E l)
 | ocut {α:Type} (e:TypeId) (E:El α) (l:List α) (k:Nat) (hk:s.h (q k)=some (.arr e E l)):DLe s q gone (.own (q k)) (.ocut k)
inductive V0Le (s:Mst) (q:Nat->Nat) (gone:Nat->Prop):V0->V0->Prop
 | one {d0 d:D} (h:DLe s q gone d0 d):V0Le s q gone (.one d0) (.one d)
 | ag {l0 l:List D} (h:All2 (DLe s q gone) l0 l):V0Le s q gone (.ag l0) (.ag l)
 | any (x:V0):V0Le s q gone x (.one .any)
inductive TVLe (s:Mst) (q:Nat->Nat) (gone:Nat->Prop):TV->TV->Prop
 | v {d0 d:V0} (h:V0Le s q gone d0 d):TVLe s q gone (.v d0) (.v d)
 | tup {l0 l:List V0} (h:All2 (V0Le s q gone) l0 l):TVLe s q gone (.tup l0) (.tup l)
 | any (x:TV):TVLe s q gone x (.c .any)
inductive BoxLe (s:Mst) (q:Nat->Nat) (gone:Nat->Prop):Box->Box->Prop
 | box (t:TypeId) {l0 l:List D} (h:All2 (DLe s q gone) l0 l):BoxLe s q gone (.box t l0) (.box t l)
 | arr {α:Type} (e:TypeId) (E:El α) (l:List α):BoxLe s q gone (.arr e E l) (.arr e E l)
 | mp (l:List (Value×Value)):BoxLe s q gone (.mp l) (.mp l)
 | it (k n:Nat) (l:List Nat):BoxLe s q gone (.it (q k) n l) (.it k n l)
theorem CB {w:World} {c:Ctx} {h h':Nat->Option Box} {ρ ρ':Nat->Value} {α:Type} {e:TypeId} {E:El α} {l:List α} {v:Value} {s:Mst} {a:Act} (hr:Rp c s ρ a w) {k:Nat} (hk:s.h k=some (.arr e E l)) (hv:(D.ocut k).rep w (Fz c s.h ρ w) ρ v) (hF:∀b,Fz c s.h ρ w b->Fz c h' ρ' w b) (hg:∀g,kb (ρ k)=some g->Fz c h' ρ' w g):(D.sl E l).rep w (Fz c h' ρ' w) ρ' v:=by
 obtain ⟨A0,n0,cap0,c0,hρ0,hc0,rfl⟩:=hv;obtain ⟨A,cap,hA,hc,hp⟩:=dP (hr.hp k _ hk);have hA':=hA;rw [hρ0] at hA';injection hA' with e1 e2 e3;subst e1;subst e2;subst e3;refine ⟨A0,c0,rfl,⟨hc0.1,Nat.le_trans hc0.2 hc.2⟩,?_⟩;rcases Nat.eq_zero_or_pos l.length with h0|h0
 ·obtain rfl:l=[]:=List.eq_nil_of_length_eq_zero h0;exact RowsAt.nil _ _ _ _
 ·obtain ⟨g,xs,rfl,_,h3,h4,_⟩:=hp h0;exact ⟨xs,h3.same (fun _ _=>rfl) hF,fun _=>⟨g,0,rfl,hg g (by rw [hA];rfl),fun j u hu=>by rw [Nat.zero_add];exact h4 j u hu⟩⟩
theorem oY {w:World} {c:Ctx} {ρ:Nat->Value} {α:Type} {e:TypeId} {E:El α} {l:List α} {s:Mst} {a:Act} (hr:Rp c s ρ a w) {k:Nat} (hk:s.h k=some (.arr e E l)) {F:Nat->Prop} {v:Value} (hv:v=ρ k):(D.ocut k).rep w F ρ v:=by
 obtain ⟨A,cap,hA,hc,_⟩:=dP (hr.hp k _ hk);exact ⟨A,l.length,cap,cap,hA,⟨hc.1,Nat.le_refl _⟩,hv.trans hA⟩
structure Part (s:Mst) (q:Nat->Nat) (h2:Nat->Option Box):Prop where
 inj:∀k k',h2 k≠none->h2 k'≠none->q k=q k'->k=k'
 le:∀k b,h2 k=some b->∃b0,s.h (q k)=some b0/\BoxLe s q (fun j=>∀k,h2 k≠none->q k≠j) b0 b
section
variable {c:Ctx} {s:Mst} {ρ:Nat->Value} {a:Act} {w:World} {q:Nat->Nat} {h2:Nat->Option Box}
theorem Part.fz (p:Part s q h2):∀b,Fz c s.h ρ w b->Fz c h2 (fun k=>ρ (q k)) w b:=fun b ⟨f1,f2,f3⟩=>⟨f1,f2,fun k bx hk=>by obtain ⟨b0,h1,_⟩:=p.le k bx hk;exact f3 _ b0 h1⟩
theorem Part.d (p:Part s q h2) (hr:Rp c s ρ a w) {d0 d:D} {v:Value} (hle:DLe s q (fun j=>∀k,h2 k≠none->q k≠j) d0 d) (hd:d0.rep w (Fz c s.h ρ w) ρ v):d.rep w (Fz c h2 (fun k=>ρ (q k)) w) (fun k=>ρ (q k)) v:=by
 cases hle with
 | any=>trivial
 | ren=>exact ((D.rep_ren (ρ':=fun k=>ρ (q k)) fun _ _=>rfl).1 hd).mono (fun b hb=>⟨p.fz b hb,rfl⟩) fun _ _=>rfl
 | nil E=>exact ⟨none,0,hd,by simp [maxLen],RowsAt.nil _ _ _ _⟩
 | full E l=>obtain ⟨A,h1,h2,h3⟩:=hd;exact ⟨A,_,h1,⟨Nat.le_refl _,h2⟩,h3.mono p.fz⟩
 | froz e E l k hk hg =>
  exact CB (h:=s.h) hr hk (oY hr hk hd) p.fz fun g hkb=>⟨(hr.inb k _ g hk hkb).imp (c.hX g) id,hr.ltb hk hkb,fun k' bx hk' he=>by obtain ⟨b0,h1,_⟩:=p.le k' bx hk';exact hg k' (by rw [hk'];simp) (hr.dis _ _ b0 _ g h1 hk he hkb)⟩
 | frozc e E l k hk hg =>
  exact CB (h:=s.h) hr hk hd p.fz fun g hkb=>⟨(hr.inb k _ g hk hkb).imp (c.hX g) id,hr.ltb hk hkb,fun k' bx hk' he=>by obtain ⟨b0,h1,_⟩:=p.le k' bx hk';exact hg k' (by rw [hk'];simp) (hr.dis _ _ b0 _ g h1 hk he hkb)⟩
 | ocut e E l k hk=>exact oY (F:=Fz c h2 (fun k=>ρ (q k)) w) hr hk hd
theorem Part.l (p:Part s q h2) (hr:Rp c s ρ a w):∀{l0 l:List D} {cs:List Value},All2 (DLe s q (fun j=>∀k,h2 k≠none->q k≠j)) l0 l->All2 (D.rep w (Fz c s.h ρ w) ρ) l0 cs->All2 (D.rep w (Fz c h2 (fun k=>ρ (q k)) w) (fun k=>ρ (q k))) l cs
 | [],[],[],_,_=>trivial
 | _ :: _,_ :: _,_ :: _,h,k=>⟨p.d hr h.1 k.1,p.l hr h.2 k.2⟩
 | [],_ :: _,_,h,_=>h.elim
 | _ :: _,[],_,h,_=>h.elim
 | [],[],_ :: _,_,k=>k.elim
 | _ :: _,_ :: _,[],_,k=>k.elim
theorem Part.v0 (p:Part s q h2) (hr:Rp c s ρ a w) {d0 d:V0} {v:Value} (hle:V0Le s q (fun j=>∀k,h2 k≠none->q k≠j) d0 d) (hd:d0.rep w (Fz c s.h ρ w) ρ v):d.rep w (Fz c h2 (fun k=>ρ (q k)) w) (fun k=>ρ (q k)) v:=by
 cases hle with
 | one h=>exact p.d hr h hd
 | ag h=>obtain ⟨cs,e,h2⟩:=hd;exact ⟨cs,e,p.l hr h h2⟩
 | any=>trivial
theorem Part.l0 (p:Part s q h2) (hr:Rp c s ρ a w):∀{l0 l:List V0} {cs:List Value},All2 (V0Le s q (fun j=>∀k,h2 k≠none->q k≠j)) l0 l->All2 (V0.rep w (Fz c s.h ρ w) ρ) l0 cs->All2 (V0.rep w (Fz c h2 (fun k=>ρ (q k)) w) (fun k=>ρ (q k))) l cs
 | [],[],[],_,_=>trivial
 | _ :: _,_ :: _,_ :: _,h,k=>⟨p.v0 hr h.1 k.1,p.l0 hr h.2 k.2⟩
 | [],_ :: _,_,h,_=>h.elim
 | _ :: _,[],_,h,_=>h.elim
 | [],[],_ :: _,_,k=>k.elim
 | _ :: _,_ :: _,[],_,k=>k.elim
theorem Part.tv (p:Part s q h2) (hr:Rp c s ρ a w) {d0 d:TV} {v:Value} (hle:TVLe s q (fun j=>∀k,h2 k≠none->q k≠j) d0 d) (hd:d0.rep w (Fz c s.h ρ w) ρ v):d.rep w (Fz c h2 (fun k=>ρ (q k)) w) (fun k=>ρ (q k)) v:=by
 cases hle with
 | v h=>exact p.v0 hr h hd
 | tup h=>obtain ⟨vs,e,h3⟩:=hd;exact ⟨vs,e,p.l0 hr h h3⟩
 | any=>trivial
theorem Rp.weak {s':Mst} (hr:Rp c s ρ a w) (p:Part s q s'.h) (hq:∀k,k∈c.K->q k=k/\s'.f k=false) (hwf:s'.Wf)
  (ht:∀t,TVLe s q (fun j=>∀k,s'.h k≠none->q k≠j) (s.t t) (s'.t t)):Rp c s' (fun k=>ρ (q k)) a w where
 dfr:=hr.dfr
 siz:=hr.siz
 frm:=hr.frm
 tmp:=fun t=>p.tv hr (ht t) (hr.tmp t)
 hp:=fun k b hk=>by
  obtain ⟨b0,h1,h2⟩:=p.le k b hk;have h3:=hr.hp _ _ h1;cases h2 with
  | box t h=>obtain ⟨g,vs,e,hb,h4,h5⟩:=h3;exact ⟨g,vs,e,hb,p.l hr h h4,h5⟩
  | arr e E l=>obtain ⟨xs,h4,h5⟩:=h3;exact ⟨xs,h4,h5.same (fun _ _=>rfl) p.fz⟩
  | mp l=>exact h3
  | it k n l=>exact h3
 inb:=fun k b g hk hg=>by
  obtain ⟨b0,h1,_⟩:=p.le k b hk;exact hr.inb _ b0 g h1 hg
 dis:=fun k k' b b' g hk hk' hg hg'=>by
  obtain ⟨b0,h1,_⟩:=p.le k b hk;obtain ⟨b0',h1',_⟩:=p.le k' b' hk';exact p.inj k k' (by rw [hk];simp) (by rw [hk'];simp) (hr.dis _ _ b0 b0' g h1 h1' hg hg')
 ent:=fun k hk=>⟨by show ρ (q k)=c.ρ0 k;rw [(hq k hk).1];exact (hr.ent k hk).1,(hq k hk).2⟩
 wf:=hwf
end
def D.keys:D->List Nat
 | .own k | .slb k _ | .ptr k _ | .optr k _ _ _ | .ocut k | .osl k _ _ _ _=>[k]
 | .clo _ ks=>ks
 | _=>[]
def M4 (U:List Nat) (l:List Nat):Bool:=l.all (aI U)
def D.in_ (U:List Nat) (d:D):Bool:=M4 U d.keys
def V0.in_ (U:List Nat):V0->Bool
 | .one d=>d.in_ U
 | .ag l=>l.all (D.in_ U)
def TV.in_ (U:List Nat):TV->Bool
 | .v x=>x.in_ U
 | .tup l=>l.all (V0.in_ U)
def Box.in_ (U:List Nat):Box->Bool
 | .box _ cs=>cs.all (D.in_ U)
 | .arr ..=>true
 | .mp _=>true
 | .it k _ _=>aI U k
section
variable {U:List Nat} {k:Nat}
theorem D.in_has {d:D} (h:d.in_ U=true) (hk:d.has k=true):aI U k=true:=by
 cases d with
 | clo f ks =>
  have hk:ks.any (fun j=>j.beq k)=true:=hk;obtain ⟨j,hj,he⟩:=List.any_eq_true.1 hk;rw [<-qNb he];have h:ks.all (aI U)=true:=h;exact List.all_eq_true.1 h j hj
 | _=>simp [D.has] at hk <;> (subst hk;simpa [D.in_,D.keys,M4] using h)
theorem V0.in_has {d:V0} (h:d.in_ U=true) (hk:d.has k=true):aI U k=true:=by
 cases d with
 | one d=>exact D.in_has (d:=d) h hk
 | ag l=>obtain ⟨d,h1,h2⟩:=List.any_eq_true.1 hk;exact D.in_has (List.all_eq_true.1 h d h1) h2
theorem TV.in_has {d:TV} (h:d.in_ U=true) (hk:d.has k=true):aI U k=true:=by
 cases d with
 | v d=>exact V0.in_has (d:=d) h hk
 | tup l=>obtain ⟨d,h1,h2⟩:=List.any_eq_true.1 hk;exact V0.in_has (List.all_eq_true.1 h d h1) h2
theorem Box.in_has {d:Box} (h:d.in_ U=true) (hk:d.has k=true):aI U k=true:=by
 cases d with
 | box t cs=>obtain ⟨d,h1,h2⟩:=List.any_eq_true.1 hk;exact D.in_has (List.all_eq_true.1 h d h1) h2
 | arr e E l=>simp [Box.has] at hk
 | mp l=>simp [Box.has] at hk
 | it j n l=>simp only [Box.has] at hk;rw [<-qNb hk];exact h
end
def gg:List (Nat×Box)->Nat->Option Box
 | [],_=>none
 | (k,b) :: r,n=>bif k.beq n then some b else gg r n
def aq {α:Type _} (l:List (Nat×α)):List Nat:=l.map (·.1)
def eM:List Nat->Bool
 | []=>true
 | k :: r=>!aI r k && eM r
def Ca (args:List V0) (hin:List (Nat×Box)) (us:List Nat) (res:TV) (hout:List (Nat×Option Box)):Bool :=
 args.all (V0.in_ (aq hin)) && hin.all (fun x=>x.2.in_ (aq hin)) && M4 (aq hout) (aq hin) && M4 (aq hin++us) (aq hout) && us.all (fun k=>!aI (aq hin) k && aI (aq hout) k) &&
 res.in_ (aq hin++us) && hout.all (fun x=>match x.2 with|none=>true|some b=>b.in_ (aq hin++us))
def fC (q:Nat->Nat) (l:List (Nat×Option Box)):List (Nat×Option Box):=l.map fun x=>(q x.1,x.2.map (Box.ren q))
structure FSpec (P:Program) (f:FuncId) (args:List V0) (hin:List (Nat×Box)) (us:List Nat) (res:TV) (hout:List (Nat×Option Box)):Prop where
 en:∀(vs:Array Value) (w:World),(callFunc f vs).run P w = .ok (.enter f vs) w
 ca:∀(q:Nat->Nat) (c:Ctx) (st:Mst) (ρ:Nat->Value) (a:Act) (w:World) (vs:List Value),Rp c st ρ a w->
  (∀k k',aI (aq hin++us) k=true->aI (aq hin++us) k'=true->q k=q k'->k=k')->
  All2 (fun d v=>(V0.ren q d).rep w (Fz c st.h ρ w) ρ v) args vs->
  (∀k b,gg hin k=some b->st.h (q k)=some (b.ren q))->(∀k,aI us k=true->st.f (q k)=true)->
  Calls P f vs.toArray w fun e w'=>∃v,e = .returned v/\∀dst:Option Nat,(∀d,dst=some d->d<c.nt)->∃ρ',Rp c (st.app dst ⟨res.ren q,fC q hout,us.map q⟩) ρ' (a.put dst v) w'
inductive RV (P:Program) (s:Mst):ResultVar->V0->Prop
 | tmp {t:Nat} {x:V0} (h:s.t t = .v x):RV P s (.tmp t) x
 | row {t ty k n:Nat} {tb:TypeId} {cs:List D} (h:s.t t = .c (.ptr k 0)) (hk:s.h k=some (.box tb cs)) [I:TI P ty true n] (hn:cs.length=n):RV P s (.cell t ty) (.ag cs)
 | one {t ty k n:Nat} {tb:TypeId} {y:D} {cs:List D} (h:s.t t = .c (.ptr k 0)) (hk:s.h k=some (.box tb (y :: cs))) [I:TI P ty false n]:RV P s (.cell t ty) (.one y)
def M5:List V0->TV
 | [x]=>.v x
 | l=>.tup l
def xw (tmps:Array Value):ResultVar->Sem Value
 | .tmp t=>pure (tmps.getD t undef)
 | .cell a t=>do loadVar t (<-asAddr (tmps.getD a undef))
theorem CC (fn:Func) (tmps:Array Value):results fn tmps=(do let vs <-fn.results.mapM (xw tmps);pure (if h:vs.size=1 then vs[0] else .tuple vs)):=by
 unfold results;congr 1
theorem wP {P:Program} {c:Ctx} {s:Mst} {ρ:Nat->Value} {a:Act} {w:World} (hr:Rp c s ρ a w) {r:ResultVar} {x:V0} (h:RV P s r x) :
  ∃v,(xw a.tmps r).run P w = .ok v w/\x.rep w (Fz c s.h ρ w) ρ v:=by
 cases h with
 | @tmp t x h=>exact ⟨_,rfl,by have:=hr.tmp t;rw [h] at this;exact this⟩
 | @row t ty k n tb cs h hk I hn =>
  have h1:=hr.tmp t;rw [h] at h1;obtain ⟨g,hg,hv⟩:=h1;obtain ⟨vs,hB,hA,h1c⟩:=hr.box hk hg;refine ⟨.agg vs.toArray,?_,vs,rfl,hA⟩;have h2:=oW (P:=P) (t:=ty) (g:=g) (p:=0) w vs (fun j u hu=>by rw [Nat.zero_add];exact hB.cellx j (by simpa using hu)) (by rw [<-hA.length,hn]);exact Rz
 | @one t ty k n tb y cs h hk I =>
  have h1:=hr.tmp t;rw [h] at h1;obtain ⟨g,hg,hv⟩:=h1;obtain ⟨vs,hB,hA,h1c⟩:=hr.box hk hg;obtain ⟨u,hu,hrep⟩:=hA.get (i:=0) (a:=y) rfl;refine ⟨u,?_,hrep⟩;have h2:=oX (P:=P) (t:=ty) (g:=g) (p:=0) w u (hB.cellx 0 (by simpa using hu));exact Rz
theorem ma {P:Program} {c:Ctx} {s:Mst} {ρ:Nat->Value} {a:Act} {w:World} (hr:Rp c s ρ a w) {fn:Func} {xs:List V0} (h:All2 (RV P s) fn.results.toList xs):∃v,(results fn a.tmps).run P w = .ok v w/\(M5 xs).rep w (Fz c s.h ρ w) ρ v:=by
 have key:∀(rs:List ResultVar) (xs:List V0),All2 (RV P s) rs xs->∃vs:List Value,(rs.mapM (xw a.tmps)).run P w = .ok vs w/\All2 (V0.rep w (Fz c s.h ρ w) ρ) xs vs:=by
  intro rs;induction rs with
  | nil=>intro xs h;cases xs with
   | nil=>exact ⟨[],rfl,trivial⟩
   | cons=>exact h.elim
  | cons r rs ih =>
   intro xs h;cases xs with
   | nil=>exact h.elim
   | cons x xs =>
    obtain ⟨v,h1,h2⟩:=wP hr h.1;obtain ⟨vs,h3,h4⟩:=ih xs h.2;refine ⟨v :: vs,?_,h2,h4⟩;simp only [List.mapM_cons,Sem.run_bind,h1,Result.andThen_ok,h3,Sem.run_pure]
 obtain ⟨vs,h1,h2⟩:=key _ _ h;have hm:(fn.results.mapM (xw a.tmps)).run P w = .ok vs.toArray w:=by
  rw [Array.mapM_eq_mapM_toList,map_eq_pure_bind];simp only [Sem.run_bind,h1,Result.andThen_ok,Sem.run_pure]
 have hl:=h2.length;rw [CC];simp only [Sem.run_bind,hm,Result.andThen_ok,Sem.run_pure]
 match xs,vs,h2 with
 | [x],[v],h2=>exact ⟨v,rfl,h2.1⟩
 | [],[],_=>exact ⟨_,rfl,[],rfl,trivial⟩
 | x :: y :: xs,v :: u :: vs,h2=>exact ⟨_,rfl,v :: u :: vs,by simp,h2⟩
def Ox (args:List V0) (hin:List (Nat×Box)):Mst :=
 { t:=fun i=>match args[i]? with|some x=>.v x|none=>.c .any,h:=gg hin,f:=fun k=>!aI (aq hin) k }
def sF (P:Program) (fn:Func) (hin:List (Nat×Box)) (res:TV) (hout:List (Nat×Option Box)) (e:Exit) (s:Mst):Prop :=
 (e = .normal\/e = .ret)/\∃xs p,All2 (RV P s) fn.results.toList xs/\(∀k,aI (aq hin) k=true->p k=k)/\Part s p (hput hout fun _=>none)/\TVLe s p (fun j=>∀k,hput hout (fun _=>none) k≠none->p k≠j) (M5 xs) res
section
variable {P:Program}
theorem bJ:∀{l:List Nat} {k:Nat},aI l k=true↔k∈l
 | [],k=>by simp [aI]
 | x :: l,k=>by
  simp only [aI,Bool.or_eq_true,List.mem_cons,bJ (l:=l)];constructor
  ·rintro (h|h)
   ·exact .inl (qNb h).symm
   ·exact .inr h
  ·rintro (rfl|h)
   ·exact .inl (Nat.beq_refl k)
   ·exact .inr h
theorem bS {hin:List (Nat×Box)} {k:Nat} {b:Box} (h:gg hin k=some b):aI (aq hin) k=true/\(k,b)∈hin:=by
 induction hin with
 | nil=>cases h
 | cons x r ih =>
  obtain ⟨j,c⟩:=x;simp only [gg] at h;cases hj:j.beq k with
  | true =>
   rw [hj] at h;injection h with h;subst h;have:=qNb hj;subst this;exact ⟨by simp [aq,aI],by simp⟩
  | false =>
   rw [hj] at h;obtain ⟨h1,h2⟩:=ih h;exact ⟨by simp only [aq,List.map_cons,aI,Bool.or_eq_true];exact .inr h1,by simp [h2]⟩
theorem Fw {hin:List (Nat×Box)} {k:Nat} (h:aI (aq hin) k=true):∃b,gg hin k=some b:=by
 induction hin with
 | nil=>simp [aq,aI] at h
 | cons x r ih =>
  obtain ⟨j,c⟩:=x;simp only [gg];cases hj:j.beq k with
  | true=>exact ⟨c,rfl⟩
  | false =>
   simp only [aq,List.map_cons,aI,hj,Bool.false_or] at h;exact ih h
theorem jB {l:List (Nat×Option Box)} {k:Nat}:aF l k=aI (aq l) k:=by
 induction l with
 | nil=>rfl
 | cons x r ih=>simp only [aF,aq,List.map_cons,aI,ih]
theorem oZ {l:List (Nat×Option Box)} {k:Nat} {b:Box} (h:hput l (fun _=>none) k=some b):(k,some b)∈l:=by
 induction l with
 | nil=>cases h
 | cons x r ih =>
  obtain ⟨j,c⟩:=x;simp only [hput] at h;cases hj:j.beq k with
  | true =>
   rw [hj] at h;have:=qNb hj;subst this;simp only [qCt] at h;subst h;simp
  | false=>rw [hj] at h;simp [ih h]
theorem qK {q:Nat->Nat} {l:List (Nat×Option Box)} {n:Nat}:aF (fC q l) n=true↔∃k,aF l k=true/\q k=n:=by
 induction l with
 | nil=>simp [fC,aF]
 | cons x r ih =>
  simp only [fC,List.map_cons,aF,Bool.or_eq_true];constructor
  ·rintro (h|h)
   ·exact ⟨x.1,.inl (Nat.beq_refl _),qNb h⟩
   ·obtain ⟨k,h1,h2⟩:=ih.1 h;exact ⟨k,.inr h1,h2⟩
  ·rintro ⟨k,h1|h1,rfl⟩
   ·rw [qNb h1];exact .inl (Nat.beq_refl _)
   ·exact .inr (ih.2 ⟨k,h1,rfl⟩)
theorem xy {q:Nat->Nat} {h:Nat->Option Box}:∀{l:List (Nat×Option Box)} {k:Nat},(∀k',aF l k'=true->q k'=q k->k'=k)->aF l k=true->hput (fC q l) h (q k)=(hput l (fun _=>none) k).map (Box.ren q)
 | [],_,_,e=>by simp [aF] at e
 | (j,c) :: r,k,hinj,e=>by
  simp only [fC,List.map_cons,hput];cases hj:j.beq k with
  | true =>
   have:=qNb hj;subst this;simp
  | false =>
   have:(q j).beq (q k)=false:=by
    cases h9:(q j).beq (q k) with
    | false=>rfl
    | true =>
     have:=hinj j (by simp [aF]) (qNb h9);subst this;rw [Nat.beq_refl] at hj;cases hj
   rw [this];simp only [qCf];simp only [aF,hj,Bool.false_or] at e;exact xy (l:=r) (fun k' h1 h2=>hinj k' (by simp only [aF,h1,Bool.or_true]) h2) e
theorem jC {U l:List Nat} (h:M4 U l=true) {k:Nat} (hk:aI l k=true):aI U k=true:=j9 h k hk
theorem D.has_ren {q:Nat->Nat} {d:D} {n:Nat} (h:(d.ren q).has n=true):∃k,d.has k=true/\q k=n:=by
 cases d with
 | clo f ks =>
  have h:(ks.map q).any (fun j=>j.beq n)=true:=h;obtain ⟨j,hj,he⟩:=List.any_eq_true.1 h;obtain ⟨k,hk,rfl⟩:=List.mem_map.1 hj;exact ⟨k,(List.any_eq_true.2 ⟨k,hk,Nat.beq_refl k⟩:ks.any (fun j=>j.beq k)=true),qNb he⟩
 | _=>simp [D.ren,D.has] at h <;> exact ⟨_,by simp [D.has],h⟩
theorem D.has_renL {q:Nat->Nat} {l:List D} {n:Nat} (h:(l.map (D.ren q)).any (D.has n)=true):∃k,l.any (D.has k)=true/\q k=n:=by
 obtain ⟨d,h1,h2⟩:=List.any_eq_true.1 h;obtain ⟨d0,h3,rfl⟩:=List.mem_map.1 h1;obtain ⟨k,h4,h5⟩:=D.has_ren h2;exact ⟨k,List.any_eq_true.2 ⟨d0,h3,h4⟩,h5⟩
theorem V0.has_ren {q:Nat->Nat} {d:V0} {n:Nat} (h:(d.ren q).has n=true):∃k,d.has k=true/\q k=n:=by
 cases d with
 | one d=>exact D.has_ren (d:=d) h
 | ag l=>exact D.has_renL (l:=l) h
theorem TV.has_ren {q:Nat->Nat} {d:TV} {n:Nat} (h:(d.ren q).has n=true):∃k,d.has k=true/\q k=n:=by
 cases d with
 | v d=>exact V0.has_ren (d:=d) h
 | tup l =>
  obtain ⟨d,h1,h2⟩:=List.any_eq_true.1 h;obtain ⟨d0,h3,rfl⟩:=List.mem_map.1 h1;obtain ⟨k,h4,h5⟩:=V0.has_ren h2;exact ⟨k,List.any_eq_true.2 ⟨d0,h3,h4⟩,h5⟩
theorem Box.has_ren {q:Nat->Nat} {d:Box} {n:Nat} (h:(d.ren q).has n=true):∃k,d.has k=true/\q k=n:=by
 cases d with
 | box t l=>exact D.has_renL (l:=l) h
 | arr e E l=>simp [Box.ren,Box.has] at h
 | mp l=>simp [Box.ren,Box.has] at h
 | it k m l=>exact ⟨k,by simp [Box.has],qNb h⟩
theorem gN {f:FuncId} {fn:Func} {code:Code} {args:List V0} {hin:List (Nat×Box)} {us:List Nat} {res:TV} {hout:List (Nat×Option Box)} (hf:P.funcs[f]? = some fn) (hb:fn.body=some code) (hen:∀(vs:Array Value) (w:World),(callFunc f vs).run P w = .ok (.enter f vs) w)
  (hok:Ca args hin us res hout=true) (hnt:args.length<=fn.ntmps) (h:AW P fn.ntmps (aq hin) code (sF P fn hin res hout) (Ox args hin)):FSpec P f args hin us res hout:=by
 refine ⟨hen,fun q c st ρ a w vs hr hinj hargs hhin hus=>?_⟩;simp only [Ca,qBa] at hok;obtain ⟨⟨⟨⟨⟨⟨o1,o2⟩,o3⟩,o4⟩,o5⟩,o6⟩,o7⟩:=hok;have inK:∀{k},aI (aq hin) k=true->aI (aq hin++us) k=true:=fun h=>by rw [mL,h];rfl
 have inU:∀{k},aI us k=true->aI (aq hin++us) k=true:=fun h=>by rw [mL,h,Bool.or_true]
 have uK:∀{k},aI us k=true->aI (aq hin) k=false:=fun h=>by have:=j9 o5 _ h;simp at this;exact this.1
 have hXS:∀b,(∃k bx,aI (aq hin) k=true/\st.h (q k)=some bx/\kb (ρ (q k))=some b)->b<w.heap.size:=fun b ⟨k,bx,_,h2,h3⟩=>hr.ltb h2 h3
 let c':Ctx:={ w0:=w,S:=fun b=>Fz c st.h ρ w b\/∃k bx,aI (aq hin) k=true/\st.h (q k)=some bx/\kb (ρ (q k))=some b,X:=fun b=>∃k bx,aI (aq hin) k=true/\st.h (q k)=some bx/\kb (ρ (q k))=some b,nt:=fn.ntmps,K:=aq hin,ρ0:=fun k=>ρ (q k),hS:=fun b hb=>hb.elim (fun h=>h.2.1) (hXS b),hX:=fun b hb=>.inr hb,hpin:=c.hpin.sub (fun b hb hx=>hr.frm.keep b hb hx) fun b hb ⟨k,bx,_,h2,h3⟩=>(hr.inb _ bx b h2 h3).resolve_right (Nat.not_le.2 hb) }
 have hF0:∀b,Fz c st.h ρ w b->Fz c' (gg hin) (fun k=>ρ (q k)) w b/\w.heap[b]? = w.heap[b]?:=fun b hb=>⟨⟨.inl (.inl hb),hb.2.1,fun k bx hk=>hb.2.2 (q k) _ (hhin k bx hk)⟩,rfl⟩;have hr0:Rp c' (Ox args hin) (fun k=>ρ (q k)) { tmps:=vs.toArray++Array.replicate (fn.ntmps-vs.toArray.size) undef,defers:=[] } w:=by
  have hlen:=hargs.length;refine ⟨rfl,?_,Frx.refl _ _,fun i=>?_,fun k b hk=>?_,fun k b g hk hg=>?_,fun k k' b b' g hk hk' hg hg'=>?_,fun k hk=>⟨rfl,?_⟩,⟨fun k hk=>?_,fun k i hk=>?_,fun k k' b hk hb2=>?_⟩⟩
  ·show (vs.toArray++Array.replicate (fn.ntmps-vs.toArray.size) undef).size=fn.ntmps;simp;omega
  ·show TV.rep _ _ _ (match args[i]? with|some x=>.v x|none=>.c .any) _;cases hi:args[i]? with
   | none=>trivial
   | some x =>
    obtain ⟨v,hv,hx⟩:=hargs.get hi;have hil:i<vs.length:=(List.getElem?_eq_some_iff.1 hv).1;have e1:(vs.toArray++Array.replicate (fn.ntmps-vs.toArray.size) undef).getD i undef=v:=by
     rw [Array.getD_eq_getD_getElem?,Array.getElem?_append_left (by simpa using hil)];simp [hv]
    show V0.rep _ _ _ x ((vs.toArray++Array.replicate (fn.ntmps-vs.toArray.size) undef).getD i undef);rw [e1];exact ((V0.rep_ren (ρ':=fun k=>ρ (q k)) fun _ _=>rfl).1 hx).mono hF0 fun _ _=>rfl
  ·have h1:=hr.hp _ _ (hhin k b hk);exact ((Box.rep_ren (ρ':=fun k=>ρ (q k)) fun _ _=>rfl).1 h1).mono (fun _ _=>rfl) hF0 fun _ _=>rfl
  ·exact .inl ⟨k,_,(bS hk).1,hhin k b hk,hg⟩
  ·exact hinj k k' (inK (bS hk).1) (inK (bS hk').1) (hr.dis _ _ _ _ g (hhin k b hk) (hhin k' b' hk') hg hg')
  ·show (!aI (aq hin) k)=false;rw [bJ.2 hk];rfl
  ·have hk:(!aI (aq hin) k)=true:=hk;cases h9:gg hin k with
   | none=>exact h9
   | some b=>rw [(bS h9).1] at hk;cases hk
  ·have hk:(!aI (aq hin) k)=true:=hk;show TV.has k (match args[i]? with|some x=>.v x|none=>.c .any)=false;cases hi:args[i]? with
   | none=>rfl
   | some x =>
    cases h9:TV.has k (.v x) with
    | false=>rfl
    | true=>rw [V0.in_has (List.all_eq_true.1 o1 x (List.mem_of_getElem? hi)) h9] at hk;cases hk
  ·have hk:(!aI (aq hin) k)=true:=hk;cases h9:Box.has k b with
   | false=>rfl
   | true=>rw [Box.in_has (List.all_eq_true.1 o2 (k',b) (bS hb2).2) h9] at hk;cases hk
 refine calls_of_wp hf hb (wp_mono (h c' _ _ w rfl rfl hr0) ?_);rintro e a1 w1 ⟨s1,ρ1,⟨he,xs,p,hxs,hpK,hpart,hle⟩,hr1⟩;obtain ⟨v,hv,hvr⟩:=ma hr1 hxs;have hres:=hpart.tv hr1 hle hvr
 let s2:Mst:={ t:=fun _=>.c .any,h:=hput hout fun _=>none,f:=fun k=>!aI (aq hin++us) k }
 have hin2:∀k b,hput hout (fun _=>none) k=some b->aI (aq hin++us) k=true/\b.in_ (aq hin++us)=true:=fun k b hk=>by
  have hm:=oZ hk;have h1:=List.all_eq_true.1 o7 _ hm;refine ⟨jC o4 ?_,h1⟩;rw [bJ];exact List.mem_map.2 ⟨_,hm,rfl⟩
 have hr2:Rp c' s2 (fun k=>ρ1 (p k)) a1 w1:=hr1.weak (s':=s2) hpart (fun k hk=>⟨hpK k (bJ.2 hk),by show (!aI (aq hin++us) k)=false;rw [inK (bJ.2 hk)];rfl⟩)
  ⟨(fun k hk=>by
   have hk:(!aI (aq hin++us) k)=true:=hk;cases h9:hput hout (fun _=>none) k with
   | none=>exact h9
   | some b=>rw [(hin2 k b h9).1] at hk;cases hk),fun _ _ _=>rfl,(fun k k' b hk hb2=>by
   have hk:(!aI (aq hin++us) k)=true:=hk;cases h9:Box.has k b with
   | false=>rfl
   | true=>rw [Box.in_has (hin2 k' b hb2).2 h9] at hk;cases hk)⟩ fun t=>.any _
 have hgo:a1.defers=[]/\∃v,(results fn a1.tmps).run P w1 = .ok v w1/\(fun e w'=>∃v,e=Ending.returned v/\∀dst:Option Nat,(∀d,dst=some d->d<c.nt)->∃ρ',Rp c (st.app dst ⟨res.ren q,fC q hout,us.map q⟩) ρ' (a.put dst v) w') (.returned v) w1:=by
  refine ⟨hr1.dfr,v,hv,v,rfl,fun dst hdst=>?_⟩
  let ρ':Nat->Value:=fun n=>match us.find? (fun k=>(q k).beq n) with|some k=>ρ1 (p k)|none=>ρ n
  have hρu:∀k,aI us k=true->ρ' (q k)=ρ1 (p k):=fun k hk=>by
   show (match us.find? (fun j=>(q j).beq (q k)) with|some k=>ρ1 (p k)|none=>ρ (q k))=_;cases h9:us.find? (fun j=>(q j).beq (q k)) with
   | none =>
    have:=List.find?_eq_none.1 h9 k (bJ.1 hk);simp at this
   | some j =>
    have h10:=List.find?_some (p:=fun j=>(q j).beq (q k)) h9;have h11:=List.mem_of_find?_eq_some h9;have:j=k:=hinj j k (inU (bJ.2 h11)) (inU hk) (qNb h10);rw [this]
  have hρn:∀n,(∀k,aI us k=true->q k≠n)->ρ' n=ρ n:=fun n hn=>by
   show (match us.find? (fun j=>(q j).beq n) with|some k=>ρ1 (p k)|none=>ρ n)=_;cases h9:us.find? (fun j=>(q j).beq n) with
   | none=>rfl
   | some j=>exact absurd (qNb (List.find?_some (p:=fun j=>(q j).beq n) h9)) (hn j (bJ.2 (List.mem_of_find?_eq_some h9)))
  have hρK:∀k,aI (aq hin++us) k=true->ρ' (q k)=ρ1 (p k):=fun k hk=>by
   rw [mL,Bool.or_eq_true] at hk;rcases hk with hk|hk
   ·rw [hρn (q k) fun j hj he=>?_,hpK k hk,(hr1.ent k (bJ.1 hk)).1];have:=hinj j k (inU hj) (inK hk) he;subst this;rw [uK hj] at hk;cases hk
   ·exact hρu k hk
  have hK:∀n,aF (fC q hout) n=true->∃k,aI (aq hin++us) k=true/\aF hout k=true/\q k=n:=fun n hn=>by
   obtain ⟨k,h1,h2⟩:=qK.1 hn;exact ⟨k,jC o4 (by rw [<-jB];exact h1),h1,h2⟩
  have hput':∀k,aI (aq hin++us) k=true->aF hout k=true->hput (fC q hout) st.h (q k)=(hput hout (fun _=>none) k).map (Box.ren q):=fun k hk hk2=>by
   refine xy (fun k' h1 h2=>?_) hk2;exact hinj k' k (jC o4 (by rw [<-jB];exact h1)) hk h2
  have hsome:∀n bx,aF (fC q hout) n=true->hput (fC q hout) st.h n=some bx->∃k b,aI (aq hin++us) k=true/\q k=n/\hput hout (fun _=>none) k=some b/\b.ren q=bx:=fun n bx hn hb2=>by
   obtain ⟨k,h1,h2,rfl⟩:=hK n hn;rw [hput' k h1 h2] at hb2;cases h9:hput hout (fun _=>none) k with
   | none=>rw [h9] at hb2;cases hb2
   | some b=>rw [h9] at hb2;exact ⟨k,b,h1,rfl,h9,Option.some.inj hb2⟩
  have hinKey:∀k,aI (aq hin) k=true->aF (fC q hout) (q k)=true:=fun k hk=>qK.2 ⟨k,by rw [jB];exact jC o3 hk,rfl⟩;have hnonf:∀k,aI (aq hin) k=true->st.f (q k)=false:=fun k hk=>by obtain ⟨b,h1⟩:=Fw hk;exact hr.nfh (hhin k b h1)
  have hFz:∀b,Fz c' s2.h (fun k=>ρ1 (p k)) w1 b->Fz c (hput (fC q hout) st.h) ρ' w1 b/\w1.heap[b]? = w1.heap[b]?:=fun b ⟨f1,f2,f3⟩=>by
   refine ⟨⟨?_,f2,fun n bx hn he=>?_⟩,rfl⟩
   ·rcases f1 with (f1|⟨k,bx,_,h2,h3⟩)|f1
    ·exact f1.1
    ·rcases hr.inb _ bx b h2 h3 with h|h
     ·exact .inl (c.hX b h)
     ·exact .inr h
    ·exact .inr (Nat.le_trans hr.frm.size f1)
   ·cases h9:aF (fC q hout) n with
    | true =>
     obtain ⟨k,b2,h1,rfl,h3,_⟩:=hsome n bx h9 hn;rw [hρK k h1] at he;exact f3 k b2 h3 he
    | false =>
     rw [cc h9] at hn;have hnu:∀k,aI us k=true->q k≠n:=fun k hk e=>by have:=hus k hk;rw [e,hr.nfh hn] at this;cases this
     rw [hρn n hnu] at he;rcases f1 with (f1|⟨k,b2,h1,h2,h3⟩)|f1
     ·exact f1.2.2 n bx hn he
     ·have:=hr.dis _ _ _ _ b h2 hn h3 he;subst this;rw [hinKey k h1] at h9;cases h9
     ·have:=hr.ltb hn he;have f1:w.heap.size<=b:=f1;omega
  have hus':∀n,aI (us.map q) n=true↔∃k,aI us k=true/\q k=n:=fun n=>by
   rw [bJ,List.mem_map];exact ⟨fun ⟨k,h1,h2⟩=>⟨k,bJ.2 h1,h2⟩,fun ⟨k,h1,h2⟩=>⟨k,bJ.1 h1,h2⟩⟩
  have hkeyin:∀{d:TV},d.in_ (aq hin++us)=true->∀n,(d.ren q).has n=true->∃k,aI (aq hin++us) k=true/\q k=n:=fun h n hn=>by
   obtain ⟨k,h1,h2⟩:=TV.has_ren hn;exact ⟨k,TV.in_has h h1,h2⟩
  have hkeyinB:∀{d:Box},d.in_ (aq hin++us)=true->∀n,(d.ren q).has n=true->∃k,aI (aq hin++us) k=true/\q k=n:=fun h n hn=>by
   obtain ⟨k,h1,h2⟩:=Box.has_ren hn;exact ⟨k,Box.in_has h h1,h2⟩
  have hcls:∀k,aI (aq hin++us) k=true->aI (us.map q) (q k)=true\/st.f (q k)=false:=fun k hk=>by
   rw [mL,Bool.or_eq_true] at hk;rcases hk with hk|hk
   ·exact .inr (hnonf k hk)
   ·exact .inl ((hus' _).2 ⟨k,hk,rfl⟩)
  refine ⟨ρ',hr.app (e:=⟨res.ren q,fC q hout,us.map q⟩) hdst ?_ ?_ ?_ ?_ ?_ ?_ ?_ ?_ ?_ ?_⟩
  ·intro n hn;obtain ⟨k,h1,rfl⟩:=(hus' n).1 hn;refine ⟨hus k h1,qK.2 ⟨k,?_,rfl⟩⟩;have:=j9 o5 k h1;simp at this;rw [jB];exact this.2
  ·intro n hn;refine hρn n fun k hk e=>?_;have:=(hus' n).2 ⟨k,hk,e⟩;rw [this] at hn;cases hn
  ·intro n hn;obtain ⟨k,h1,_,rfl⟩:=hK n hn;exact hcls k h1
  ·refine ⟨hr1.frm.os,hr1.frm.tape,hr1.frm.output,hr1.frm.size,fun b hlt hn=>hr1.frm.keep b hlt fun ⟨k,bx,h1,h2,h3⟩=>hn ⟨q k,bx,hinKey k h1,h2,h3⟩⟩
  ·intro n bx g hn hb2 hg;obtain ⟨k,b,h1,rfl,h3,_⟩:=hsome n bx hn hb2;rw [hρK k h1] at hg;refine ⟨hr2.ltb (k:=k) h3 hg,?_⟩;rcases hr2.inb k b g h3 hg with ⟨k0,b0,h4,h5,h6⟩|h4
   ·exact .inr ⟨q k0,b0,hinKey k0 h4,h5,h6⟩
   ·exact .inl h4
  ·intro n n' b b' g hn hn' hb2 hb2' hg hg';obtain ⟨k,x,h1,rfl,h3,_⟩:=hsome n b hn hb2;obtain ⟨k',x',h1',rfl,h3',_⟩:=hsome n' b' hn' hb2';rw [hρK k h1] at hg;rw [hρK k' h1'] at hg';rw [hr2.dis k k' x x' g h3 h3' hg hg']
  ·intro n hn;obtain ⟨k,h1,rfl⟩:=hkeyin o6 n hn;exact hcls k h1
  ·intro n n' bx hn' hb2 hn;obtain ⟨k,b,h1,rfl,h3,rfl⟩:=hsome n' bx hn' hb2;obtain ⟨k2,h4,rfl⟩:=hkeyinB (hin2 k b h3).2 n hn;exact hcls k2 h4
  ·intro n bx hn hb2;obtain ⟨k,b,h1,rfl,h3,rfl⟩:=hsome n bx hn hb2;rw [hρK k h1];refine ((Box.rep_ren (ρ':=fun k=>ρ1 (p k)) fun j hj=>?_).2 (hr2.hp k b h3)).mono (fun _ _=>rfl) hFz fun _ _=>rfl;exact (hρK j (Box.in_has (hin2 k b h3).2 hj)).symm
  ·refine ((TV.rep_ren (ρ':=fun k=>ρ1 (p k)) fun j hj=>?_).2 hres).mono hFz fun _ _=>rfl;exact (hρK j (TV.in_has o6 hj)).symm
 rcases he with rfl|rfl <;> exact hgo
end
section
variable {P:Program} {o:Oper} {s:Mst}
theorem Kz {t t':TypeId} {x y:Operand} {kd:IntKind} {a b c:Int} (ho:o.op = .binOp .add t x y t') (hx:s.ev x = .c (.sc (.int kd a))) (hy:s.ev y = .c (.sc (.int kd b))) (h:kd.wrap (a+b)=c):LOp P o s [] ⟨.c (.sc (.int kd c)),[],[]⟩ :=
 gE (by rw [ho];rfl) hx hy fun ev w hx hy=>by simp [execOp,ho,hx,hy,eqGuard,binOp,Op.intArith,h]
theorem KA {t t':TypeId} {x y:Operand} {kd:IntKind} {a b c:Int} (ho:o.op = .binOp .sub t x y t') (hx:s.ev x = .c (.sc (.int kd a))) (hy:s.ev y = .c (.sc (.int kd b))) (h:kd.wrap (a-b)=c):LOp P o s [] ⟨.c (.sc (.int kd c)),[],[]⟩ :=
 gE (by rw [ho];rfl) hx hy fun ev w hx hy=>by simp [execOp,ho,hx,hy,eqGuard,binOp,Op.intArith,h]
theorem o0 {t t':TypeId} {x y:Operand} {kd:IntKind} {a b c:Int} (ho:o.op = .binOp .mul t x y t') (hx:s.ev x = .c (.sc (.int kd a))) (hy:s.ev y = .c (.sc (.int kd b))) (h:kd.wrap (a*b)=c):LOp P o s [] ⟨.c (.sc (.int kd c)),[],[]⟩ :=
 gE (by rw [ho];rfl) hx hy fun ev w hx hy=>by simp [execOp,ho,hx,hy,eqGuard,binOp,Op.intArith,h]
theorem KB {t t':TypeId} {x y:Operand} {kd:IntKind} {a b c:Int} (ho:o.op = .binOp .quo t x y t') (hx:s.ev x = .c (.sc (.int kd a))) (hy:s.ev y = .c (.sc (.int kd b))) (h0:b≠0) (h:kd.wrap (a.tdiv b)=c):LOp P o s [] ⟨.c (.sc (.int kd c)),[],[]⟩ :=
 gE (by rw [ho];rfl) hx hy fun ev w hx hy=>by simp [execOp,ho,hx,hy,eqGuard,binOp,Op.intDiv,h0,h]
theorem yK {t t':TypeId} {x y:Operand} {kd:IntKind} {a b c:Int} (ho:o.op = .binOp .rem t x y t') (hx:s.ev x = .c (.sc (.int kd a))) (hy:s.ev y = .c (.sc (.int kd b))) (h0:b≠0) (h:a.tmod b=c):LOp P o s [] ⟨.c (.sc (.int kd c)),[],[]⟩ :=
 gE (by rw [ho];rfl) hx hy fun ev w hx hy=>by simp [execOp,ho,hx,hy,eqGuard,binOp,Op.intDiv,h0,h]
theorem mM {op:BinOp} {t t':TypeId} {x y:Operand} {kd:IntKind} {a b:Int} {c:Bool} (ho:o.op = .binOp op t x y t') (hx:s.ev x = .c (.sc (.int kd a))) (hy:s.ev y = .c (.sc (.int kd b)))
  (h:(op = .eql/\(a == b)=c)\/(op = .neq/\(a != b)=c)\/(op = .lss/\decide (a<b)=c)\/(op = .leq/\decide (a<=b)=c)\/(op = .gtr/\decide (b<a)=c)\/(op = .geq/\decide (b<=a)=c)):LOp P o s [] ⟨.b c,[],[]⟩ :=
 gE (by rw [ho];rfl) hx hy fun ev w hx hy=>by
  rcases h with ⟨rfl,h⟩|⟨rfl,h⟩|⟨rfl,h⟩|⟨rfl,h⟩|⟨rfl,h⟩|⟨rfl,h⟩ <;> subst h <;> simp [execOp,ho,hx,hy,eqGuard,binOp,Op.intCmp]
theorem tQ {op:BinOp} {t t':TypeId} {x y:Operand} {a b:ByteArray} {c:Bool} (ho:o.op = .binOp op t x y t') (hx:s.ev x = .c (.sc (.string a))) (hy:s.ev y = .c (.sc (.string b)))
  (h:(op = .eql/\(a.toList == b.toList)=c)\/(op = .neq/\(!(a.toList == b.toList))=c)\/(op = .lss/\Op.bytesLess a.toList b.toList=c)\/(op = .geq/\(!Op.bytesLess a.toList b.toList)=c)):LOp P o s [] ⟨.b c,[],[]⟩ :=
 gE (by rw [ho];rfl) hx hy fun ev w hx hy=>by
  rcases h with ⟨rfl,h⟩|⟨rfl,h⟩|⟨rfl,h⟩|⟨rfl,h⟩ <;> subst h <;> simp [execOp,ho,hx,hy,eqGuard,binOp,Op.stringOp]
theorem M7 {t t':TypeId} {x y:Operand} {kd:IntKind} {a b:Int} (ho:o.op = .binOp .eql t x y t') (hx:s.ev x = .c (.sc (.int kd a))) (hy:s.ev y = .c (.sc (.int kd b))):LOp P o s [] ⟨.b (a == b),[],[]⟩:=mM ho hx hy (by simp)
theorem M8 {t t':TypeId} {x y:Operand} {kd:IntKind} {a b:Int} (ho:o.op = .binOp .neq t x y t') (hx:s.ev x = .c (.sc (.int kd a))) (hy:s.ev y = .c (.sc (.int kd b))):LOp P o s [] ⟨.b (a != b),[],[]⟩:=mM ho hx hy (by simp)
theorem M9 {t t':TypeId} {x y:Operand} {kd:IntKind} {a b:Int} (ho:o.op = .binOp .lss t x y t') (hx:s.ev x = .c (.sc (.int kd a))) (hy:s.ev y = .c (.sc (.int kd b))):LOp P o s [] ⟨.b (decide (a<b)),[],[]⟩:=mM ho hx hy (by simp)
theorem Na {t t':TypeId} {x y:Operand} {kd:IntKind} {a b:Int} (ho:o.op = .binOp .leq t x y t') (hx:s.ev x = .c (.sc (.int kd a))) (hy:s.ev y = .c (.sc (.int kd b))):LOp P o s [] ⟨.b (decide (a<=b)),[],[]⟩:=mM ho hx hy (by simp)
theorem Nb {t t':TypeId} {x y:Operand} {kd:IntKind} {a b:Int} (ho:o.op = .binOp .gtr t x y t') (hx:s.ev x = .c (.sc (.int kd a))) (hy:s.ev y = .c (.sc (.int kd b))):LOp P o s [] ⟨.b (decide (b<a)),[],[]⟩:=mM ho hx hy (by simp)
theorem Nc {t t':TypeId} {x y:Operand} {kd:IntKind} {a b:Int} (ho:o.op = .binOp .geq t x y t') (hx:s.ev x = .c (.sc (.int kd a))) (hy:s.ev y = .c (.sc (.int kd b))):LOp P o s [] ⟨.b (decide (b<=a)),[],[]⟩:=mM ho hx hy (by simp)
theorem KC {t t':TypeId} {x y:Operand} {a b:ByteArray} (ho:o.op = .binOp .eql t x y t') (hx:s.ev x = .c (.sc (.string a))) (hy:s.ev y = .c (.sc (.string b))):LOp P o s [] ⟨.b (a.toList == b.toList),[],[]⟩:=tQ ho hx hy (by simp)
theorem KD {t t':TypeId} {x y:Operand} {a b:ByteArray} (ho:o.op = .binOp .neq t x y t') (hx:s.ev x = .c (.sc (.string a))) (hy:s.ev y = .c (.sc (.string b))):LOp P o s [] ⟨.b (!(a.toList == b.toList)),[],[]⟩:=tQ ho hx hy (by simp)
theorem KE {t t':TypeId} {x y:Operand} {a b:ByteArray} (ho:o.op = .binOp .lss t x y t') (hx:s.ev x = .c (.sc (.string a))) (hy:s.ev y = .c (.sc (.string b))):LOp P o s [] ⟨.b (Op.bytesLess a.toList b.toList),[],[]⟩:=tQ ho hx hy (by simp)
theorem KF {t t':TypeId} {x y:Operand} {a b:ByteArray} (ho:o.op = .binOp .geq t x y t') (hx:s.ev x = .c (.sc (.string a))) (hy:s.ev y = .c (.sc (.string b))):LOp P o s [] ⟨.b (!Op.bytesLess a.toList b.toList),[],[]⟩:=tQ ho hx hy (by simp)
theorem KH {t:TypeId} {x:Operand} {b:Bool} (ho:o.op = .unOp .not t x) (hx:s.ev x = .b b):LOp P o s [] ⟨.b (!b),[],[]⟩ :=
 DP (by rw [ho];rfl) hx fun ev w hx=>by simp [execOp,ho,hx,Op.unary]
def Oy:Value->Value->Bool
 | .int _ a,.int _ b=>a == b
 | .string a,.string b=>a == b
 | .bool a,.bool b=>a == b
 | _,_=>false
def DT:List Value->List Value->Bool
 | [],[]=>true
 | a :: l,b :: m=>Oy a b && DT l m
 | _,_=>false
def shp:Value->Nat
 | .int .i64 _=>0
 | .string _=>1
 | .bool _=>2
 | _=>9
def scs:List D->Option (List Value)
 | []=>some []
 | .sc v :: l=>match scs l with|some r=>some (v :: r)|none=>none
 | _ :: _=>none
class EQ (P:Program) (t:TypeId) (sh:outParam (List Nat)):Prop where
 g:P.eqGuardType P.depth t=false
 e:∀(w:World) (a b:List Value),a.map shp=sh->b.map shp=sh->(Op.equal t (.agg a.toArray) (.agg b.toArray)).run P w = .ok (DT a b) w
theorem jE {w:World} {F:Nat->Prop} {ρ:Nat->Value}:∀{l:List D} {a vs:List Value},scs l=some a->All2 (D.rep w F ρ) l vs->vs=a
 | [],a,vs,h,k=>by
  cases vs with
  | nil=>simp [scs] at h;exact h.symm▸rfl
  | cons=>exact k.elim
 | d :: l,a,vs,h,k=>by
  cases vs with
  | nil=>exact k.elim
  | cons v vs =>
   cases d with
   | sc x =>
    simp only [scs] at h;cases hl:scs l with
    | none=>rw [hl] at h;cases h
    | some r =>
     rw [hl] at h;have h:=Option.some.inj h;subst h;rw [jE hl k.2,show v=x from k.1]
   | _=>simp [scs] at h
theorem KI {t t':TypeId} {x y:Operand} {la lb:List D} {a b:List Value} {sh:List Nat} {c:Bool} [I:EQ P t sh] (ho:o.op = .binOp .eql t x y t') (hx:s.ev x = .v (.ag la)) (hy:s.ev y = .v (.ag lb)) (ha:scs la=some a) (hb:scs lb=some b) (h1:a.map shp=sh) (h2:b.map shp=sh) (h:DT a b=c):LOp P o s [] ⟨.b c,[],[]⟩ :=
 bq fun cx st ρ ac w hr hc _=>by
  have he:=hc x (by simp [ho,Op.operands]);have he2:=hc y (by simp [ho,Op.operands]);rw [hx] at he;rw [hy] at he2;have hv:=hr.ev x;rw [he] at hv;have hv2:=hr.ev y;rw [he2] at hv2;obtain ⟨vs,hv,hA⟩:=hv;obtain ⟨us,hv2,hB⟩:=hv2;have e1:=jE ha hA;have e2:=jE hb hB;subst e1;subst e2;subst h;refine ⟨.bool (DT vs us),?_,rfl,fun k hk=>by simp [TV.has,V0.has,D.has] at hk⟩;unfold execOp;rw [ho];simp [hv,hv2,eqGuard,binOp,I.e w vs us h1 h2,I.g]
theorem KJ {t t':TypeId} {x y:Operand} {la lb:List D} {a b:List Value} {sh:List Nat} {c:Bool} [I:EQ P t sh] (ho:o.op = .binOp .neq t x y t') (hx:s.ev x = .v (.ag la)) (hy:s.ev y = .v (.ag lb)) (ha:scs la=some a) (hb:scs lb=some b) (h1:a.map shp=sh) (h2:b.map shp=sh) (h:(!DT a b)=c):LOp P o s [] ⟨.b c,[],[]⟩ :=
 bq fun cx st ρ ac w hr hc _=>by
  have he:=hc x (by simp [ho,Op.operands]);have he2:=hc y (by simp [ho,Op.operands]);rw [hx] at he;rw [hy] at he2;have hv:=hr.ev x;rw [he] at hv;have hv2:=hr.ev y;rw [he2] at hv2;obtain ⟨vs,hv,hA⟩:=hv;obtain ⟨us,hv2,hB⟩:=hv2;have e1:=jE ha hA;have e2:=jE hb hB;subst e1;subst e2;subst h;refine ⟨.bool (!DT vs us),?_,rfl,fun k hk=>by simp [TV.has,V0.has,D.has] at hk⟩;unfold execOp;rw [ho];simp [hv,hv2,eqGuard,binOp,I.e w vs us h1 h2,I.g]
theorem Hy {t e:TypeId} [I:SE P t e] (w:World) (A:Option Addr) (n c:Nat) (ty:TypeId):(Builtin.len_ #[t] ty #[.slice A n c]).run P w = .ok (.int .i64 n) w:=by
 simp [Builtin.len_,run_underlying I.u,goInt]
theorem iF {t e ty:TypeId} {x:Operand} {n:Nat} {R:List Nat} [SE P t e] (ho:o.op = .call { callee:=.builtin .len,args:=#[x],argTypes:=#[t] })
  (h:∀(c:Ctx) (st:Mst) (ρ:Nat->Value) (a:Act) (w:World),Rp c st ρ a w->st.ev x=s.ev x->(∀k,aI R k=true->st.h k=s.h k)->∃A c,a.eval x = .slice A n c):LOp P o s R ⟨.i n,[],[]⟩ :=
 bq fun c st ρ a w hr h1 h2=>by
  obtain ⟨A,cap,hv⟩:=h c st ρ a w hr (h1 x (by simp [ho,Op.operands,Call.operands])) h2;refine ⟨.int .i64 n,?_,rfl,fun k hk=>by simp [TV.has,V0.has,D.has] at hk⟩;unfold execOp;rw [ho];simp only [resolve,invoke,builtin,Sem.run_bind,Sem.run_pure,Result.andThen_ok,List.map_toArray,List.map_cons,List.map_nil,hv,Hy]
theorem KK {t e:TypeId} {x:Operand} {α:Type} {E:El α} {l:List α} [SE P t e] (ho:o.op = .call { callee:=.builtin .len,args:=#[x],argTypes:=#[t] }) (hx:s.ev x = .c (.sl E l)):LOp P o s [] ⟨.i l.length,[],[]⟩ :=
 iF (ty:=0) ho fun c st ρ a w hr he _=>by
  have hv:=hr.ev x;rw [he,hx] at hv;obtain ⟨A,cap,hv,_⟩:=hv;exact ⟨A,cap,hv⟩
theorem Fx {t e:TypeId} {x:Operand} {k:Nat} {e':TypeId} {α:Type} {E:El α} {l:List α} [SE P t e] (ho:o.op = .call { callee:=.builtin .len,args:=#[x],argTypes:=#[t] }) (hx:s.ev x = .c (.own k)) (hk:s.h k=some (.arr e' E l)):LOp P o s [k] ⟨.i l.length,[],[]⟩ :=
 iF (ty:=0) ho fun c st ρ a w hr he h2=>by
  have hv:=hr.ev x;rw [he,hx] at hv;obtain ⟨A,cap,hA,_⟩:=dP (hr.hp k _ ((h2 k (by simp [aI])).trans hk));exact ⟨A,cap,Eq.trans hv hA⟩
theorem Fy {t e:TypeId} {x:Operand} [SE P t e] (ho:o.op = .call { callee:=.builtin .len,args:=#[x],argTypes:=#[t] }) (hx:s.ev x = .c (.sc (.slice none 0 0))):LOp P o s [] ⟨.i (0:Nat),[],[]⟩ :=
 iF (ty:=0) ho fun c st ρ a w hr he _=>by
  have hv:=hr.ev x;rw [he,hx] at hv;exact ⟨none,0,hv⟩
theorem sG {x:Operand} {l:List V0} {i:Nat} {y:V0} (ho:o.op = .extract x i) (hx:s.ev x = .tup l) (hy:l[i]? = some y):LOp P o s [] ⟨.v y,[],[]⟩ :=
 bq fun c st ρ a w hr h1 _=>by
  have he:=h1 x (by simp [ho,Op.operands]);rw [hx] at he;have hv:=hr.ev x;rw [he] at hv;obtain ⟨vs,hv,hA⟩:=hv;obtain ⟨u,hu,hrep⟩:=hA.get hy;refine ⟨u,?_,hrep,fun k hk=>hr.nf (x:=x) he ?_⟩
  ·unfold execOp;rw [ho];simp [hv,Instr.extract,hu]
  ·simp only [TV.has] at hk ⊢;exact List.any_eq_true.2 ⟨y,List.mem_of_getElem? hy,hk⟩
theorem yL {t:TypeId} {n off:Nat} [I:TI P t true n] (w:World) (cs:Array Value):(part t cs off).run P w = .ok (.agg (cs.extract off (off+n))) w:=by
 obtain ⟨d,h1,h2⟩:=I.u;have h3:=I.s;cases hq:P.info? t with
 | none=>simp [hq] at h3
 | some i =>
  simp [hq] at h3;subst h3;cases d <;> simp_all [part,isAgg,run_underlying h1,sizeOf,typeInfo]
theorem yM {t:TypeId} {n off:Nat} [I:TI P t false n] (w:World) (cs:Array Value) (v:Value) (hv:cs[off]? = some v):(part t cs off).run P w = .ok v w:=by
 obtain ⟨d,h1,h2⟩:=I.u;cases d <;> simp_all [part,isAgg,run_underlying h1]
theorem FA {t ft:TypeId} {x:Operand} {f off n:Nat} {l:List D} {y:D} [I:FO P t f off ft] [J:TI P ft false n] (ho:o.op = .field t x f) (hx:s.ev x = .v (.ag l)) (hy:l[off]? = some y):LOp P o s [] ⟨.c y,[],[]⟩ :=
 bq fun c st ρ a w hr h1 _=>by
  have he:=h1 x (by simp [ho,Op.operands]);rw [hx] at he;have hv:=hr.ev x;rw [he] at hv;obtain ⟨cs,hv,hA⟩:=hv;obtain ⟨fs,z,i,u1,u2,u3,u4,_⟩:=I.u;subst u3;subst u4;obtain ⟨v,h2,h3⟩:=hA.get hy;refine ⟨v,?_,h3,fun k hk=>hr.nf (x:=x) he (by simp only [TV.has,V0.has];exact lY hy hk)⟩;unfold execOp;rw [ho];simp only [hv,Instr.field,run_underlying u1,u2,Sem.run_bind,Result.andThen_ok,asAgg,Sem.run_pure,yM w cs.toArray v (by simpa using h2)]
theorem wQ {t ft:TypeId} {x:Operand} {f off n:Nat} {l ds:List D} [I:FO P t f off ft] [J:TI P ft true n] (ho:o.op = .field t x f) (hx:s.ev x = .v (.ag l)) (hd:(l.drop off).take n=ds):LOp P o s [] ⟨.v (.ag ds),[],[]⟩ :=
 bq fun c st ρ a w hr h1 _=>by
  have he:=h1 x (by simp [ho,Op.operands]);rw [hx] at he;have hv:=hr.ev x;rw [he] at hv;obtain ⟨cs,hv,hA⟩:=hv;obtain ⟨fs,z,i,u1,u2,u3,u4,_⟩:=I.u;subst u3;subst u4;subst hd;refine ⟨.agg ((cs.drop z.offset).take n).toArray,?_,⟨_,rfl,(hA.drop _).take _⟩,fun k hk=>hr.nf (x:=x) he (by simp only [TV.has,V0.has] at hk ⊢;exact sD (fun d hd=>List.mem_of_mem_drop (List.mem_of_mem_take hd)) hk)⟩;unfold execOp;rw [ho];simp only [hv,Instr.field,run_underlying u1,u2,Sem.run_bind,Result.andThen_ok,asAgg,Sem.run_pure,yL w cs.toArray];congr 3
  simp [List.drop_take,Array.ext_iff]
end
theorem qP {sh:List Nat} {a:List Value} (h:a.map shp=sh):a.length=sh.length:=by rw [<-h,List.length_map]
theorem KQ {α:Type _} {a:List α} (h:a.length=3):∃x y z,a=[x,y,z]:=by
 match a,h with
 | [x,y,z],_=>exact ⟨x,y,z,rfl⟩
theorem OJ {α:Type _} {a:List α} (h:a.length=2):∃x y,a=[x,y]:=by
 match a,h with
 | [x,y],_=>exact ⟨x,y,rfl⟩
theorem dR {v:Value} (h:shp v=0):∃n,v = .int .i64 n:=by
 unfold shp at h;split at h <;> first|exact ⟨_,rfl⟩|cases h
theorem HY {v:Value} (h:shp v=1):∃n,v = .string n:=by
 unfold shp at h;split at h <;> first|exact ⟨_,rfl⟩|cases h
instance:EQ prog 42 [0,0,0]:=⟨by kernel_rfl,fun w a b ha hb=>by
 have hS:prog.underlying 42=some (.struct (prog.fieldsOf 42)):=by kernel_rfl
 have hp:prog.stoodInHeld 42=false:=by kernel_rfl
 ·obtain ⟨a1,a2,a3,rfl⟩:=KQ (qP ha);obtain ⟨b1,b2,b3,rfl⟩:=KQ (qP hb);simp only [List.map_cons,List.map_nil,List.cons.injEq,and_true] at ha hb;obtain ⟨x1,rfl⟩:=dR ha.1;obtain ⟨x2,rfl⟩:=dR ha.2.1;obtain ⟨x3,rfl⟩:=dR ha.2.2;obtain ⟨y1,rfl⟩:=dR hb.1;obtain ⟨y2,rfl⟩:=dR hb.2.1;obtain ⟨y3,rfl⟩:=dR hb.2.2;show (Op.equalIn 10000 42 _ _).run _ _=_;rw [show (10000:Nat)=9999+1 from rfl,run_equalIn_agg w 9999 42 _ _ hS hp];have u3:=underlying3;simp only [Program.fieldsOf,underlying42];go_simp
  by_cases h1:x1=y1 <;> by_cases h2:x2=y2 <;> by_cases h3:x3=y3 <;> simp [h1,h2,h3,DT,Oy]⟩
instance:EQ prog 61 [0,0]:=⟨by kernel_rfl,fun w a b ha hb=>by
 have hS:prog.underlying 61=some (.struct (prog.fieldsOf 61)):=by kernel_rfl
 have hp:prog.stoodInHeld 61=false:=by kernel_rfl
 ·obtain ⟨a1,a2,rfl⟩:=OJ (qP ha);obtain ⟨b1,b2,rfl⟩:=OJ (qP hb);simp only [List.map_cons,List.map_nil,List.cons.injEq,and_true] at ha hb;obtain ⟨x1,rfl⟩:=dR ha.1;obtain ⟨x2,rfl⟩:=dR ha.2;obtain ⟨y1,rfl⟩:=dR hb.1;obtain ⟨y2,rfl⟩:=dR hb.2;show (Op.equalIn 10000 61 _ _).run _ _=_;rw [show (10000:Nat)=9999+1 from rfl,run_equalIn_agg w 9999 61 _ _ hS hp];have u3:=underlying3;simp only [Program.fieldsOf,underlying61];go_simp
  by_cases h1:x1=y1 <;> by_cases h2:x2=y2 <;> simp [h1,h2,DT,Oy]⟩
theorem Mo (p q:Pr):DT [.int .i64 p.site,.int .i64 p.inc,.int .i64 p.num] [.int .i64 q.site,.int .i64 q.inc,.int .i64 q.num]=decide (p=q):=by
 obtain ⟨a,b,c⟩:=p;obtain ⟨x,y,z⟩:=q;rw [Bool.eq_iff_iff];simp [DT,Oy]
theorem xA (p q:Am):DT [.int .i64 p.mode,.int .i64 p.units] [.int .i64 q.mode,.int .i64 q.units]=decide (p=q):=by
 obtain ⟨a,b⟩:=p;obtain ⟨x,y⟩:=q;rw [Bool.eq_iff_iff];simp [DT,Oy]
section
open Go.WideShapes Go.ChangeShapes Go.Deep Go.Joins
section
variable {H:Type} {enc:TypeId×Value->H} {w:World} {base:Nat} {spare:Nat->Bool} {held:Bool}
theorem oe {r:Reach} {b0:Nat} {v:Value} {d:DataW H} {p:List MemPlace} (hv:Value.okWide prog w r b0 22 v) (h:DataW.Trod enc prog w base spare held 22 v d p):∃l:List Int,∀ρ,(V0.one (.sl fo l)).rep w (Lo w.heap.size) ρ v:=by
 obtain ⟨a0,len,cap0,rfl⟩:=okWide_slice underlying22 hv;obtain ⟨fuel,hf⟩:=h;obtain ⟨l,⟨A,cap,hc,h1,h2,h3⟩,_⟩:=(Opens.sl (E:=fo) (fits:=QB) (E5 underlying3) underlying22 (by kernel_rfl)) hf;have hc':[Value.slice a0 len cap0]=[.slice A l.length cap]:=by simpa [Value.cells] using hc
 injection hc' with hc';exact ⟨l,fun ρ=>⟨A,cap,hc',⟨h1,h2⟩,h3⟩⟩
end
end
theorem fQ {P:Program} {o:Oper} {s:Mst} {t e:TypeId} {x:Operand} {k n:Nat} [SE P t e] (ho:o.op = .call { callee:=.builtin .len,args:=#[x],argTypes:=#[t] }) (hx:s.ev x = .c (.slb k n)):LOp P o s [] ⟨.i n,[],[]⟩ :=
 iF (ty:=0) ho fun c st ρ a w hr he _=>by
  have hv:=hr.ev x;rw [he,hx] at hv;obtain ⟨g,_,hv⟩:=hv;exact ⟨_,_,hv⟩
theorem bL {P:Program} {o:Oper} {s:Mst} {t e:TypeId} {x y:Operand} {row:Bool} {n i k m:Nat} {kd:IntKind} {z:Int} (ho:o.op = .indexAddr t x y) (hx:s.ev x = .c (.slb k m)) (hy:s.ev y = .c (.sc (.int kd z))) [SE P t e] [TI P e row n] (hz:z=(i:Int)) (hi:i<m) :
  LOp P o s [] ⟨.c (.ptr k (i*n)),[],[]⟩ :=
 bq fun c st ρ a w hr h1 _=>by
  have he:=h1 x (by simp [ho,Op.operands]);have he2:=h1 y (by simp [ho,Op.operands]);rw [hx] at he;rw [hy] at he2;have hv:=hr.ev x;rw [he] at hv;have hv2:=hr.ev y;rw [he2] at hv2;obtain ⟨g,hg,hv⟩:=hv;have hv2:a.eval y = .int kd z:=hv2;subst hz;refine ⟨.pointer (some ⟨g,i*n,none⟩),by unfold execOp;rw [ho];simp only [hv,hv2,Sem.run_bind,i9 w m m i hi,Result.andThen_ok,Sem.run_pure,Nat.zero_add],⟨g,hg,rfl⟩,fun k' hk=>hr.nf (x:=x) he hk⟩
theorem mz {e:MapEntry}:∀{l:List (Value×Value)} {i:Nat},e∈eY i l↔∃j,l[j]? = some (e.key,e.val)/\e.born=i+j
 | [],i=>by simp [eY]
 | x :: l,i=>by
  show e∈(⟨x.1,x.2,i⟩ :: eY (i+1) l)↔_;rw [List.mem_cons,mz];constructor
  ·rintro (rfl|⟨j,h1,h2⟩)
   ·exact ⟨0,rfl,rfl⟩
   ·exact ⟨j+1,by simpa using h1,by omega⟩
  ·rintro ⟨j,h1,h2⟩;cases j with
   | zero =>
    have h1:some x=some (e.key,e.val):=h1;injection h1 with h1;subst h1;exact .inl (by cases e;simp_all)
   | succ j=>exact .inr ⟨j,by simpa using h1,by omega⟩
theorem x9:∀{l:List (Value×Value)} {i:Nat},((eY i l).map (·.born)).Nodup/\∀x∈eY i l,i<=x.born
 | [],i=>by simp [eY]
 | x :: l,i=>by
  obtain ⟨h1,h2⟩:=x9 (l:=l) (i:=i+1);constructor
  ·show (i :: (eY (i+1) l).map (·.born)).Nodup;refine List.nodup_cons.2 ⟨fun h=>?_,h1⟩;obtain ⟨y,hy,e⟩:=List.mem_map.1 h;have:=h2 y hy;omega
  ·intro y hy;rcases List.mem_cons.1 hy with rfl|hy
   ·exact Nat.le_refl _
   ·exact Nat.le_of_succ_le (h2 y hy)
section
variable {P:Program} {nt:Nat} {Ks:List Nat} {Q:Exit->Mst->Prop} {s:Mst} {o o2:Oper} {L:List (Value×Value)}
theorem Gm {t k r K E:Nat} {x:Operand} (ht:P.underlying t=some (.map K E)) (ho:o.op = .range t x) (hdk:o.dst=some r) (hx:s.ev x = .c (.own k)) (hk:s.h k=some (.mp L)):LOp P o s [k] ⟨.c (.own r),[(r,some (.it k L.length []))],[r]⟩:=by
 intro c st ρ a w hr h1 h2 h3 h4;have e1:=h1 x (by simp [ho,Op.operands]);have hv1:=hr.ev x;rw [e1,hx] at hv1;have hv1:a.eval x=ρ k:=hv1;have hk':=(h2 k (by simp [aI])).trans hk;obtain ⟨g,hg,hb⟩:=hr.hp k _ hk';have hfr:st.f r=true:=h3 r (by simp [aI]);have hkr:r≠k:=fun e=>by rw [e,hr.nfh hk'] at hfr;cases hfr
 have hkk:∀k':Nat,aF [(r,some (Box.it k L.length []))] k'=true->k'=r:=fun k' h=>by
  exact Q0
 refine Oper.wp_value (v:=.pointer (some ⟨w.heap.size,0,none⟩)) (w':=w.alloc (.mapIter (some g) L.length #[] L.length)) ?_ ⟨upd ρ r (.pointer (some ⟨w.heap.size,0,none⟩)),hr.app (e:=⟨.c (.own r),[(r,some (.it k L.length []))],[r]⟩) h4 (fun k' h=>?_) (fun k' h=>?_) (fun k' h=>.inl ?_) (Frx.alloc _ _ _) (fun k' bx g' h _ hg'=>?_) (fun k1 k2 _ _ _ h h' _ _ _ _=>?_) (fun k' h=>.inl ?_) (fun k1 k2 bx h hp hx=>?_) (fun k2 bx h hp=>?_) ?_⟩
 ·have hl:(eY 0 L).toArray.size=L.length\/True:=.inr trivial;unfold execOp;rw [ho];have hb':=hb;unfold lW at hb';simp [Instr.range,hv1,hg,run_underlying ht,MapKept.run_getObj_map hb',Result.andThen]
 ·have:k'=r:=by simp [aI] at h;exact h.symm
  subst this;exact ⟨hfr,by simp [aF]⟩
 ·exact dQ (by simpa [aI] using h)
 ·rw [hkk k' h];simp [aI]
 ·exact Q9
 ·exact RK
 ·have:k'=r:=by simp [TV.has,V0.has,D.has] at h;exact h.symm
  subst this;simp [aI]
 ·rw [hkk k2 h] at hp;simp only [hput,Nat.beq_refl,qCt,Option.some.injEq] at hp;subst hp;simp only [Box.has] at hx;rw [<-qNb hx];exact .inr (hr.nfh hk')
 ·rw [hkk k2 h] at hp ⊢;simp only [hput,Nat.beq_refl,qCt,Option.some.injEq] at hp;subst hp;rw [aN];refine ⟨_,g,rfl,?_,(MapKept.heap_alloc w _).1⟩;rw [dQ (by cases h9:r.beq k with|false=>rfl|true=>exact absurd (qNb h9) hkr),hg]
 ·exact (aN _ _ _).symm
theorem Gn {r k n j:Nat} {x:Operand} {seen:List Nat} {y:V0} {key val:Value} (ho:o.op = .entry x) (hx:s.ev x = .c (.own r)) (hr0:s.h r=some (.it k n (seen++[j]))) (hk:s.h k=some (.mp L)) (hn:n=L.length) (hj:L[j]? = some (key,val)) (hy:∀w F ρ,y.rep w F ρ val) (hyn:∀i,y.has i=false):LOp P o s [r,k] ⟨.tup [.one (.sc key),y],[],[]⟩ :=
 bq fun c st ρ a w hr h1 h2=>by
  have e1:=h1 x (by simp [ho,Op.operands]);have hv1:=hr.ev x;rw [e1,hx] at hv1;have hv1:a.eval x=ρ r:=hv1;obtain ⟨g,m,hg,hm,hit⟩:=hr.hp r _ ((h2 r (by simp [aI])).trans hr0);obtain ⟨g',hg',hb⟩:=hr.hp k _ ((h2 k (by simp [aI])).trans hk);have em:m=g':=by rw [hm] at hg';injection hg' with h;injection h
  subst em;subst hn;have hmem:(⟨key,val,j⟩:MapEntry)∈eY 0 L:=mz.2 ⟨j,hj,by simp⟩;have hrun:=run_entry_at (P:=P) w g m L.length seen.toArray (eY 0 L).toArray L.length ⟨key,val,j⟩ (by rw [hit];simp) hb (by simpa using hmem) (by simpa using x9.1);refine ⟨.tuple #[key,val],?_,⟨[key,val],rfl,rfl,hy _ _ _,trivial⟩,fun i hi=>?_⟩
  ·unfold execOp;rw [ho];simp only [hv1,hg,Sem.run_bind,hrun,Result.andThen_ok,Sem.run_pure]
  ·have hi:(V0.has i (.one (.sc key)) || (y.has i || false))=true:=hi;rw [hyn i] at hi;cases hi
theorem LL {id t t2 r k n:Nat} {x:Operand} {seen:List Nat} (ho:o.op = .next x false) (hg:o.guard=none) (hd:o.dst=some t) (ho2:o2.op = .extract (.tmp t) 0) (hg2:o2.guard=none) (hd2:o2.dst=some t2) (ht:Nat.blt t nt=true) (ht2:Nat.blt t2 nt=true)
  (hx:s.ev x = .c (.own r)) (hr0:s.h r=some (.it k n seen)) (hk:s.h k=some (.mp L)) (hn:n=L.length)
  (h1:∀j,j<n->j ∉ seen->Q .normal ((s.app (some t) ⟨.tup [.one (.sc (.bool true)),.one .any,.one .any],[(r,some (.it k n (seen++[j])))],[]⟩).app (some t2) ⟨.b true,[],[]⟩))
  (h2:(∀j,j<n->j∈seen)->Q .normal ((s.app (some t) ⟨.tup [.one (.sc (.bool false))],[],[]⟩).app (some t2) ⟨.b false,[],[]⟩)):AW P nt Ks (.region id [o,o2].toArray false) Q s:=by
 intro c ρ a w hc _ hr;subst hc;subst hn;have hv1:=hr.ev x;rw [hx] at hv1;have hv1:a.eval x=ρ r:=hv1;obtain ⟨g,m,hg0,hm,hit⟩:=hr.hp r _ hr0;obtain ⟨g',hg',hb⟩:=hr.hp k _ hk;have em:m=g':=by rw [hm] at hg';injection hg' with h;injection h
 subst em;have hdt:∀d,o.dst=some d->d<c.nt:=fun d h=>by rw [hd] at h;injection h with h;subst h;exact qNl ht
 have hdt2:∀d,o2.dst=some d->d<c.nt:=fun d h=>by rw [hd2] at h;injection h with h;subst h;exact qNl ht2
 have hkb:kb (ρ r)=some g:=by rw [hg0];rfl
 have hkk:∀(b:Box) (k':Nat),aF [(r,some b)] k'=true->k'=r:=fun b k' h=>by
  exact Q0
 have fin:∀(s1:Mst) (a1:Act) (w1:World) (b:Bool) (l:List V0),Rp c s1 ρ a1 w1->s1.t t = .tup (.one (.sc (.bool b)) :: l)->Q .normal (s1.app (some t2) ⟨.b b,[],[]⟩)->wpList P [o,o2].toArray (fun e a' w'=>∃s' ρ',Q e s'/\Rp c s' ρ' a' w') [o2] a1 w1:=by
  intro s1 a1 w1 b l hr1 h9 hq;have hl:=sG (P:=P) (o:=o2) (s:=s1) (x:=.tmp t) (i:=0) (y:=.one (.sc (.bool b))) ho2 h9 rfl;refine wpList_step fun K' hK'=>?_;have hw:Region.wanted o2 (yielded [o,o2].toArray a1.tmps)=true:=by unfold Region.wanted;rw [hg2]
  rw [if_pos hw];refine Oper.wp_post (hl c s1 ρ a1 w1 hr1 (fun _ _=>rfl) (fun _ _=>rfl) (fun k hk=>by simp [aI] at hk) hdt2) ?_;rintro a' w' ⟨ρ',hr'⟩;rw [hd2] at hr';exact hK' _ _ (wpList_nil ⟨_,ρ',hq,hr'⟩)
 refine wp_region_lit (wpList_step fun K' hK'=>?_);have hw:Region.wanted o (yielded [o,o2].toArray a.tmps)=true:=by unfold Region.wanted;rw [hg]
 rw [if_pos hw];have hnx:=run_next_at (P:=P) w o.type g m L.length L.length seen.toArray (eY 0 L).toArray L.length hit hb (fun x hx=>by
  obtain ⟨j,h,e⟩:=mz.1 (by simpa using hx);have:=(List.getElem?_eq_some_iff.1 h).1;omega) (Nat.le_refl _)
 rcases hnx with ⟨h0,hrun⟩|⟨e,he,w1,hw1,hrun⟩
 ·refine Oper.wp_value (v:=.tuple #[.bool false]) (w':=w) ?_ (hK' _ _ (fin (s.app (some t) ⟨.tup [.one (.sc (.bool false))],[],[]⟩) _ _ false [] ?_ ?_ (h2 fun j hj=>?_)))
  ·unfold execOp;rw [ho];simp only [hv1,hg0,Sem.run_bind,hrun,Result.andThen_ok,Sem.run_pure]
  ·rw [hd];exact hr.app (e:=⟨.tup [.one (.sc (.bool false))],[],[]⟩) (fun d h=>hdt d (hd.trans h)) (fun k hk=>by simp [aI] at hk) (fun _ _=>rfl) (fun k hk=>by simp [aF] at hk) (Frx.refl _ _) (fun k bx g hk=>by simp [aF] at hk) (fun k k' b b' g hk=>by simp [aF] at hk) (fun k h=>by simp [TV.has,V0.has,D.has] at h) (fun k k' bx hk=>by simp [aF] at hk) (fun k bx hk=>by simp [aF] at hk) ⟨[.bool false],rfl,rfl,trivial⟩
  ·simp [Mst.app,lX]
  ·have hle:leftOf (eY 0 L).toArray seen.toArray = #[]:=Array.eq_empty_of_size_eq_zero h0;have hmem:(⟨(L[j]).1,(L[j]).2,j⟩:MapEntry)∈eY 0 L:=mz.2 ⟨j,qGg hj,by simp⟩;unfold leftOf at hle;rw [Array.filter_eq_empty_iff] at hle;have:=hle _ (by simpa using hmem);simpa using this
 ·obtain ⟨he1,he2⟩:e∈eY 0 L/\e.born ∉ seen:=by unfold leftOf at he;simpa using he
  obtain ⟨j,hj,ej⟩:=mz.1 he1;rw [Nat.zero_add] at ej;have hjl:=(List.getElem?_eq_some_iff.1 hj).1;have hr1:Rp c s ρ a w1:=by
   rcases hw1 with rfl|rfl
   ·exact hr
   ·exact hr.drew
  have hit1:w1.heap[g]? = some (.mapIter (some m) L.length seen.toArray L.length):=by rcases hw1 with rfl|rfl <;> exact hit
  have hset:=MapKept.heap_set (o':=.mapIter (some m) L.length (seen.toArray.push e.born) L.length) hit1;have hlt:g<w1.heap.size:=(Array.getElem?_eq_some_iff.1 hit1).1;have hkr:k≠r:=fun e=>by rw [e,hr0] at hk;cases hk
  refine Oper.wp_value (v:=.tuple #[.bool true,e.key,e.val]) (w':=ChangeMaps.setBlock w1 g (.mapIter (some m) L.length (seen.toArray.push e.born) L.length)) ?_ (hK' _ _ (fin (s.app (some t) ⟨.tup [.one (.sc (.bool true)),.one .any,.one .any],[(r,some (.it k L.length (seen++[j])))],[]⟩) _ _ true [.one .any,.one .any] ?_ ?_ (h1 j hjl (ej▸he2))))
  ·unfold execOp;rw [ho];simp only [hv1,hg0,Sem.run_bind,hrun,Result.andThen_ok,Sem.run_pure]
  ·rw [hd];refine hr1.app (e:=⟨.tup [.one (.sc (.bool true)),.one .any,.one .any],[(r,some (.it k L.length (seen++[j])))],[]⟩) (fun d h=>hdt d (hd.trans h)) (fun k hk=>by simp [aI] at hk) (fun _ _=>rfl) (fun k' h=>.inr (by rw [hkk _ k' h];exact hr.nfh hr0)) ⟨rfl,rfl,rfl,by simp [ChangeMaps.setBlock],fun b hlt hn=>hset.2 b fun e=>hn ⟨r,_,by simp [aF],hr0,by rw [hkb,e]⟩⟩ ?_ ?_ (fun k h=>by simp [TV.has,V0.has,D.has] at h) ?_ ?_ ⟨[.bool true,e.key,e.val],rfl,rfl,trivial,trivial,trivial⟩
   ·intro k' bx g' h _ hg';rw [hkk _ k' h,hkb] at hg';injection hg' with hg';subst hg';exact ⟨by simpa [ChangeMaps.setBlock] using hlt,.inr ⟨r,_,by simp [aF],hr0,hkb⟩⟩
   ·intro k1 k2 _ _ _ h h' _ _ _ _;rw [hkk _ k1 h,hkk _ k2 h']
   ·intro k1 k2 bx h hp hx;rw [hkk _ k2 h] at hp;simp only [hput,Nat.beq_refl,qCt,Option.some.injEq] at hp;subst hp;simp only [Box.has] at hx;rw [<-qNb hx];exact .inr (hr.nfh hk)
   ·intro k2 bx h hp;rw [hkk _ k2 h] at hp ⊢;simp only [hput,Nat.beq_refl,qCt,Option.some.injEq] at hp;subst hp;refine ⟨g,m,hg0,hm,?_⟩;have:(ChangeMaps.setBlock w1 g (.mapIter (some m) L.length (seen.toArray.push e.born) L.length)).heap[g]? = some (.mapIter (some m) L.length (seen.toArray.push e.born) L.length):=hset.1;rw [this,ej];simp
  ·simp [Mst.app,lX]
end
section
variable {P:Program} {o:Oper} {s:Mst} {α:Type} {E:El α}
theorem Reps.takeK {w:World} {S:Nat->Prop}:∀{l:List α} {xs:List Value} (m:Nat),Reps E w S l xs->Reps E w S (l.take m) (xs.take (m*E.n))
 | [],xs,m,h=>by
  obtain rfl:xs=[]:=h;simp;rfl
 | x :: l,xs,0,h=>by
  simp;rfl
 | x :: l,xs,m+1,h=>by
  obtain ⟨cs,rest,rfl,h1,h2⟩:=h;have hl:=E.len h1;refine ⟨cs,rest.take (m*E.n),?_,h1,Reps.takeK m h2⟩;rw [Nat.add_mul,Nat.one_mul,Nat.add_comm,<-hl,List.take_length_add_append]
theorem BP {w:World} {base:Nat} {e:TypeId} {n N m cap:Nat} {A:Option Addr} {xs:List Value} (h:w.ownsRow base e n (.slice A N cap) N xs) (hm:m<=N) (h0:0<N):w.ownsRow base e n (.slice A m cap) m (xs.take (m*n)):=by
 obtain ⟨h1,h2⟩:=h;have hmn:m*n<=N*n:=Nat.mul_le_mul_right n hm;refine ⟨by rw [List.length_take,h1];omega,.inr ?_⟩;rcases h2 with ⟨_,hN⟩|⟨g,cap',cur,hv,hb,hh,hc,hcm,hcs,ht⟩
 ·omega
 ·injection hv with e1 _ e3;subst e1;subst e3;exact ⟨g,cap,cur,rfl,hb,hh,by omega,hcm,hcs,by rw [<-ht,List.take_take,Nat.min_eq_left hmn]⟩
theorem JL {t e:TypeId} {x y:Operand} {row:Bool} {n m j k:Nat} {z:Int} {l l':List α} [I:SE P t e] [J:TI P e row n] (ho:o.op = .slice t x none (some y) none) (hdk:o.dst=some k) (hx:s.ev x = .c (.own j)) (hk:s.h j=some (.arr e E l)) (hy:s.ev y = .i z) (hz:z=(m:Int)) (hn:E.n=n) (hm:m<=l.length) (h0:0<l.length) (hl':l.take m=l') :
  LOp P o s [j] ⟨.c (.own k),[(k,some (.arr e E l')),(j,none)],[k]⟩:=by
 intro c st ρ a w hr h1 h2 h3 h4;subst hl' hz hn;have hfk:st.f k=true:=h3 k (by simp [aI]);have hk':st.h j=some (.arr e E l):=(h2 j (by simp [aI])).trans hk;have hne:k.beq j=false:=by
  cases h9:k.beq j with
  | false=>rfl
  | true=>rw [<-qNb h9,hr.wf.h k hfk] at hk';cases hk'
 have hxv:=hr.ev x;rw [h1 x (by simp [ho,Op.operands]),hx] at hxv;have hxv:a.eval x=ρ j:=hxv;have hyv:=hr.ev y;rw [h1 y (by simp [ho,Op.operands]),hy] at hyv;have hyv:a.eval y = .int .i64 (m:Int):=hyv;obtain ⟨xs,hown,hre⟩:=hr.hp j _ hk';obtain ⟨A,cap,hA,hc,hp⟩:=dP (hr.hp j _ hk');rw [hA] at hown;have hown2:=BP hown hm h0;have hkb:∀g,kb (Value.slice A m cap)=some g->kb (ρ j)=some g:=fun g hg=>by
  rw [hA];cases A with
  | none=>cases hg
  | some a=>exact hg
 have hexec:(execOp a.eval o).run P w = .ok (.value (.slice A m cap)) w:=by
  obtain ⟨g,ys,rfl,_⟩:=hp h0;unfold execOp;rw [ho];have hle1:¬(l.length<m):=by omega
  have hle2:m<=cap:=by omega
  obtain ⟨jj,hj,hjn⟩:∃jj,P.info? e=some jj/\jj.size=E.n:=by
   have:=J.s;cases h:P.info? e with
   | none=>simp [h] at this
   | some jj=>exact ⟨jj,rfl,by simpa [h] using this⟩
  simp [Instr.sliceAt,Instr.slice,Instr.sliceBounds,Instr.sliceBound,run_underlying I.u,hxv,hyv,hA,asIntOf,sizeOf,typeInfo,hj,hle2,dd]
 have hputk:hput [(k,some (Box.arr e E (l.take m))),(j,none)] st.h k=some (.arr e E (l.take m)):=by simp [hput]
 have hputj:hput [(k,some (Box.arr e E (l.take m))),(j,none)] st.h j=none:=by simp [hput,hne]
 have hky:∀q,aF [(k,some (Box.arr e E (l.take m))),(j,none)] q=true->q=k\/q=j:=fun q h=>by
  simp only [aF,Bool.or_eq_true,Bool.or_false] at h;rcases h with h|h
  ·exact .inl (qNb h).symm
  ·exact .inr (qNb h).symm
 have hsm:∀q bx,aF [(k,some (Box.arr e E (l.take m))),(j,none)] q=true->hput [(k,some (Box.arr e E (l.take m))),(j,none)] st.h q=some bx->q=k/\bx = .arr e E (l.take m):=fun q bx hq hb=>by
  rcases hky q hq with rfl|rfl
  ·exact RC
  ·rw [hputj] at hb;cases hb
 have hFz:∀b,Fz c st.h ρ w b->Fz c (hput [(k,some (Box.arr e E (l.take m))),(j,none)] st.h) (upd ρ k (.slice A m cap)) w b:=fun b hb=>by
  refine ⟨hb.1,hb.2.1,fun q bx hq he=>?_⟩;cases h9:aF [(k,some (Box.arr e E (l.take m))),(j,none)] q with
  | true =>
   obtain ⟨rfl,_⟩:=hsm q bx h9 hq;rw [aN] at he;exact hb.2.2 j _ hk' (hkb b he)
  | false =>
   rw [cc h9] at hq;have hkq:k.beq q=false:=by
    cases h8:k.beq q with
    | false=>rfl
    | true=>rw [<-qNb h8,hr.wf.h k hfk] at hq;cases hq
   rw [dQ hkq] at he;exact hb.2.2 q bx hq he
 refine Oper.wp_value hexec ⟨upd ρ k (.slice A m cap),hr.app (e:=⟨.c (.own k),[(k,some (.arr e E (l.take m))),(j,none)],[k]⟩) h4 (fun q hq=>?_) (fun q hq=>dQ (by simpa [aI] using hq)) (fun q hq=>?_) (Frx.refl _ _) (fun q bx g hq hb hg=>?_) (fun q q' b b' g hq hq' hb hb' _ _=>?_) (fun q hq=>.inl ?_) (fun q q' bx hq' hb hx2=>?_) (fun q bx hq hb=>?_) ?_⟩
 ·have:q=k:=by simp [aI] at hq;exact hq.symm
  subst this;exact ⟨hfk,by simp [aF]⟩
 ·rcases hky q hq with rfl|rfl
  ·exact .inl (by simp [aI])
  ·exact .inr (hr.nfh hk')
 ·obtain ⟨rfl,_⟩:=hsm q bx hq hb;rw [aN] at hg;exact ⟨hr.ltb hk' (hkb g hg),.inr ⟨j,_,by simp [aF],hk',hkb g hg⟩⟩
 ·rw [(hsm q b hq hb).1,(hsm q' b' hq' hb').1]
 ·have:q=k:=by simp [TV.has,V0.has,D.has] at hq;exact hq.symm
  subst this;simp [aI]
 ·rw [(hsm q' bx hq' hb).2] at hx2;simp [Box.has] at hx2
 ·obtain ⟨rfl,rfl⟩:=hsm q bx hq hb;rw [aN];refine ⟨_,?_,(hre.takeK m).same (fun _ _=>rfl) hFz⟩;rw [List.length_take,Nat.min_eq_left hm];exact hown2
 ·exact (aN ρ k _).symm
end
class EQR (P:Program) (t:TypeId) (sh:outParam (List Nat)):Prop where
 g:P.eqGuardType P.depth t=false
 e:∀(w:World) (a:List Value),a.map shp=sh->(Op.equal t (.agg a.toArray) (.agg a.toArray)).run P w = .ok true w
section
variable {P:Program} {o:Oper} {s:Mst}
end
theorem fU {a:List Value} {k:Nat} {l:List Nat} (h:a.map shp=k :: l):∃x b,a=x :: b/\shp x=k/\b.map shp=l:=by
 cases a with
 | nil=>cases h
 | cons x b =>
  simp only [List.map_cons,List.cons.injEq] at h;exact ⟨x,b,rfl,h.1,h.2⟩
instance:EQR prog 223 [0,0,0,0,0]:=⟨by kernel_rfl,fun w a ha=>by
 have hS:prog.underlying 223=some (.struct (prog.fieldsOf 223)):=by kernel_rfl
 have hp:prog.stoodInHeld 223=false:=by kernel_rfl
 obtain ⟨a0,r0,rfl,h0,k0⟩:=fU ha;obtain ⟨x0,rfl⟩:=dR h0;obtain ⟨a1,r1,rfl,h1,k1⟩:=fU k0;obtain ⟨x1,rfl⟩:=dR h1;obtain ⟨a2,r2,rfl,h2,k2⟩:=fU k1;obtain ⟨x2,rfl⟩:=dR h2;obtain ⟨a3,r3,rfl,h3,k3⟩:=fU k2;obtain ⟨x3,rfl⟩:=dR h3;obtain ⟨a4,r4,rfl,h4,k4⟩:=fU k3;obtain ⟨x4,rfl⟩:=dR h4;obtain rfl:=List.map_eq_nil_iff.1 k4;show (Op.equalIn 10000 223 _ _).run _ _=_;rw [show (10000:Nat)=9999+1 from rfl,run_equalIn_agg w 9999 223 _ _ hS hp];have u3:=underlying3;have u4:=underlying9;simp only [Program.fieldsOf,underlying223,underlying42,underlying61];go_simp⟩
instance:EQR prog 154 [0,0,0,0,0,0,0]:=⟨by kernel_rfl,fun w a ha=>by
 have hS:prog.underlying 154=some (.struct (prog.fieldsOf 154)):=by kernel_rfl
 have hp:prog.stoodInHeld 154=false:=by kernel_rfl
 obtain ⟨a0,r0,rfl,h0,k0⟩:=fU ha;obtain ⟨x0,rfl⟩:=dR h0;obtain ⟨a1,r1,rfl,h1,k1⟩:=fU k0;obtain ⟨x1,rfl⟩:=dR h1;obtain ⟨a2,r2,rfl,h2,k2⟩:=fU k1;obtain ⟨x2,rfl⟩:=dR h2;obtain ⟨a3,r3,rfl,h3,k3⟩:=fU k2;obtain ⟨x3,rfl⟩:=dR h3;obtain ⟨a4,r4,rfl,h4,k4⟩:=fU k3;obtain ⟨x4,rfl⟩:=dR h4;obtain ⟨a5,r5,rfl,h5,k5⟩:=fU k4;obtain ⟨x5,rfl⟩:=dR h5;obtain ⟨a6,r6,rfl,h6,k6⟩:=fU k5;obtain ⟨x6,rfl⟩:=dR h6;obtain rfl:=List.map_eq_nil_iff.1 k6;show (Op.equalIn 10000 154 _ _).run _ _=_;rw [show (10000:Nat)=9999+1 from rfl,run_equalIn_agg w 9999 154 _ _ hS hp];have u3:=underlying3;have u4:=underlying9;simp only [Program.fieldsOf,underlying154,underlying42,underlying61];go_simp⟩
instance:EQR prog 355 [0,0,0,0,1,0,0]:=⟨by kernel_rfl,fun w a ha=>by
 have hS:prog.underlying 355=some (.struct (prog.fieldsOf 355)):=by kernel_rfl
 have hp:prog.stoodInHeld 355=false:=by kernel_rfl
 obtain ⟨a0,r0,rfl,h0,k0⟩:=fU ha;obtain ⟨x0,rfl⟩:=dR h0;obtain ⟨a1,r1,rfl,h1,k1⟩:=fU k0;obtain ⟨x1,rfl⟩:=dR h1;obtain ⟨a2,r2,rfl,h2,k2⟩:=fU k1;obtain ⟨x2,rfl⟩:=dR h2;obtain ⟨a3,r3,rfl,h3,k3⟩:=fU k2;obtain ⟨x3,rfl⟩:=dR h3;obtain ⟨a4,r4,rfl,h4,k4⟩:=fU k3;obtain ⟨x4,rfl⟩:=HY h4;obtain ⟨a5,r5,rfl,h5,k5⟩:=fU k4;obtain ⟨x5,rfl⟩:=dR h5;obtain ⟨a6,r6,rfl,h6,k6⟩:=fU k5;obtain ⟨x6,rfl⟩:=dR h6;obtain rfl:=List.map_eq_nil_iff.1 k6;show (Op.equalIn 10000 355 _ _).run _ _=_;rw [show (10000:Nat)=9999+1 from rfl,run_equalIn_agg w 9999 355 _ _ hS hp];have u3:=underlying3;have u4:=underlying9;simp only [Program.fieldsOf,underlying355,underlying42,underlying61];go_simp⟩
instance:EQR prog 74 [1,0,0,0]:=⟨by kernel_rfl,fun w a ha=>by
 have hS:prog.underlying 74=some (.struct (prog.fieldsOf 74)):=by kernel_rfl
 have hp:prog.stoodInHeld 74=false:=by kernel_rfl
 obtain ⟨a0,r0,rfl,h0,k0⟩:=fU ha;obtain ⟨x0,rfl⟩:=HY h0;obtain ⟨a1,r1,rfl,h1,k1⟩:=fU k0;obtain ⟨x1,rfl⟩:=dR h1;obtain ⟨a2,r2,rfl,h2,k2⟩:=fU k1;obtain ⟨x2,rfl⟩:=dR h2;obtain ⟨a3,r3,rfl,h3,k3⟩:=fU k2;obtain ⟨x3,rfl⟩:=dR h3;obtain rfl:=List.map_eq_nil_iff.1 k3;show (Op.equalIn 10000 74 _ _).run _ _=_;rw [show (10000:Nat)=9999+1 from rfl,run_equalIn_agg w 9999 74 _ _ hS hp];have u3:=underlying3;have u4:=underlying9;simp only [Program.fieldsOf,underlying74];go_simp⟩
instance:EQR prog 200 [1,0,0,0,0]:=⟨by kernel_rfl,fun w a ha=>by
 have hS:prog.underlying 200=some (.struct (prog.fieldsOf 200)):=by kernel_rfl
 have hp:prog.stoodInHeld 200=false:=by kernel_rfl
 obtain ⟨a0,r0,rfl,h0,k0⟩:=fU ha;obtain ⟨x0,rfl⟩:=HY h0;obtain ⟨a1,r1,rfl,h1,k1⟩:=fU k0;obtain ⟨x1,rfl⟩:=dR h1;obtain ⟨a2,r2,rfl,h2,k2⟩:=fU k1;obtain ⟨x2,rfl⟩:=dR h2;obtain ⟨a3,r3,rfl,h3,k3⟩:=fU k2;obtain ⟨x3,rfl⟩:=dR h3;obtain ⟨a4,r4,rfl,h4,k4⟩:=fU k3;obtain ⟨x4,rfl⟩:=dR h4;obtain rfl:=List.map_eq_nil_iff.1 k4;show (Op.equalIn 10000 200 _ _).run _ _=_;rw [show (10000:Nat)=9999+1 from rfl,run_equalIn_agg w 9999 200 _ _ hS hp];have u3:=underlying3;have u4:=underlying9;simp only [Program.fieldsOf,underlying200,underlying61];go_simp⟩
instance:EQR prog 197 [0,0]:=⟨by kernel_rfl,fun w a ha=>by
 have hS:prog.underlying 197=some (.struct (prog.fieldsOf 197)):=by kernel_rfl
 have hp:prog.stoodInHeld 197=false:=by kernel_rfl
 obtain ⟨a0,r0,rfl,h0,k0⟩:=fU ha;obtain ⟨x0,rfl⟩:=dR h0;obtain ⟨a1,r1,rfl,h1,k1⟩:=fU k0;obtain ⟨x1,rfl⟩:=dR h1;obtain rfl:=List.map_eq_nil_iff.1 k1;show (Op.equalIn 10000 197 _ _).run _ _=_;rw [show (10000:Nat)=9999+1 from rfl,run_equalIn_agg w 9999 197 _ _ hS hp];have u3:=underlying3;have u4:=underlying9;simp only [Program.fieldsOf,underlying197];go_simp⟩
end Go.Proofs.YtkkbopkbjacfmaaGreatDoor
