/- Part K09 of a proof of statements of chapter 15 (no condition). -/
import Derived.Test.YthpgjkjgkhjjlaaGreatDoorK08
import Derived.Test.YthpgjkjgkhjjlaaGreatDoorK07
import Derived.Maps.OwnSet
import Derived.Maps.RangeRun
set_option linter.unusedVariables false
set_option linter.unusedSimpArgs false
set_option maxRecDepth 100000
set_option maxHeartbeats 64000000
namespace Go.Proofs.YthpgjkjgkhjjlaaGreatDoor
open Go.RowKit
def D.okc:D->Bool
 | .any=>false
 | .sc x=>x.oneCell'
 | .own _=>false
 | _=>true
section
variable {P:Program} {o:Oper} {s:Mst} {R:List Nat} {d:TV}
theorem D.one_of {w:World} {F:Nat->Prop} {ρ:Nat->Value} {d:D} {v:Value} (h:d.rep w F ρ v) (hk:d.okc=true):v.oneCell'=true:=by
 cases d with
 | any=>cases hk
 | sc x=>have h:v=x:=h;rw [h];exact hk
 | sl E l=>obtain ⟨A,cap,rfl,_⟩:=h;rfl
 | full E l=>obtain ⟨A,rfl,_⟩:=h;rfl
 | own k=>cases hk
 | slb k n=>obtain ⟨g,_,rfl⟩:=h;rfl
 | ptr k off=>obtain ⟨g,_,rfl⟩:=h;rfl
 | eptr E l i off=>obtain ⟨b,o,rfl,_⟩:=h;rfl
 | optr k m i off=>obtain ⟨g,n,cap,_,rfl⟩:=h;rfl
 | ocut k=>obtain ⟨A,n,cap,c,_,_,rfl⟩:=h;rfl
 | osl k m lo hi fl=>obtain ⟨g,n,cap,c,A,_,_,_,rfl,_⟩:=h;rfl
 | clo f ks=>obtain ⟨vs,rfl,_⟩:=h;rfl
theorem NN {w:World} {F:Nat->Prop} {α:Type} {e:TypeId} {E:El α} {l:List α} {ρ:Nat->Value} {v:Value} (h:(Box.arr e E l).rep w F ρ v):v.oneCell'=true:=by
 obtain ⟨A,cap,rfl,_⟩:=fA h;rfl
theorem Rp.box {c:Ctx} {st:Mst} {ρ:Nat->Value} {a:Act} {w:World} (hr:Rp c st ρ a w) {k:Nat} {t:TypeId} {cs:List D} (hk:st.h k=some (.box t cs)) {g:Nat} (hg:ρ k = .pointer (some ⟨g,0,none⟩)) :
  ∃vs:List Value,Blk w g t vs.toArray/\All2 (D.rep w (Fz c st.h ρ w) ρ) cs vs/\∀u∈vs,u.oneCell'=true:=by
 obtain ⟨g',vs,e1,h3,h4,h5⟩:=hr.hp k _ hk;rw [hg] at e1;injection e1 with e1;injection e1 with e1;injection e1 with e1;subst e1;exact ⟨vs,h3,h4,h5⟩
theorem F4 {w:World} {g:Nat} {t:TypeId} {old new:Array Value} (hb:Blk w g t old):Blk (w.setRow g new) g t new/\But g w (w.setRow g new) :=
 ⟨setRow_heap w g old new t (0,0) hb,⟨rfl,rfl,rfl,by simp,fun k hk hg=>setRow_other w g k new hg⟩⟩
theorem Rp.setBox {c:Ctx} {st:Mst} {ρ:Nat->Value} {a:Act} {w w':World} {dst:Option Nat} {v:Value} {k g:Nat} {t:TypeId} {cs cs':List D} {vs':List Value} (hr:Rp c st ρ a w) (hdst:∀d,dst=some d->d<c.nt)
  (hk:st.h k=some (.box t cs)) (hg:ρ k = .pointer (some ⟨g,0,none⟩)) (hb:But g w w') (hB:Blk w' g t vs'.toArray) (h2:All2 (D.rep w (Fz c st.h ρ w) ρ) cs' vs') (h1:∀u∈vs',u.oneCell'=true)
  (hh:∀k',cs'.any (D.has k')=true->st.f k'=false):Rp c (st.app dst ⟨.c .any,[(k,some (.box t cs'))],[]⟩) ρ (a.put dst v) w':=by
 have hkk:∀k':Nat,aL [(k,some (Box.box t cs'))] k'=true->k'=k:=fun k' h=>by
  exact UM
 have hkb:kb (ρ k)=some g:=by rw [hg];rfl
 have hfz:∀b,Fz c st.h ρ w b->Fz c (hput [(k,some (Box.box t cs'))] st.h) ρ w' b/\w'.heap[b]? = w.heap[b]?:=fun b ⟨f1,f2,f3⟩=>by
  have hbg:b≠g:=fun e=>f3 k _ hk (by rw [hkb,e]);refine ⟨⟨f1,Nat.lt_of_lt_of_le f2 hb.size,fun k' bx hk'=>?_⟩,hb.block b f2 hbg⟩;simp only [hput] at hk';cases h9:k.beq k' with
  | true=>rw [<-qNb h9,hkb];intro e;injection e with e;exact hbg e.symm
  | false=>rw [h9] at hk';exact f3 k' bx hk'
 refine hr.app (e:=⟨.c .any,[(k,some (.box t cs'))],[]⟩) hdst (fun k h=>by simp [aX] at h) (fun _ _=>rfl) (fun k' h=>.inr (by rw [hkk k' h];exact hr.nfh hk)) ⟨hb.os,hb.tape,hb.output,hb.size,fun b hlt hn=>hb.block b hlt fun e=>hn ⟨k,_,by simp [aL],hk,by rw [hkb,e]⟩⟩ ?_ ?_ (fun k h=>by simp [TV.has,V0.has,D.has] at h) ?_ ?_ trivial
 ·intro k' bx g' h _ hg';rw [hkk k' h,hkb] at hg';injection hg' with hg';subst hg';exact ⟨hB.lt,.inr ⟨k,_,by simp [aL],hk,hkb⟩⟩
 ·intro k1 k2 _ _ _ h h' _ _ _ _;exact VM
 ·intro k1 k2 bx h hp hx;rw [hkk k2 h] at hp;simp only [hput,Nat.beq_refl,qCt,Option.some.injEq] at hp;subst hp;exact .inr (hh k1 hx)
 ·intro k2 bx h hp;rw [hkk k2 h] at hp ⊢;simp only [hput,Nat.beq_refl,qCt,Option.some.injEq] at hp;subst hp;exact ⟨g,vs',hg,hB,h2.imp fun d v _ hd=>hd.mono hfz fun _ _=>rfl,h1⟩
theorem Ad {t ty:TypeId} {row:Bool} {n g off:Nat} [I:TI P t row n] {w:World} {old:List Value} {v:Value} (hb:Blk w g ty old.toArray) (hn:v.cells.size=n) (hl:off+n<=old.length) (h1:∀u∈v.cells.toList,u.oneCell'=true) :
  (Instr.storeAt t (.pointer (some ⟨g,off,none⟩)) v).run P w = .ok () (w.setRow g (old.take off++v.cells.toList++old.drop (off+n)).toArray):=by
 have h2:=run_storeCells_at (P:=P) g off ty v.cells.toList 0 old.toArray w hb (by simp [hn];omega) h1;simp only [Nat.add_zero,Array.length_toList,hn] at h2;have hi:=I.s;cases hq:P.info? t with
 | none=>simp [hq] at hi
 | some i =>
  have hs:v.cells.size=i.size:=by simp [hq] at hi;omega
  simp only [Instr.storeAt,Instr.sureAddr,Sem.run_bind,Sem.run_pure,Result.andThen_ok];simp [storeVar,sizeOf,typeInfo,hq,hs,h2]
def TV.cells:TV->Option (List D)
 | .v (.one d)=>some [d]
 | .v (.ag l)=>some l
 | _=>none
theorem TV.cells_rep {w:World} {F:Nat->Prop} {ρ:Nat->Value} {d:TV} {ds:List D} {v:Value} (h:d.rep w F ρ v) (hc:d.cells=some ds) (hok:∀x∈ds,∀u,x.rep w F ρ u->u.oneCell'=true):All2 (D.rep w F ρ) ds v.cells.toList/\∀u∈v.cells.toList,u.oneCell'=true:=by
 unfold TV.cells at hc;split at hc
 ·rename_i y
  injection hc with hc;subst hc;have h:y.rep w F ρ v:=h;have h1:=hok y (by simp) v h;have h2:v.cells = #[v]:=by cases v <;> first|rfl|(simp [Value.oneCell'] at h1)
  rw [h2];exact ⟨⟨h,trivial⟩,by simpa using h1⟩
 ·injection hc with hc;subst hc;obtain ⟨cs,rfl,h2⟩:=h;refine ⟨by simpa [Value.cells] using h2,?_⟩;have:∀(l:List D) (cs:List Value),All2 (D.rep w F ρ) l cs->(∀x∈l,∀u,x.rep w F ρ u->u.oneCell'=true)->∀u∈cs,u.oneCell'=true:=by
   intro l;induction l with
   | nil=>intro cs h;cases cs with
    | nil=>intro _ u hu;cases hu
    | cons=>exact h.elim
   | cons x l ih =>
    intro cs h hx;cases cs with
    | nil=>exact h.elim
    | cons c cs =>
     intro u hu;rcases List.mem_cons.1 hu with rfl|hu
     ·exact hx x (by simp) _ h.1
     ·exact ih cs h.2 (fun y hy=>hx y (by simp [hy])) u hu
  simpa [Value.cells] using this _ _ h2 hok
 ·cases hc
def okD (h:Nat->Option Box):D->Bool
 | .any=>false
 | .sc x=>x.oneCell'
 | .own k=>match h k with|some (.arr ..)=>true|some (.mp ..)=>true|_=>false
 | _=>true
def iW:List D->List Nat
 | []=>[]
 | .own k :: l=>k :: iW l
 | _ :: l=>iW l
theorem gv:∀{l:List D} {k:Nat},D.own k∈l->aX (iW l) k=true
 | [],_,h=>by cases h
 | d :: l,k,h=>by
  rcases List.mem_cons.1 h with rfl|h2
  ·simp [iW,aX]
  ·have h3:=gv h2;cases d <;> simp [iW,aX,h3]
theorem Rp.okD {c:Ctx} {st:Mst} {ρ:Nat->Value} {a:Act} {w:World} (hr:Rp c st ρ a w) {d:D} (hd:okD st.h d=true) {u:Value} (h:d.rep w (Fz c st.h ρ w) ρ u):u.oneCell'=true:=by
 cases d with
 | own k =>
  unfold Go.Proofs.YthpgjkjgkhjjlaaGreatDoor.okD at hd;have h:u=ρ k:=h;cases hk:st.h k with
  | none=>simp only [hk] at hd;cases hd
  | some b =>
   cases b with
   | box=>simp only [hk] at hd;cases hd
   | arr e E l=>rw [h];exact NN (hr.hp k _ hk)
   | mp l=>obtain ⟨g,e,_⟩:=hr.hp k _ hk;rw [h,e];rfl
   | it=>simp only [hk] at hd;cases hd
 | any=>cases hd
 | sc x=>exact D.one_of h hd
 | _=>exact D.one_of h rfl
theorem ji {h h':Nat->Option Box} {d:D} (hd:okD h d=true) (he:∀k,d = .own k->h' k=h k):okD h' d=true:=by
 cases d with
 | own k=>simp only [okD] at hd ⊢;rw [he k rfl];exact hd
 | _=>exact hd
theorem nV:∀{l m:List Nat} {k:Nat},aX (l++m) k=(aX l k || aX m k)
 | [],_,_=>by simp [aX]
 | x :: l,m,k=>by simp [aX,nV (l:=l),Bool.or_assoc]
theorem Js {t ty:TypeId} {x y:Operand} {row:Bool} {n k off:Nat} {cs ds new:List D} [I:TI P t row n] (ho:o.op = .store t x y) (hx:s.ev x = .c (.ptr k off)) (hk:s.h k=some (.box ty cs)) (hd:(s.ev y).cells=some ds) (hn:ds.length=n) (hl:off+n<=cs.length) (hok:ds.all (okD s.h)=true)
  (hnew:cs.take off++ds++cs.drop (off+n)=new):LOp P o s (k :: iW ds) ⟨.c .any,[(k,some (.box ty new))],[]⟩:=by
 intro c st ρ a w hr h1 h2 _ h4;subst hnew;have he:=h1 x (by simp [ho,Op.operands]);have he2:=h1 y (by simp [ho,Op.operands]);rw [hx] at he;rw [<-he2] at hd;have hv:=hr.ev x;rw [he] at hv;obtain ⟨g,hg,hv⟩:=hv;have hk':=(h2 k (by simp [aX])).trans hk;obtain ⟨vs,hB,hA,h1c⟩:=hr.box hk' hg;have hok':∀z∈ds,∀u,z.rep w (Fz c st.h ρ w) ρ u->u.oneCell'=true:=fun z hz u hu=>hr.okD (ji (List.all_eq_true.1 hok z hz) fun j hj=>h2 j (by subst hj;simp only [aX,gv hz,Bool.or_true])) hu;obtain ⟨hc1,hc2⟩:=TV.cells_rep (hr.ev y) hd hok';have hsz:(a.eval y).cells.size=n:=by rw [<-Array.length_toList,<-hc1.length,hn]
 have hvl:=hA.length;have hrun:=Ad (P:=P) (t:=t) (off:=off) hB hsz (by omega) hc2;obtain ⟨hB',hBut⟩:=F4 (new:=(vs.take off++(a.eval y).cells.toList++vs.drop (off+n)).toArray) hB;refine Oper.wp_skip (w':=w.setRow g (vs.take off++(a.eval y).cells.toList++vs.drop (off+n)).toArray) ?_ ⟨ρ,hr.setBox h4 hk' hg hBut hB' (((hA.take off).append hc1).append (hA.drop (off+n))) ?_ ?_⟩
 ·unfold execOp;rw [ho];simp only [hv,Sem.run_bind,hrun,Result.andThen_ok,Sem.run_pure]
 ·intro u hu;simp only [List.mem_append] at hu;rcases hu with (hu|hu)|hu
  ·exact h1c u (List.mem_of_mem_take hu)
  ·exact hc2 u hu
  ·exact h1c u (List.mem_of_mem_drop hu)
 ·intro k' hh;obtain ⟨z,hz,hz2⟩:=List.any_eq_true.1 hh;simp only [List.mem_append] at hz;rcases hz with (hz|hz)|hz
  ·exact hr.nfb hk' (by simp only [Box.has];exact List.any_eq_true.2 ⟨z,List.mem_of_mem_take hz,hz2⟩)
  ·refine hr.nf (x:=y) rfl ?_;generalize st.ev y=q at *
   unfold TV.cells at hd;split at hd
   ·injection hd with hd;subst hd;simp at hz;subst hz;exact hz2
   ·injection hd with hd;subst hd;simp only [TV.has,V0.has];exact List.any_eq_true.2 ⟨z,hz,hz2⟩
   ·cases hd
  ·exact hr.nfb hk' (by simp only [Box.has];exact List.any_eq_true.2 ⟨z,List.mem_of_mem_drop hz,hz2⟩)
def upd (ρ:Nat->Value) (k:Nat) (v:Value) (n:Nat):Value:=bif k.beq n then v else ρ n
theorem aW (ρ:Nat->Value) (k:Nat) (v:Value):upd ρ k v k=v:=by simp [upd]
theorem dW {ρ:Nat->Value} {k n:Nat} {v:Value} (h:k.beq n=false):upd ρ k v n=ρ n:=by simp [upd,h]
theorem Rp.newBox {c:Ctx} {st:Mst} {ρ:Nat->Value} {a:Act} {w:World} {dst:Option Nat} {k:Nat} {t:TypeId} {cs:List D} {vs:List Value} {d:TV} {v:Value} (hr:Rp c st ρ a w) (hdst:∀d,dst=some d->d<c.nt) (hf:st.f k=true)
  (h2:All2 (D.rep w (Fz c st.h ρ w) ρ) cs vs) (h1:∀u∈vs,u.oneCell'=true) (hh:∀k',cs.any (D.has k')=true->st.f k'=false) (hd:∀k',d.has k'=true->k'=k)
  (hv:∀F ρ',ρ' k = .pointer (some ⟨w.heap.size,0,none⟩)->d.rep (w.alloc (.cells vs.toArray t)) F ρ' v):∃ρ',Rp c (st.app dst ⟨d,[(k,some (.box t cs))],[k]⟩) ρ' (a.put dst v) (w.alloc (.cells vs.toArray t)):=by
 have hkk:∀k':Nat,aL [(k,some (Box.box t cs))] k'=true->k'=k:=fun k' h=>by
  exact UM
 have hul:∀k':Nat,aX [k] k'=k.beq k':=fun k'=>by simp [aX]
 have hfz:∀b,Fz c st.h ρ w b->Fz c (hput [(k,some (Box.box t cs))] st.h) (upd ρ k (.pointer (some ⟨w.heap.size,0,none⟩))) (w.alloc (.cells vs.toArray t)) b/\(w.alloc (.cells vs.toArray t)).heap[b]? = w.heap[b]?:=fun b ⟨f1,f2,f3⟩=>by
  refine ⟨⟨f1,by simp;omega,fun k' bx hk'=>?_⟩,Below.heap_alloc w _ b f2⟩;simp only [hput] at hk';cases h9:k.beq k' with
  | true=>rw [<-qNb h9,aW];intro e;injection e with e;simp at e;omega
  | false=>rw [h9] at hk';rw [dW h9];exact f3 k' bx hk'
 refine ⟨upd ρ k (.pointer (some ⟨w.heap.size,0,none⟩)),hr.app (e:=⟨d,[(k,some (.box t cs))],[k]⟩) hdst (fun k' h=>?_) (fun k' h=>?_) (fun k' h=>.inl ?_) (Frx.alloc _ _ _) ?_ ?_ (fun k' h=>.inl ?_) ?_ ?_ ?_⟩
 ·rw [hul] at h;rw [<-qNb h];exact ⟨hf,by simp [aL]⟩
 ·exact dW (by rw [<-hul];exact h)
 ·rw [hkk k' h];simp [aX]
 ·intro k' bx g' h _ hg';exact U1
 ·intro k1 k2 _ _ _ h h' _ _ _ _;exact VM
 ·rw [hd k' h];simp [aX]
 ·intro k1 k2 bx h hp hx;rw [hkk k2 h] at hp;simp only [hput,Nat.beq_refl,qCt,Option.some.injEq] at hp;subst hp;exact .inr (hh k1 hx)
 ·intro k2 bx h hp;rw [hkk k2 h] at hp ⊢;simp only [hput,Nat.beq_refl,qCt,Option.some.injEq] at hp;subst hp;rw [aW];refine ⟨_,vs,rfl,Blk.new w t vs.toArray,h2.imp fun d v hm hd=>hd.mono hfz fun k' hk'=>dW ?_,h1⟩;have h3:=hh k' (List.any_eq_true.2 ⟨d,hm,hk'⟩);cases h9:k.beq k' with
  | false=>rfl
  | true=>rw [<-qNb h9,hf] at h3;cases h3
 ·exact hv _ _ (aW _ _ _)
theorem Dy {t:TypeId} {zs:List Value} [I:TZ P t zs] (w:World):(Instr.alloc t true (.tuple #[])).run P w = .ok (.pointer (some ⟨w.heap.size,0,none⟩)) (w.alloc (.cells zs.toArray t)):=by
 obtain ⟨i,v,h1,h2,h3⟩:=I.z;simp [Instr.alloc,zeroValue,typeInfo,h1,h2,newVar,newRow,run_newObj,h3]
theorem Jt {t:TypeId} {k:Nat} {zs:List Value} {ds:List D} [I:TZ P t zs] (ho:o.op = .alloc t) (hdk:o.dst=some k) (hz:zs.map D.sc=ds):LOp P o s [] ⟨.c (.ptr k 0),[(k,some (.box t ds))],[k]⟩:=by
 intro c st ρ a w hr h1 h2 h3 h4;subst hz;obtain ⟨ρ',h⟩:=hr.newBox (k:=k) (t:=t) (cs:=zs.map D.sc) (vs:=zs) (d:=.c (.ptr k 0)) (v:=.pointer (some ⟨w.heap.size,0,none⟩)) h4 (h3 k (by simp [aX])) (All2.scs _) I.o
  (fun k' hh=>by simp [D.has] at hh) (fun k' hh=>by simp [TV.has,V0.has,D.has] at hh;exact hh.symm) (fun F ρ' hρ=>⟨_,hρ,rfl⟩)
 exact Oper.wp_value (by unfold execOp;rw [ho];simp only [Sem.run_bind,Dy,Result.andThen_ok,Sem.run_pure]) ⟨ρ',h⟩
end
section
variable {P:Program} {o:Oper} {s:Mst}
theorem NQ {t t':TypeId} {x y:Operand} {kd:IntKind} {a b c:Int} (ho:o.op = .binOp .add t x y t') (hx:s.ev x = .c (.sc (.int kd a))) (hy:s.ev y = .c (.sc (.int kd b))) (h:kd.wrap (a+b)=c):LOp P o s [] ⟨.c (.sc (.int kd c)),[],[]⟩ :=
 iz (by rw [ho];rfl) hx hy fun ev w hx hy=>by simp [execOp,ho,hx,hy,eqGuard,binOp,Op.intArith,h]
theorem NS {t t':TypeId} {x y:Operand} {kd:IntKind} {a b c:Int} (ho:o.op = .binOp .sub t x y t') (hx:s.ev x = .c (.sc (.int kd a))) (hy:s.ev y = .c (.sc (.int kd b))) (h:kd.wrap (a-b)=c):LOp P o s [] ⟨.c (.sc (.int kd c)),[],[]⟩ :=
 iz (by rw [ho];rfl) hx hy fun ev w hx hy=>by simp [execOp,ho,hx,hy,eqGuard,binOp,Op.intArith,h]
theorem NU {t t':TypeId} {x y:Operand} {kd:IntKind} {a b c:Int} (ho:o.op = .binOp .mul t x y t') (hx:s.ev x = .c (.sc (.int kd a))) (hy:s.ev y = .c (.sc (.int kd b))) (h:kd.wrap (a*b)=c):LOp P o s [] ⟨.c (.sc (.int kd c)),[],[]⟩ :=
 iz (by rw [ho];rfl) hx hy fun ev w hx hy=>by simp [execOp,ho,hx,hy,eqGuard,binOp,Op.intArith,h]
theorem NV {t t':TypeId} {x y:Operand} {kd:IntKind} {a b c:Int} (ho:o.op = .binOp .quo t x y t') (hx:s.ev x = .c (.sc (.int kd a))) (hy:s.ev y = .c (.sc (.int kd b))) (h0:b≠0) (h:kd.wrap (a.tdiv b)=c):LOp P o s [] ⟨.c (.sc (.int kd c)),[],[]⟩ :=
 iz (by rw [ho];rfl) hx hy fun ev w hx hy=>by simp [execOp,ho,hx,hy,eqGuard,binOp,Op.intDiv,h0,h]
theorem B2 {t t':TypeId} {x y:Operand} {kd:IntKind} {a b c:Int} (ho:o.op = .binOp .rem t x y t') (hx:s.ev x = .c (.sc (.int kd a))) (hy:s.ev y = .c (.sc (.int kd b))) (h0:b≠0) (h:a.tmod b=c):LOp P o s [] ⟨.c (.sc (.int kd c)),[],[]⟩ :=
 iz (by rw [ho];rfl) hx hy fun ev w hx hy=>by simp [execOp,ho,hx,hy,eqGuard,binOp,Op.intDiv,h0,h]
theorem nW {op:BinOp} {t t':TypeId} {x y:Operand} {kd:IntKind} {a b:Int} {c:Bool} (ho:o.op = .binOp op t x y t') (hx:s.ev x = .c (.sc (.int kd a))) (hy:s.ev y = .c (.sc (.int kd b)))
  (h:(op = .eql/\(a == b)=c)\/(op = .neq/\(a != b)=c)\/(op = .lss/\decide (a<b)=c)\/(op = .leq/\decide (a<=b)=c)\/(op = .gtr/\decide (b<a)=c)\/(op = .geq/\decide (b<=a)=c)):LOp P o s [] ⟨.b c,[],[]⟩ :=
 iz (by rw [ho];rfl) hx hy fun ev w hx hy=>by
  rcases h with ⟨rfl,h⟩|⟨rfl,h⟩|⟨rfl,h⟩|⟨rfl,h⟩|⟨rfl,h⟩|⟨rfl,h⟩ <;> subst h <;> simp [execOp,ho,hx,hy,eqGuard,binOp,Op.intCmp]
theorem xl {op:BinOp} {t t':TypeId} {x y:Operand} {a b:ByteArray} {c:Bool} (ho:o.op = .binOp op t x y t') (hx:s.ev x = .c (.sc (.string a))) (hy:s.ev y = .c (.sc (.string b)))
  (h:(op = .eql/\(a.toList == b.toList)=c)\/(op = .neq/\(!(a.toList == b.toList))=c)\/(op = .lss/\Op.bytesLess a.toList b.toList=c)\/(op = .geq/\(!Op.bytesLess a.toList b.toList)=c)):LOp P o s [] ⟨.b c,[],[]⟩ :=
 iz (by rw [ho];rfl) hx hy fun ev w hx hy=>by
  rcases h with ⟨rfl,h⟩|⟨rfl,h⟩|⟨rfl,h⟩|⟨rfl,h⟩ <;> subst h <;> simp [execOp,ho,hx,hy,eqGuard,binOp,Op.stringOp]
theorem Ql {t t':TypeId} {x y:Operand} {kd:IntKind} {a b:Int} (ho:o.op = .binOp .eql t x y t') (hx:s.ev x = .c (.sc (.int kd a))) (hy:s.ev y = .c (.sc (.int kd b))):LOp P o s [] ⟨.b (a == b),[],[]⟩:=nW ho hx hy (by simp)
theorem Qm {t t':TypeId} {x y:Operand} {kd:IntKind} {a b:Int} (ho:o.op = .binOp .neq t x y t') (hx:s.ev x = .c (.sc (.int kd a))) (hy:s.ev y = .c (.sc (.int kd b))):LOp P o s [] ⟨.b (a != b),[],[]⟩:=nW ho hx hy (by simp)
theorem Qn {t t':TypeId} {x y:Operand} {kd:IntKind} {a b:Int} (ho:o.op = .binOp .lss t x y t') (hx:s.ev x = .c (.sc (.int kd a))) (hy:s.ev y = .c (.sc (.int kd b))):LOp P o s [] ⟨.b (decide (a<b)),[],[]⟩:=nW ho hx hy (by simp)
theorem Qo {t t':TypeId} {x y:Operand} {kd:IntKind} {a b:Int} (ho:o.op = .binOp .leq t x y t') (hx:s.ev x = .c (.sc (.int kd a))) (hy:s.ev y = .c (.sc (.int kd b))):LOp P o s [] ⟨.b (decide (a<=b)),[],[]⟩:=nW ho hx hy (by simp)
theorem Qp {t t':TypeId} {x y:Operand} {kd:IntKind} {a b:Int} (ho:o.op = .binOp .gtr t x y t') (hx:s.ev x = .c (.sc (.int kd a))) (hy:s.ev y = .c (.sc (.int kd b))):LOp P o s [] ⟨.b (decide (b<a)),[],[]⟩:=nW ho hx hy (by simp)
theorem Qq {t t':TypeId} {x y:Operand} {kd:IntKind} {a b:Int} (ho:o.op = .binOp .geq t x y t') (hx:s.ev x = .c (.sc (.int kd a))) (hy:s.ev y = .c (.sc (.int kd b))):LOp P o s [] ⟨.b (decide (b<=a)),[],[]⟩:=nW ho hx hy (by simp)
theorem NW {t t':TypeId} {x y:Operand} {a b:ByteArray} (ho:o.op = .binOp .eql t x y t') (hx:s.ev x = .c (.sc (.string a))) (hy:s.ev y = .c (.sc (.string b))):LOp P o s [] ⟨.b (a.toList == b.toList),[],[]⟩:=xl ho hx hy (by simp)
theorem NX {t t':TypeId} {x y:Operand} {a b:ByteArray} (ho:o.op = .binOp .neq t x y t') (hx:s.ev x = .c (.sc (.string a))) (hy:s.ev y = .c (.sc (.string b))):LOp P o s [] ⟨.b (!(a.toList == b.toList)),[],[]⟩:=xl ho hx hy (by simp)
theorem NY {t t':TypeId} {x y:Operand} {a b:ByteArray} (ho:o.op = .binOp .lss t x y t') (hx:s.ev x = .c (.sc (.string a))) (hy:s.ev y = .c (.sc (.string b))):LOp P o s [] ⟨.b (Op.bytesLess a.toList b.toList),[],[]⟩:=xl ho hx hy (by simp)
theorem NZ {t t':TypeId} {x y:Operand} {a b:ByteArray} (ho:o.op = .binOp .geq t x y t') (hx:s.ev x = .c (.sc (.string a))) (hy:s.ev y = .c (.sc (.string b))):LOp P o s [] ⟨.b (!Op.bytesLess a.toList b.toList),[],[]⟩:=xl ho hx hy (by simp)
theorem N1 {t:TypeId} {x:Operand} {b:Bool} (ho:o.op = .unOp .not t x) (hx:s.ev x = .b b):LOp P o s [] ⟨.b (!b),[],[]⟩ :=
 Hp (by rw [ho];rfl) hx fun ev w hx=>by simp [execOp,ho,hx,Op.unary]
def RN:Value->Value->Bool
 | .int _ a,.int _ b=>a == b
 | .string a,.string b=>a == b
 | .bool a,.bool b=>a == b
 | _,_=>false
def Ht:List Value->List Value->Bool
 | [],[]=>true
 | a :: l,b :: m=>RN a b && Ht l m
 | _,_=>false
def shp:Value->Nat
 | .int .i64 _=>0
 | .string _=>1
 | .bool _=>2
 | _=>9
def scs:List D->Option (List Value)
 | []=>some []
 | .sc v :: l=>match scs l with|some r=>some (v :: r)|none=>none
 | _ :: _=>none
class EQ (P:Program) (t:TypeId) (sh:outParam (List Nat)):Prop where
 g:P.eqGuardType P.depth t=false
 e:∀(w:World) (a b:List Value),a.map shp=sh->b.map shp=sh->(Op.equal t (.agg a.toArray) (.agg b.toArray)).run P w = .ok (Ht a b) w
theorem f0 {w:World} {F:Nat->Prop} {ρ:Nat->Value}:∀{l:List D} {a vs:List Value},scs l=some a->All2 (D.rep w F ρ) l vs->vs=a
 | [],a,vs,h,k=>by
  cases vs with
  | nil=>simp [scs] at h;exact h.symm▸rfl
  | cons=>exact k.elim
 | d :: l,a,vs,h,k=>by
  cases vs with
  | nil=>exact k.elim
  | cons v vs =>
   cases d with
   | sc x =>
    simp only [scs] at h;cases hl:scs l with
    | none=>rw [hl] at h;cases h
    | some r =>
     rw [hl] at h;have h:=Option.some.inj h;subst h;rw [f0 hl k.2,show v=x from k.1]
   | _=>simp [scs] at h
theorem N2 {t t':TypeId} {x y:Operand} {la lb:List D} {a b:List Value} {sh:List Nat} {c:Bool} [I:EQ P t sh] (ho:o.op = .binOp .eql t x y t') (hx:s.ev x = .v (.ag la)) (hy:s.ev y = .v (.ag lb)) (ha:scs la=some a) (hb:scs lb=some b) (h1:a.map shp=sh) (h2:b.map shp=sh) (h:Ht a b=c):LOp P o s [] ⟨.b c,[],[]⟩ :=
 bY fun cx st ρ ac w hr hc _=>by
  have he:=hc x (by simp [ho,Op.operands]);have he2:=hc y (by simp [ho,Op.operands]);rw [hx] at he;rw [hy] at he2;have hv:=hr.ev x;rw [he] at hv;have hv2:=hr.ev y;rw [he2] at hv2;obtain ⟨vs,hv,hA⟩:=hv;obtain ⟨us,hv2,hB⟩:=hv2;have e1:=f0 ha hA;have e2:=f0 hb hB;subst e1;subst e2;subst h;refine ⟨.bool (Ht vs us),?_,rfl,fun k hk=>by simp [TV.has,V0.has,D.has] at hk⟩;unfold execOp;rw [ho];simp [hv,hv2,eqGuard,binOp,I.e w vs us h1 h2,I.g]
theorem N3 {t t':TypeId} {x y:Operand} {la lb:List D} {a b:List Value} {sh:List Nat} {c:Bool} [I:EQ P t sh] (ho:o.op = .binOp .neq t x y t') (hx:s.ev x = .v (.ag la)) (hy:s.ev y = .v (.ag lb)) (ha:scs la=some a) (hb:scs lb=some b) (h1:a.map shp=sh) (h2:b.map shp=sh) (h:(!Ht a b)=c):LOp P o s [] ⟨.b c,[],[]⟩ :=
 bY fun cx st ρ ac w hr hc _=>by
  have he:=hc x (by simp [ho,Op.operands]);have he2:=hc y (by simp [ho,Op.operands]);rw [hx] at he;rw [hy] at he2;have hv:=hr.ev x;rw [he] at hv;have hv2:=hr.ev y;rw [he2] at hv2;obtain ⟨vs,hv,hA⟩:=hv;obtain ⟨us,hv2,hB⟩:=hv2;have e1:=f0 ha hA;have e2:=f0 hb hB;subst e1;subst e2;subst h;refine ⟨.bool (!Ht vs us),?_,rfl,fun k hk=>by simp [TV.has,V0.has,D.has] at hk⟩;unfold execOp;rw [ho];simp [hv,hv2,eqGuard,binOp,I.e w vs us h1 h2,I.g]
theorem Lp {t e:TypeId} [I:SE P t e] (w:World) (A:Option Addr) (n c:Nat) (ty:TypeId):(Builtin.len_ #[t] ty #[.slice A n c]).run P w = .ok (.int .i64 n) w:=by
 simp [Builtin.len_,run_underlying I.u,goInt]
theorem jw {t e ty:TypeId} {x:Operand} {n:Nat} {R:List Nat} [SE P t e] (ho:o.op = .call { callee:=.builtin .len,args:=#[x],argTypes:=#[t] })
  (h:∀(c:Ctx) (st:Mst) (ρ:Nat->Value) (a:Act) (w:World),Rp c st ρ a w->st.ev x=s.ev x->(∀k,aX R k=true->st.h k=s.h k)->∃A c,a.eval x = .slice A n c):LOp P o s R ⟨.i n,[],[]⟩ :=
 bY fun c st ρ a w hr h1 h2=>by
  obtain ⟨A,cap,hv⟩:=h c st ρ a w hr (h1 x (by simp [ho,Op.operands,Call.operands])) h2;refine ⟨.int .i64 n,?_,rfl,fun k hk=>by simp [TV.has,V0.has,D.has] at hk⟩;unfold execOp;rw [ho];simp only [resolve,invoke,builtin,Sem.run_bind,Sem.run_pure,Result.andThen_ok,List.map_toArray,List.map_cons,List.map_nil,hv,Lp]
theorem N4 {t e:TypeId} {x:Operand} {α:Type} {E:El α} {l:List α} [SE P t e] (ho:o.op = .call { callee:=.builtin .len,args:=#[x],argTypes:=#[t] }) (hx:s.ev x = .c (.sl E l)):LOp P o s [] ⟨.i l.length,[],[]⟩ :=
 jw (ty:=0) ho fun c st ρ a w hr he _=>by
  have hv:=hr.ev x;rw [he,hx] at hv;obtain ⟨A,cap,hv,_⟩:=hv;exact ⟨A,cap,hv⟩
theorem Jv {t e:TypeId} {x:Operand} {k:Nat} {e':TypeId} {α:Type} {E:El α} {l:List α} [SE P t e] (ho:o.op = .call { callee:=.builtin .len,args:=#[x],argTypes:=#[t] }) (hx:s.ev x = .c (.own k)) (hk:s.h k=some (.arr e' E l)):LOp P o s [k] ⟨.i l.length,[],[]⟩ :=
 jw (ty:=0) ho fun c st ρ a w hr he h2=>by
  have hv:=hr.ev x;rw [he,hx] at hv;obtain ⟨A,cap,hA,_⟩:=fA (hr.hp k _ ((h2 k (by simp [aX])).trans hk));exact ⟨A,cap,Eq.trans hv hA⟩
theorem Jw {t e:TypeId} {x:Operand} [SE P t e] (ho:o.op = .call { callee:=.builtin .len,args:=#[x],argTypes:=#[t] }) (hx:s.ev x = .c (.sc (.slice none 0 0))):LOp P o s [] ⟨.i (0:Nat),[],[]⟩ :=
 jw (ty:=0) ho fun c st ρ a w hr he _=>by
  have hv:=hr.ev x;rw [he,hx] at hv;exact ⟨none,0,hv⟩
theorem uW {x:Operand} {l:List V0} {i:Nat} {y:V0} (ho:o.op = .extract x i) (hx:s.ev x = .tup l) (hy:l[i]? = some y):LOp P o s [] ⟨.v y,[],[]⟩ :=
 bY fun c st ρ a w hr h1 _=>by
  have he:=h1 x (by simp [ho,Op.operands]);rw [hx] at he;have hv:=hr.ev x;rw [he] at hv;obtain ⟨vs,hv,hA⟩:=hv;obtain ⟨u,hu,hrep⟩:=hA.get hy;refine ⟨u,?_,hrep,fun k hk=>hr.nf (x:=x) he ?_⟩
  ·unfold execOp;rw [ho];simp [hv,Instr.extract,hu]
  ·simp only [TV.has] at hk ⊢;exact List.any_eq_true.2 ⟨y,List.mem_of_getElem? hy,hk⟩
theorem B3 {t:TypeId} {n off:Nat} [I:TI P t true n] (w:World) (cs:Array Value):(part t cs off).run P w = .ok (.agg (cs.extract off (off+n))) w:=by
 obtain ⟨d,h1,h2⟩:=I.u;have h3:=I.s;cases hq:P.info? t with
 | none=>simp [hq] at h3
 | some i =>
  simp [hq] at h3;subst h3;cases d <;> simp_all [part,isAgg,run_underlying h1,sizeOf,typeInfo]
theorem B4 {t:TypeId} {n off:Nat} [I:TI P t false n] (w:World) (cs:Array Value) (v:Value) (hv:cs[off]? = some v):(part t cs off).run P w = .ok v w:=by
 obtain ⟨d,h1,h2⟩:=I.u;cases d <;> simp_all [part,isAgg,run_underlying h1]
theorem Jx {t ft:TypeId} {x:Operand} {f off n:Nat} {l:List D} {y:D} [I:FO P t f off ft] [J:TI P ft false n] (ho:o.op = .field t x f) (hx:s.ev x = .v (.ag l)) (hy:l[off]? = some y):LOp P o s [] ⟨.c y,[],[]⟩ :=
 bY fun c st ρ a w hr h1 _=>by
  have he:=h1 x (by simp [ho,Op.operands]);rw [hx] at he;have hv:=hr.ev x;rw [he] at hv;obtain ⟨cs,hv,hA⟩:=hv;obtain ⟨fs,z,i,u1,u2,u3,u4,_⟩:=I.u;subst u3;subst u4;obtain ⟨v,h2,h3⟩:=hA.get hy;refine ⟨v,?_,h3,fun k hk=>hr.nf (x:=x) he (by simp only [TV.has,V0.has];exact uT hy hk)⟩;unfold execOp;rw [ho];simp only [hv,Instr.field,run_underlying u1,u2,Sem.run_bind,Result.andThen_ok,asAgg,Sem.run_pure,B4 w cs.toArray v (by simpa using h2)]
theorem Af {t ft:TypeId} {x:Operand} {f off n:Nat} {l ds:List D} [I:FO P t f off ft] [J:TI P ft true n] (ho:o.op = .field t x f) (hx:s.ev x = .v (.ag l)) (hd:(l.drop off).take n=ds):LOp P o s [] ⟨.v (.ag ds),[],[]⟩ :=
 bY fun c st ρ a w hr h1 _=>by
  have he:=h1 x (by simp [ho,Op.operands]);rw [hx] at he;have hv:=hr.ev x;rw [he] at hv;obtain ⟨cs,hv,hA⟩:=hv;obtain ⟨fs,z,i,u1,u2,u3,u4,_⟩:=I.u;subst u3;subst u4;subst hd;refine ⟨.agg ((cs.drop z.offset).take n).toArray,?_,⟨_,rfl,(hA.drop _).take _⟩,fun k hk=>hr.nf (x:=x) he (by simp only [TV.has,V0.has] at hk ⊢;exact uU (fun d hd=>List.mem_of_mem_drop (List.mem_of_mem_take hd)) hk)⟩;unfold execOp;rw [ho];simp only [hv,Instr.field,run_underlying u1,u2,Sem.run_bind,Result.andThen_ok,asAgg,Sem.run_pure,B3 w cs.toArray];congr 3
  simp [List.drop_take,Array.ext_iff]
end
def pJ (pl:Nat->Option (Nat×Nat)):List D->List (Nat×TV)->Option (List D)
 | cs,[]=>some cs
 | cs,(i,d) :: r =>
  match pl i,d.cells with
  | some (off,size),some ds=>bif Nat.beq ds.length size && Nat.ble (off+size) cs.length then pJ pl (cs.take off++ds++cs.drop (off+size)) r else none
  | _,_=>none
class SP (P:Program) (t:TypeId) (zs:outParam (List Value)) (pl:outParam (List (Nat×Nat))):Prop where
 z:∃i v,P.info? t=some i/\i.zero=some v/\v.cells=zs.toArray
 p:∃fs,P.underlying t=some (.struct fs)/\∀(w:World),((fs.mapM fun f=>do pure (f.offset,<-sizeOf f.type)):Sem (Array (Nat×Nat))).run P w = .ok pl.toArray w
section
variable {P:Program} {o:Oper} {s:Mst}
theorem yd (off:Nat):∀(vs old pre post:List Value) (k:Nat),pre.length=off+k->old.length=vs.length->(vs.zipIdx k).foldl (fun (l:List Value) (x:Value×Nat)=>l.set (off+x.2) x.1) (pre++old++post)=pre++vs++post
 | [],old,pre,post,k,_,h=>by
  obtain rfl:old=[]:=List.eq_nil_of_length_eq_zero h;rfl
 | v :: vs,[],pre,post,k,_,h=>by simp at h
 | v :: vs,u :: old,pre,post,k,hp,h=>by
  rw [List.zipIdx_cons,List.foldl_cons];have h1:(pre++u :: old++post).set (off+k) v=(pre++[v])++old++post:=by
   rw [<-hp,List.append_assoc,List.set_append_right _ _ (Nat.le_refl _),Nat.sub_self];simp
  rw [h1,yd off vs old (pre++[v]) post (k+1) (by simp;omega) (by simpa using h)];simp
theorem Jz (vs:List Value) (cs:Array Value) (off:Nat) (h:off+vs.length<=cs.size):(vs.zipIdx.foldl (fun (cs:Array Value) (x:Value×Nat)=>cs.setIfInBounds (off+x.2) x.1) cs).toList=cs.toList.take off++vs++cs.toList.drop (off+vs.length):=by
 have h1:∀(l:List (Value×Nat)) (cs:Array Value),(l.foldl (fun (cs:Array Value) (x:Value×Nat)=>cs.setIfInBounds (off+x.2) x.1) cs).toList=l.foldl (fun (l:List Value) (x:Value×Nat)=>l.set (off+x.2) x.1) cs.toList:=by
  intro l;induction l with
  | nil=>intro cs;rfl
  | cons x l ih=>intro cs;rw [List.foldl_cons,ih,Array.toList_setIfInBounds,List.foldl_cons]
 rw [h1];have h2:cs.toList=cs.toList.take off++(cs.toList.drop off).take vs.length++cs.toList.drop (off+vs.length):=by
  rw [List.append_assoc,<-List.drop_drop,List.take_append_drop,List.take_append_drop]
 have hs:cs.toList.length=cs.size:=Array.length_toList;generalize cs.toList=l at *
 have h3:=yd off vs ((l.drop off).take vs.length) (l.take off) (l.drop (off+vs.length)) 0 (by rw [List.length_take];omega) (by rw [List.length_take,List.length_drop];omega);rw [<-h2] at h3;exact h3
theorem ye {w:World} {F:Nat->Prop} {ρ:Nat->Value} (pl:Nat->Option (Nat×Nat)):∀(ts:List (Nat×TV)) (ps:List (Nat×Value)) (cs ds:List D) (vs:List Value),All2 (fun t p=>t.1=p.1/\t.2.rep w F ρ p.2) ts ps->All2 (D.rep w F ρ) cs vs->pJ pl cs ts=some ds->
  (∀t∈ts,∀l,t.2.cells=some l->∀x∈l,∀u,x.rep w F ρ u->u.oneCell'=true)->∃us:List Value,Instr.fill pl vs.toArray ps=some us.toArray/\All2 (D.rep w F ρ) ds us
 | [],[],cs,ds,vs,_,h,e,_=>by simp only [pJ,Option.some.injEq] at e;subst e;exact ⟨vs,rfl,h⟩
 | (i,d) :: ts,(j,v) :: ps,cs,ds,vs,hp,h,e,hok=>by
  obtain ⟨⟨rfl,hd⟩,hp⟩:=hp;simp only [pJ] at e;split at e
  ·rename_i off size l h1 h2
   cases hb:Nat.beq l.length size && Nat.ble (off+size) cs.length with
   | false=>rw [hb] at e;cases e
   | true =>
    rw [hb] at e;simp only [qBa] at hb;have hb1:=qNb hb.1;have hb2:=qNl hb.2;obtain ⟨hc1,hc2⟩:=TV.cells_rep hd h2 (hok (i,d) (by simp) l h2);have hl1:=hc1.length;have hl2:=h.length;simp only [Array.length_toList] at hl1;obtain ⟨us,h3,h4⟩:=ye pl ts ps _ ds (vs.take off++v.cells.toList++vs.drop (off+size)) hp (((h.take off).append hc1).append (h.drop (off+size))) e fun t ht=>hok t (by simp [ht]);refine ⟨us,?_,h4⟩;simp only [Instr.fill,h1];rw [if_neg (by simp;omega),<-h3];congr 1
    apply Array.toList_inj.1
    have:=Jz v.cells.toList vs.toArray off (by simp;omega);simp only [Array.length_toList,<-hl1,hb1] at this;rw [<-Array.foldl_toList,Array.toList_zipIdx,this]
  ·cases e
 | [],_ :: _,_,_,_,h,_,_,_=>h.elim
 | _ :: _,[],_,_,_,h,_,_,_=>h.elim
def gw (s:Mst) (ps:Array (Nat×Operand)):List (Nat×TV):=ps.toList.map fun x=>(x.1,s.ev x.2)
theorem AG {c:Ctx} {st:Mst} {ρ:Nat->Value} {a:Act} {w:World} (hr:Rp c st ρ a w) {ps:Array (Nat×Operand)} (h:∀x∈ps.toList,st.ev x.2=s.ev x.2) :
  All2 (fun t p=>t.1=p.1/\t.2.rep w (Fz c st.h ρ w) ρ p.2) (gw s ps) (ps.map fun x=>(x.1,a.eval x.2)).toList:=by
 rw [Array.toList_map];unfold gw;generalize ps.toList=l at *
 induction l with
 | nil=>trivial
 | cons x l ih=>exact ⟨⟨rfl,by have:=hr.ev x.2;rwa [h x (by simp)] at this⟩,ih fun y hy=>h y (by simp [hy])⟩
def cellsOf:List (Nat×TV)->List D
 | []=>[]
 | (_,d) :: r=>(match d.cells with|some l=>l|none=>[])++cellsOf r
theorem uX:∀{ts:List (Nat×TV)} {t:Nat×TV} {l:List D} {x:D},t∈ts->t.2.cells=some l->x∈l->x∈cellsOf ts
 | (i,d) :: ts,t,l,x,ht,hl,hx=>by
  simp only [cellsOf,List.mem_append];rcases List.mem_cons.1 ht with rfl|ht
  ·simp only at hl;rw [hl];exact .inl hx
  ·exact .inr (uX ht hl hx)
theorem nX (pl:Nat->Option (Nat×Nat)):∀{ts:List (Nat×TV)} {cs ds:List D} {x:D},pJ pl cs ts=some ds->x∈ds->x∈cs\/x∈cellsOf ts
 | [],cs,ds,x,e,hx=>by simp only [pJ,Option.some.injEq] at e;subst e;exact .inl hx
 | (i,d) :: ts,cs,ds,x,e,hx=>by
  simp only [pJ] at e;split at e
  ·rename_i off size l h1 h2
   cases hb:Nat.beq l.length size && Nat.ble (off+size) cs.length with
   | false=>rw [hb] at e;cases e
   | true =>
    rw [hb] at e;simp only [cellsOf,List.mem_append,h2];rcases nX pl e hx with h|h
    ·simp only [List.mem_append] at h;rcases h with (h|h)|h
     ·exact .inl (List.mem_of_mem_take h)
     ·exact .inr (.inl h)
     ·exact .inl (List.mem_of_mem_drop h)
    ·exact .inr (.inr h)
  ·cases e
theorem DF {c:Ctx} {st:Mst} {ρ:Nat->Value} {a:Act} {w:World} (hr:Rp c st ρ a w) {ps:Array (Nat×Operand)} (h:∀x∈ps.toList,st.ev x.2=s.ev x.2) (hok:(cellsOf (gw s ps)).all (okD s.h)=true) (h2:∀k,aX (iW (cellsOf (gw s ps))) k=true->st.h k=s.h k) :
  (∀t∈gw s ps,∀l,t.2.cells=some l->∀x∈l,∀u,x.rep w (Fz c st.h ρ w) ρ u->u.oneCell'=true)/\∀x∈cellsOf (gw s ps),∀k,x.has k=true->st.f k=false:=by
 constructor
 ·intro t ht l hl x hx u hu;have hm:=uX ht hl hx;exact hr.okD (ji (List.all_eq_true.1 hok x hm) fun j hj=>h2 j (by subst hj;exact gv hm)) hu
 ·intro x hx k hk;unfold gw at hx;generalize ps.toList=l at *
  induction l with
  | nil=>simp [cellsOf] at hx
  | cons y l ih =>
   simp only [List.map_cons,cellsOf,List.mem_append] at hx;rcases hx with hx|hx
   ·refine hr.nf (x:=y.2) (h y (by simp)) ?_;generalize s.ev y.2=d at *
    unfold TV.cells at hx;cases d with
    | tup m=>simp at hx
    | v d =>
     cases d with
     | one d=>simp at hx;subst hx;exact hk
     | ag m=>simp only [TV.has,V0.has];exact List.any_eq_true.2 ⟨x,hx,hk⟩
   ·exact ih (fun z hz=>h z (by simp [hz])) hx
def Tv (pl:List (Nat×Nat)) (i:Nat):Option (Nat×Nat):=pl[i]?
theorem JA {t:TypeId} {ps:Array (Nat×Operand)} {zs:List Value} {pl:List (Nat×Nat)} {ds:List D} [I:SP P t zs pl] (ho:o.op = .build t ps) (hok:(cellsOf (gw s ps)).all (okD s.h)=true) (hd:pJ (Tv pl) (zs.map D.sc) (gw s ps)=some ds) :
  LOp P o s (iW (cellsOf (gw s ps))) ⟨.v (.ag ds),[],[]⟩ :=
 bY fun c st ρ a w hr h1 h2=>by
  have he:∀x∈ps.toList,st.ev x.2=s.ev x.2:=fun x hx=>h1 x.2 (by rw [ho];simp only [Op.operands];simpa using ⟨x.1,by simpa using hx⟩);obtain ⟨p1,p2⟩:=DF hr he hok h2;obtain ⟨us,hf,hA⟩:=ye (Tv pl) (gw s ps) _ _ ds zs (AG hr he) (All2.scs zs) hd p1;obtain ⟨i,v,z1,z2,z3⟩:=I.z;obtain ⟨fs,q1,q2⟩:=I.p;refine ⟨.agg us.toArray,?_,⟨us,rfl,hA⟩,fun k hk=>?_⟩
  ·unfold execOp;rw [ho];rw [show Tv pl=fun x=>pl[x]? from rfl,Array.toList_map] at hf;have hq:=q2 w;simp [Instr.build,zeroValue,typeInfo,z1,z2,run_underlying q1,z3] at hq ⊢;simp [hq,hf]
  ·obtain ⟨x,hx,hk⟩:=List.any_eq_true.1 (show ds.any (D.has k)=true from hk);rcases nX _ hd hx with h|h
   ·obtain ⟨v,_,rfl⟩:=List.mem_map.1 h;cases hk
   ·exact p2 x h k hk
theorem Lq (zs:List Value) (m:Nat):((Array.range (m*zs.length)).map fun x=>zs.toArray[x % zs.toArray.size]!).toList=(List.replicate m zs).flatten:=by
 rw [Array.toList_map,Array.toList_range];induction m with
 | zero=>simp
 | succ m ih =>
  rw [Nat.add_mul,Nat.one_mul,List.range_add,List.map_append,ih,List.replicate_succ',List.flatten_append,List.map_map];congr 1
  simp only [List.flatten_cons,List.flatten_nil,List.append_nil];apply List.ext_getElem
  ·simp
  ·intro i h1 h2;simp only [List.getElem_map,List.getElem_range,Function.comp_apply,List.size_toArray];rw [Nat.mul_comm m,Nat.mul_add_mod,Nat.mod_eq_of_lt h2];simp [h2]
theorem yf {R:D->Value->Prop}:∀{l:List D} {us:List Value},All2 R l us->(∀d∈l,∀u,R d u->u.oneCell'=true)->∀u∈us,u.oneCell'=true
 | [],[],_,_,u,hu=>by cases hu
 | d :: l,v :: us,h,f,u,hu=>by
  rcases List.mem_cons.1 hu with rfl|hu
  ·exact f d (by simp) _ h.1
  ·exact yf h.2 (fun x hx=>f x (by simp [hx])) u hu
 | [],_ :: _,h,_,_,_=>h.elim
 | _ :: _,[],h,_,_,_=>h.elim
theorem yg {t e:TypeId} {n k sz:Nat} {row:Bool} {ps:Array (Nat×Operand)} {zs:List Value} {ds:List D} [I:SE P t e] [J:TI P e row sz] [Z:TZ P e zs] (ho:o.op = .buildSlice t n ps) (hdk:o.dst=some k) (hok:(cellsOf (gw s ps)).all (okD s.h)=true) (hn:n*sz<=4096)
  (hd:pJ (fun i=>some (i*sz,sz)) ((List.replicate n zs).flatten.map D.sc) (gw s ps)=some ds):LOp P o s (iW (cellsOf (gw s ps))) ⟨.c (.slb k n),[(k,some (.box e ds))],[k]⟩:=by
 intro c st ρ a w hr h1 h2 h3 h4;have he:∀x∈ps.toList,st.ev x.2=s.ev x.2:=fun x hx=>h1 x.2 (by rw [ho];simp only [Op.operands];simpa using ⟨x.1,by simpa using hx⟩);obtain ⟨p1,p2⟩:=DF hr he hok h2;obtain ⟨us,hf,hA⟩:=ye _ (gw s ps) _ _ ds _ (AG hr he) (All2.scs (List.replicate n zs).flatten) hd p1;obtain ⟨i,v,z1,z2,z3⟩:=Z.z;have hi:i.size=sz:=by have:=J.s;rw [z1] at this;simpa using this
 have hone:∀u∈us,u.oneCell'=true:=yf hA fun d hd1 u hu=>by
  rcases nX _ hd hd1 with h|h
  ·obtain ⟨v,hv,rfl⟩:=List.mem_map.1 h;obtain ⟨l,hl,hv⟩:=List.mem_flatten.1 hv;rw [show u=v from hu];rw [List.eq_of_mem_replicate hl] at hv;exact Z.o v hv
  ·exact hr.okD (ji (List.all_eq_true.1 hok d h) fun j hj=>h2 j (by subst hj;exact gv h)) hu
 obtain ⟨ρ',h⟩:=hr.newBox (k:=k) (t:=e) (cs:=ds) (vs:=us) (d:=.c (.slb k n)) (v:=.slice (some ⟨w.heap.size,0,none⟩) n n) h4 (h3 k (by simp [aX])) hA hone
  (fun k' hh=>by
   obtain ⟨x,hx,hk⟩:=List.any_eq_true.1 hh;rcases nX _ hd hx with h|h
   ·obtain ⟨v,_,rfl⟩:=List.mem_map.1 h;cases hk
   ·exact p2 x h k' hk) (fun k' hh=>by simp [TV.has,V0.has,D.has] at hh;exact hh.symm) (fun F ρ' hρ=>⟨_,hρ,rfl⟩)
 refine Oper.wp_value ?_ ⟨ρ',h⟩;have hzl:zs.length=sz:=by
  have h1:=Z.n;rw [z1] at h1;simp only [Option.map_some,Option.some.injEq] at h1;omega
 have hc:=Lq zs n;have hca:(Array.range (n*sz)).map (fun x=>zs.toArray[x % zs.toArray.size]!)=(List.replicate n zs).flatten.toArray:=by
  apply Array.toList_inj.1
  rw [<-hzl,hc]
 unfold execOp;rw [ho];rw [Array.toList_map] at hf;have hbig:¬(16777216<n*sz):=by omega
 by_cases h0:n*sz=0
 ·have hf0:(List.replicate n zs).flatten=[]:=by
   apply List.eq_nil_of_length_eq_zero
   simp [hzl,h0]
  rw [hf0] at hf;simp [Instr.buildSlice,run_underlying I.u,sizeOf,typeInfo,z1,hi,h0,newRow];rw [show Array.map (fun _=>(default:Value)) (Array.range 0) = #[] by simp,hf];simp
 ·simp [Instr.buildSlice,run_underlying I.u,sizeOf,typeInfo,z1,hi,h0,zeroValue,z2,z3,newRow,hbig];simp at hca;rw [hca,hf];simp
theorem yh {t e:TypeId} {row:Bool} {n b off len cap lo hi:Nat} [I:SE P t e] [J:TI P e row n] (w:World) (l h m:Option Value) (A:Option Addr) (hA:0<len->A=some ⟨b,off,none⟩)
  (hl:l=some (.int .i64 (lo:Int))\/l=none/\lo=0) (hh:h=some (.int .i64 (hi:Int))\/h=none/\hi=len/\m=none) (hm:m=some (.int .i64 (hi:Int))\/m=none) (h1:lo<=hi) (h2:hi<=len) (h3:len<=cap) (hlo:lo<hi\/True) :
  ∃A',(Instr.sliceAt t (.slice A len cap) l h m).run P w = .ok (.slice A' (hi-lo) ((if m=none then cap else hi)-lo)) w/\(lo<hi->A'=some ⟨b,off+lo*n,none⟩):=by
 obtain ⟨j,hj,hn⟩:∃j,P.info? e=some j/\j.size=n:=by
  have:=J.s;cases h:P.info? e with
  | none=>simp [h] at this
  | some j=>exact ⟨j,rfl,by simpa [h] using this⟩
 subst hn;refine ⟨if (if m=none then cap else hi)=lo then A else A.map (·.add (lo*j.size)),?_,fun hlt=>?_⟩
 ·rcases hl with rfl|⟨rfl,rfl⟩ <;> rcases hh with rfl|⟨rfl,rfl,rfl⟩ <;> rcases hm with hm|hm <;> (first|cases hm|subst hm) <;>
   simp [Instr.sliceAt,Instr.slice,Instr.sliceBounds,Instr.sliceBound,asIntOf,run_underlying I.u,sizeOf,typeInfo,hj,h1,h2,h3,Nat.le_trans h2 h3,Nat.le_trans h1 h2]
 ·rw [hA (by omega)];have:¬(if m=none then cap else hi)=lo:=by split <;> omega
  rw [if_neg this];simp [dS]
theorem DG {w:World} {F:Nat->Prop} {α:Type} {E:El α} {A A':Option Addr} {l:List α} {lo hi:Nat} (h:RowsAt E w F A l) (hlh:lo<=hi) (hh:hi<=l.length) (hA:lo<hi->∀b off,A=some ⟨b,off,none⟩->A'=some ⟨b,off+lo*E.n,none⟩):RowsAt E w F A' ((l.take hi).drop lo):=by
 by_cases hlt:lo<hi
 ·obtain ⟨xs,h1,h2⟩:=h.take hi;obtain ⟨b,off,rfl,_,_⟩:=h2 (by simp;omega);rw [hA hlt b off rfl];exact (h.take hi).drop lo
 ·have:(l.take hi).drop lo=[]:=by
   apply List.eq_nil_of_length_eq_zero
   simp;omega
  rw [this];exact RowsAt.nil _ _ _ _
theorem AH {t e:TypeId} {row:Bool} {n lo hi:Nat} {x:Operand} {l h:Option Operand} {α:Type} {E:El α} {L L':List α} [I:SE P t e] [J:TI P e row n] (ho:o.op = .slice t x l h none) (hx:s.ev x = .c (.sl E L)) (hn:E.n=n)
  (hl:(∃y,l=some y/\s.ev y = .i lo)\/l=none/\lo=0) (hh:(∃y,h=some y/\s.ev y = .i hi)\/h=none/\hi=L.length) (h1:lo<=hi) (h2:hi<=L.length) (hL:(L.take hi).drop lo=L'):LOp P o s [] ⟨.c (.sl E L'),[],[]⟩ :=
 bY fun c st ρ a w hr hc _=>by
  subst hL;subst hn;have he:=hc x (by simp [ho,Op.operands]);rw [hx] at he;have hv:=hr.ev x;rw [he] at hv;obtain ⟨A,cap,hv,hcap,hR⟩:=hv;have hl':l.map a.eval=some (.int .i64 (lo:Int))\/l.map a.eval=none/\lo=0:=by
   rcases hl with ⟨y,rfl,hy⟩|⟨rfl,h⟩
   ·have:=hr.ev y;exact VT
   ·exact .inr ⟨rfl,h⟩
  have hh':h.map a.eval=some (.int .i64 (hi:Int))\/h.map a.eval=none/\hi=L.length/\(none:Option Value)=none:=by
   rcases hh with ⟨y,rfl,hy⟩|⟨rfl,h⟩
   ·have:=hr.ev y;exact VT
   ·exact .inr ⟨rfl,h,rfl⟩
  obtain ⟨b,off,hb⟩:∃b off,0<L.length->A=some ⟨b,off,none⟩:=by
   rcases Nat.eq_zero_or_pos L.length with h0|h0
   ·exact ⟨0,0,fun h=>by omega⟩
   ·obtain ⟨xs,_,h4⟩:=hR;obtain ⟨b,off,h5,_⟩:=h4 h0;exact ⟨b,off,fun _=>h5⟩
  obtain ⟨A',hrun,hA'⟩:=yh (P:=P) (t:=t) (b:=b) (off:=off) w (l.map a.eval) (h.map a.eval) none A hb hl' hh' (.inr rfl) h1 h2 hcap.1 (.inr trivial);have hlen:((L.take hi).drop lo).length=hi-lo:=by simp;omega
  refine ⟨.slice A' (hi-lo) (cap-lo),?_,⟨A',cap-lo,by rw [hlen],by rw [hlen];have:=hcap.2;omega,DG hR h1 h2 fun hlt b' off' e=>?_⟩,fun k hk=>by simp [TV.has,V0.has,D.has] at hk⟩
  ·unfold execOp;rw [ho];simp only [hv,Option.map_none,Sem.run_bind,hrun,Result.andThen_ok,Sem.run_pure,if_true]
  ·rw [hb (by omega)] at e;injection e with e;injection e with e1 e2;subst e1;subst e2;exact hA' hlt
theorem yi {t e:TypeId} {row:Bool} {n lo hi:Nat} {x y z:Operand} {l:Option Operand} {α:Type} {E:El α} {L L':List α} [I:SE P t e] [J:TI P e row n] (ho:o.op = .slice t x l (some y) (some z)) (hx:s.ev x = .c (.sl E L)) (hn:E.n=n)
  (hl:(∃y,l=some y/\s.ev y = .i lo)\/l=none/\lo=0) (hy:s.ev y = .i hi) (hz:s.ev z = .i hi) (h1:lo<=hi) (h2:hi<=L.length) (hL:(L.take hi).drop lo=L'):LOp P o s [] ⟨.c (.full E L'),[],[]⟩ :=
 bY fun c st ρ a w hr hc _=>by
  subst hL;subst hn;have he:=hc x (by simp [ho,Op.operands]);rw [hx] at he;have hv:=hr.ev x;rw [he] at hv;obtain ⟨A,cap,hv,hcap,hR⟩:=hv;have hl':l.map a.eval=some (.int .i64 (lo:Int))\/l.map a.eval=none/\lo=0:=by
   rcases hl with ⟨y,rfl,hy⟩|⟨rfl,h⟩
   ·have:=hr.ev y;exact VT
   ·exact .inr ⟨rfl,h⟩
  have hy':a.eval y = .int .i64 (hi:Int):=by have:=hr.ev y;rwa [hc y (by simp [ho,Op.operands]),hy] at this
  have hz':a.eval z = .int .i64 (hi:Int):=by have:=hr.ev z;rwa [hc z (by simp [ho,Op.operands]),hz] at this
  obtain ⟨b,off,hb⟩:∃b off,0<L.length->A=some ⟨b,off,none⟩:=by
   rcases Nat.eq_zero_or_pos L.length with h0|h0
   ·exact ⟨0,0,fun h=>by omega⟩
   ·obtain ⟨xs,_,h4⟩:=hR;obtain ⟨b,off,h5,_⟩:=h4 h0;exact ⟨b,off,fun _=>h5⟩
  obtain ⟨A',hrun,hA'⟩:=yh (P:=P) (t:=t) (b:=b) (off:=off) w (l.map a.eval) (some (.int .i64 (hi:Int))) (some (.int .i64 (hi:Int))) A hb hl' (.inl rfl) (.inl rfl) h1 h2 hcap.1 (.inr trivial);have hlen:((L.take hi).drop lo).length=hi-lo:=by simp;omega
  refine ⟨.slice A' (hi-lo) (hi-lo),?_,⟨A',by rw [hlen],by rw [hlen];have:=hcap.2;omega,DG hR h1 h2 fun hlt b' off' e=>?_⟩,fun k hk=>by simp [TV.has,V0.has,D.has] at hk⟩
  ·unfold execOp;rw [ho];simp only [hv,Option.map_some,hy',hz',Sem.run_bind,hrun,Result.andThen_ok,Sem.run_pure];rfl
  ·rw [hb (by omega)] at e;injection e with e;injection e with e1 e2;subst e1;subst e2;exact hA' hlt
end
def Nu (p:Option Pr) (x:Pr):Bool:=match p with|none=>true|some y=>decide (cl y x<0)
theorem F9 (r:Rs) (p:Option Pr) (x:Ho) (l:List Ho):xJ r p (x :: l)=(jW x.proc && aS r x.am && Nu p x.proc && xJ r (some x.proc) l):=by cases p <;> rfl
theorem Hw {p:Option Pr} {x:Pr}:Nu p x=true↔∀q,p=some q->g7 q x:=by
 cases p with
 | none=>simp [Nu]
 | some q=>simp [Nu,i8]
theorem DH (r:Rs):∀(l:List Ho) (p:Option Pr),xJ r p l=true↔(∀x∈l,jW x.proc=true/\aS r x.am=true)/\(dA l).Pairwise g7/\∀q,p=some q->∀x∈l,g7 q x.proc
 | [],p=>by simp [xJ,dA]
 | x :: l,p=>by
  rw [F9];simp only [qBa,DH r l,Hw];constructor
  ·rintro ⟨⟨⟨h1,h2⟩,h3⟩,h4,h5,h6⟩;refine ⟨?_,?_,?_⟩
   ·intro y hy;rcases List.mem_cons.1 hy with rfl|hy
    ·exact ⟨h1,h2⟩
    ·exact h4 y hy
   ·show (x.proc :: dA l).Pairwise g7;refine List.pairwise_cons.2 ⟨?_,h5⟩;intro y hy;obtain ⟨z,hz,rfl⟩:=List.mem_map.1 hy;exact h6 _ rfl z hz
   ·intro q hq y hy;rcases List.mem_cons.1 hy with rfl|hy
    ·exact h3 q hq
    ·exact dt (h3 q hq) (h6 _ rfl y hy)
  ·rintro ⟨h1,h2,h3⟩;have h2':(x.proc :: dA l).Pairwise g7:=h2;obtain ⟨h4,h5⟩:=List.pairwise_cons.1 h2';refine ⟨⟨h1 x (by simp),fun q hq=>h3 q hq x (by simp)⟩,fun y hy=>h1 y (by simp [hy]),h5,?_⟩;intro q hq y hy;injection hq with hq;subst hq;exact h4 _ (List.mem_map.2 ⟨y,hy,rfl⟩)
def oN:List Am->Int
 | []=>0
 | a :: l=>a.units+oN l
def Lv (a b:Am):Bool:=aR a || aR b || mG a.mode b.mode
theorem Lw (a b:Am):Lv a b=Lv b a:=by
 unfold Lv;rw [kq,Bool.or_comm (aR a)]
theorem oO {r:Rs} {a:Am} (h:bQ r a=true) (hk:r.kind=2):0<=a.units:=(mJ h (by omega)).2.1
theorem uY {r:Rs} (hk:r.kind=2):∀{l:List Am},(∀a∈l,bQ r a=true)->0<=oN l
 | [],_=>Int.le_refl _
 | a :: l,h=>by
  have h1:=oO (h a (by simp)) hk;have h2:=uY hk (l:=l) fun b hb=>h b (by simp [hb]);show 0<=a.units+oN l;omega
theorem JB (a:Am) (l:List Am):mo a l=false↔∀b∈l,Lv b a=true:=by
 unfold mo Lv;rw [List.any_eq_false];constructor
 ·intro h b hb;have:=h b hb;have e:=kq b.mode a.mode;cases h1:aR a <;> cases h2:aR b <;> simp_all
 ·intro h b hb;have:=h b hb;have e:=kq b.mode a.mode;cases h1:aR a <;> cases h2:aR b <;> simp_all
theorem oP {r:Rs}:∀(l:List Am) (s:Int) (pre:List Am),fm r s pre l=true↔(∀a∈l,bQ r a=true)/\(r.kind=2->l≠[]->s+oN l<=r.units)/\(r.kind≠2->l.Pairwise (fun a b=>Lv a b=true)/\∀a∈l,∀b∈pre,Lv b a=true)
 | [],s,pre=>by simp [fm]
 | a :: l,s,pre=>by
  rw [mI,qBa];by_cases hk:r.kind=2
  ·rw [if_pos hk,qBa,decide_eq_true_eq,oP l];constructor
   ·rintro ⟨h1,h2,h3,h4,_⟩;refine ⟨?_,?_,fun h=>absurd hk h⟩
    ·intro b hb;rcases List.mem_cons.1 hb with rfl|hb
     ·exact h1
     ·exact h3 b hb
    ·intro _ _;show s+(a.units+oN l)<=r.units;cases l with
     | nil=>show s+(a.units+0)<=r.units;omega
     | cons b m=>have:=h4 hk (by simp);omega
   ·rintro ⟨h1,h2,_⟩;have h3:s+(a.units+oN l)<=r.units:=h2 hk (by simp);have h4:=uY hk (l:=l) fun b hb=>h1 b (by simp [hb]);exact ⟨h1 a (by simp),by omega,fun b hb=>h1 b (by simp [hb]),fun _ _=>by omega,fun h=>absurd hk h⟩
  ·rw [if_neg hk,qBa,oP l,Bool.not_eq_true',JB];constructor
   ·rintro ⟨h1,h2,h3,_,h5⟩;obtain ⟨h6,h7⟩:=h5 hk;refine ⟨?_,fun h=>absurd h hk,fun _=>⟨List.pairwise_cons.2 ⟨fun b hb=>h7 b hb a (by simp),h6⟩,?_⟩⟩
    ·intro b hb;rcases List.mem_cons.1 hb with rfl|hb
     ·exact h1
     ·exact h3 b hb
    ·intro b hb c hc;rcases List.mem_cons.1 hb with rfl|hb
     ·exact h2 c hc
     ·exact h7 b hb c (by simp [hc])
   ·rintro ⟨h1,_,h3⟩;obtain ⟨h4,h5⟩:=h3 hk;obtain ⟨h6,h7⟩:=List.pairwise_cons.1 h4;refine ⟨h1 a (by simp),h5 a (by simp),fun b hb=>h1 b (by simp [hb]),fun h=>absurd h hk,fun _=>⟨h7,?_⟩⟩;intro b hb c hc;rcases List.mem_append.1 hc with hc|hc
    ·exact h5 b (by simp [hb]) c hc
    ·rw [List.mem_singleton] at hc;subst hc;exact h6 b hb
structure Comp (r:Rs) (l:List Am):Prop where
 shp:br r=true
 prm:∀a∈l,bQ r a=true
 sum:r.kind=2->oN l<=r.units
 ok:r.kind≠2->l.Pairwise (fun a b=>Lv a b=true)
theorem JC {r:Rs} {l:List Am}:iX r l=true↔Comp r l:=by
 unfold iX;rw [qBa,oP];constructor
 ·rintro ⟨h0,h1,h2,h3⟩;refine ⟨h0,h1,fun hk=>?_,fun hk=>(h3 hk).1⟩;cases l with
  | nil =>
   have:=cW h0;show (0:Int)<=r.units;omega
  | cons a m=>have:=h2 hk (by simp);omega
 ·rintro ⟨h0,h1,h2,h3⟩;exact ⟨h0,h1,fun hk _=>by have:=h2 hk;omega,fun hk=>⟨h3 hk,fun _ _ _ hb=>absurd hb (by simp)⟩⟩
theorem JD {l l':List Am} (h:l.Perm l'):oN l=oN l':=by
 induction h with
 | nil=>rfl
 | cons a _ ih=>show a.units+_=a.units+_;rw [ih]
 | swap a b l=>show b.units+(a.units+oN l)=a.units+(b.units+oN l);omega
 | trans _ _ h1 h2=>exact h1.trans h2
theorem Comp.perm {r:Rs} {l l':List Am} (h:Comp r l) (p:l.Perm l'):Comp r l' :=
 ⟨h.shp,fun a ha=>h.prm a (p.mem_iff.2 ha),fun hk=>by rw [<-JD p];exact h.sum hk,fun hk=>(p.pairwise_iff (fun {a b} hab=>by rw [Lw];exact hab)).1 (h.ok hk)⟩
theorem Comp.tail {r:Rs} {a:Am} {l:List Am} (h:Comp r (a :: l)):Comp r l :=
 ⟨h.shp,fun b hb=>h.prm b (by simp [hb]),fun hk=>by
  have h1:a.units+oN l<=r.units:=h.sum hk;have h2:=oO (h.prm a (by simp)) hk;omega,fun hk=>(List.pairwise_cons.1 (h.ok hk)).2⟩
theorem JE {r:Rs} {a b c:Am} (hk:r.kind=1) (h:bq r a b=true) (ho:Lv a c=true):Lv b c=true:=by
 unfold bq at h;simp only [hk,if_true,qBa,Bool.or_eq_true,Bool.not_eq_true'] at h;unfold Lv at ho ⊢;simp only [Bool.or_eq_true] at ho ⊢;rcases h.2 with h1|⟨h1,h2⟩
 ·exact .inl (.inl h1)
 ·rcases ho with (h3|h3)|h3
  ·rw [h1] at h3;cases h3
  ·exact .inl (.inr h3)
  ·refine .inr ?_;unfold es at h2;unfold mG at h3 ⊢;simp only [qBa,Bool.or_eq_true,Bool.not_eq_true',decide_eq_true_eq,decide_eq_false_iff_not] at h2 h3 ⊢;obtain ⟨⟨h4,h5⟩,h6⟩:=h2;obtain ⟨⟨⟨⟨h7,h8⟩,h9⟩,h10⟩,h11⟩:=h3;unfold cL at *
   simp only [qBa,decide_eq_true_eq] at *
   refine ⟨⟨⟨⟨h5,h8⟩,?_⟩,h10⟩,?_⟩ <;> omega
theorem Comp.lower {r:Rs} {a b:Am} {l:List Am} (h:Comp r (a :: l)) (hc:bq r a b=true):Comp r (b :: l):=by
 have hp:bQ r b=true:=by unfold bq at hc;simp only [qBa] at hc;exact hc.1.2
 refine ⟨h.shp,?_,fun hk=>?_,fun hk=>?_⟩
 ·intro x hx;rcases List.mem_cons.1 hx with rfl|hx
  ·exact hp
  ·exact h.prm x (by simp [hx])
 ·have h1:a.units+oN l<=r.units:=h.sum hk;have h2:=oO (h.prm a (by simp)) hk;show b.units+oN l<=r.units;unfold bq at hc;rw [if_neg (show ¬r.kind=1 by omega)] at hc;simp only [qBa,Bool.or_eq_true,decide_eq_true_eq] at hc;rcases hc.2 with h3|h3
  ·unfold aR at h3;have h4:=of_decide_eq_true h3;rw [h4];show 0+oN l<=r.units;omega
  ·omega
 ·have hk1:r.kind=1:=by have:=cW h.shp;omega
  obtain ⟨h1,h2⟩:=List.pairwise_cons.1 (h.ok hk);exact List.pairwise_cons.2 ⟨fun c hc2=>JE hk1 hc (h1 c hc2),h2⟩
theorem yj (l:List Ho) (p q:Pr):ah (fL l p) q=if q=p then ⟨0,0⟩ else ah l q:=by
 induction l with
 | nil=>simp [fL,ah]
 | cons x l ih =>
  rw [nU];by_cases hx:x.proc=p
  ·rw [qDt hx,qCt,ih];by_cases hq:q=p
   ·rw [if_pos hq,if_pos hq]
   ·rw [if_neg hq,if_neg hq];show _=bif decide (x.proc=q) then _ else _;rw [qDf (fun e=>hq (e.symm.trans hx)),qCf]
  ·rw [qDf hx,qCf];show (bif decide (x.proc=q) then x.am else ah (fL l p) q)=_;rw [ih];by_cases hq:q=p
   ·rw [if_pos hq,if_pos hq,qDf (fun e=>hx (e.trans hq)),qCf]
   ·rw [if_neg hq,if_neg hq];rfl
theorem DI (x:Ho) (q:Pr):∀l:List Ho,(∀y∈l,y.proc≠x.proc)->ah (oq x l) q=if q=x.proc then x.am else ah l q
 | [],_=>by
  show (bif decide (x.proc=q) then x.am else ⟨0,0⟩)=_;by_cases h:q=x.proc
  ·rw [if_pos h,qDt h.symm];rfl
  ·rw [if_neg h,qDf (fun e=>h e.symm)];rfl
 | y :: l,hl=>by
  have hy:=hl y (by simp);rw [jg];cases decide (0<cl y.proc x.proc) with
  | true =>
   show (bif decide (x.proc=q) then x.am else ah (y :: l) q)=_;by_cases h:q=x.proc
   ·rw [if_pos h,qDt h.symm];rfl
   ·rw [if_neg h,qDf (fun e=>h e.symm)];rfl
  | false =>
   show (bif decide (y.proc=q) then y.am else ah (oq x l) q)=_;rw [DI x q l fun z hz=>hl z (by simp [hz])];by_cases h:q=x.proc
   ·rw [if_pos h,if_pos h,qDf (fun e=>hy (e.trans h)),qCf]
   ·rw [if_neg h,if_neg h];rfl
theorem Hx {l:List Ho} {p:Pr}:∀y∈fL l p,y.proc≠p:=by
 intro y hy;have:=(List.mem_filter.1 hy).2;simpa using this
theorem gf (l:List Ho) (p:Pr) (a:Am) (q:Pr):ah (cw l p a) q=if q=p then a else ah l q:=by
 unfold cw;cases hz:aR a with
 | true =>
  rw [qCt,yj];have:a=⟨0,0⟩:=of_decide_eq_true hz;rw [this]
 | false =>
  rw [qCf,DI ⟨p,a⟩ q _ Hx];show (if q=p then a else ah (fL l p) q)=_;by_cases h:q=p
  ·rw [if_pos h,if_pos h]
  ·rw [if_neg h,if_neg h,yj,if_neg h]
theorem nY (x:Ho):∀l:List Ho,(oq x l).Perm (x :: l)
 | []=>List.Perm.refl _
 | y :: l=>by
  rw [jg];cases decide (0<cl y.proc x.proc) with
  | true=>exact List.Perm.refl _
  | false=>exact ((nY x l).cons y).trans (List.Perm.swap x y l)
theorem DJ {x:Ho}:∀{l:List Ho},(dA l).Pairwise g7->(∀y∈l,y.proc≠x.proc)->(dA (oq x l)).Pairwise g7
 | [],_,_=>by simp [oq,dA]
 | y :: l,h,hn=>by
  have h':(y.proc :: dA l).Pairwise g7:=h;obtain ⟨h1,h2⟩:=List.pairwise_cons.1 h';rw [jg];have hyx:=hn y (by simp);cases hc:decide (0<cl y.proc x.proc) with
  | true =>
   have hlt:g7 x.proc y.proc:=by
    rcases i7 x.proc y.proc with h3|h3|h3
    ·exact h3
    ·exact absurd h3.symm hyx
    ·have:=(i8 _ _).2 h3;have:=of_decide_eq_true hc;omega
   refine List.pairwise_cons.2 ⟨?_,h⟩;intro z hz;rcases List.mem_cons.1 (show z∈y.proc :: dA l from hz) with rfl|hz
   ·exact hlt
   ·exact dt hlt (h1 z hz)
  | false =>
   have hlt:g7 y.proc x.proc:=by
    rcases i7 x.proc y.proc with h3|h3|h3
    ·have h4:0<cl y.proc x.proc:=by
      rcases dV y.proc x.proc with ⟨h5,_⟩|⟨h5,_⟩|⟨_,h6⟩
      ·exact absurd h3 (nO h5)
      ·exact absurd h5 hyx
      ·omega
     rw [qDt h4] at hc;cases hc
    ·exact absurd h3.symm hyx
    ·exact h3
   show (y.proc :: dA (oq x l)).Pairwise g7;refine List.pairwise_cons.2 ⟨?_,DJ h2 fun z hz=>hn z (by simp [hz])⟩;intro z hz;obtain ⟨u,hu,rfl⟩:=List.mem_map.1 hz;rcases List.mem_cons.1 ((nY x l).mem_iff.1 hu) with rfl|hu
   ·exact hlt
   ·exact h1 _ (List.mem_map.2 ⟨u,hu,rfl⟩)
theorem mU {l:List Ho} {p:Pr} (h:ah l p≠⟨0,0⟩):∃x∈l,x.proc=p/\x.am=ah l p:=by
 induction l with
 | nil=>exact absurd rfl h
 | cons x l ih =>
  by_cases hx:x.proc=p
  ·refine ⟨x,by simp,hx,?_⟩;show x.am=bif decide (x.proc=p) then x.am else ah l p;rw [qDt hx];rfl
  ·have e:ah (x :: l) p=ah l p:=by
    show (bif decide (x.proc=p) then x.am else ah l p)=_;rw [qDf hx];rfl
   rw [e] at h ⊢;obtain ⟨y,h1,h2⟩:=ih h;exact ⟨y,by simp [h1],h2⟩
structure Hv (r:Rs) (l:List Ho):Prop where
 shp:br r=true
 len:l.length<=8
 fit:∀x∈l,jW x.proc=true/\aS r x.am=true
 asc:(dA l).Pairwise g7
 cmp:Comp r (js l)
theorem Hy {r:Rs} {l:List Ho}:zX r l=true↔Hv r l:=by
 unfold zX;simp only [qBa,decide_eq_true_eq,DH,JC];constructor
 ·rintro ⟨⟨⟨h1,h2⟩,h3,h4,_⟩,h5⟩;exact ⟨h1,h2,h3,h4,h5⟩
 ·rintro ⟨h1,h2,h3,h4,h5⟩;exact ⟨⟨⟨h1,h2⟩,h3,h4,fun q hq=>by cases hq⟩,h5⟩
theorem sq {l:List Ho} {x:Ho} (ha:(dA l).Pairwise g7) (hx:x∈l):l.Perm (x :: fL l x.proc):=by
 induction l with
 | nil=>cases hx
 | cons y l ih =>
  have ha':(y.proc :: dA l).Pairwise g7:=ha;obtain ⟨h1,h2⟩:=List.pairwise_cons.1 ha';rw [nU];rcases List.mem_cons.1 hx with rfl|hx
  ·rw [qDt rfl,qCt];have:fL l x.proc=l:=by
    unfold fL;rw [List.filter_eq_self];intro z hz;have h3:=h1 z.proc (List.mem_map.2 ⟨z,hz,rfl⟩);have h4:z.proc≠x.proc:=fun e=>co _ (e▸h3);simpa using h4
   rw [this]
  ·have h3:=h1 x.proc (List.mem_map.2 ⟨x,hx,rfl⟩);have h4:y.proc≠x.proc:=fun e=>co _ (e▸h3);rw [qDf h4,qCf];exact ((ih h2 hx).cons y).trans (List.Perm.swap x y _)
theorem DK {l:List Ho} (p:Pr) (h:(dA l).Pairwise g7):(dA (fL l p)).Pairwise g7:=by
 unfold dA fL;exact h.sublist ((List.filter_sublist).map _)
theorem DL {l:List Ho} {p:Pr} (h:∀x∈l,x.proc≠p):fL l p=l:=by
 unfold fL;rw [List.filter_eq_self];intro x hx;simpa using h x hx
theorem Hv.fil {r:Rs} {l:List Ho} (h:Hv r l) (p:Pr):Hv r (fL l p):=by
 refine ⟨h.shp,Nat.le_trans (py l p) h.len,fun x hx=>h.fit x (List.mem_filter.1 hx).1,DK p h.asc,?_⟩;by_cases hp:∃x∈l,x.proc=p
 ·obtain ⟨x,hx,rfl⟩:=hp;exact (h.cmp.perm ((sq h.asc hx).map _)).tail
 ·rw [DL fun x hx e=>hp ⟨x,hx,e⟩];exact h.cmp
theorem Hv.lower {r:Rs} {l:List Ho} (h:Hv r l) {p:Pr} {a:Am} (hc:bq r (ah l p) a=true) (h0:ah l p≠⟨0,0⟩):Hv r (cw l p a)/\(cw l p a).length<=l.length:=by
 unfold cw;cases hz:aR a with
 | true=>exact ⟨h.fil p,py l p⟩
 | false =>
  obtain ⟨x,hx,hp,ham⟩:=mU h0;subst hp;rw [<-ham] at hc;have hs:=sq h.asc hx;have hl:(fL l x.proc).length+1=l.length:=by rw [hs.length_eq];rfl
  have hlen:(oq ⟨x.proc,a⟩ (fL l x.proc)).length=l.length:=by rw [pz,hl]
  rw [qCf];refine ⟨⟨h.shp,by rw [hlen];exact h.len,?_,DJ (DK _ h.asc) Hx,?_⟩,Nat.le_of_eq hlen⟩
  ·intro y hy;rcases List.mem_cons.1 ((nY _ _).mem_iff.1 hy) with rfl|hy
   ·refine ⟨(h.fit x hx).1,?_⟩;unfold bq bQ at hc;simp only [qBa,Bool.or_eq_true] at hc;rcases hc.1.2.2 with h1|h1
    ·rw [hz] at h1;cases h1
    ·exact h1
   ·exact h.fit y (List.mem_filter.1 hy).1
  ·have h1:Comp r (x.am :: js (fL l x.proc)):=h.cmp.perm (hs.map _);have h2:=h1.lower hc;exact h2.perm (by have:=(nY ⟨x.proc,a⟩ (fL l x.proc)).symm.map Ho.am;exact this)
theorem eP {P:Program} {o:Oper} {s:Mst} {t e:TypeId} {x:Operand} {k n:Nat} [SE P t e] (ho:o.op = .call { callee:=.builtin .len,args:=#[x],argTypes:=#[t] }) (hx:s.ev x = .c (.slb k n)):LOp P o s [] ⟨.i n,[],[]⟩ :=
 jw (ty:=0) ho fun c st ρ a w hr he _=>by
  have hv:=hr.ev x;rw [he,hx] at hv;obtain ⟨g,_,hv⟩:=hv;exact ⟨_,_,hv⟩
theorem bK {P:Program} {o:Oper} {s:Mst} {t e:TypeId} {x y:Operand} {row:Bool} {n i k m:Nat} {kd:IntKind} {z:Int} (ho:o.op = .indexAddr t x y) (hx:s.ev x = .c (.slb k m)) (hy:s.ev y = .c (.sc (.int kd z))) [SE P t e] [TI P e row n] (hz:z=(i:Int)) (hi:i<m) :
  LOp P o s [] ⟨.c (.ptr k (i*n)),[],[]⟩ :=
 bY fun c st ρ a w hr h1 _=>by
  have he:=h1 x (by simp [ho,Op.operands]);have he2:=h1 y (by simp [ho,Op.operands]);rw [hx] at he;rw [hy] at he2;have hv:=hr.ev x;rw [he] at hv;have hv2:=hr.ev y;rw [he2] at hv2;obtain ⟨g,hg,hv⟩:=hv;have hv2:a.eval y = .int kd z:=hv2;subst hz;refine ⟨.pointer (some ⟨g,i*n,none⟩),by unfold execOp;rw [ho];simp only [hv,hv2,Sem.run_bind,jL w m m i hi,Result.andThen_ok,Sem.run_pure,Nat.zero_add],⟨g,hg,rfl⟩,fun k' hk=>hr.nf (x:=x) he hk⟩
theorem nF {e:MapEntry}:∀{l:List (Value×Value)} {i:Nat},e∈fM i l↔∃j,l[j]? = some (e.key,e.val)/\e.born=i+j
 | [],i=>by simp [fM]
 | x :: l,i=>by
  show e∈(⟨x.1,x.2,i⟩ :: fM (i+1) l)↔_;rw [List.mem_cons,nF];constructor
  ·rintro (rfl|⟨j,h1,h2⟩)
   ·exact ⟨0,rfl,rfl⟩
   ·exact ⟨j+1,by simpa using h1,by omega⟩
  ·rintro ⟨j,h1,h2⟩;cases j with
   | zero =>
    have h1:some x=some (e.key,e.val):=h1;injection h1 with h1;subst h1;exact .inl (by cases e;simp_all)
   | succ j=>exact .inr ⟨j,by simpa using h1,by omega⟩
theorem Br:∀{l:List (Value×Value)} {i:Nat},((fM i l).map (·.born)).Nodup/\∀x∈fM i l,i<=x.born
 | [],i=>by simp [fM]
 | x :: l,i=>by
  obtain ⟨h1,h2⟩:=Br (l:=l) (i:=i+1);constructor
  ·show (i :: (fM (i+1) l).map (·.born)).Nodup;refine List.nodup_cons.2 ⟨fun h=>?_,h1⟩;obtain ⟨y,hy,e⟩:=List.mem_map.1 h;have:=h2 y hy;omega
  ·intro y hy;rcases List.mem_cons.1 hy with rfl|hy
   ·exact Nat.le_refl _
   ·exact Nat.le_of_succ_le (h2 y hy)
section
variable {P:Program} {nt:Nat} {Ks:List Nat} {Q:Exit->Mst->Prop} {s:Mst} {o o2:Oper} {L:List (Value×Value)}
theorem Bt {t k r K E:Nat} {x:Operand} (ht:P.underlying t=some (.map K E)) (ho:o.op = .range t x) (hdk:o.dst=some r) (hx:s.ev x = .c (.own k)) (hk:s.h k=some (.mp L)):LOp P o s [k] ⟨.c (.own r),[(r,some (.it k L.length []))],[r]⟩:=by
 intro c st ρ a w hr h1 h2 h3 h4;have e1:=h1 x (by simp [ho,Op.operands]);have hv1:=hr.ev x;rw [e1,hx] at hv1;have hv1:a.eval x=ρ k:=hv1;have hk':=(h2 k (by simp [aX])).trans hk;obtain ⟨g,hg,hb⟩:=hr.hp k _ hk';have hfr:st.f r=true:=h3 r (by simp [aX]);have hkr:r≠k:=fun e=>by rw [e,hr.nfh hk'] at hfr;cases hfr
 have hkk:∀k':Nat,aL [(r,some (Box.it k L.length []))] k'=true->k'=r:=fun k' h=>by
  exact UM
 refine Oper.wp_value (v:=.pointer (some ⟨w.heap.size,0,none⟩)) (w':=w.alloc (.mapIter (some g) L.length #[] L.length)) ?_ ⟨upd ρ r (.pointer (some ⟨w.heap.size,0,none⟩)),hr.app (e:=⟨.c (.own r),[(r,some (.it k L.length []))],[r]⟩) h4 (fun k' h=>?_) (fun k' h=>?_) (fun k' h=>.inl ?_) (Frx.alloc _ _ _) (fun k' bx g' h _ hg'=>?_) (fun k1 k2 _ _ _ h h' _ _ _ _=>?_) (fun k' h=>.inl ?_) (fun k1 k2 bx h hp hx=>?_) (fun k2 bx h hp=>?_) ?_⟩
 ·have hl:(fM 0 L).toArray.size=L.length\/True:=.inr trivial;unfold execOp;rw [ho];have hb':=hb;unfold mQ at hb';simp [Instr.range,hv1,hg,run_underlying ht,MapKept.run_getObj_map hb',Result.andThen]
 ·have:k'=r:=by simp [aX] at h;exact h.symm
  subst this;exact ⟨hfr,by simp [aL]⟩
 ·exact dW (by simpa [aX] using h)
 ·rw [hkk k' h];simp [aX]
 ·exact U1
 ·exact VM
 ·have:k'=r:=by simp [TV.has,V0.has,D.has] at h;exact h.symm
  subst this;simp [aX]
 ·rw [hkk k2 h] at hp;simp only [hput,Nat.beq_refl,qCt,Option.some.injEq] at hp;subst hp;simp only [Box.has] at hx;rw [<-qNb hx];exact .inr (hr.nfh hk')
 ·rw [hkk k2 h] at hp ⊢;simp only [hput,Nat.beq_refl,qCt,Option.some.injEq] at hp;subst hp;rw [aW];refine ⟨_,g,rfl,?_,(MapKept.heap_alloc w _).1⟩;rw [dW (by cases h9:r.beq k with|false=>rfl|true=>exact absurd (qNb h9) hkr),hg]
 ·exact (aW _ _ _).symm
theorem sN {r k n j:Nat} {x:Operand} {seen:List Nat} {y:V0} {key val:Value} (ho:o.op = .entry x) (hx:s.ev x = .c (.own r)) (hr0:s.h r=some (.it k n (seen++[j]))) (hk:s.h k=some (.mp L)) (hn:n=L.length) (hj:L[j]? = some (key,val)) (hy:∀w F ρ,y.rep w F ρ val) (hyn:∀i,y.has i=false):LOp P o s [r,k] ⟨.tup [.one (.sc key),y],[],[]⟩ :=
 bY fun c st ρ a w hr h1 h2=>by
  have e1:=h1 x (by simp [ho,Op.operands]);have hv1:=hr.ev x;rw [e1,hx] at hv1;have hv1:a.eval x=ρ r:=hv1;obtain ⟨g,m,hg,hm,hit⟩:=hr.hp r _ ((h2 r (by simp [aX])).trans hr0);obtain ⟨g',hg',hb⟩:=hr.hp k _ ((h2 k (by simp [aX])).trans hk);have em:m=g':=by rw [hm] at hg';injection hg' with h;injection h
  subst em;subst hn;have hmem:(⟨key,val,j⟩:MapEntry)∈fM 0 L:=nF.2 ⟨j,hj,by simp⟩;have hrun:=run_entry_at (P:=P) w g m L.length seen.toArray (fM 0 L).toArray L.length ⟨key,val,j⟩ (by rw [hit];simp) hb (by simpa using hmem) (by simpa using Br.1);refine ⟨.tuple #[key,val],?_,⟨[key,val],rfl,rfl,hy _ _ _,trivial⟩,fun i hi=>?_⟩
  ·unfold execOp;rw [ho];simp only [hv1,hg,Sem.run_bind,hrun,Result.andThen_ok,Sem.run_pure]
  ·have hi:(V0.has i (.one (.sc key)) || (y.has i || false))=true:=hi;rw [hyn i] at hi;cases hi
theorem IB {id t t2 r k n:Nat} {x:Operand} {seen:List Nat} (ho:o.op = .next x false) (hg:o.guard=none) (hd:o.dst=some t) (ho2:o2.op = .extract (.tmp t) 0) (hg2:o2.guard=none) (hd2:o2.dst=some t2) (ht:Nat.blt t nt=true) (ht2:Nat.blt t2 nt=true)
  (hx:s.ev x = .c (.own r)) (hr0:s.h r=some (.it k n seen)) (hk:s.h k=some (.mp L)) (hn:n=L.length)
  (h1:∀j,j<n->j ∉ seen->Q .normal ((s.app (some t) ⟨.tup [.one (.sc (.bool true)),.one .any,.one .any],[(r,some (.it k n (seen++[j])))],[]⟩).app (some t2) ⟨.b true,[],[]⟩))
  (h2:(∀j,j<n->j∈seen)->Q .normal ((s.app (some t) ⟨.tup [.one (.sc (.bool false))],[],[]⟩).app (some t2) ⟨.b false,[],[]⟩)):AW P nt Ks (.region id [o,o2].toArray false) Q s:=by
 intro c ρ a w hc _ hr;subst hc;subst hn;have hv1:=hr.ev x;rw [hx] at hv1;have hv1:a.eval x=ρ r:=hv1;obtain ⟨g,m,hg0,hm,hit⟩:=hr.hp r _ hr0;obtain ⟨g',hg',hb⟩:=hr.hp k _ hk;have em:m=g':=by rw [hm] at hg';injection hg' with h;injection h
 subst em;have hdt:∀d,o.dst=some d->d<c.nt:=fun d h=>by rw [hd] at h;injection h with h;subst h;exact qNl ht
 have hdt2:∀d,o2.dst=some d->d<c.nt:=fun d h=>by rw [hd2] at h;injection h with h;subst h;exact qNl ht2
 have hkb:kb (ρ r)=some g:=by rw [hg0];rfl
 have hkk:∀(b:Box) (k':Nat),aL [(r,some b)] k'=true->k'=r:=fun b k' h=>by
  exact UM
 have fin:∀(s1:Mst) (a1:Act) (w1:World) (b:Bool) (l:List V0),Rp c s1 ρ a1 w1->s1.t t = .tup (.one (.sc (.bool b)) :: l)->Q .normal (s1.app (some t2) ⟨.b b,[],[]⟩)->wpList P [o,o2].toArray (fun e a' w'=>∃s' ρ',Q e s'/\Rp c s' ρ' a' w') [o2] a1 w1:=by
  intro s1 a1 w1 b l hr1 h9 hq;have hl:=uW (P:=P) (o:=o2) (s:=s1) (x:=.tmp t) (i:=0) (y:=.one (.sc (.bool b))) ho2 h9 rfl;refine wpList_step fun K' hK'=>?_;have hw:Region.wanted o2 (yielded [o,o2].toArray a1.tmps)=true:=by unfold Region.wanted;rw [hg2]
  rw [if_pos hw];refine Oper.wp_post (hl c s1 ρ a1 w1 hr1 (fun _ _=>rfl) (fun _ _=>rfl) (fun k hk=>by simp [aX] at hk) hdt2) ?_;rintro a' w' ⟨ρ',hr'⟩;rw [hd2] at hr';exact hK' _ _ (wpList_nil ⟨_,ρ',hq,hr'⟩)
 refine wp_region_lit (wpList_step fun K' hK'=>?_);have hw:Region.wanted o (yielded [o,o2].toArray a.tmps)=true:=by unfold Region.wanted;rw [hg]
 rw [if_pos hw];have hnx:=run_next_at (P:=P) w o.type g m L.length L.length seen.toArray (fM 0 L).toArray L.length hit hb (fun x hx=>by
  obtain ⟨j,h,e⟩:=nF.1 (by simpa using hx);have:=(List.getElem?_eq_some_iff.1 h).1;omega) (Nat.le_refl _)
 rcases hnx with ⟨h0,hrun⟩|⟨e,he,w1,hw1,hrun⟩
 ·refine Oper.wp_value (v:=.tuple #[.bool false]) (w':=w) ?_ (hK' _ _ (fin (s.app (some t) ⟨.tup [.one (.sc (.bool false))],[],[]⟩) _ _ false [] ?_ ?_ (h2 fun j hj=>?_)))
  ·unfold execOp;rw [ho];simp only [hv1,hg0,Sem.run_bind,hrun,Result.andThen_ok,Sem.run_pure]
  ·rw [hd];exact hr.app (e:=⟨.tup [.one (.sc (.bool false))],[],[]⟩) (fun d h=>hdt d (hd.trans h)) (fun k hk=>by simp [aX] at hk) (fun _ _=>rfl) (fun k hk=>by simp [aL] at hk) (Frx.refl _ _) (fun k bx g hk=>by simp [aL] at hk) (fun k k' b b' g hk=>by simp [aL] at hk) (fun k h=>by simp [TV.has,V0.has,D.has] at h) (fun k k' bx hk=>by simp [aL] at hk) (fun k bx hk=>by simp [aL] at hk) ⟨[.bool false],rfl,rfl,trivial⟩
  ·simp [Mst.app,mw]
  ·have hle:leftOf (fM 0 L).toArray seen.toArray = #[]:=Array.eq_empty_of_size_eq_zero h0;have hmem:(⟨(L[j]).1,(L[j]).2,j⟩:MapEntry)∈fM 0 L:=nF.2 ⟨j,qGg hj,by simp⟩;unfold leftOf at hle;rw [Array.filter_eq_empty_iff] at hle;have:=hle _ (by simpa using hmem);simpa using this
 ·obtain ⟨he1,he2⟩:e∈fM 0 L/\e.born ∉ seen:=by unfold leftOf at he;simpa using he
  obtain ⟨j,hj,ej⟩:=nF.1 he1;rw [Nat.zero_add] at ej;have hjl:=(List.getElem?_eq_some_iff.1 hj).1;have hr1:Rp c s ρ a w1:=by
   rcases hw1 with rfl|rfl
   ·exact hr
   ·exact hr.drew
  have hit1:w1.heap[g]? = some (.mapIter (some m) L.length seen.toArray L.length):=by rcases hw1 with rfl|rfl <;> exact hit
  have hset:=MapKept.heap_set (o':=.mapIter (some m) L.length (seen.toArray.push e.born) L.length) hit1;have hlt:g<w1.heap.size:=(Array.getElem?_eq_some_iff.1 hit1).1;have hkr:k≠r:=fun e=>by rw [e,hr0] at hk;cases hk
  refine Oper.wp_value (v:=.tuple #[.bool true,e.key,e.val]) (w':=ChangeMaps.setBlock w1 g (.mapIter (some m) L.length (seen.toArray.push e.born) L.length)) ?_ (hK' _ _ (fin (s.app (some t) ⟨.tup [.one (.sc (.bool true)),.one .any,.one .any],[(r,some (.it k L.length (seen++[j])))],[]⟩) _ _ true [.one .any,.one .any] ?_ ?_ (h1 j hjl (ej▸he2))))
  ·unfold execOp;rw [ho];simp only [hv1,hg0,Sem.run_bind,hrun,Result.andThen_ok,Sem.run_pure]
  ·rw [hd];refine hr1.app (e:=⟨.tup [.one (.sc (.bool true)),.one .any,.one .any],[(r,some (.it k L.length (seen++[j])))],[]⟩) (fun d h=>hdt d (hd.trans h)) (fun k hk=>by simp [aX] at hk) (fun _ _=>rfl) (fun k' h=>.inr (by rw [hkk _ k' h];exact hr.nfh hr0)) ⟨rfl,rfl,rfl,by simp [ChangeMaps.setBlock],fun b hlt hn=>hset.2 b fun e=>hn ⟨r,_,by simp [aL],hr0,by rw [hkb,e]⟩⟩ ?_ ?_ (fun k h=>by simp [TV.has,V0.has,D.has] at h) ?_ ?_ ⟨[.bool true,e.key,e.val],rfl,rfl,trivial,trivial,trivial⟩
   ·intro k' bx g' h _ hg';rw [hkk _ k' h,hkb] at hg';injection hg' with hg';subst hg';exact ⟨by simpa [ChangeMaps.setBlock] using hlt,.inr ⟨r,_,by simp [aL],hr0,hkb⟩⟩
   ·intro k1 k2 _ _ _ h h' _ _ _ _;rw [hkk _ k1 h,hkk _ k2 h']
   ·intro k1 k2 bx h hp hx;rw [hkk _ k2 h] at hp;simp only [hput,Nat.beq_refl,qCt,Option.some.injEq] at hp;subst hp;simp only [Box.has] at hx;rw [<-qNb hx];exact .inr (hr.nfh hk)
   ·intro k2 bx h hp;rw [hkk _ k2 h] at hp ⊢;simp only [hput,Nat.beq_refl,qCt,Option.some.injEq] at hp;subst hp;refine ⟨g,m,hg0,hm,?_⟩;have:(ChangeMaps.setBlock w1 g (.mapIter (some m) L.length (seen.toArray.push e.born) L.length)).heap[g]? = some (.mapIter (some m) L.length (seen.toArray.push e.born) L.length):=hset.1;rw [this,ej];simp
  ·simp [Mst.app,mw]
end
end Go.Proofs.YthpgjkjgkhjjlaaGreatDoor
