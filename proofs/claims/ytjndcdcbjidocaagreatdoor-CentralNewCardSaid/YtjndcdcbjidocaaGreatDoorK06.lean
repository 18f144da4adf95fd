/- Part 6 of 35 of the proof of centralNew_holds (no condition). -/
import Derived.Test.YtjndcdcbjidocaaGreatDoorK05
import Derived.KernelRfl
set_option linter.unusedVariables false
set_option linter.unusedSimpArgs false
set_option maxRecDepth 100000
set_option maxHeartbeats 64000000
namespace Go.Proofs.YtjndcdcbjidocaaGreatDoor
open Go.RowKit
class TI (P:Program) (t:TypeId) (row:outParam Bool) (n:outParam Nat):Prop where
 u:∃d,P.underlying t=some d∧(match d with | .struct _ | .array _ _=>true|_=>false)=row
 s:(P.info? t).map (·.size)=some n
class FO (P:Program) (t:TypeId) (f:Nat) (off:outParam Nat) (ft:outParam TypeId):Prop where
 u:∃fs x i,P.underlying t=some (.struct fs)∧fs[f]? = some x∧x.offset=off∧x.type=ft∧P.info? ft=some i∧i.size≠0
class SE (P:Program) (t:TypeId) (e:outParam TypeId):Prop where
 u:P.underlying t=some (.slice e)
class TZ (P:Program) (t:TypeId) (zs:outParam (List Value)):Prop where
 z:∃i v,P.info? t=some i∧i.zero=some v∧v.cells=zs.toArray
 o:∀u∈zs,u.oneCell'=true
 n:(P.info? t).map (·.size)=some zs.length
class Dp {α:Type} (E:El α) where
 deep:α→List D
 get:∀{w:World} {F:Nat→Prop} {ρ:Nat→Value} {x:α} {cs:List Value},E.rep w F x cs→All2 (D.rep w F ρ) (deep x) cs
 put:∀{w:World} {F:Nat→Prop} {ρ:Nat→Value} {x:α} {cs:List Value},All2 (D.rep w F ρ) (deep x) cs→E.rep w F x cs
 nok:∀x k,(deep x).any (D.has k)=false
theorem Dp.len {α:Type} {E:El α} [I:Dp E] {w:World} {F:Nat→Prop} {x:α} {cs:List Value} (h:E.rep w F x cs):(I.deep x).length=E.n:=by
 rw [(I.get (ρ:=fun _=>undef) h).length,E.len h]
theorem fB (b off j:Nat):(Addr.mk b off none).add j=⟨b,off+j,none⟩:=cL b off j
section
variable {P:Program} {o:Oper} {s:Mst} {R:List Nat} {d:TV}
theorem Oper.wp_value {a:Act} {w w':World} {v:Value} {K:Act→World→Prop} {Q:Exit→Act→World→Prop} (h:(execOp a.eval o).run P w = .ok (.value v) w') (hK:K (a.put o.dst v) w'):o.wp P a w K Q:=by
 unfold Oper.wp
 rw [h]
 exact hK
theorem Oper.wp_skip {a:Act} {w w':World} {K:Act→World→Prop} {Q:Exit→Act→World→Prop} (h:(execOp a.eval o).run P w = .ok .skip w') (hK:K (a.put o.dst undef) w'):o.wp P a w K Q:=by
 unfold Oper.wp
 rw [h]
 exact hK
theorem Em {c:Ctx} {a:Act} {dst:Option Nat} {v:Value} (hs:a.tmps.size=c.nt) (hd:∀d,dst=some d→d<c.nt) (t:Nat) :
  (a.put dst v).tmps.getD t undef=if dst=some t then v else a.tmps.getD t undef:=by
 cases dst with
 | none=>simp [Act.put]
 | some d =>
  by_cases e:d=t
  ·subst e
   have:d<a.tmps.size:=by rw [hs];exact hd d rfl
   simp [Act.put,Array.getD_eq_getD_getElem?,this]
  ·have h1:¬(some d=some t):=fun h=>e (by injection h)
   rw [if_neg h1]
   simp [Act.put,Array.getD_eq_getD_getElem?,Array.getElem?_setIfInBounds_ne e]
theorem BT {a:Act} {dst:Option Nat} {v:Value}:(a.put dst v).tmps.size=a.tmps.size:=by cases dst <;> simp [Act.put]
theorem xn {a:Act} {dst:Option Nat} {v:Value}:(a.put dst v).defers=a.defers:=by cases dst <;> rfl
theorem yF (dst:Option Nat) (d:TV) (t:Nat→TV) (n:Nat):jj dst d t n=if dst=some n then d else t n:=by
 by_cases h:dst=some n
 ·subst h;simp [jj]
 ·rw [if_neg h,tE h]
theorem tH {l:List (Nat×Option Box)} {h:Nat→Option Box} {k:Nat} (h1:h k=none) (h2:aA l k=false):hput l h k=none:=by rw [bO h2,h1]
theorem Rp.app {c:Ctx} {st:Mst} {ρ ρ':Nat→Value} {a:Act} {w w':World} {dst:Option Nat} {e:Mef} {v:Value} (hr:Rp c st ρ a w) (hdst:∀d,dst=some d→d<c.nt)
  (hu:∀k,aI e.us k=true→st.f k=true∧aA e.hs k=true)
  (hpl:∀k,aI e.us k=false→ρ' k=ρ k)
  (hex:∀k,aA e.hs k=true→aI e.us k=true∨st.f k=false)
  (hfw:Frx w w' fun b=>∃k bx,aA e.hs k=true∧st.h k=some bx∧kb (ρ k)=some b)
  (hnb:∀k bx g,aA e.hs k=true→hput e.hs st.h k=some bx→kb (ρ' k)=some g→g<w'.heap.size∧(w.heap.size≤g∨∃k0 b0,aA e.hs k0=true∧st.h k0=some b0∧kb (ρ k0)=some g))
  (hds:∀k k' b b' g,aA e.hs k=true→aA e.hs k'=true→hput e.hs st.h k=some b→hput e.hs st.h k'=some b'→kb (ρ' k)=some g→kb (ρ' k')=some g→k=k')
  (hkd:∀k,e.d.has k=true→aI e.us k=true∨st.f k=false)
  (hkb:∀k k' bx,aA e.hs k'=true→hput e.hs st.h k'=some bx→bx.has k=true→aI e.us k=true∨st.f k=false)
  (hnew:∀k bx,aA e.hs k=true→hput e.hs st.h k=some bx→bx.rep w' (Fz c (hput e.hs st.h) ρ' w') ρ' (ρ' k))
  (hv:e.d.rep w' (Fz c (hput e.hs st.h) ρ' w') ρ' v):Rp c (st.app dst e) ρ' (a.put dst v) w':=by
 have hst:Stp c st (st.app dst e) ρ ρ' w w' fun k=>aA e.hs k=true:=by
  refine ⟨fun k hk=>bO (by simpa using hk),fun k hk=>hpl k ?_,fun k hk=>?_,hfw,hnb,hds⟩
  ·cases h:aI e.us k with
   | false=>rfl
   | true=>rw [(hu k h).1] at hk;cases hk
  ·simp only [Mst.app,Bool.and_eq_true] at hk
   exact hk.1
 have ff:∀k,(st.app dst e).f k=true→st.f k=true∧aI e.us k=false:=fun k hk=>by simpa [Mst.app] using hk
 refine hr.step hst ?_ ?_ ⟨fun k hk=>?_,fun k t hk=>?_,fun k k' b hk hb=>?_⟩ (fun k hk=>?_) hnew fun t=>?_
 ·rw [xn];exact hr.dfr
 ·rw [BT];exact hr.siz
 ·obtain ⟨h1,h2⟩:=ff k hk
  refine tH (hr.wf.h k h1) ?_
  cases h:aA e.hs k with
  | false=>rfl
  | true=>rcases hex k h with h3|h3 <;> simp_all
 ·obtain ⟨h1,h2⟩:=ff k hk
  show (jj dst e.d st.t t).has k=false
  rw [yF]
  split
  ·cases h:e.d.has k with
   | false=>rfl
   | true=>rcases hkd k h with h3|h3 <;> simp_all
  ·exact hr.wf.t k t h1
 ·obtain ⟨h1,h2⟩:=ff k hk
  have hb:hput e.hs st.h k'=some b:=hb
  cases h:aA e.hs k' with
  | false=>rw [bO h] at hb;exact hr.wf.b k k' b h1 hb
  | true =>
   cases h4:b.has k with
   | false=>rfl
   | true=>rcases hkb k k' b h hb h4 with h3|h3 <;> simp_all
 ·simp [Mst.app,(hr.ent k hk).2]
 ·show (jj dst e.d st.t t).rep _ _ _ _
  rw [yF,Em hr.siz hdst]
  by_cases h:dst=some t
  ·rw [if_pos h,if_pos h];exact hv
  ·rw [if_neg h,if_neg h];exact hr.old hst (hr.tmp t) fun k hk=>hr.wf.t k t hk
theorem bj (h:∀(c:Ctx) (st:Mst) (ρ:Nat→Value) (a:Act) (w:World),Rp c st ρ a w→(∀x,x∈o.op.operands→st.ev x=s.ev x)→(∀k,aI R k=true→st.h k=s.h k)→
  ∃v,(execOp a.eval o).run P w = .ok (.value v) w∧d.rep w (Fz c st.h ρ w) ρ v∧∀k,d.has k=true→st.f k=false):LOp P o s R ⟨d,[],[]⟩:=by
 intro c st ρ a w hr h1 h2 _ h4
 obtain ⟨v,hv,hd,hk⟩:=h c st ρ a w hr h1 h2
 refine Oper.wp_value hv ⟨ρ,hr.app (e:=⟨d,[],[]⟩) h4 (fun k hk=>by simp [aI] at hk) (fun _ _=>rfl) (fun k hk=>by simp [aA] at hk) (Frx.refl _ _) (fun k bx g hk=>by simp [aA] at hk) (fun k k' b b' g hk=>by simp [aA] at hk) (fun k h=>.inr (hk k h)) (fun k k' bx hk=>by simp [aA] at hk) (fun k bx hk=>by simp [aA] at hk) hd⟩
theorem Rp.nf {c:Ctx} {st:Mst} {ρ:Nat→Value} {a:Act} {w:World} (hr:Rp c st ρ a w) {x:Operand} {d:TV} (hx:st.ev x=d) {k:Nat} (hk:d.has k=true):st.f k=false:=by
 subst hx
 cases hf:st.f k with
 | false=>rfl
 | true =>
  exfalso
  cases x with
  | tmp t=>have:=hr.wf.t k t hf;simp only [Mst.ev] at hk;rw [this] at hk;cases hk
  | const v =>
   have:(tC v).has k=false:=by
    unfold tC
    split
    ·simp [TV.has,V0.has,D.has]
    ·rfl
   simp only [Mst.ev] at hk;rw [this] at hk;cases hk
  | global g=>simp [Mst.ev,TV.has,V0.has,D.has] at hk
  | func f=>simp [Mst.ev,TV.has,V0.has,D.has] at hk
theorem Rp.nfb {c:Ctx} {st:Mst} {ρ:Nat→Value} {a:Act} {w:World} (hr:Rp c st ρ a w) {k':Nat} {b:Box} (hx:st.h k'=some b) {k:Nat} (hk:b.has k=true):st.f k=false:=by
 cases hf:st.f k with
 | false=>rfl
 | true=>rw [hr.wf.b k k' b hf hx] at hk;cases hk
theorem Rp.nfh {c:Ctx} {st:Mst} {ρ:Nat→Value} {a:Act} {w:World} (hr:Rp c st ρ a w) {k:Nat} {b:Box} (hx:st.h k=some b):st.f k=false:=by
 cases hf:st.f k with
 | false=>rfl
 | true=>rw [hr.wf.h k hf] at hx;cases hx
theorem n4 {l:List D} {d:D} {i k:Nat} (h:l[i]? = some d) (hk:d.has k=true):l.any (D.has k)=true:=List.any_eq_true.2 ⟨d,List.mem_of_getElem? h,hk⟩
theorem n5 {l m:List D} {k:Nat} (h:∀d∈l,d∈m) (hk:l.any (D.has k)=true):m.any (D.has k)=true:=by
 obtain ⟨d,hd,h1⟩:=List.any_eq_true.1 hk
 exact List.any_eq_true.2 ⟨d,h d hd,h1⟩
theorem tI {x:Operand} (ho:o.op = .move x∨o.op = .assign x) (hx:s.ev x=d):LOp P o s [] ⟨d,[],[]⟩ :=
 bj fun c st ρ a w hr h1 _=>by
  have he:=h1 x (by rcases ho with ho|ho <;> simp [ho,Op.operands])
  rw [hx] at he
  exact ⟨a.eval x,by unfold execOp;rcases ho with ho|ho <;> rw [ho] <;> rfl,by have:=hr.ev x;rwa [he] at this,fun k hk=>hr.nf he hk⟩
theorem BU {x:Operand} {y:V0} (ho:o.op = .move x) (hx:s.ev x = .v y):LOp P o s [] ⟨.v y,[],[]⟩:=tI (.inl ho) hx
theorem xo {x:Operand} {y:V0} (ho:o.op = .assign x) (hx:s.ev x = .v y):LOp P o s [] ⟨.v y,[],[]⟩:=tI (.inr ho) hx
theorem xp {x:Operand} {y:List V0} (ho:o.op = .move x) (hx:s.ev x = .tup y):LOp P o s [] ⟨.tup y,[],[]⟩:=tI (.inl ho) hx
theorem Eo {x:Operand} {u r:Value} (hop:o.op.operands = #[x]) (hx:s.ev x = .c (.sc u)) (h:∀(ev:Operand→Value) (w:World),ev x=u→(execOp ev o).run P w = .ok (.value r) w):LOp P o s [] ⟨.c (.sc r),[],[]⟩ :=
 bj fun c st ρ a w hr h1 _=>by
  have he:=h1 x (by simp [hop])
  rw [hx] at he
  have hu:a.eval x=u:=by have:=hr.ev x;rwa [he] at this
  exact ⟨r,h _ _ hu,rfl,fun k hk=>by simp [TV.has,V0.has,D.has] at hk⟩
theorem gT {x y:Operand} {u u' r:Value} (hop:o.op.operands = #[x,y]) (hx:s.ev x = .c (.sc u)) (hy:s.ev y = .c (.sc u')) (h:∀(ev:Operand→Value) (w:World),ev x=u→ev y=u'→(execOp ev o).run P w = .ok (.value r) w):LOp P o s [] ⟨.c (.sc r),[],[]⟩ :=
 bj fun c st ρ a w hr h1 _=>by
  have he:=h1 x (by simp [hop])
  have he2:=h1 y (by simp [hop])
  rw [hx] at he
  rw [hy] at he2
  have hu:a.eval x=u:=by have:=hr.ev x;rwa [he] at this
  have hu2:a.eval y=u':=by have:=hr.ev y;rwa [he2] at this
  exact ⟨r,h _ _ hu hu2,rfl,fun k hk=>by simp [TV.has,V0.has,D.has] at hk⟩
theorem jE {s':TypeId} {f off g p:Nat} {ft:TypeId} [I:FO P s' f off ft] (w:World):(Instr.fieldAt s' (.pointer (some ⟨g,p,none⟩)) f).run P w = .ok (.pointer (some ⟨g,p+off,none⟩)) w:=by
 obtain ⟨fs,x,i,h1,h2,h3,h4,h5,h6⟩:=I.u
 subst h3
 subst h4
 simp [Instr.fieldAt,run_underlying h1,h2,Instr.sureAddr,fieldPlace,sizeOf,typeInfo,h5,h6,fB]
theorem Ad {s':TypeId} {x:Operand} {f k p off:Nat} {ft:TypeId} (ho:o.op = .fieldAddr s' x f) (hx:s.ev x = .c (.ptr k p)) [FO P s' f off ft]:LOp P o s [] ⟨.c (.ptr k (p+off)),[],[]⟩ :=
 bj fun c st ρ a w hr h1 _=>by
  have he:=h1 x (by simp [ho,Op.operands])
  rw [hx] at he
  have hv:=hr.ev x
  rw [he] at hv
  obtain ⟨g,hg,hv⟩:=hv
  refine ⟨_,by unfold execOp;rw [ho];simp only [hv,Sem.run_bind,jE,Result.andThen_ok,Sem.run_pure],⟨g,hg,rfl⟩,fun k' hk=>hr.nf (x:=x) he hk⟩
theorem vx {s':TypeId} {x:Operand} {f p off i:Nat} {ft:TypeId} {α:Type} {E:El α} {l:List α} (ho:o.op = .fieldAddr s' x f) (hx:s.ev x = .c (.eptr E l i p)) [FO P s' f off ft]:LOp P o s [] ⟨.c (.eptr E l i (p+off)),[],[]⟩ :=
 bj fun c st ρ a w hr h1 _=>by
  have he:=h1 x (by simp [ho,Op.operands])
  rw [hx] at he
  have hv:=hr.ev x
  rw [he] at hv
  obtain ⟨b,q,hv,h3,h4⟩:=hv
  exact ⟨.pointer (some ⟨b,q+i*E.n+(p+off),none⟩),by unfold execOp;rw [ho];simp only [hv,Sem.run_bind,jE,Result.andThen_ok,Sem.run_pure,Nat.add_assoc],⟨b,q,rfl,h3,h4⟩,fun k' hk=>hr.nf (x:=x) he hk⟩
theorem vy {s':TypeId} {x:Operand} {f p off i k m:Nat} {ft:TypeId} (ho:o.op = .fieldAddr s' x f) (hx:s.ev x = .c (.optr k m i p)) [FO P s' f off ft]:LOp P o s [] ⟨.c (.optr k m i (p+off)),[],[]⟩ :=
 bj fun c st ρ a w hr h1 _=>by
  have he:=h1 x (by simp [ho,Op.operands])
  rw [hx] at he
  have hv:=hr.ev x
  rw [he] at hv
  obtain ⟨g,n,cap,h3,hv⟩:=hv
  exact ⟨.pointer (some ⟨g,i*m+(p+off),none⟩),by unfold execOp;rw [ho];simp only [hv,Sem.run_bind,jE,Result.andThen_ok,Sem.run_pure,Nat.add_assoc],⟨g,n,cap,h3,rfl⟩,fun k' hk=>hr.nf (x:=x) he hk⟩
theorem gU {t e:TypeId} {row:Bool} {n g p:Nat} {kd:IntKind} [I:SE P t e] [J:TI P e row n] (w:World) (len cap i:Nat) (hi:i<len) :
  (Instr.indexAt t (.slice (some ⟨g,p,none⟩) len cap) (.int kd (i:Int))).run P w = .ok (.pointer (some ⟨g,p+i*n,none⟩)) w:=by
 obtain ⟨j,hj,hn⟩:∃j,P.info? e=some j∧j.size=n:=by
  have:=J.s
  cases h:P.info? e with
  | none=>simp [h] at this
  | some j=>exact ⟨j,rfl,by simpa [h] using this⟩
 subst hn
 simp [Instr.indexAt,asIntOf,run_underlying I.u,sizeOf,typeInfo,hj,hi,fB]
theorem sd {t e:TypeId} {x y:Operand} {row:Bool} {n i:Nat} {kd:IntKind} {z:Int} {α:Type} {E:El α} {l:List α} (ho:o.op = .indexAddr t x y) (hx:s.ev x = .c (.sl E l)) (hy:s.ev y = .c (.sc (.int kd z))) [SE P t e] [TI P e row n] (hn:E.n=n) (hz:z=(i:Int)) (hi:i<l.length) :
  LOp P o s [] ⟨.c (.eptr E l i 0),[],[]⟩ :=
 bj fun c st ρ a w hr h1 _=>by
  have he:=h1 x (by simp [ho,Op.operands])
  have he2:=h1 y (by simp [ho,Op.operands])
  rw [hx] at he
  rw [hy] at he2
  have hv:=hr.ev x
  rw [he] at hv
  have hv2:=hr.ev y
  rw [he2] at hv2
  obtain ⟨A,cap,hv,hc,hR⟩:=hv
  have hv2:a.eval y = .int kd z:=hv2
  obtain ⟨xs,h3,h4⟩:=hR
  obtain ⟨b,off,hA,hb,hcl⟩:=h4 (by omega)
  subst hA
  subst hz
  subst hn
  refine ⟨.pointer (some ⟨b,off+i*E.n,none⟩),by unfold execOp;rw [ho];simp only [hv,hv2,Sem.run_bind,gU w l.length cap i hi,Result.andThen_ok,Sem.run_pure],⟨b,off,rfl,⟨xs,h3,h4⟩,hi⟩,fun k' hk=>by simp [TV.has,V0.has,D.has] at hk⟩
theorem dS {w:World} {F:Nat→Prop} {α:Type} {e:TypeId} {E:El α} {l:List α} {ρ:Nat→Value} {v:Value} (h:(Box.arr e E l).rep w F ρ v) :
  ∃A cap,v = .slice A l.length cap∧(l.length≤cap∧cap≤maxLen)∧(0<l.length→∃g xs,A=some ⟨g,0,none⟩∧g<w.heap.size∧Reps E w F l xs∧(∀j u,xs[j]? = some u→w.cell? ⟨g,j,none⟩=some u)∧∀j,j<xs.length→w.frozen? ⟨g,j,none⟩=false):=by
 obtain ⟨xs,h1,h2⟩:=h
 rcases h1.2 with ⟨hv,hn⟩|⟨g,cap,cur,hv,_,hh,hnc,hcm,hcs,ht⟩
 ·exact ⟨none,0,by rw [hv,hn],by rw [hn];simp [maxLen],fun h=>by omega⟩
 ·refine ⟨_,cap,hv,⟨hnc,hcm⟩,fun _=>⟨g,xs,rfl,(Array.getElem?_eq_some_iff.1 hh).1,h2,fun j u hu=>?_,fun j _=>by simp [World.frozen?,hh]⟩⟩
  rw [cell_of_row w g j cur e (0,0) hh,←Array.getElem?_toList]
  rw [←ht,List.getElem?_take] at hu
  split at hu
  ·exact hu
  ·cases hu
theorem n7 {t e:TypeId} {x y:Operand} {row:Bool} {n i k:Nat} {kd:IntKind} {z:Int} {α:Type} {e':TypeId} {E:El α} {l:List α} (ho:o.op = .indexAddr t x y) (hx:s.ev x = .c (.own k)) (hk:s.h k=some (.arr e' E l)) (hy:s.ev y = .c (.sc (.int kd z))) [SE P t e] [TI P e row n] (hn:E.n=n) (hz:z=(i:Int)) (hi:i<l.length) :
  LOp P o s [k] ⟨.c (.optr k n i 0),[],[]⟩ :=
 bj fun c st ρ a w hr h1 h2=>by
  have he:=h1 x (by simp [ho,Op.operands])
  have he2:=h1 y (by simp [ho,Op.operands])
  rw [hx] at he
  rw [hy] at he2
  have hv:=hr.ev x
  rw [he] at hv
  have hv2:=hr.ev y
  rw [he2] at hv2
  have hv:a.eval x=ρ k:=hv
  have hv2:a.eval y = .int kd z:=hv2
  have hb:=hr.hp k _ ((h2 k (by simp [aI])).trans hk)
  obtain ⟨A,cap,hA,hc,hp⟩:=dS hb
  obtain ⟨g,xs,rfl,_⟩:=hp (by omega)
  subst hz
  subst hn
  rw [hA] at hv
  refine ⟨.pointer (some ⟨g,0+i*E.n,none⟩),by unfold execOp;rw [ho];simp only [hv,hv2,Sem.run_bind,gU w l.length cap i hi,Result.andThen_ok,Sem.run_pure],⟨g,_,_,hA,by simp⟩,fun k' hk'=>hr.nf (x:=x) he (by simpa [TV.has,V0.has,D.has] using hk')⟩
theorem mj {t:TypeId} {n g p:Nat} [I:TI P t true n] (w:World) (cs:List Value) (hc:∀j u,cs[j]? = some u→w.cell? ⟨g,p+j,none⟩=some u) (hn:cs.length=n) :
  (Instr.loadAt t (.pointer (some ⟨g,p,none⟩))).run P w = .ok (.agg cs.toArray) w:=by
 obtain ⟨d,hu,hd⟩:=I.u
 simp only [Instr.loadAt,Instr.sureAddr,Sem.run_bind,Sem.run_pure,Result.andThen_ok]
 exact run_loadVar_mid w g p t cs d hc hu (by cases d <;> simp_all [TypeDesc.isRow]) (by rw [I.s,hn])
theorem ml {t:TypeId} {n g p:Nat} [I:TI P t false n] (w:World) (u:Value) (hc:w.cell? ⟨g,p,none⟩=some u):(Instr.loadAt t (.pointer (some ⟨g,p,none⟩))).run P w = .ok u w:=by
 obtain ⟨d,hu,hd⟩:=I.u
 simp only [Instr.loadAt,Instr.sureAddr,Sem.run_bind,Sem.run_pure,Result.andThen_ok,loadVar,isAgg,run_underlying hu]
 cases d <;> simp_all [load,Sem.run]
theorem jF {t:TypeId} {x:Operand} {row:Bool} {n off:Nat} {ds:List D} {d:TV} (ho:o.op = .load t x) [I:TI P t row n]
  (hd:(row=true∧d = .v (.ag ((ds.drop off).take n))∧off+n≤ds.length)∨(row=false∧∃y,ds[off]? = some y∧d = .c y))
  (h:∀(c:Ctx) (st:Mst) (ρ:Nat→Value) (a:Act) (w:World),Rp c st ρ a w→(∀x,x∈o.op.operands→st.ev x=s.ev x)→(∀k,aI R k=true→st.h k=s.h k)→
   ∃g p vs,a.eval x = .pointer (some ⟨g,p+off,none⟩)∧All2 (D.rep w (Fz c st.h ρ w) ρ) ds vs∧(∀j u,vs[j]? = some u→w.cell? ⟨g,p+j,none⟩=some u)∧∀k,ds.any (D.has k)=true→st.f k=false):LOp P o s R ⟨d,[],[]⟩ :=
 bj fun c st ρ a w hr h1 h2=>by
  obtain ⟨g,p,vs,hv,h3,h4,h5⟩:=h c st ρ a w hr h1 h2
  rcases hd with ⟨rfl,rfl,hle⟩|⟨rfl,y,hy,rfl⟩
  ·refine ⟨.agg ((vs.drop off).take n).toArray,?_,⟨_,rfl,(h3.drop off).take n⟩,fun k hk=>h5 k ?_⟩
   ·unfold execOp
    rw [ho]
    simp only [hv,Sem.run_bind]
    rw [mj w ((vs.drop off).take n) (fun j u hu=>?_) (by rw [List.length_take,List.length_drop,←h3.length];omega)]
    ·rfl
    ·rw [Nat.add_assoc]
     refine h4 _ u ?_
     rw [List.getElem?_take] at hu
     split at hu
     ·rwa [List.getElem?_drop] at hu
     ·cases hu
   ·exact n5 (fun d hd=>List.mem_of_mem_drop (List.mem_of_mem_take hd)) hk
  ·obtain ⟨u,hu,hrep⟩:=h3.get hy
   refine ⟨u,?_,hrep,fun k hk=>h5 k (n4 hy hk)⟩
   unfold execOp
   rw [ho]
   simp only [hv,Sem.run_bind]
   rw [ml w u (h4 off u hu)]
   rfl
theorem BV {t ty:TypeId} {x:Operand} {row:Bool} {n k off:Nat} {cs:List D} {d:TV} [I:TI P t row n] (ho:o.op = .load t x) (hx:s.ev x = .c (.ptr k off)) (hk:s.h k=some (.box ty cs))
  (hd:(row=true∧d = .v (.ag ((cs.drop off).take n))∧off+n≤cs.length)∨(row=false∧∃y,cs[off]? = some y∧d = .c y)):LOp P o s [k] ⟨d,[],[]⟩ :=
 jF ho hd fun c st ρ a w hr h1 h2=>by
  have he:=h1 x (by simp [ho,Op.operands])
  rw [hx] at he
  have hv:=hr.ev x
  rw [he] at hv
  obtain ⟨g,hg,hv⟩:=hv
  have hk':=(h2 k (by simp [aI])).trans hk
  obtain ⟨g',vs,e1,h3,h4,_⟩:=hr.hp k _ hk'
  rw [hg] at e1
  injection e1 with e1
  injection e1 with e1
  injection e1 with e1
  subst e1
  exact ⟨g,0,vs,by rw [Nat.zero_add];exact hv,h4,fun j u hu=>by rw [Nat.zero_add];exact h3.cellx j (by simpa using hu),fun k' hh=>hr.nfb hk' (by simpa [Box.has] using hh)⟩
theorem BW {t ty:TypeId} {x:Operand} {n k off:Nat} {cs:List D} {y:D} [TI P t false n] (ho:o.op = .load t x) (hx:s.ev x = .c (.ptr k off)) (hk:s.h k=some (.box ty cs)) (hy:cs[off]? = some y):LOp P o s [k] ⟨.c y,[],[]⟩:=BV ho hx hk (.inr ⟨rfl,y,hy,rfl⟩)
theorem tJ {t ty:TypeId} {x:Operand} {n k off:Nat} {cs ds:List D} [TI P t true n] (ho:o.op = .load t x) (hx:s.ev x = .c (.ptr k off)) (hk:s.h k=some (.box ty cs)) (hd:(cs.drop off).take n=ds) (hl:off+n≤cs.length):LOp P o s [k] ⟨.v (.ag ds),[],[]⟩:=BV ho hx hk (.inl ⟨rfl,by rw [hd],hl⟩)
theorem BX {t:TypeId} {x:Operand} {row:Bool} {n i off:Nat} {α:Type} {E:El α} {l:List α} {y:α} {d:TV} [I:TI P t row n] [J:Dp E] (ho:o.op = .load t x) (hx:s.ev x = .c (.eptr E l i off)) (hy:l[i]? = some y)
  (hd:(row=true∧d = .v (.ag (((J.deep y).drop off).take n))∧off+n≤(J.deep y).length)∨(row=false∧∃z,(J.deep y)[off]? = some z∧d = .c z)):LOp P o s [] ⟨d,[],[]⟩ :=
 jF ho hd fun c st ρ a w hr h1 h2=>by
  have he:=h1 x (by simp [ho,Op.operands])
  rw [hx] at he
  have hv:=hr.ev x
  rw [he] at hv
  obtain ⟨b,q,hv,h3,h4⟩:=hv
  have hyx:l[i]=y:=by rw [List.getElem?_eq_getElem h4] at hy;exact Option.some.inj hy
  obtain ⟨b',q',cs,e1,_,h5,h6⟩:=h3.getx h4 hyx
  injection e1 with e1
  injection e1 with e1 e2
  subst e1
  subst e2
  refine ⟨b,q+i*E.n,cs,hv,J.get h5,fun j u hu=>?_,fun k' hh=>by rw [J.nok] at hh;cases hh⟩
  rw [h6 j (by rw [←E.len h5];exact (List.getElem?_eq_some_iff.1 hu).1),hu]
theorem xq {t:TypeId} {x:Operand} {n i off:Nat} {α:Type} {E:El α} {l:List α} {y:α} {z:D} [TI P t false n] [J:Dp E] (ho:o.op = .load t x) (hx:s.ev x = .c (.eptr E l i off)) (hy:l[i]? = some y) (hz:(J.deep y)[off]? = some z):LOp P o s [] ⟨.c z,[],[]⟩:=BX ho hx hy (.inr ⟨rfl,z,hz,rfl⟩)
theorem pB {t:TypeId} {x:Operand} {n i off:Nat} {α:Type} {E:El α} {l:List α} {y:α} {ds:List D} [TI P t true n] [J:Dp E] (ho:o.op = .load t x) (hx:s.ev x = .c (.eptr E l i off)) (hy:l[i]? = some y) (hd:((J.deep y).drop off).take n=ds) (hl:off+n≤(J.deep y).length):LOp P o s [] ⟨.v (.ag ds),[],[]⟩:=BX ho hx hy (.inl ⟨rfl,by rw [hd],hl⟩)
theorem BY {t e:TypeId} {x:Operand} {row:Bool} {n m i k off:Nat} {α:Type} {E:El α} {l:List α} {y:α} {d:TV} [I:TI P t row n] [J:Dp E] (ho:o.op = .load t x) (hx:s.ev x = .c (.optr k m i off)) (hk:s.h k=some (.arr e E l)) (hm:E.n=m) (hy:l[i]? = some y)
  (hd:(row=true∧d = .v (.ag (((J.deep y).drop off).take n))∧off+n≤(J.deep y).length)∨(row=false∧∃z,(J.deep y)[off]? = some z∧d = .c z)):LOp P o s [k] ⟨d,[],[]⟩ :=
 jF ho hd fun c st ρ a w hr h1 h2=>by
  have he:=h1 x (by simp [ho,Op.operands])
  rw [hx] at he
  have hv:=hr.ev x
  rw [he] at hv
  obtain ⟨g,nn,cap,hg,hv⟩:=hv
  have hk':=(h2 k (by simp [aI])).trans hk
  have hil:i<l.length:=(List.getElem?_eq_some_iff.1 hy).1
  obtain ⟨A,cap',hA,_,hp⟩:=dS (hr.hp k _ hk')
  obtain ⟨g',xs,rfl,_,h3,h4,_⟩:=hp (by omega)
  rw [hg] at hA
  injection hA with e1 _ _
  injection e1 with e1
  injection e1 with e1
  subst e1
  obtain ⟨cs,h5,h6⟩:=h3.get i hil
  rw [List.getElem?_eq_getElem hil] at hy
  rw [Option.some.inj hy] at h5
  subst hm
  refine ⟨g,i*E.n,cs,hv,J.get h5,fun j u hu=>?_,fun k' hh=>by rw [J.nok] at hh;cases hh⟩
  exact h4 _ u (by rw [h6 j (by rw [←E.len h5];exact (List.getElem?_eq_some_iff.1 hu).1),hu])
theorem xr {t e:TypeId} {x:Operand} {n m i k off:Nat} {α:Type} {E:El α} {l:List α} {y:α} {z:D} [TI P t false n] [J:Dp E] (ho:o.op = .load t x) (hx:s.ev x = .c (.optr k m i off)) (hk:s.h k=some (.arr e E l)) (hm:E.n=m) (hy:l[i]? = some y) (hz:(J.deep y)[off]? = some z):LOp P o s [k] ⟨.c z,[],[]⟩:=BY ho hx hk hm hy (.inr ⟨rfl,z,hz,rfl⟩)
theorem pC {t e:TypeId} {x:Operand} {n m i k off:Nat} {α:Type} {E:El α} {l:List α} {y:α} {ds:List D} [TI P t true n] [J:Dp E] (ho:o.op = .load t x) (hx:s.ev x = .c (.optr k m i off)) (hk:s.h k=some (.arr e E l)) (hm:E.n=m) (hy:l[i]? = some y) (hd:((J.deep y).drop off).take n=ds) (hl:off+n≤(J.deep y).length):LOp P o s [k] ⟨.v (.ag ds),[],[]⟩:=BY ho hx hk hm hy (.inl ⟨rfl,by rw [hd],hl⟩)
end
def D.okc:D→Bool
 | .any=>false
 | .sc x=>x.oneCell'
 | .own _=>false
 | _=>true
section
variable {P:Program} {o:Oper} {s:Mst} {R:List Nat} {d:TV}
theorem D.one_of {w:World} {F:Nat→Prop} {ρ:Nat→Value} {d:D} {v:Value} (h:d.rep w F ρ v) (hk:d.okc=true):v.oneCell'=true:=by
 cases d with
 | any=>cases hk
 | sc x=>have h:v=x:=h;rw [h];exact hk
 | sl E l=>obtain ⟨A,cap,rfl,_⟩:=h;rfl
 | full E l=>obtain ⟨A,rfl,_⟩:=h;rfl
 | own k=>cases hk
 | slb k n=>obtain ⟨g,_,rfl⟩:=h;rfl
 | ptr k off=>obtain ⟨g,_,rfl⟩:=h;rfl
 | eptr E l i off=>obtain ⟨b,o,rfl,_⟩:=h;rfl
 | optr k m i off=>obtain ⟨g,n,cap,_,rfl⟩:=h;rfl
 | ocut k=>obtain ⟨A,n,cap,c,_,_,rfl⟩:=h;rfl
 | osl k m lo hi fl=>obtain ⟨g,n,cap,c,A,_,_,_,rfl,_⟩:=h;rfl
 | clo f ks=>obtain ⟨vs,rfl,_⟩:=h;rfl
theorem Ep {w:World} {F:Nat→Prop} {α:Type} {e:TypeId} {E:El α} {l:List α} {ρ:Nat→Value} {v:Value} (h:(Box.arr e E l).rep w F ρ v):v.oneCell'=true:=by
 obtain ⟨A,cap,rfl,_⟩:=dS h
 rfl
theorem Rp.box {c:Ctx} {st:Mst} {ρ:Nat→Value} {a:Act} {w:World} (hr:Rp c st ρ a w) {k:Nat} {t:TypeId} {cs:List D} (hk:st.h k=some (.box t cs)) {g:Nat} (hg:ρ k = .pointer (some ⟨g,0,none⟩)) :
  ∃vs:List Value,Blk w g t vs.toArray∧All2 (D.rep w (Fz c st.h ρ w) ρ) cs vs∧∀u∈vs,u.oneCell'=true:=by
 obtain ⟨g',vs,e1,h3,h4,h5⟩:=hr.hp k _ hk
 rw [hg] at e1
 injection e1 with e1
 injection e1 with e1
 injection e1 with e1
 subst e1
 exact ⟨vs,h3,h4,h5⟩
theorem xt {w:World} {g:Nat} {t:TypeId} {old new:Array Value} (hb:Blk w g t old):Blk (w.setRow g new) g t new∧But g w (w.setRow g new) :=
 ⟨setRow_heap w g old new t (0,0) hb,⟨rfl,rfl,rfl,by simp,fun k hk hg=>setRow_other w g k new hg⟩⟩
theorem Rp.setBox {c:Ctx} {st:Mst} {ρ:Nat→Value} {a:Act} {w w':World} {dst:Option Nat} {v:Value} {k g:Nat} {t:TypeId} {cs cs':List D} {vs':List Value} (hr:Rp c st ρ a w) (hdst:∀d,dst=some d→d<c.nt)
  (hk:st.h k=some (.box t cs)) (hg:ρ k = .pointer (some ⟨g,0,none⟩)) (hb:But g w w') (hB:Blk w' g t vs'.toArray) (h2:All2 (D.rep w (Fz c st.h ρ w) ρ) cs' vs') (h1:∀u∈vs',u.oneCell'=true)
  (hh:∀k',cs'.any (D.has k')=true→st.f k'=false):Rp c (st.app dst ⟨.c .any,[(k,some (.box t cs'))],[]⟩) ρ (a.put dst v) w':=by
 have hkk:∀k':Nat,aA [(k,some (Box.box t cs'))] k'=true→k'=k:=fun k' h=>by
  simp only [aA,Bool.or_false] at h
  exact (Nat.eq_of_beq_eq_true h).symm
 have hkb:kb (ρ k)=some g:=by rw [hg];rfl
 have hfz:∀b,Fz c st.h ρ w b→Fz c (hput [(k,some (Box.box t cs'))] st.h) ρ w' b∧w'.heap[b]? = w.heap[b]?:=fun b ⟨f1,f2,f3⟩=>by
  have hbg:b≠g:=fun e=>f3 k _ hk (by rw [hkb,e])
  refine ⟨⟨f1,Nat.lt_of_lt_of_le f2 hb.size,fun k' bx hk'=>?_⟩,hb.block b f2 hbg⟩
  simp only [hput] at hk'
  cases h9:k.beq k' with
  | true=>rw [←Nat.eq_of_beq_eq_true h9,hkb];intro e;injection e with e;exact hbg e.symm
  | false=>rw [h9] at hk';exact f3 k' bx hk'
 refine hr.app (e:=⟨.c .any,[(k,some (.box t cs'))],[]⟩) hdst (fun k h=>by simp [aI] at h) (fun _ _=>rfl) (fun k' h=>.inr (by rw [hkk k' h];exact hr.nfh hk)) ⟨hb.os,hb.tape,hb.output,hb.size,fun b hlt hn=>hb.block b hlt fun e=>hn ⟨k,_,by simp [aA],hk,by rw [hkb,e]⟩⟩ ?_ ?_ (fun k h=>by simp [TV.has,V0.has,D.has] at h) ?_ ?_ trivial
 ·intro k' bx g' h _ hg'
  rw [hkk k' h,hkb] at hg'
  injection hg' with hg'
  subst hg'
  exact ⟨hB.lt,.inr ⟨k,_,by simp [aA],hk,hkb⟩⟩
 ·intro k1 k2 _ _ _ h h' _ _ _ _
  rw [hkk k1 h,hkk k2 h']
 ·intro k1 k2 bx h hp hx
  rw [hkk k2 h] at hp
  simp only [hput,Nat.beq_refl,cond_true,Option.some.injEq] at hp
  subst hp
  exact .inr (hh k1 hx)
 ·intro k2 bx h hp
  rw [hkk k2 h] at hp ⊢
  simp only [hput,Nat.beq_refl,cond_true,Option.some.injEq] at hp
  subst hp
  exact ⟨g,vs',hg,hB,h2.imp fun d v _ hd=>hd.mono hfz fun _ _=>rfl,h1⟩
theorem rk {t ty:TypeId} {row:Bool} {n g off:Nat} [I:TI P t row n] {w:World} {old:List Value} {v:Value} (hb:Blk w g ty old.toArray) (hn:v.cells.size=n) (hl:off+n≤old.length) (h1:∀u∈v.cells.toList,u.oneCell'=true) :
  (Instr.storeAt t (.pointer (some ⟨g,off,none⟩)) v).run P w = .ok () (w.setRow g (old.take off++v.cells.toList++old.drop (off+n)).toArray):=by
 have h2:=run_storeCells_at (P:=P) g off ty v.cells.toList 0 old.toArray w hb (by simp [hn];omega) h1
 simp only [Nat.add_zero,Array.length_toList,hn] at h2
 have hi:=I.s
 cases hq:P.info? t with
 | none=>simp [hq] at hi
 | some i =>
  have hs:v.cells.size=i.size:=by simp [hq] at hi;omega
  simp only [Instr.storeAt,Instr.sureAddr,Sem.run_bind,Sem.run_pure,Result.andThen_ok]
  simp [storeVar,sizeOf,typeInfo,hq,hs,h2]
def TV.cells:TV→Option (List D)
 | .v (.one d)=>some [d]
 | .v (.ag l)=>some l
 | _=>none
theorem TV.cells_rep {w:World} {F:Nat→Prop} {ρ:Nat→Value} {d:TV} {ds:List D} {v:Value} (h:d.rep w F ρ v) (hc:d.cells=some ds) (hok:∀x∈ds,∀u,x.rep w F ρ u→u.oneCell'=true):All2 (D.rep w F ρ) ds v.cells.toList∧∀u∈v.cells.toList,u.oneCell'=true:=by
 unfold TV.cells at hc
 split at hc
 ·rename_i y
  injection hc with hc
  subst hc
  have h:y.rep w F ρ v:=h
  have h1:=hok y (by simp) v h
  have h2:v.cells = #[v]:=by cases v <;> first|rfl|(simp [Value.oneCell'] at h1)
  rw [h2]
  exact ⟨⟨h,trivial⟩,by simpa using h1⟩
 ·injection hc with hc
  subst hc
  obtain ⟨cs,rfl,h2⟩:=h
  refine ⟨by simpa [Value.cells] using h2,?_⟩
  have:∀(l:List D) (cs:List Value),All2 (D.rep w F ρ) l cs→(∀x∈l,∀u,x.rep w F ρ u→u.oneCell'=true)→∀u∈cs,u.oneCell'=true:=by
   intro l
   induction l with
   | nil=>intro cs h;cases cs with
    | nil=>intro _ u hu;cases hu
    | cons=>exact h.elim
   | cons x l ih =>
    intro cs h hx
    cases cs with
    | nil=>exact h.elim
    | cons c cs =>
     intro u hu
     rcases List.mem_cons.1 hu with rfl|hu
     ·exact hx x (by simp) _ h.1
     ·exact ih cs h.2 (fun y hy=>hx y (by simp [hy])) u hu
  simpa [Value.cells] using this _ _ h2 hok
 ·cases hc
def okD (h:Nat→Option Box):D→Bool
 | .any=>false
 | .sc x=>x.oneCell'
 | .own k=>match h k with|some (.arr ..)=>true|some (.mp ..)=>true|_=>false
 | _=>true
def f8:List D→List Nat
 | []=>[]
 | .own k :: l=>k :: f8 l
 | _ :: l=>f8 l
theorem eP:∀{l:List D} {k:Nat},D.own k∈l→aI (f8 l) k=true
 | [],_,h=>by cases h
 | d :: l,k,h=>by
  rcases List.mem_cons.1 h with rfl|h2
  ·simp [f8,aI]
  ·have h3:=eP h2
   cases d <;> simp [f8,aI,h3]
theorem Rp.okD {c:Ctx} {st:Mst} {ρ:Nat→Value} {a:Act} {w:World} (hr:Rp c st ρ a w) {d:D} (hd:okD st.h d=true) {u:Value} (h:d.rep w (Fz c st.h ρ w) ρ u):u.oneCell'=true:=by
 cases d with
 | own k =>
  unfold Go.Proofs.YtjndcdcbjidocaaGreatDoor.okD at hd
  have h:u=ρ k:=h
  cases hk:st.h k with
  | none=>simp only [hk] at hd;cases hd
  | some b =>
   cases b with
   | box=>simp only [hk] at hd;cases hd
   | arr e E l=>rw [h];exact Ep (hr.hp k _ hk)
   | mp l=>obtain ⟨g,e,_⟩:=hr.hp k _ hk;rw [h,e];rfl
   | it=>simp only [hk] at hd;cases hd
 | any=>cases hd
 | sc x=>exact D.one_of h hd
 | _=>exact D.one_of h rfl
theorem gw {h h':Nat→Option Box} {d:D} (hd:okD h d=true) (he:∀k,d = .own k→h' k=h k):okD h' d=true:=by
 cases d with
 | own k=>simp only [okD] at hd ⊢;rw [he k rfl];exact hd
 | _=>exact hd
theorem j9:∀{l m:List Nat} {k:Nat},aI (l++m) k=(aI l k || aI m k)
 | [],_,_=>by simp [aI]
 | x :: l,m,k=>by simp [aI,j9 (l:=l),Bool.or_assoc]
theorem Ae {t ty:TypeId} {x y:Operand} {row:Bool} {n k off:Nat} {cs ds new:List D} [I:TI P t row n] (ho:o.op = .store t x y) (hx:s.ev x = .c (.ptr k off)) (hk:s.h k=some (.box ty cs)) (hd:(s.ev y).cells=some ds) (hn:ds.length=n) (hl:off+n≤cs.length) (hok:ds.all (okD s.h)=true)
  (hnew:cs.take off++ds++cs.drop (off+n)=new):LOp P o s (k :: f8 ds) ⟨.c .any,[(k,some (.box ty new))],[]⟩:=by
 intro c st ρ a w hr h1 h2 _ h4
 subst hnew
 have he:=h1 x (by simp [ho,Op.operands])
 have he2:=h1 y (by simp [ho,Op.operands])
 rw [hx] at he
 rw [←he2] at hd
 have hv:=hr.ev x
 rw [he] at hv
 obtain ⟨g,hg,hv⟩:=hv
 have hk':=(h2 k (by simp [aI])).trans hk
 obtain ⟨vs,hB,hA,h1c⟩:=hr.box hk' hg
 have hok':∀z∈ds,∀u,z.rep w (Fz c st.h ρ w) ρ u→u.oneCell'=true:=fun z hz u hu=>hr.okD (gw (List.all_eq_true.1 hok z hz) fun j hj=>h2 j (by subst hj;simp only [aI,eP hz,Bool.or_true])) hu
 obtain ⟨hc1,hc2⟩:=TV.cells_rep (hr.ev y) hd hok'
 have hsz:(a.eval y).cells.size=n:=by rw [←Array.length_toList,←hc1.length,hn]
 have hvl:=hA.length
 have hrun:=rk (P:=P) (t:=t) (off:=off) hB hsz (by omega) hc2
 obtain ⟨hB',hBut⟩:=xt (new:=(vs.take off++(a.eval y).cells.toList++vs.drop (off+n)).toArray) hB
 refine Oper.wp_skip (w':=w.setRow g (vs.take off++(a.eval y).cells.toList++vs.drop (off+n)).toArray) ?_ ⟨ρ,hr.setBox h4 hk' hg hBut hB' (((hA.take off).append hc1).append (hA.drop (off+n))) ?_ ?_⟩
 ·unfold execOp
  rw [ho]
  simp only [hv,Sem.run_bind,hrun,Result.andThen_ok,Sem.run_pure]
 ·intro u hu
  simp only [List.mem_append] at hu
  rcases hu with (hu|hu)|hu
  ·exact h1c u (List.mem_of_mem_take hu)
  ·exact hc2 u hu
  ·exact h1c u (List.mem_of_mem_drop hu)
 ·intro k' hh
  obtain ⟨z,hz,hz2⟩:=List.any_eq_true.1 hh
  simp only [List.mem_append] at hz
  rcases hz with (hz|hz)|hz
  ·exact hr.nfb hk' (by simp only [Box.has];exact List.any_eq_true.2 ⟨z,List.mem_of_mem_take hz,hz2⟩)
  ·refine hr.nf (x:=y) rfl ?_
   generalize st.ev y=q at *
   unfold TV.cells at hd
   split at hd
   ·injection hd with hd;subst hd;simp at hz;subst hz;exact hz2
   ·injection hd with hd;subst hd;simp only [TV.has,V0.has];exact List.any_eq_true.2 ⟨z,hz,hz2⟩
   ·cases hd
  ·exact hr.nfb hk' (by simp only [Box.has];exact List.any_eq_true.2 ⟨z,List.mem_of_mem_drop hz,hz2⟩)
def upd (ρ:Nat→Value) (k:Nat) (v:Value) (n:Nat):Value:=bif k.beq n then v else ρ n
theorem aM (ρ:Nat→Value) (k:Nat) (v:Value):upd ρ k v k=v:=by simp [upd]
theorem dx {ρ:Nat→Value} {k n:Nat} {v:Value} (h:k.beq n=false):upd ρ k v n=ρ n:=by simp [upd,h]
theorem Rp.newBox {c:Ctx} {st:Mst} {ρ:Nat→Value} {a:Act} {w:World} {dst:Option Nat} {k:Nat} {t:TypeId} {cs:List D} {vs:List Value} {d:TV} {v:Value} (hr:Rp c st ρ a w) (hdst:∀d,dst=some d→d<c.nt) (hf:st.f k=true)
  (h2:All2 (D.rep w (Fz c st.h ρ w) ρ) cs vs) (h1:∀u∈vs,u.oneCell'=true) (hh:∀k',cs.any (D.has k')=true→st.f k'=false) (hd:∀k',d.has k'=true→k'=k)
  (hv:∀F ρ',ρ' k = .pointer (some ⟨w.heap.size,0,none⟩)→d.rep (w.alloc (.cells vs.toArray t)) F ρ' v):∃ρ',Rp c (st.app dst ⟨d,[(k,some (.box t cs))],[k]⟩) ρ' (a.put dst v) (w.alloc (.cells vs.toArray t)):=by
 have hkk:∀k':Nat,aA [(k,some (Box.box t cs))] k'=true→k'=k:=fun k' h=>by
  simp only [aA,Bool.or_false] at h
  exact (Nat.eq_of_beq_eq_true h).symm
 have hul:∀k':Nat,aI [k] k'=k.beq k':=fun k'=>by simp [aI]
 have hfz:∀b,Fz c st.h ρ w b→Fz c (hput [(k,some (Box.box t cs))] st.h) (upd ρ k (.pointer (some ⟨w.heap.size,0,none⟩))) (w.alloc (.cells vs.toArray t)) b∧(w.alloc (.cells vs.toArray t)).heap[b]? = w.heap[b]?:=fun b ⟨f1,f2,f3⟩=>by
  refine ⟨⟨f1,by simp;omega,fun k' bx hk'=>?_⟩,Below.heap_alloc w _ b f2⟩
  simp only [hput] at hk'
  cases h9:k.beq k' with
  | true=>rw [←Nat.eq_of_beq_eq_true h9,aM];intro e;injection e with e;simp at e;omega
  | false=>rw [h9] at hk';rw [dx h9];exact f3 k' bx hk'
 refine ⟨upd ρ k (.pointer (some ⟨w.heap.size,0,none⟩)),hr.app (e:=⟨d,[(k,some (.box t cs))],[k]⟩) hdst (fun k' h=>?_) (fun k' h=>?_) (fun k' h=>.inl ?_) (Frx.alloc _ _ _) ?_ ?_ (fun k' h=>.inl ?_) ?_ ?_ ?_⟩
 ·rw [hul] at h;rw [←Nat.eq_of_beq_eq_true h];exact ⟨hf,by simp [aA]⟩
 ·exact dx (by rw [←hul];exact h)
 ·rw [hkk k' h];simp [aI]
 ·intro k' bx g' h _ hg'
  rw [hkk k' h,aM] at hg'
  injection hg' with hg'
  subst hg'
  exact ⟨by simp,.inl (Nat.le_refl _)⟩
 ·intro k1 k2 _ _ _ h h' _ _ _ _
  rw [hkk k1 h,hkk k2 h']
 ·rw [hd k' h];simp [aI]
 ·intro k1 k2 bx h hp hx
  rw [hkk k2 h] at hp
  simp only [hput,Nat.beq_refl,cond_true,Option.some.injEq] at hp
  subst hp
  exact .inr (hh k1 hx)
 ·intro k2 bx h hp
  rw [hkk k2 h] at hp ⊢
  simp only [hput,Nat.beq_refl,cond_true,Option.some.injEq] at hp
  subst hp
  rw [aM]
  refine ⟨_,vs,rfl,Blk.new w t vs.toArray,h2.imp fun d v hm hd=>hd.mono hfz fun k' hk'=>dx ?_,h1⟩
  have h3:=hh k' (List.any_eq_true.2 ⟨d,hm,hk'⟩)
  cases h9:k.beq k' with
  | false=>rfl
  | true=>rw [←Nat.eq_of_beq_eq_true h9,hf] at h3;cases h3
 ·exact hv _ _ (aM _ _ _)
theorem vz {t:TypeId} {zs:List Value} [I:TZ P t zs] (w:World):(Instr.alloc t true (.tuple #[])).run P w = .ok (.pointer (some ⟨w.heap.size,0,none⟩)) (w.alloc (.cells zs.toArray t)):=by
 obtain ⟨i,v,h1,h2,h3⟩:=I.z
 simp [Instr.alloc,zeroValue,typeInfo,h1,h2,newVar,newRow,run_newObj,h3]
theorem Af {t:TypeId} {k:Nat} {zs:List Value} {ds:List D} [I:TZ P t zs] (ho:o.op = .alloc t) (hdk:o.dst=some k) (hz:zs.map D.sc=ds):LOp P o s [] ⟨.c (.ptr k 0),[(k,some (.box t ds))],[k]⟩:=by
 intro c st ρ a w hr h1 h2 h3 h4
 subst hz
 obtain ⟨ρ',h⟩:=hr.newBox (k:=k) (t:=t) (cs:=zs.map D.sc) (vs:=zs) (d:=.c (.ptr k 0)) (v:=.pointer (some ⟨w.heap.size,0,none⟩)) h4 (h3 k (by simp [aI])) (All2.scs _) I.o
  (fun k' hh=>by simp [D.has] at hh) (fun k' hh=>by simp [TV.has,V0.has,D.has] at hh;exact hh.symm) (fun F ρ' hρ=>⟨_,hρ,rfl⟩)
 exact Oper.wp_value (by unfold execOp;rw [ho];simp only [Sem.run_bind,vz,Result.andThen_ok,Sem.run_pure]) ⟨ρ',h⟩
end
def D.ren (q:Nat→Nat):D→D
 | .own k=>.own (q k)
 | .slb k n=>.slb (q k) n
 | .ptr k off=>.ptr (q k) off
 | .optr k m i off=>.optr (q k) m i off
 | .ocut k=>.ocut (q k)
 | .osl k m lo hi fl=>.osl (q k) m lo hi fl
 | .clo f ks=>.clo f (ks.map q)
 | d=>d
def V0.ren (q:Nat→Nat):V0→V0
 | .one d=>.one (d.ren q)
 | .ag l=>.ag (l.map (D.ren q))
def TV.ren (q:Nat→Nat):TV→TV
 | .v x=>.v (x.ren q)
 | .tup l=>.tup (l.map (V0.ren q))
def Box.ren (q:Nat→Nat):Box→Box
 | .box t cs=>.box t (cs.map (D.ren q))
 | .it k n l=>.it (q k) n l
 | b=>b
section
variable {w:World} {F:Nat→Prop} {ρ ρ':Nat→Value} {q:Nat→Nat}
theorem D.rep_ren {d:D} {v:Value} (hq:∀k,d.has k=true→ρ' k=ρ (q k)):(d.ren q).rep w F ρ v↔d.rep w F ρ' v:=by
 cases d with
 | clo f ks =>
  have hm:∀k,k∈ks→ρ' k=ρ (q k):=fun k hk=>hq k (by simp only [D.has];exact List.any_eq_true.2 ⟨k,hk,Nat.beq_refl k⟩)
  constructor
  ·rintro ⟨vs,e,h⟩
   exact ⟨vs,e,(All2.mapL.1 h).imp fun k u hk (hu:u=ρ (q k))=>hu.trans (hm k hk).symm⟩
  ·rintro ⟨vs,e,h⟩
   exact ⟨vs,e,All2.mapL.2 (h.imp fun k u hk (hu:u=ρ' k)=>hu.trans (hm k hk))⟩
 | _=>first|exact Iff.rfl|(simp only [D.ren,D.rep];rw [hq _ (by simp [D.has])])
theorem V0.rep_ren {d:V0} {v:Value} (hq:∀k,d.has k=true→ρ' k=ρ (q k)):(d.ren q).rep w F ρ v↔d.rep w F ρ' v:=by
 cases d with
 | one d=>exact D.rep_ren hq
 | ag l =>
  constructor
  ·rintro ⟨cs,e,h⟩
   exact ⟨cs,e,(All2.mapL.1 h).imp fun d u hd h1=>(D.rep_ren fun k hk=>hq k (by simp only [V0.has];exact List.any_eq_true.2 ⟨d,hd,hk⟩)).1 h1⟩
  ·rintro ⟨cs,e,h⟩
   exact ⟨cs,e,All2.mapL.2 (h.imp fun d u hd h1=>(D.rep_ren fun k hk=>hq k (by simp only [V0.has];exact List.any_eq_true.2 ⟨d,hd,hk⟩)).2 h1)⟩
theorem TV.rep_ren {d:TV} {v:Value} (hq:∀k,d.has k=true→ρ' k=ρ (q k)):(d.ren q).rep w F ρ v↔d.rep w F ρ' v:=by
 cases d with
 | v d=>exact V0.rep_ren hq
 | tup l =>
  constructor
  ·rintro ⟨cs,e,h⟩
   exact ⟨cs,e,(All2.mapL.1 h).imp fun d u hd h1=>(V0.rep_ren fun k hk=>hq k (by simp only [TV.has];exact List.any_eq_true.2 ⟨d,hd,hk⟩)).1 h1⟩
  ·rintro ⟨cs,e,h⟩
   exact ⟨cs,e,All2.mapL.2 (h.imp fun d u hd h1=>(V0.rep_ren fun k hk=>hq k (by simp only [TV.has];exact List.any_eq_true.2 ⟨d,hd,hk⟩)).2 h1)⟩
theorem Box.rep_ren {d:Box} {v:Value} (hq:∀k,d.has k=true→ρ' k=ρ (q k)):(d.ren q).rep w F ρ v↔d.rep w F ρ' v:=by
 cases d with
 | box t cs =>
  constructor
  ·rintro ⟨g,vs,e,hb,h,h1⟩
   exact ⟨g,vs,e,hb,(All2.mapL.1 h).imp fun d u hd h1=>(D.rep_ren fun k hk=>hq k (by simp only [Box.has];exact List.any_eq_true.2 ⟨d,hd,hk⟩)).1 h1,h1⟩
  ·rintro ⟨g,vs,e,hb,h,h1⟩
   exact ⟨g,vs,e,hb,All2.mapL.2 (h.imp fun d u hd h1=>(D.rep_ren fun k hk=>hq k (by simp only [Box.has];exact List.any_eq_true.2 ⟨d,hd,hk⟩)).2 h1),h1⟩
 | arr e E l=>exact Iff.rfl
 | mp l=>exact Iff.rfl
 | it k n l=>simp only [Box.ren,Box.rep];rw [hq k (by simp [Box.has])]
end
inductive DLe (s:Mst) (q:Nat→Nat) (gone:Nat→Prop):D→D→Prop
 | any (d0:D):DLe s q gone d0 .any
 | ren (d:D):DLe s q gone (d.ren q) d
 | nil {α:Type} (E:El α):DLe s q gone (.sc (.slice none 0 0)) (.sl E [])
 | full {α:Type} (E:El α) (l:List α):DLe s q gone (.full E l) (.sl E l)
 | froz {α:Type} (e:TypeId) (E:El α) (l:List α) (k:Nat) (hk:s.h k=some (.arr e E l)) (hg:gone k):DLe s q gone (.own k) (.sl E l)
 | frozc {α:Type} (e:TypeId) (E:El α) (l:List α) (k:Nat) (hk:s.h k=some (.arr e E l)) (hg:gone k):DLe s q gone (.ocut k) (.sl E l)
 | ocut {α:Type} (e:TypeId) (E:El α) (l:List α) (k:Nat) (hk:s.h (q k)=some (.arr e E l)):DLe s q gone (.own (q k)) (.ocut k)
inductive V0Le (s:Mst) (q:Nat→Nat) (gone:Nat→Prop):V0→V0→Prop
 | one {d0 d:D} (h:DLe s q gone d0 d):V0Le s q gone (.one d0) (.one d)
 | ag {l0 l:List D} (h:All2 (DLe s q gone) l0 l):V0Le s q gone (.ag l0) (.ag l)
 | any (x:V0):V0Le s q gone x (.one .any)
inductive TVLe (s:Mst) (q:Nat→Nat) (gone:Nat→Prop):TV→TV→Prop
 | v {d0 d:V0} (h:V0Le s q gone d0 d):TVLe s q gone (.v d0) (.v d)
 | tup {l0 l:List V0} (h:All2 (V0Le s q gone) l0 l):TVLe s q gone (.tup l0) (.tup l)
 | any (x:TV):TVLe s q gone x (.c .any)
inductive BoxLe (s:Mst) (q:Nat→Nat) (gone:Nat→Prop):Box→Box→Prop
 | box (t:TypeId) {l0 l:List D} (h:All2 (DLe s q gone) l0 l):BoxLe s q gone (.box t l0) (.box t l)
 | arr {α:Type} (e:TypeId) (E:El α) (l:List α):BoxLe s q gone (.arr e E l) (.arr e E l)
 | mp (l:List (Value×Value)):BoxLe s q gone (.mp l) (.mp l)
 | it (k n:Nat) (l:List Nat):BoxLe s q gone (.it (q k) n l) (.it k n l)
theorem xu {w:World} {c:Ctx} {h h':Nat→Option Box} {ρ ρ':Nat→Value} {α:Type} {e:TypeId} {E:El α} {l:List α} {v:Value} {s:Mst} {a:Act} (hr:Rp c s ρ a w) {k:Nat} (hk:s.h k=some (.arr e E l)) (hv:(D.ocut k).rep w (Fz c s.h ρ w) ρ v) (hF:∀b,Fz c s.h ρ w b→Fz c h' ρ' w b) (hg:∀g,kb (ρ k)=some g→Fz c h' ρ' w g):(D.sl E l).rep w (Fz c h' ρ' w) ρ' v:=by
 obtain ⟨A0,n0,cap0,c0,hρ0,hc0,rfl⟩:=hv
 obtain ⟨A,cap,hA,hc,hp⟩:=dS (hr.hp k _ hk)
 have hA':=hA
 rw [hρ0] at hA'
 injection hA' with e1 e2 e3
 subst e1
 subst e2
 subst e3
 refine ⟨A0,c0,rfl,⟨hc0.1,Nat.le_trans hc0.2 hc.2⟩,?_⟩
 rcases Nat.eq_zero_or_pos l.length with h0|h0
 ·obtain rfl:l=[]:=List.eq_nil_of_length_eq_zero h0
  exact RowsAt.nil _ _ _ _
 ·obtain ⟨g,xs,rfl,_,h3,h4,_⟩:=hp h0
  exact ⟨xs,h3.same (fun _ _=>rfl) hF,fun _=>⟨g,0,rfl,hg g (by rw [hA];rfl),fun j u hu=>by rw [Nat.zero_add];exact h4 j u hu⟩⟩
theorem pD {w:World} {c:Ctx} {ρ:Nat→Value} {α:Type} {e:TypeId} {E:El α} {l:List α} {s:Mst} {a:Act} (hr:Rp c s ρ a w) {k:Nat} (hk:s.h k=some (.arr e E l)) {F:Nat→Prop} {v:Value} (hv:v=ρ k):(D.ocut k).rep w F ρ v:=by
 obtain ⟨A,cap,hA,hc,_⟩:=dS (hr.hp k _ hk)
 exact ⟨A,l.length,cap,cap,hA,⟨hc.1,Nat.le_refl _⟩,hv.trans hA⟩
structure Part (s:Mst) (q:Nat→Nat) (h2:Nat→Option Box):Prop where
 inj:∀k k',h2 k≠none→h2 k'≠none→q k=q k'→k=k'
 le:∀k b,h2 k=some b→∃b0,s.h (q k)=some b0∧BoxLe s q (fun j=>∀k,h2 k≠none→q k≠j) b0 b
section
variable {c:Ctx} {s:Mst} {ρ:Nat→Value} {a:Act} {w:World} {q:Nat→Nat} {h2:Nat→Option Box}
theorem Part.fz (p:Part s q h2):∀b,Fz c s.h ρ w b→Fz c h2 (fun k=>ρ (q k)) w b:=fun b ⟨f1,f2,f3⟩=>⟨f1,f2,fun k bx hk=>by obtain ⟨b0,h1,_⟩:=p.le k bx hk;exact f3 _ b0 h1⟩
theorem Part.d (p:Part s q h2) (hr:Rp c s ρ a w) {d0 d:D} {v:Value} (hle:DLe s q (fun j=>∀k,h2 k≠none→q k≠j) d0 d) (hd:d0.rep w (Fz c s.h ρ w) ρ v):d.rep w (Fz c h2 (fun k=>ρ (q k)) w) (fun k=>ρ (q k)) v:=by
 cases hle with
 | any=>trivial
 | ren=>exact ((D.rep_ren (ρ':=fun k=>ρ (q k)) fun _ _=>rfl).1 hd).mono (fun b hb=>⟨p.fz b hb,rfl⟩) fun _ _=>rfl
 | nil E=>exact ⟨none,0,hd,by simp [maxLen],RowsAt.nil _ _ _ _⟩
 | full E l=>obtain ⟨A,h1,h2,h3⟩:=hd;exact ⟨A,_,h1,⟨Nat.le_refl _,h2⟩,h3.mono p.fz⟩
 | froz e E l k hk hg =>
  exact xu (h:=s.h) hr hk (pD hr hk hd) p.fz fun g hkb=>⟨(hr.inb k _ g hk hkb).imp (c.hX g) id,hr.ltb hk hkb,fun k' bx hk' he=>by obtain ⟨b0,h1,_⟩:=p.le k' bx hk';exact hg k' (by rw [hk'];simp) (hr.dis _ _ b0 _ g h1 hk he hkb)⟩
 | frozc e E l k hk hg =>
  exact xu (h:=s.h) hr hk hd p.fz fun g hkb=>⟨(hr.inb k _ g hk hkb).imp (c.hX g) id,hr.ltb hk hkb,fun k' bx hk' he=>by obtain ⟨b0,h1,_⟩:=p.le k' bx hk';exact hg k' (by rw [hk'];simp) (hr.dis _ _ b0 _ g h1 hk he hkb)⟩
 | ocut e E l k hk=>exact pD (F:=Fz c h2 (fun k=>ρ (q k)) w) hr hk hd
theorem Part.l (p:Part s q h2) (hr:Rp c s ρ a w):∀{l0 l:List D} {cs:List Value},All2 (DLe s q (fun j=>∀k,h2 k≠none→q k≠j)) l0 l→All2 (D.rep w (Fz c s.h ρ w) ρ) l0 cs→All2 (D.rep w (Fz c h2 (fun k=>ρ (q k)) w) (fun k=>ρ (q k))) l cs
 | [],[],[],_,_=>trivial
 | _ :: _,_ :: _,_ :: _,h,k=>⟨p.d hr h.1 k.1,p.l hr h.2 k.2⟩
 | [],_ :: _,_,h,_=>h.elim
 | _ :: _,[],_,h,_=>h.elim
 | [],[],_ :: _,_,k=>k.elim
 | _ :: _,_ :: _,[],_,k=>k.elim
theorem Part.v0 (p:Part s q h2) (hr:Rp c s ρ a w) {d0 d:V0} {v:Value} (hle:V0Le s q (fun j=>∀k,h2 k≠none→q k≠j) d0 d) (hd:d0.rep w (Fz c s.h ρ w) ρ v):d.rep w (Fz c h2 (fun k=>ρ (q k)) w) (fun k=>ρ (q k)) v:=by
 cases hle with
 | one h=>exact p.d hr h hd
 | ag h=>obtain ⟨cs,e,h2⟩:=hd;exact ⟨cs,e,p.l hr h h2⟩
 | any=>trivial
theorem Part.l0 (p:Part s q h2) (hr:Rp c s ρ a w):∀{l0 l:List V0} {cs:List Value},All2 (V0Le s q (fun j=>∀k,h2 k≠none→q k≠j)) l0 l→All2 (V0.rep w (Fz c s.h ρ w) ρ) l0 cs→All2 (V0.rep w (Fz c h2 (fun k=>ρ (q k)) w) (fun k=>ρ (q k))) l cs
 | [],[],[],_,_=>trivial
 | _ :: _,_ :: _,_ :: _,h,k=>⟨p.v0 hr h.1 k.1,p.l0 hr h.2 k.2⟩
 | [],_ :: _,_,h,_=>h.elim
 | _ :: _,[],_,h,_=>h.elim
 | [],[],_ :: _,_,k=>k.elim
 | _ :: _,_ :: _,[],_,k=>k.elim
theorem Part.tv (p:Part s q h2) (hr:Rp c s ρ a w) {d0 d:TV} {v:Value} (hle:TVLe s q (fun j=>∀k,h2 k≠none→q k≠j) d0 d) (hd:d0.rep w (Fz c s.h ρ w) ρ v):d.rep w (Fz c h2 (fun k=>ρ (q k)) w) (fun k=>ρ (q k)) v:=by
 cases hle with
 | v h=>exact p.v0 hr h hd
 | tup h=>obtain ⟨vs,e,h3⟩:=hd;exact ⟨vs,e,p.l0 hr h h3⟩
 | any=>trivial
theorem Rp.weak {s':Mst} (hr:Rp c s ρ a w) (p:Part s q s'.h) (hq:∀k,k∈c.K→q k=k∧s'.f k=false) (hwf:s'.Wf)
  (ht:∀t,TVLe s q (fun j=>∀k,s'.h k≠none→q k≠j) (s.t t) (s'.t t)):Rp c s' (fun k=>ρ (q k)) a w where
 dfr:=hr.dfr
 siz:=hr.siz
 frm:=hr.frm
 tmp:=fun t=>p.tv hr (ht t) (hr.tmp t)
 hp:=fun k b hk=>by
  obtain ⟨b0,h1,h2⟩:=p.le k b hk
  have h3:=hr.hp _ _ h1
  cases h2 with
  | box t h=>obtain ⟨g,vs,e,hb,h4,h5⟩:=h3;exact ⟨g,vs,e,hb,p.l hr h h4,h5⟩
  | arr e E l=>obtain ⟨xs,h4,h5⟩:=h3;exact ⟨xs,h4,h5.same (fun _ _=>rfl) p.fz⟩
  | mp l=>exact h3
  | it k n l=>exact h3
 inb:=fun k b g hk hg=>by
  obtain ⟨b0,h1,_⟩:=p.le k b hk
  exact hr.inb _ b0 g h1 hg
 dis:=fun k k' b b' g hk hk' hg hg'=>by
  obtain ⟨b0,h1,_⟩:=p.le k b hk
  obtain ⟨b0',h1',_⟩:=p.le k' b' hk'
  exact p.inj k k' (by rw [hk];simp) (by rw [hk'];simp) (hr.dis _ _ b0 b0' g h1 h1' hg hg')
 ent:=fun k hk=>⟨by show ρ (q k)=c.ρ0 k;rw [(hq k hk).1];exact (hr.ent k hk).1,(hq k hk).2⟩
 wf:=hwf
end
def D.keys:D→List Nat
 | .own k | .slb k _ | .ptr k _ | .optr k _ _ _ | .ocut k | .osl k _ _ _ _=>[k]
 | .clo _ ks=>ks
 | _=>[]
def Ip (U:List Nat) (l:List Nat):Bool:=l.all (aI U)
def D.in_ (U:List Nat) (d:D):Bool:=Ip U d.keys
def V0.in_ (U:List Nat):V0→Bool
 | .one d=>d.in_ U
 | .ag l=>l.all (D.in_ U)
def TV.in_ (U:List Nat):TV→Bool
 | .v x=>x.in_ U
 | .tup l=>l.all (V0.in_ U)
def Box.in_ (U:List Nat):Box→Bool
 | .box _ cs=>cs.all (D.in_ U)
 | .arr ..=>true
 | .mp _=>true
 | .it k _ _=>aI U k
section
variable {U:List Nat} {k:Nat}
theorem D.in_has {d:D} (h:d.in_ U=true) (hk:d.has k=true):aI U k=true:=by
 cases d with
 | clo f ks =>
  have hk:ks.any (fun j=>j.beq k)=true:=hk
  obtain ⟨j,hj,he⟩:=List.any_eq_true.1 hk
  rw [←Nat.eq_of_beq_eq_true he]
  have h:ks.all (aI U)=true:=h
  exact List.all_eq_true.1 h j hj
 | _=>simp [D.has] at hk <;> (subst hk;simpa [D.in_,D.keys,Ip] using h)
theorem V0.in_has {d:V0} (h:d.in_ U=true) (hk:d.has k=true):aI U k=true:=by
 cases d with
 | one d=>exact D.in_has (d:=d) h hk
 | ag l=>obtain ⟨d,h1,h2⟩:=List.any_eq_true.1 hk;exact D.in_has (List.all_eq_true.1 h d h1) h2
theorem TV.in_has {d:TV} (h:d.in_ U=true) (hk:d.has k=true):aI U k=true:=by
 cases d with
 | v d=>exact V0.in_has (d:=d) h hk
 | tup l=>obtain ⟨d,h1,h2⟩:=List.any_eq_true.1 hk;exact V0.in_has (List.all_eq_true.1 h d h1) h2
theorem Box.in_has {d:Box} (h:d.in_ U=true) (hk:d.has k=true):aI U k=true:=by
 cases d with
 | box t cs=>obtain ⟨d,h1,h2⟩:=List.any_eq_true.1 hk;exact D.in_has (List.all_eq_true.1 h d h1) h2
 | arr e E l=>simp [Box.has] at hk
 | mp l=>simp [Box.has] at hk
 | it j n l=>simp only [Box.has] at hk;rw [←Nat.eq_of_beq_eq_true hk];exact h
end
def dy:List (Nat×Box)→Nat→Option Box
 | [],_=>none
 | (k,b) :: r,n=>bif k.beq n then some b else dy r n
def av {α:Type _} (l:List (Nat×α)):List Nat:=l.map (·.1)
def dU:List Nat→Bool
 | []=>true
 | k :: r=>!aI r k && dU r
def Ag (args:List V0) (hin:List (Nat×Box)) (us:List Nat) (res:TV) (hout:List (Nat×Option Box)):Bool :=
 args.all (V0.in_ (av hin)) && hin.all (fun x=>x.2.in_ (av hin)) && Ip (av hout) (av hin) && Ip (av hin++us) (av hout) && us.all (fun k=>!aI (av hin) k && aI (av hout) k) &&
 res.in_ (av hin++us) && hout.all (fun x=>match x.2 with|none=>true|some b=>b.in_ (av hin++us))
def dJ (q:Nat→Nat) (l:List (Nat×Option Box)):List (Nat×Option Box):=l.map fun x=>(q x.1,x.2.map (Box.ren q))
structure FSpec (P:Program) (f:FuncId) (args:List V0) (hin:List (Nat×Box)) (us:List Nat) (res:TV) (hout:List (Nat×Option Box)):Prop where
 en:∀(vs:Array Value) (w:World),(callFunc f vs).run P w = .ok (.enter f vs) w
 ca:∀(q:Nat→Nat) (c:Ctx) (st:Mst) (ρ:Nat→Value) (a:Act) (w:World) (vs:List Value),Rp c st ρ a w→
  (∀k k',aI (av hin++us) k=true→aI (av hin++us) k'=true→q k=q k'→k=k')→
  All2 (fun d v=>(V0.ren q d).rep w (Fz c st.h ρ w) ρ v) args vs→
  (∀k b,dy hin k=some b→st.h (q k)=some (b.ren q))→(∀k,aI us k=true→st.f (q k)=true)→
  Calls P f vs.toArray w fun e w'=>∃v,e = .returned v∧∀dst:Option Nat,(∀d,dst=some d→d<c.nt)→∃ρ',Rp c (st.app dst ⟨res.ren q,dJ q hout,us.map q⟩) ρ' (a.put dst v) w'
inductive RV (P:Program) (s:Mst):ResultVar→V0→Prop
 | tmp {t:Nat} {x:V0} (h:s.t t = .v x):RV P s (.tmp t) x
 | row {t ty k n:Nat} {tb:TypeId} {cs:List D} (h:s.t t = .c (.ptr k 0)) (hk:s.h k=some (.box tb cs)) [I:TI P ty true n] (hn:cs.length=n):RV P s (.cell t ty) (.ag cs)
 | one {t ty k n:Nat} {tb:TypeId} {y:D} {cs:List D} (h:s.t t = .c (.ptr k 0)) (hk:s.h k=some (.box tb (y :: cs))) [I:TI P ty false n]:RV P s (.cell t ty) (.one y)
def GF:List V0→TV
 | [x]=>.v x
 | l=>.tup l
def se (tmps:Array Value):ResultVar→Sem Value
 | .tmp t=>pure (tmps.getD t undef)
 | .cell a t=>do loadVar t (←asAddr (tmps.getD a undef))
theorem xv (fn:Func) (tmps:Array Value):results fn tmps=(do let vs ←fn.results.mapM (se tmps);pure (if h:vs.size=1 then vs[0] else .tuple vs)):=by
 unfold results
 congr 1
theorem rl {P:Program} {c:Ctx} {s:Mst} {ρ:Nat→Value} {a:Act} {w:World} (hr:Rp c s ρ a w) {r:ResultVar} {x:V0} (h:RV P s r x) :
  ∃v,(se a.tmps r).run P w = .ok v w∧x.rep w (Fz c s.h ρ w) ρ v:=by
 cases h with
 | @tmp t x h=>exact ⟨_,rfl,by have:=hr.tmp t;rw [h] at this;exact this⟩
 | @row t ty k n tb cs h hk I hn =>
  have h1:=hr.tmp t
  rw [h] at h1
  obtain ⟨g,hg,hv⟩:=h1
  obtain ⟨vs,hB,hA,h1c⟩:=hr.box hk hg
  refine ⟨.agg vs.toArray,?_,vs,rfl,hA⟩
  have h2:=mj (P:=P) (t:=ty) (g:=g) (p:=0) w vs (fun j u hu=>by rw [Nat.zero_add];exact hB.cellx j (by simpa using hu)) (by rw [←hA.length,hn])
  simp only [Instr.loadAt,Instr.sureAddr,Sem.run_bind,Sem.run_pure,Result.andThen_ok] at h2
  simp only [se,hv,asAddr,Sem.run_bind,Sem.run_pure,Result.andThen_ok,h2]
 | @one t ty k n tb y cs h hk I =>
  have h1:=hr.tmp t
  rw [h] at h1
  obtain ⟨g,hg,hv⟩:=h1
  obtain ⟨vs,hB,hA,h1c⟩:=hr.box hk hg
  obtain ⟨u,hu,hrep⟩:=hA.get (i:=0) (a:=y) rfl
  refine ⟨u,?_,hrep⟩
  have h2:=ml (P:=P) (t:=ty) (g:=g) (p:=0) w u (hB.cellx 0 (by simpa using hu))
  simp only [Instr.loadAt,Instr.sureAddr,Sem.run_bind,Sem.run_pure,Result.andThen_ok] at h2
  simp only [se,hv,asAddr,Sem.run_bind,Sem.run_pure,Result.andThen_ok,h2]
theorem vA {P:Program} {c:Ctx} {s:Mst} {ρ:Nat→Value} {a:Act} {w:World} (hr:Rp c s ρ a w) {fn:Func} {xs:List V0} (h:All2 (RV P s) fn.results.toList xs):∃v,(results fn a.tmps).run P w = .ok v w∧(GF xs).rep w (Fz c s.h ρ w) ρ v:=by
 have key:∀(rs:List ResultVar) (xs:List V0),All2 (RV P s) rs xs→∃vs:List Value,(rs.mapM (se a.tmps)).run P w = .ok vs w∧All2 (V0.rep w (Fz c s.h ρ w) ρ) xs vs:=by
  intro rs
  induction rs with
  | nil=>intro xs h;cases xs with
   | nil=>exact ⟨[],rfl,trivial⟩
   | cons=>exact h.elim
  | cons r rs ih =>
   intro xs h
   cases xs with
   | nil=>exact h.elim
   | cons x xs =>
    obtain ⟨v,h1,h2⟩:=rl hr h.1
    obtain ⟨vs,h3,h4⟩:=ih xs h.2
    refine ⟨v :: vs,?_,h2,h4⟩
    simp only [List.mapM_cons,Sem.run_bind,h1,Result.andThen_ok,h3,Sem.run_pure]
 obtain ⟨vs,h1,h2⟩:=key _ _ h
 have hm:(fn.results.mapM (se a.tmps)).run P w = .ok vs.toArray w:=by
  rw [Array.mapM_eq_mapM_toList,map_eq_pure_bind]
  simp only [Sem.run_bind,h1,Result.andThen_ok,Sem.run_pure]
 have hl:=h2.length
 rw [xv]
 simp only [Sem.run_bind,hm,Result.andThen_ok,Sem.run_pure]
 match xs,vs,h2 with
 | [x],[v],h2=>exact ⟨v,rfl,h2.1⟩
 | [],[],_=>exact ⟨_,rfl,[],rfl,trivial⟩
 | x :: y :: xs,v :: u :: vs,h2=>exact ⟨_,rfl,v :: u :: vs,by simp,h2⟩
end Go.Proofs.YtjndcdcbjidocaaGreatDoor
