/- Part K01 of a proof of statements of chapter 15 (no condition). -/
import Derived.Test.YtkkbopkbjacfmaaGreatDoorProg
import Derived.WalkKit
import Derived.WalkSpells
import Derived.WalkLawsBesides
import Derived.Lib.Hide
import Derived.Deep.QuietTactic
import Derived.BigQuiet
import Derived.Deep.LoopGhost
import Derived.Maps.AppendAt
import Derived.Deep.Slices
import Derived.Deep.Fields
import Derived.ChangeSame
import Derived.OpenShut
import Derived.Laws.OwnMore
import Derived.StillTail
import Derived.Lib.AtoiAll
import Derived.Lib.ItoaNum
import Derived.Lib.Split
import Derived.Laws.StructEq
import Derived.Sort.Walk0
import Derived.Laws.ResultCell
import Derived.Laws.NewBlocks
import Derived.Deep.MidRow
import Derived.Laws.CopyRow
import Derived.Laws.IdiomCopy
import Derived.Laws.MakeOwn
set_option linter.unusedVariables false
set_option linter.unusedSimpArgs false
set_option maxRecDepth 100000
set_option maxHeartbeats 64000000
namespace Go.Proofs.YtkkbopkbjacfmaaGreatDoor
open Go.RowKit Go.Proofs.Tryz
theorem qGe {α:Sort _} (a:α):∃b,a=b:=⟨_,rfl⟩
theorem qGs {α:Type _} {l:List α} {i:Nat} {x:α} (h:l[i]? =some x):l[i]'((List.getElem?_eq_some_iff.1 h).1)=x:=(List.getElem?_eq_some_iff.1 h).2
theorem qDc {α:Type _} {l:List α} {i:Nat} (h:i<l.length):l.drop i=l[i]::l.drop (i+1):=List.drop_eq_getElem_cons h
theorem qDn {α:Type _} {l:List α} {i:Nat} (h:l.length<=i):l.drop i=[]:=List.drop_eq_nil_of_le h
theorem qGg {α:Type _} {l:List α} {i:Nat} (h:i<l.length):l[i]? =some l[i]:=List.getElem?_eq_getElem h
theorem qDt {p:Prop} [Decidable p] (h:p):decide p=true:=decide_eq_true h
theorem qDf {p:Prop} [Decidable p] (h:¬p):decide p=false:=decide_eq_false h
theorem qBa (a b:Bool):((a&&b)=true)=(a=true/\b=true):=Bool.and_eq_true a b
theorem qNb {n m:Nat} (h:Nat.beq n m=true):n=m:=Nat.eq_of_beq_eq_true h
theorem qNl {n m:Nat} (h:Nat.ble n m=true):n<=m:=Nat.le_of_ble_eq_true h
theorem qCt {α:Sort _} (a b:α):(bif true then a else b)=a:=rfl
theorem qCf {α:Sort _} (a b:α):(bif false then a else b)=b:=rfl
theorem QY {P:Prop} (h:P:=by refine ao ?_;exact aT):P:=h
theorem QZ {P:Prop} (h:P:=by rw [hkk k2 h] at hp;simp only [hput,Nat.beq_refl,qCt,Option.some.injEq] at hp;subst hp;simp [Box.has] at hx):P:=h
theorem Q0 {P:Prop} (h:P:=by simp only [aF,Bool.or_false] at h;exact (qNb h).symm):P:=h
theorem Q3 {P:Prop} (h:P:=by clear e1 e2;repeat' (first|refine az ?_ ?_|(refine aa 9 rfl ?_;first|(refine cH (qf [(0,0)]) kN ?_)|(refine cH (qf [(0,0)]) kN2 ?_)|(refine cH (qf [(0,0)]) kN3 ?_)|(refine cB [] kP ?_))|refine ay ?_|exact aA|refine ax fun hb=>?_|(refine cn (qf [(0,0)]) ?_;exact ak))):P:=h
theorem Q4 {P:Prop} (h:P:=by rw [hw] at hZ;obtain rfl:Z=(w,14):=hZ.symm;repeat' (first|refine az ?_ ?_|refine aa 9 rfl (cB [1] kI ?_)|refine ay ?_|exact aA|(refine ax fun hb=>?_;first|(cases hw.symm.trans hb;done)|skip)|(refine cn (qf [(3,1),(4,2)]) ?_;exact ak))):P:=h
theorem Q5 {P:Prop} (h:P:=by repeat' (first|refine az ?_ ?_|(refine aa 9 rfl ?_;first|(refine cB [1] kI ?_)|(refine cH (qf [(1,1),(2,2),(3,1003),(4,1004)]) kT ?_))|refine ay ?_|exact aA|refine ax fun hb=>?_|(refine cn (qf [(3,1003),(4,1004)]) ?_;exact ak))):P:=h
theorem Q6 {P:Prop} (h:P:=by repeat' (first|refine az ?_ ?_|(refine aa 9 rfl ?_;first|(refine cH (qf [(0,0)]) kN ?_)|(refine cH (qf [(0,0)]) kN2 ?_)|(refine cB [] kP ?_))|refine ay ?_|exact aA|refine ax fun hb=>?_|(refine cn (qf [(0,0)]) ?_;exact ak))):P:=h
theorem Q7 {P:Prop} (h:P:=by refine ao ?_;refine ⟨i+1,⟨by omega,hs⟩,by omega,?_⟩;exact aL):P:=h
theorem Q8 {P:Prop} (h:P:=by repeat' (first|refine az ?_ ?_|refine ay ?_|exact aA|(refine ax fun hb=>?_;first|(simp at hb;done)|skip)|(refine gG (qf []) ?_;exact ak))):P:=h
theorem Q9 {P:Prop} (h:P:=by rw [hkk k' h,aN] at hg';injection hg' with hg';subst hg';exact ⟨by simp,.inl (Nat.le_refl _)⟩):P:=h
theorem Ra {P:Prop} (h:P:=by rw [qDn (by omega)] at hs;refine ao ?_;refine eR ?_;rw [<-hs];rfl):P:=h
theorem Rb {P:Prop} (h:P:=by refine ⟨i+1,⟨by omega,by rw [<-hs];simp [*]⟩,by omega,?_⟩;exact aL):P:=h
theorem Rc {P:Prop} (h:P:=by repeat' (first|refine az ?_ ?_|(refine aa 8 rfl ?_;refine aK (ae rfl rfl (av rfl rfl) (aB [e] rfl rfl rfl rfl) rfl aE aE) rfl rfl rfl ?_)|(refine aa 9 rfl ?_;first|(refine cB [] (co g) ?_)|(refine cB [17,21] (co ⟨g.entries++[e],g.saves⟩) ?_))|refine ay ?_|exact aA|refine ax fun hb=>?_|(refine gG (qf []) ?_;exact ak))):P:=h
theorem Rd {P:Prop} (h:P:=by refine cn (qf []) ?_;exact ak):P:=h
theorem Re {P:Prop} (h:P:=by refine bodyPost_ret_by (v:=res) ?_ rfl ⟨rfl,by (exact i7)⟩;rw [cJ rfl,<-hv];unfold tg ll Pr.val;go_simp):P:=h
theorem Rf {P:Prop} (h:P:=by rw [hN] at kA ⊢;dsimp only;rw [<-hg];repeat' (first|refine az ?_ ?_|(refine aa 9 rfl ?_;first|(refine cH (qf [(0,0)]) kA ?_)|(refine cB [] (MQ N.gen) ?_))|refine ay ?_|exact aA|(refine ax fun hb=>?_;first|(exact absurd hb (by decide))|skip)|(refine fk (qf []) ?_;exact ak))):P:=h
theorem Rg {P:Prop} (h:P:=by rw [hkk k' h,hkb] at hg';injection hg' with hg';subst hg';exact ⟨by rw [hsize];exact hr.ltb hk' hkb,.inr ⟨k,_,by simp [aF],hk',hkb⟩⟩):P:=h
theorem Rh {P:Prop} (h:P:=by refine ⟨(i+1,r),⟨by dsimp only;omega,by dsimp only;omega,hs⟩,by dsimp only;omega,?_⟩;exact a8 (qf [(1000,1001)])):P:=h
theorem Ri {P:Prop} (h:P:=by repeat' (first|(simp [bY,jJ];done)|(simp only [jJ];omega)|(rw [cond_eq_ite];split))):P:=h
theorem Rj {P:Prop} (h:P:=by rintro ⟨h1,h2⟩;refine ⟨⟨h1 x (by simp),by have:=h2 0 (by simp);simpa using this⟩,fun y hy=>h1 y (by simp [hy]),fun j hj=>?_⟩;have:=h2 (j+1) (by simp;omega);simp only [List.getElem_cons_succ] at this;rw [this];omega):P:=h
theorem Rk {P:Prop} (h:P:=by repeat' (first|refine az ?_ ?_|(refine aa 9 rfl ?_;first|(refine cB [] (De x d (n:=x.dep) (by rw [hk];rfl)) ?_)|(refine cH (qf [(0,3),(1,1000),(2,1001)]) kP ?_))|refine ay ?_|exact aA|refine ax fun hb=>?_|exact aT|fail)):P:=h
theorem Rl {P:Prop} (h:P:=by refine ao ?_;refine ⟨(i+1,T),⟨by dsimp only;omega,by dsimp only;omega,hs⟩,by dsimp only;omega,?_⟩;exact aL):P:=h
theorem Rm {P:Prop} (h:P:=by injection h1 with h1;injection h1 with h1;injection h1 with h1;rw [h2,h1]):P:=h
theorem Rn {P:Prop} (h:P:=by repeat' (first|refine az ?_ ?_|refine fV ?_|refine ay ?_|exact aA|(refine ax fun hb=>?_;first|(exact (hok1 (by omega) (by omega) (by omega) (by omega) (by omega) (by omega)).elim)|skip)|exact aT|fail)):P:=h
theorem Ro {P:Prop} (h:P:=by repeat' (first|refine az ?_ ?_|(refine aa 9 rfl ?_;first|(refine cB [] kN ?_)|(refine cH (qf [(0,1000),(1,1001)]) kA ?_))|refine ay ?_|exact aA|refine ax fun hb=>?_|(refine gG (qf []) ?_;exact ak))):P:=h
theorem Rr {P:Prop} (h:P:=by repeat' (first|refine az ?_ ?_|refine aa 9 rfl (cB [1000] kV ?_)|refine ay ?_|exact aA|(refine ax fun hb=>?_;first|(exact (hgo2 (by omega) rfl).elim)|skip)|(refine fk (qf []) ?_;exact ak))):P:=h
theorem Rt {P:Prop} (h:P:=by repeat' (first|refine az ?_ ?_|(refine aa 9 rfl ?_;first|(refine cB [] kV ?_)|(refine cB [1] kI ?_))|refine ay ?_|exact aA|refine ax fun hb=>?_|(refine cn (qf [(3,1),(4,2)]) ?_;exact ak))):P:=h
theorem Ru {P:Prop} (h:P:=by repeat' (first|refine az ?_ ?_|refine aa 9 rfl (cH (qf [(0,16),(1,1002),(2,1003),(3,1004),(4,1005)]) kD ?_)|refine ay ?_|exact aA|refine ax fun hb=>?_|(refine fk (qf []) ?_;exact ak))):P:=h
theorem Rv {P:Prop} (h:P:=by repeat' (first|refine az ?_ ?_|refine fV ?_|refine ay ?_|exact aA|(refine ax fun hb=>?_;first|(exact (hN ⟨by omega,by assumption⟩).elim)|skip)|(refine fk (qf []) ?_;exact ak))):P:=h
theorem Rw {P:Prop} (h:P:=by repeat' (first|refine az ?_ ?_|(refine aa 9 rfl ?_;first|(refine cB [] k1 ?_)|(refine cB [] k2 ?_))|refine ay ?_|exact aA|refine ax fun hb=>?_|(refine gG (qf []) ?_;exact ak))):P:=h
theorem Rx {P:Prop} (h:P:=by refine eR ?_;rw [<-hs];simp [*]):P:=h
theorem Ry {P:Prop} (h:P:=by dsimp only;rw [<-hs];simp):P:=h
theorem Rz {P:Prop} (h:P:=by simp only [Instr.loadAt,Instr.sureAddr,Sem.run_bind,Sem.run_pure,Result.andThen_ok] at h2;simp only [xw,hv,asAddr,Sem.run_bind,Sem.run_pure,Result.andThen_ok,h2]):P:=h
theorem RA {P:Prop} (h:P:=by exact List.mem_append.2 (.inr (List.mem_map.2 ⟨n,(List.mem_filter.1 hn).1,rfl⟩))):P:=h
theorem RC {P:Prop} (h:P:=by rw [hputk] at hb;exact ⟨rfl,(Option.some.inj hb).symm⟩):P:=h
theorem RD {P:Prop} (h:P:=by refine ⟨i+1,by omega,by omega,?_⟩;rw [<-hst];exact aL):P:=h
theorem RE {P:Prop} (h:P:=by repeat' (first|refine az ?_ ?_|(refine aa 10 rfl ?_;refine sx (yK rfl rfl rfl (by omega) hr) ?_)|refine ay ?_|exact aA|refine ax fun hb=>?_|exact aT|fail)):P:=h
theorem RF {P:Prop} (h:P:=by rw [hc y (by simp [ho,Op.operands]),hy] at this;exact .inl (congrArg some this)):P:=h
theorem RG {P:Prop} (h:P:=by exact ⟨xs,h3.same (fun _ _=>rfl) hF,fun _=>⟨g,0,rfl,hO k _ g hR hk' (by rw [hA];rfl),fun j u hu=>by rw [Nat.zero_add];exact h4 j u hu⟩⟩):P:=h
theorem RH {P:Prop} (h:P:=by subst hp;refine .inr ⟨rfl,by rw [qDt rfl];rfl,by rw [if_pos rfl],?_⟩;rw [ez];intro y hy e;exact hn'.1 (e▸List.mem_map.2 ⟨y,hy,rfl⟩)):P:=h
theorem RI {P:Prop} (h:P:=by simp [hv,hv2,Instr.sliceAt,Instr.slice,Instr.sliceBounds,Instr.sliceBound,asIntOf,run_underlying I.u,sizeOf,typeInfo,hq,hi0,hj,h3];try omega):P:=h
theorem RJ {P:Prop} (h:P:=by simp [hv,hv2,Instr.sliceAt,Instr.slice,Instr.sliceBounds,Instr.sliceBound,asIntOf,run_underlying I.u,sizeOf,typeInfo,hq,hi0,hj,h3,dd,hc.1]):P:=h
theorem RK {P:Prop} (h:P:=by rw [hkk k1 h,hkk k2 h']):P:=h
theorem RL {P:Prop} (h:P:=by simp only [List.getElem_cons_succ];rw [this];omega):P:=h
theorem RM {P:Prop} (h:P:=by refine ⟨x,List.mem_iff_getElem.2 ⟨j,by simpa using hj,?_⟩,GrP.refl x⟩;rw [List.getElem_set_ne (fun e2=>hji e2.symm)];exact e):P:=h
theorem RN {P:Prop} (h:P:=by exact ⟨_,rfl,HO2.out,(Below.al (Below.refl _ w) _).trans HB2.out⟩):P:=h
theorem RO {P:Prop} (h:P:=by exact ⟨i+1,by simpa using hi,by rw [h1];omega,by simpa using h2⟩):P:=h
theorem RP {P:Prop} (h:P:=by refine ⟨(i+1,out),⟨by dsimp only;omega,by dsimp only;omega,by rw [<-hs];simp [bX, *]⟩,by dsimp only;omega,?_⟩;exact aL):P:=h
theorem RQ {P:Prop} (h:P:=by exact ⟨_,rfl,OwnRows.nil _ _ _ _ (Nat.le_refl _),Below.refl _ _⟩):P:=h
theorem RR {P:Prop} (h:P:=by rw [gw (by rw [<-fc];exact hk)] at hb;cases hb):P:=h
section
open Go.WideShapes Go.ChangeShapes Go.Deep
structure El (α:Type) where
 n:Nat
 pos:0<n
 rep:World->(Nat->Prop)->α->List Value->Prop
 len:∀{w:World} {S:Nat->Prop} {x:α} {cs:List Value},rep w S x cs->cs.length=n
 one:∀{w:World} {S:Nat->Prop} {x:α} {cs:List Value},rep w S x cs->∀u∈cs,u.oneCell'=true
 same:∀{w w':World} {S S':Nat->Prop} {x:α} {cs:List Value},rep w S x cs->(∀b,S b->w'.heap[b]? = w.heap[b]?)->(∀b,S b->S' b)->rep w' S' x cs
section
variable {α:Type} {E:El α} {w w':World} {S S':Nat->Prop} {A:Option Addr} {l l':List α} {xs ys:List Value} {v:Value} {base B:Nat} {e:TypeId}
def Reps (E:El α) (w:World) (S:Nat->Prop):List α->List Value->Prop
 | [],xs=>xs=[]
 | x :: l,xs=>∃cs rest,xs=cs++rest/\E.rep w S x cs/\Reps E w S l rest
theorem Reps.length:∀{l:List α} {xs:List Value},Reps E w S l xs->xs.length=l.length*E.n
 | [],xs,h=>by rw [show xs=[] from h];simp
 | x :: l,xs,h=>by
  obtain ⟨cs,rest,rfl,h1,h2⟩:=h;rw [List.length_append,E.len h1,Reps.length h2,List.length_cons,Nat.add_mul,Nat.one_mul,Nat.add_comm]
theorem Reps.one:∀{l:List α} {xs:List Value},Reps E w S l xs->∀u∈xs,u.oneCell'=true
 | [],xs,h=>by rw [show xs=[] from h];simp
 | x :: l,xs,h=>by
  obtain ⟨cs,rest,rfl,h1,h2⟩:=h;intro u hu;rcases List.mem_append.1 hu with hu|hu
  ·exact E.one h1 u hu
  ·exact Reps.one h2 u hu
theorem Reps.same:∀{l:List α} {xs:List Value},Reps E w S l xs->(∀b,S b->w'.heap[b]? = w.heap[b]?)->(∀b,S b->S' b)->Reps E w' S' l xs
 | [],xs,h,_,_=>h
 | x :: l,xs,h,hk,hS=>by
  obtain ⟨cs,rest,rfl,h1,h2⟩:=h;exact ⟨cs,rest,rfl,E.same h1 hk hS,Reps.same h2 hk hS⟩
theorem Reps.append:∀{l l':List α} {xs ys:List Value},Reps E w S l xs->Reps E w S l' ys->Reps E w S (l++l') (xs++ys)
 | [],l',xs,ys,h,k=>by rw [show xs=[] from h];exact k
 | x :: l,l',xs,ys,h,k=>by
  obtain ⟨cs,rest,rfl,h1,h2⟩:=h;exact ⟨cs,rest++ys,by simp,h1,Reps.append h2 k⟩
theorem Reps.single {x:α} {cs:List Value} (h:E.rep w S x cs):Reps E w S [x] cs:=⟨cs,[],by simp,h,rfl⟩
theorem Reps.drop:∀{l:List α} {xs:List Value} (k:Nat),Reps E w S l xs->Reps E w S (l.drop k) (xs.drop (k*E.n))
 | l,xs,0,h=>by simpa using h
 | [],xs,k+1,h=>by rw [show xs=[] from h];simp [Reps]
 | x :: l,xs,k+1,h=>by
  obtain ⟨cs,rest,rfl,h1,h2⟩:=h;have e1:(cs++rest).drop ((k+1)*E.n)=rest.drop (k*E.n):=by
   rw [List.drop_append,E.len h1,qDn (by rw [E.len h1,Nat.add_mul];omega),Nat.add_mul,Nat.one_mul,Nat.add_sub_cancel,List.nil_append]
  rw [e1];exact Reps.drop k h2
theorem Reps.take:∀{l:List α} {xs:List Value} (k:Nat),Reps E w S l xs->Reps E w S (l.take k) (xs.take (k*E.n))
 | l,xs,0,h=>by simp [Reps]
 | [],xs,k+1,h=>by rw [show xs=[] from h];simp [Reps]
 | x :: l,xs,k+1,h=>by
  obtain ⟨cs,rest,rfl,h1,h2⟩:=h;have e1:(cs++rest).take ((k+1)*E.n)=cs++rest.take (k*E.n):=by
   rw [List.take_append,E.len h1,List.take_of_length_le (by rw [E.len h1,Nat.add_mul];omega),Nat.add_mul,Nat.one_mul,Nat.add_sub_cancel]
  rw [e1];exact ⟨cs,_,rfl,h1,Reps.take k h2⟩
theorem Reps.get:∀{l:List α} {xs:List Value},Reps E w S l xs->∀i (h:i<l.length),∃cs,E.rep w S l[i] cs/\∀j,j<E.n->xs[i*E.n+j]? = cs[j]?
 | [],xs,h,i,hi=>absurd hi (by simp)
 | x :: l,xs,h,0,hi=>by
  obtain ⟨cs,rest,rfl,h1,h2⟩:=h;exact ⟨cs,h1,fun j hj=>by rw [Nat.zero_mul,Nat.zero_add,List.getElem?_append_left (by rw [E.len h1];exact hj)]⟩
 | x :: l,xs,h,i+1,hi=>by
  obtain ⟨cs,rest,rfl,h1,h2⟩:=h;obtain ⟨cs',h3,h4⟩:=Reps.get h2 i (by simpa using hi);refine ⟨cs',by simpa using h3,fun j hj=>?_⟩;rw [<-h4 j hj,List.getElem?_append_right (by rw [E.len h1,Nat.add_mul];omega),E.len h1,Nat.add_mul,Nat.one_mul];congr 1
  omega
theorem Reps.set:∀{l:List α} {xs:List Value} {i:Nat} {y:α} {cs:List Value},Reps E w S l xs->E.rep w S y cs->i<l.length->Reps E w S (l.set i y) (xs.take (i*E.n)++cs++xs.drop (i*E.n+E.n))
 | [],xs,i,y,cs,h,hy,hi=>absurd hi (by simp)
 | x :: l,xs,0,y,cs,h,hy,hi=>by
  obtain ⟨cs',rest,rfl,h1,h2⟩:=h;refine ⟨cs,rest,?_,hy,h2⟩;rw [Nat.zero_mul,List.take_zero,List.nil_append,Nat.zero_add,List.drop_append,E.len h1,qDn (by rw [E.len h1];omega),Nat.sub_self,List.drop_zero,List.nil_append]
 | x :: l,xs,i+1,y,cs,h,hy,hi=>by
  obtain ⟨cs',rest,rfl,h1,h2⟩:=h;refine ⟨cs',rest.take (i*E.n)++cs++rest.drop (i*E.n+E.n),?_,h1,Reps.set h2 hy (by simpa using hi)⟩;have hl:=E.len h1;rw [List.take_append,List.drop_append,hl,List.take_of_length_le (by rw [hl,Nat.add_mul];omega),qDn (by rw [hl,Nat.add_mul];omega)];rw [show (i+1)*E.n-E.n=i*E.n by rw [Nat.add_mul];omega,show (i+1)*E.n+E.n-E.n=i*E.n+E.n by rw [Nat.add_mul];omega];simp
def RowsAt (E:El α) (w:World) (S:Nat->Prop) (A:Option Addr) (l:List α):Prop :=
 ∃xs,Reps E w S l xs/\(0<l.length->∃b off,A=some ⟨b,off,none⟩/\S b/\∀j u,xs[j]? = some u->w.cell? ⟨b,off+j,none⟩=some u)
theorem RowsAt.nil (E:El α) (w:World) (S:Nat->Prop) (A:Option Addr):RowsAt E w S A []:=⟨[],rfl,fun h=>absurd h (by simp)⟩
theorem RowsAt.same (h:RowsAt E w S A l) (hk:∀b,S b->w'.heap[b]? = w.heap[b]?) (hS:∀b,S b->S' b):RowsAt E w' S' A l:=by
 obtain ⟨xs,h1,h2⟩:=h;refine ⟨xs,h1.same hk hS,fun h0=>?_⟩;obtain ⟨b,off,hA,hb,hc⟩:=h2 h0;exact ⟨b,off,hA,hS b hb,fun j u hu=>(World.cell?_of_block (w:=w) (a:=⟨b,off+j,none⟩) (hk b hb)).trans (hc j u hu)⟩
theorem RowsAt.mono (h:RowsAt E w S A l) (hS:∀b,S b->S' b):RowsAt E w S' A l:=h.same (fun _ _=>rfl) hS
theorem RowsAt.get (h:RowsAt E w S A l) {i:Nat} (hi:i<l.length) :
  ∃b off cs,A=some ⟨b,off,none⟩/\S b/\E.rep w S l[i] cs/\∀j,j<E.n->w.cell? ⟨b,off+i*E.n+j,none⟩=cs[j]?:=by
 obtain ⟨xs,h1,h2⟩:=h;obtain ⟨b,off,hA,hb,hc⟩:=h2 (by omega);obtain ⟨cs,h3,h4⟩:=h1.get i hi;refine ⟨b,off,cs,hA,hb,h3,fun j hj=>?_⟩;have hj2:j<cs.length:=by rw [E.len h3];exact hj
 have h5:=h4 j hj;rw [qGg hj2] at h5 ⊢;rw [Nat.add_assoc];exact hc _ _ h5
theorem RowsAt.getx (h:RowsAt E w S A l) {i:Nat} {x:α} (hi:i<l.length) (hx:l[i]=x) :
  ∃b off cs,A=some ⟨b,off,none⟩/\S b/\E.rep w S x cs/\∀j,j<E.n->w.cell? ⟨b,off+i*E.n+j,none⟩=cs[j]?:=by subst hx;exact h.get hi
theorem RowsAt.take (h:RowsAt E w S A l) (k:Nat):RowsAt E w S A (l.take k):=by
 obtain ⟨xs,h1,h2⟩:=h;refine ⟨_,h1.take k,fun h0=>?_⟩;obtain ⟨b,off,hA,hb,hc⟩:=h2 (by rw [List.length_take] at h0;omega);exact ⟨b,off,hA,hb,fun j u hu=>hc j u (by rw [List.getElem?_take] at hu;split at hu;exact hu;cases hu)⟩
theorem RowsAt.drop {b off:Nat} (h:RowsAt E w S (some ⟨b,off,none⟩) l) (k:Nat):RowsAt E w S (some ⟨b,off+k*E.n,none⟩) (l.drop k):=by
 obtain ⟨xs,h1,h2⟩:=h;refine ⟨_,h1.drop k,fun h0=>?_⟩;obtain ⟨b',off',hA,hb,hc⟩:=h2 (by rw [List.length_drop] at h0;omega);injection hA with hA;injection hA with e1 e2;subst e1;subst e2;exact ⟨b,_,rfl,hb,fun j u hu=>by rw [Nat.add_assoc];exact hc _ u (by rw [List.getElem?_drop] at hu;exact hu)⟩
def Lo (B:Nat) (b:Nat):Prop:=b<B
def ym (w:World) (v:Value) (b:Nat):Prop:=b<w.heap.size/\v.ownBlock≠some b
theorem RowsAt.below {B B' B'':Nat} (h:RowsAt E w (Lo B) A l) (hb:Below B' w w') (hB:B<=B') (hB2:B<=B''):RowsAt E w' (Lo B'') A l :=
 h.same (fun b hl=>hb.block b (Nat.lt_of_lt_of_le hl hB)) fun _ hl=>Nat.lt_of_lt_of_le hl hB2
def OwnRows (E:El α) (e:TypeId) (w:World) (base:Nat) (v:Value) (l:List α):Prop :=
 base<=w.heap.size/\∃xs,w.ownsRow base e E.n v l.length xs/\Reps E w (ym w v) l xs
theorem OwnRows.nil (E:El α) (e:TypeId) (w:World) (base:Nat) (hb:base<=w.heap.size):OwnRows E e w base (.slice none 0 0) []:=⟨hb,[],World.ownsRow_nil _ _ _ _,rfl⟩
theorem OwnRows.block (h:OwnRows E e w base v l):∀k,v.ownBlock=some k->base<=k/\k<w.heap.size:=by
 obtain ⟨_,xs,h1,_⟩:=h;exact h1.lt
theorem OwnRows.keep (h:OwnRows E e w base v l) (hk:∀b,b<w.heap.size->w'.heap[b]? = w.heap[b]?) (hs:w.heap.size<=w'.heap.size):OwnRows E e w' base v l:=by
 obtain ⟨h0,xs,⟨h1,h2⟩,h3⟩:=h;refine ⟨Nat.le_trans h0 hs,xs,⟨h1,?_⟩,h3.same (fun b hb=>hk b hb.1) fun b hb=>⟨Nat.lt_of_lt_of_le hb.1 hs,hb.2⟩⟩;rcases h2 with hn|⟨g,cap,cur,hv,hg,hh,rest⟩
 ·exact .inl hn
 ·exact .inr ⟨g,cap,cur,hv,hg,by rw [hk g (Array.getElem?_eq_some_iff.1 hh).1];exact hh,rest⟩
theorem OwnRows.below (h:OwnRows E e w base v l) (hb:Below B w w') (hB:w.heap.size<=B):OwnRows E e w' base v l:=h.keep (fun b hlt=>hb.block b (by omega)) hb.size
theorem OwnRows.alloc (h:OwnRows E e w base v l) (o:Obj):OwnRows E e (w.alloc o) base v l:=h.keep (fun b hlt=>Below.heap_alloc w o b hlt) (by simp)
theorem OwnRows.older (h:OwnRows E e w base v l) {base':Nat} (hb:base'<=base):OwnRows E e w base' v l:=by
 obtain ⟨h0,xs,⟨h1,h2⟩,h3⟩:=h;refine ⟨Nat.le_trans hb h0,xs,⟨h1,?_⟩,h3⟩;rcases h2 with hn|⟨g,cap,cur,hv,hg,rest⟩
 ·exact .inl hn
 ·exact .inr ⟨g,cap,cur,hv,Nat.le_trans hb hg,rest⟩
theorem OwnRows.form (h:OwnRows E e w base v l) :
  ∃A cap,v = .slice A l.length cap/\RowsAt E w (Lo w.heap.size) A l/\l.length<=cap/\cap<=maxLen:=by
 obtain ⟨h0,xs,h1,h3⟩:=h;have hc:∀g,v.ownBlock=some g->∀j u,xs[j]? = some u->w.cell? ((⟨g,0,none⟩:Addr).add j)=some u:=fun g hg=>h1.cells hg;rcases h1.2 with ⟨hv,hn⟩|⟨g,cap,cur,hv,hg,hh,hnc,hcm,hcs,ht⟩
 ·have hl:l=[]:=List.eq_nil_of_length_eq_zero hn;subst hl;exact ⟨none,0,hv,RowsAt.nil _ _ _ _,by simp,by simp [maxLen]⟩
 ·refine ⟨_,cap,hv,⟨xs,h3.same (fun _ _=>rfl) (fun b hb=>hb.1),fun _=>⟨g,0,rfl,(Array.getElem?_eq_some_iff.1 hh).1,fun j u hu=>?_⟩⟩,hnc,hcm⟩;have:=hc g (by rw [hv];rfl) j u hu;have e:(⟨g,0,none⟩:Addr).add j=⟨g,0+j,none⟩:=by unfold Addr.add;split <;> simp_all
  rwa [e] at this
theorem OwnRows.oth (h:OwnRows E e w base v l) {b:Nat} (hb:b<base):ym w v b:=⟨Nat.lt_of_lt_of_le hb h.1,fun e=>by have:=(h.block b e).1;omega⟩
def yn (w w':World) (v v':Value):Prop:=∀b,ym w v b->w'.heap[b]? = w.heap[b]?/\v'.ownBlock≠some b
structure ElTB (P:Program) (E:El α) (t e:TypeId) (by_:Nat):Prop where
 under:P.underlying t=some (.slice e)
 info:∃i z,P.info? e=some i/\i.zero=some z/\i.size=E.n/\z.cells.size=E.n/\i.bytes=by_
theorem ElTB.mk' {P:Program} {t e:TypeId} (hu:P.underlying t=some (.slice e)) (z:Value) (n by_:Nat) (hi:(P.info? e).map (fun i=>(i.zero,i.size,i.bytes))=some (some z,n,by_)) (hn:n=E.n) (hz:z.cells.size=n):ElTB P E t e by_:=by
 obtain ⟨i,h,h0,h1,h2⟩:=info_parts hi;exact ⟨hu,i,z,h,h0,h1.trans hn,hz.trans hn,h2⟩
theorem oK {P:Program} (w:World) (base:Nat) (t ty e:TypeId) (i:TypeInfo) (size:Nat) (ht:P.underlying t=some (.slice e)) (hi:P.info? e=some i)
  (v:Value) (n:Nat) (xs:List Value) (hown:w.ownsRow base e size v n xs) (c:Nat):(Builtin.append_ #[t,t] ty #[v,.slice none 0 c]).run P w = .ok v w:=by
 rcases hown.2 with ⟨rfl,rfl⟩|⟨g,cap,cur,rfl,_,_,hnc,_⟩
 ·simp [Builtin.append_,run_underlying ht,sizeOf,typeInfo,hi,Builtin.lenOf,Builtin.firstCells]
 ·simp [Builtin.append_,run_underlying ht,sizeOf,typeInfo,hi,Builtin.lenOf,Builtin.firstCells,hnc,storeCells]
theorem fy (b off j:Nat):(Addr.mk b off none).add j=⟨b,off+j,none⟩:=by
 unfold Addr.add;by_cases h:j=0 <;> simp [h]
theorem xa {P:Program} {t e:TypeId} {by_:Nat} (T:ElTB P E t e by_) (w:World) (ty:TypeId) (base:Nat) (v:Value) (l ns:List α) (A:Option Addr) (c:Nat) (hown:OwnRows E e w base v l)
  (xs:List Value) (hx:Reps E w (ym w v) ns xs) (hA:0<ns.length->∃b off,A=some ⟨b,off,none⟩/\∀j u,xs[j]? = some u->w.cell? ⟨b,off+j,none⟩=some u) (hl:l.length+ns.length<=maxLen) (hlb:(l.length+ns.length)*by_<=140737488355328) :
  ∃v' w',(Builtin.append_ #[t,t] ty #[v,.slice A ns.length c]).run P w = .ok v' w'/\OwnRows E e w' base v' (l++ns)/\Below base w w'/\yn w w' v v':=by
 obtain ⟨i0,z,hi,hz0,hz1,hz2,hz3⟩:=T.info;obtain ⟨h0,us,h1,h3⟩:=hown;rcases A with _|ad
 ·have hn:ns=[]:=by
   cases ns with
   | nil=>rfl
   | cons a r=>obtain ⟨_,_,h,_⟩:=hA (by simp);cases h
  subst hn;exact ⟨v,w,oK w base t ty e i0 E.n T.under hi v l.length _ h1 c,by simpa using ⟨h0,us,h1,h3⟩,Below.refl _ _,fun b hb=>⟨rfl,hb.2⟩⟩
 ·have hxl:=hx.length;have hcells:∀j u,xs[j]? = some u->w.cell? (ad.add j)=some u:=by
   intro j u hu;rcases Nat.eq_zero_or_pos ns.length with hz|hz
   ·rw [hz,Nat.zero_mul] at hxl;have:xs=[]:=List.eq_nil_of_length_eq_zero hxl;subst this;cases hu
   ·obtain ⟨b,off,h,hc⟩:=hA hz;injection h with h;subst h;rw [fy];exact hc j u hu
  obtain ⟨v',w',hrun,k1,k2,_,k4⟩:=run_append_own_at (P:=P) w base t ty e i0 z E.n i0.bytes T.under hi hz0 hz1 rfl hz2 E.pos v l.length _ h1 ad ns.length c xs
   hxl hcells hx.one hl (by rw [hz3];exact hlb) h0
  have hb:Below base w w':=(Below.refl base w).grown k2 h0 (fun k hk=>(h1.lt k hk).1);have hsp:yn w w' v v':=fun b hb2=>⟨k2.block b hb2.1 (fun e=>hb2.2 e.symm),by
   rcases k4 with e|e
   ·rw [e];exact hb2.2
   ·rw [e];intro h;injection h with h;have:=hb2.1;omega⟩
  have keep:∀{m:List α} {ms:List Value},Reps E w (ym w v) m ms->Reps E w' (ym w' v') m ms:=fun hm =>
   hm.same (fun b hb2=>(hsp b hb2).1) fun b hb2=>⟨Nat.lt_of_lt_of_le hb2.1 hb.size,(hsp b hb2).2⟩
  exact ⟨v',w',hrun,⟨Nat.le_trans h0 hb.size,us++xs,by rw [List.length_append];exact k1,(keep h3).append (keep hx)⟩,hb,hsp⟩
theorem lJ {P:Program} {t e:TypeId} {by_:Nat} (T:ElTB P E t e by_) {ops:Array Oper} {rest:List Oper} {o:Oper} {a:Act} {Q:Exit->Act->World->Prop} (hgd:o.guard=none) (s x:Operand)
  (ho:o.op = .call { callee:=.builtin .append,args:=#[s,x],argTypes:=#[t,t] })
  (w:World) (base:Nat) (v:Value) (l ns:List α) (n:Nat) (hn:ns.length=n) (A:Option Addr) (c:Nat) (hs:a.eval s=v) (hown:OwnRows E e w base v l) (hx:a.eval x = .slice A n c) (hr:RowsAt E w (ym w v) A ns) (hl:l.length+n<=maxLen) (hlb:(l.length+n)*by_<=140737488355328)
  (h:∀v' w',OwnRows E e w' base v' (l++ns)->Below base w w'->yn w w' v v'->wpList P ops Q rest (a.put o.dst v') w') :
  wpList P ops Q (o :: rest) a w:=by
 subst hn;refine wpList_plain hgd fun K hK=>?_;obtain ⟨xs,hx1,hx2⟩:=hr;obtain ⟨v',w',hrun,h1,h2,h3⟩:=xa T w o.type base v l ns A c hown xs hx1 (fun h0=>by
  obtain ⟨b,off,hA,_,hc⟩:=hx2 h0;exact ⟨b,off,hA,hc⟩) hl hlb
 unfold Oper.wp execOp;simp only [ho,resolve,invoke,builtin,Sem.run_bind,Sem.run_pure,Result.andThen_ok,List.map_toArray,List.map_cons,List.map_nil,hs,hx,hrun];exact hK _ _ (h v' w' h1 h2 h3)
theorem xb (w:World) (cs:List Value) (e:TypeId) (j:Nat) (u:Value) (hu:cs[j]? = some u):(w.alloc (.cells cs.toArray e)).cell? ⟨w.heap.size,0+j,none⟩=some u:=by
 have:(w.alloc (.cells cs.toArray e)).heap[w.heap.size]? = some (.cells cs.toArray e (0,0)):=heap_alloc_new w _;rw [cell_of_row _ _ _ _ _ _ this,Nat.zero_add,List.getElem?_toArray];exact hu
theorem zC {P:Program} {t e:TypeId} {by_:Nat} (T:ElTB P E t e by_) {ops:Array Oper} {rest:List Oper} {o:Oper} {a:Act} {Q:Exit->Act->World->Prop} (hgd:o.guard=none) (s x:Operand)
  (ho:o.op = .call { callee:=.builtin .append,args:=#[s,x],argTypes:=#[t,t] })
  (w:World) (base:Nat) (v:Value) (l:List α) (y:α) (cs:List Value) (ca:Array Value) (hca:ca=cs.toArray) (hs:a.eval s=v) (hown:OwnRows E e w base v l) (nb:Nat) (hx:a.eval x = .slice (some ⟨nb,0,none⟩) 1 1) (hnb:nb=w.heap.size) (hy:E.rep w (ym w v) y cs) (hl:l.length<maxLen) (hlb:(l.length+1)*by_<=140737488355328)
  (h:∀v' w',OwnRows E e w' base v' (l++[y])->Below base w w'->yn w w' v v'->wpList P ops Q rest (a.put o.dst v') w') :
  wpList P ops Q (o :: rest) a (w.alloc (.cells ca e)):=by
 subst hnb;subst hca;have hsz:w.heap.size<=(w.alloc (.cells cs.toArray e)).heap.size:=by simp
 have hkeep:∀b,b<w.heap.size->(w.alloc (.cells cs.toArray e)).heap[b]? = w.heap[b]?:=fun b hb=>Below.heap_alloc w _ b hb;have hy':E.rep (w.alloc (.cells cs.toArray e)) (ym (w.alloc (.cells cs.toArray e)) v) y cs:=E.same hy (fun b hb=>hkeep b hb.1) fun b hb=>⟨Nat.lt_of_lt_of_le hb.1 hsz,hb.2⟩;have hnot:v.ownBlock≠some w.heap.size:=fun e=>by have:=(hown.block _ e).2;omega
 refine lJ T hgd s x ho _ base v l [y] 1 rfl _ 1 hs (hown.alloc _) hx ⟨cs,Reps.single hy',fun _=>⟨w.heap.size,0,rfl,⟨by simp,hnot⟩,fun j u hu=>xb w cs e j u hu⟩⟩ hl hlb ?_;intro v' w' h1 h2 h3;refine h v' w' h1 (((Below.refl base w).alloc hown.1 _).trans h2) fun b hb=>?_;obtain ⟨e1,e2⟩:=h3 b ⟨Nat.lt_of_lt_of_le hb.1 hsz,hb.2⟩;exact ⟨e1.trans (hkeep b hb.1),e2⟩
theorem OwnRows.made (E:El α) (e:TypeId) (w:World) (base:Nat) (cur:Array Value) (cap:Nat) (hb:base<=w.heap.size) (hm:cap<=maxLen) (hs:cur.size=cap*E.n):OwnRows E e (w.alloc (.cells cur e)) base (.slice (some ⟨w.heap.size,0,none⟩) 0 cap) [] :=
 ⟨by simp;omega,[],World.ownsRow_made w cur cap hb hm hs,rfl⟩
theorem OwnRows.setAll (h:OwnRows E e w base v l) {i:Nat} (hi:i<l.length) {y:α} {cs:List Value} (hy:E.rep w' (ym w' v) y cs) (hs:w'.heap.size=w.heap.size)
  (hk:∀b,ym w v b->w'.heap[b]? = w.heap[b]?) (hrow:∀xs,w.ownsRow base e E.n v l.length xs->w'.ownsRow base e E.n v l.length (xs.take (i*E.n)++cs++xs.drop (i*E.n+E.n))):OwnRows E e w' base v (l.set i y):=by
 obtain ⟨h0,xs,h1,h3⟩:=h;refine ⟨by omega,_,by rw [List.length_set];exact hrow xs h1,Reps.set (h3.same hk fun b hb=>⟨by rw [hs];exact hb.1,hb.2⟩) hy hi⟩
end
def El.plain {α:Type} (n:Nat) (pos:0<n) (f:α->List Value) (len:∀x,(f x).length=n) (one:∀x,∀u∈f x,u.oneCell'=true):El α where
 n:=n
 pos:=pos
 rep:=fun _ _ x cs=>cs=f x
 len:=fun h=>by rw [h];exact len _
 one:=fun h=>by rw [h];exact one _
 same:=fun h _ _=>h
def fo:El Int:=El.plain 1 (by decide) (fun x=>[.int .i64 x]) (fun _=>rfl) (by intro x u hu;simp at hu;subst hu;rfl)
def eI:El Bool:=El.plain 1 (by decide) (fun x=>[.bool x]) (fun _=>rfl) (by intro x u hu;simp at hu;subst hu;rfl)
def eJ:El ByteArray:=El.plain 1 (by decide) (fun x=>[.string x]) (fun _=>rfl) (by intro x u hu;simp at hu;subst hu;rfl)
def El.sl {α:Type} (E:El α):El (List α) where
 n:=1
 pos:=by decide
 rep:=fun w S l cs=>∃A cap,cs=[.slice A l.length cap]/\l.length<=cap/\cap<=maxLen/\RowsAt E w S A l
 len:=fun h=>by obtain ⟨A,cap,rfl,_⟩:=h;rfl
 one:=fun h=>by obtain ⟨A,cap,rfl,_⟩:=h;intro u hu;simp at hu;subst hu;rfl
 same:=fun h hk hS=>by
  obtain ⟨A,cap,e,h1,h2,h3⟩:=h;exact ⟨A,cap,e,h1,h2,h3.same hk hS⟩
def Opens {α:Type} (P:Program) (E:El α) (t:TypeId) (fits:α->Prop):Prop :=
 ∀{H:Type} {enc:TypeId×Value->H} {w:World} {base:Nat} {spare:Nat->Bool} {held:Bool} {fuel:Nat} {cs:List Value} {x:DataW H×List MemPlace},DataW.trod enc P w base spare held fuel t cs=some x->∃y,E.rep w (Lo w.heap.size) y cs/\fits y
theorem MS {n:Int} (h:(Lit.int .i64 n).wf=true) : -9223372036854775808<=n/\n<=9223372036854775807:=by
 have:=bounds_i64 h;omega
def QB (n:Int):Prop:=-9223372036854775808<=n/\n<=9223372036854775807
theorem E5 {P:Program} {t:TypeId} (ht:P.underlying t=some (.int .i64)):Opens P fo t QB:=by
 intro H enc w base spare held fuel cs x h;obtain ⟨n,e,_,hw⟩:=DataW.trod_int ht h;exact ⟨n,e,MS hw⟩
theorem Cb {w:World} {a:Addr} {v:Value} (h:w.cell? (a.add 0)=some v):∃b off,a=⟨b,off,none⟩:=by
 obtain ⟨b,off,spot⟩:=a;have hspot:spot=none:=by simpa [Addr.add] using World.cell?_spot h
 subst hspot;exact ⟨b,off,rfl⟩
theorem DF {α:Type} {E:El α} {w:World} {S:Nat->Prop} {fits:α->Prop} {b:Nat}:∀(n off:Nat),(∀i,i<n->∃y cs,E.rep w S y cs/\fits y/\∀j u,cs[j]? = some u->w.cell? ⟨b,off+i*E.n+j,none⟩=some u)->
  ∃l xs,l.length=n/\Reps E w S l xs/\(∀y∈l,fits y)/\∀j u,xs[j]? = some u->w.cell? ⟨b,off+j,none⟩=some u
 | 0,off,_=>⟨[],[],rfl,rfl,by simp,by simp⟩
 | n+1,off,h=>by
  obtain ⟨y,cs,h1,h2,h3⟩:=h 0 (by omega);obtain ⟨l,xs,k1,k2,k3,k4⟩:=DF (E:=E) (fits:=fits) n (off+E.n) (fun i hi=>by
   obtain ⟨y,cs,h1,h2,h3⟩:=h (i+1) (by omega);exact ⟨y,cs,h1,h2,fun j u hu=>by have:=h3 j u hu;rwa [Nat.add_mul,Nat.one_mul,show off+(i*E.n+E.n)+j=off+E.n+i*E.n+j by omega] at this⟩)
  refine ⟨y :: l,cs++xs,by simp [k1],⟨cs,xs,rfl,h1,k2⟩,?_,?_⟩
  ·intro z hz;rcases List.mem_cons.1 hz with rfl|hz
   ·exact h2
   ·exact k3 z hz
  ·intro j u hu;have hl:=E.len h1;rcases Nat.lt_or_ge j E.n with hj|hj
   ·rw [List.getElem?_append_left (by omega)] at hu;have:=h3 j u hu
    rwa [Nat.zero_mul,Nat.add_zero] at this
   ·rw [List.getElem?_append_right (by omega),hl] at hu;have:=k4 _ u hu
    rwa [show off+E.n+(j-E.n)=off+j by omega] at this
theorem Opens.sl {α:Type} {P:Program} {E:El α} {t e:TypeId} {fits:α->Prop} (ho:Opens P E e fits) (ht:P.underlying t=some (.slice e)) (hC:P.cellsOf e=E.n):Opens P E.sl t (fun l=>l.length<=maxLen/\∀y∈l,fits y):=by
 intro H enc w base spare held fuel cs x h;rcases open_slice ht h with ⟨rfl,_⟩|⟨a,len,cap,m,n,D,Pl,rfl,hb,hl,hm,hmm,_,hi⟩
 ·exact ⟨[],⟨none,0,rfl,by simp,by simp [maxLen],RowsAt.nil _ _ _ _⟩,by simp [maxLen],by simp⟩
 ·have hml:len<=m:=by rw [hmm];split <;> omega
  rcases Nat.eq_zero_or_pos len with h0|h0
  ·subst h0;exact ⟨[],⟨some a,cap,rfl,by simp,hm,RowsAt.nil _ _ _ _⟩,by simp [maxLen],by simp⟩
  ·have hplain:∃b off,a=⟨b,off,none⟩:=by
    obtain ⟨cs',hc,_⟩:=hi 0 (by omega);obtain ⟨_,hcl,hat⟩:=World.cells?_some hc;have hp:=E.pos;have h1:=hat 0 (by omega);rw [Nat.zero_mul,qGg (by omega)] at h1;have e0:(a.add 0).add 0=a.add 0:=by rw [Go.Deep.add_add]
    rw [e0] at h1;exact Cb h1
   obtain ⟨b,off,rfl⟩:=hplain;have hel:∀i,i<len->∃y cs,E.rep w (Lo w.heap.size) y cs/\fits y/\∀j u,cs[j]? = some u->w.cell? ⟨b,off+i*E.n+j,none⟩=some u:=by
    intro i hil;obtain ⟨cs',hc,hd⟩:=hi i (by omega);obtain ⟨y,hy,hf⟩:=ho hd;obtain ⟨_,hcl,hat⟩:=World.cells?_some hc;refine ⟨y,cs',hy,hf,fun j u hu=>?_⟩;have hj:j<cs'.length:=(List.getElem?_eq_some_iff.1 hu).1;have h1:=hat j (by omega);rw [hu,fy,fy,hC] at h1;exact h1
   obtain ⟨l,xs,k1,k2,k3,k4⟩:=DF len off hel;subst k1;refine ⟨l,⟨_,cap,rfl,hl,hm,xs,k2,fun _=>⟨b,off,rfl,?_,k4⟩⟩,by omega,k3⟩;have hxl:=k2.length;have hp:=E.pos;have:0<xs.length:=by rw [hxl];exact Nat.mul_pos h0 hp
   exact World.block_lt_of_cell? w _ (k4 0 _ (qGg this))
end
structure Ext (w0:World) where
 w:World
 below:Below w0.heap.size w0 w
instance (w0:World):Nonempty (Ext w0):=⟨⟨w0,Below.refl _ _⟩⟩
theorem i7 {P:Prop} (h:P:=by (repeat (first|(with_reducible exact Below.refl _ _)|(with_reducible assumption)|(with_reducible refine cZ ?_ _)|(with_reducible refine Below.drew ?_)|(with_reducible refine Below.al ?_ _)|(with_reducible refine Below.st ?_ (by simp;try omega))|(with_reducible refine Below.tr ?_ (by assumption))))):P:=h
theorem fp {P:Prop} (h:P:=by (repeat (first|(with_reducible exact Below.refl _ _)|(with_reducible assumption)|(with_reducible refine cZ ?_ _)|(with_reducible refine Below.drew ?_)|(with_reducible refine Below.al ?_ _)|(with_reducible refine Below.st ?_ (by simp;try omega))|(with_reducible refine Below.tr ?_ (Hid.out (by assumption)))|(with_reducible exact Hid.out (by assumption))))):P:=h
theorem cZ {B:Nat} {a w:World} (h:Below B a w) (n:Nat):Below B a (w.drewN n):=⟨h.os,h.tape,h.output,h.size,h.block⟩
def Blk (w:World) (g:Nat) (t:TypeId) (cs:Array Value):Prop:=w.heap[g]? = some (.cells cs t (0,0))
section
variable {w w':World} {g:Nat} {t:TypeId} {cs:Array Value}
theorem Blk.lt (h:Blk w g t cs):g<w.heap.size:=(Array.getElem?_eq_some_iff.1 h).1
theorem Blk.cell (h:Blk w g t cs) (i:Nat):w.cell? ⟨g,i,none⟩=cs[i]?:=cell_of_row w g i cs t (0,0) h
theorem Blk.cellx (h:Blk w g t cs) (i:Nat) {v:Value} (hv:cs[i]? = some v):w.cell? ⟨g,i,none⟩=some v:=(h.cell i).trans hv
theorem Blk.frozen (h:Blk w g t cs) (i:Nat):w.frozen? ⟨g,i,none⟩=false:=by
 unfold Blk at h;simp [World.frozen?,h]
theorem Blk.new (w:World) (t:TypeId) (cs:Array Value):Blk (w.alloc (.cells cs t)) w.heap.size t cs:=heap_alloc_new w _
theorem Blk.alloc (h:Blk w g t cs) (o:Obj):Blk (w.alloc o) g t cs:=(Below.heap_alloc w o g h.lt).trans h
theorem Blk.set_ (h:Blk w g t cs) (i:Nat) (u:Value):Blk (w.setCell ⟨g,i,none⟩ u) g t (cs.setIfInBounds i u):=by
 unfold Blk at h ⊢;simp [World.setCell,Array.getElem?_modify,h]
theorem Blk.far (h:Blk w g t cs) {p:Addr} (hp:g≠p.block) (u:Value):Blk (w.setCell p u) g t cs:=(Below.heap_setCell w p u g hp).trans h
theorem Blk.below {B:Nat} (h:Blk w g t cs) (hb:Below B w w') (hg:g<B):Blk w' g t cs:=(hb.block g hg).trans h
end
structure Just (w0:World) where
 w:World
 eq:w=w0
instance (w0:World):Nonempty (Just w0):=⟨⟨w0,rfl⟩⟩
def xc (w:World) (v:Value) (e:Ending) (w':World):Prop:=e = .returned v/\Below w.heap.size w w'
def qA (w:World) (v:Value) (e:Ending) (w':World):Prop:=e = .returned v/\w'=w
theorem aX {a b:Bool} (h:a=b):Ending.returned (.bool a) = .returned (.bool b):=by rw [h]
theorem tO {k:IntKind} {a b:Int} (h:a=b):Ending.returned (.int k a) = .returned (.int k b):=by rw [h]
def iz {α:Type} (E:El α) (t:TypeId) (w:World) (l:List α) (e:Ending) (w':World):Prop:=∃v,e = .returned v/\OwnRows E t w' w.heap.size v l/\Below w.heap.size w w'
structure Pr where
 site:Int
 inc:Int
 num:Int
 deriving DecidableEq
def gm (p:Pr):Bool:=decide (0<=p.site) && decide (p.site<=3) && (decide (1<=p.inc) && decide (p.inc<=99)) && (decide (1<=p.num) && decide (p.num<=999))
theorem mE {p:Pr}:gm p=true↔0<=p.site/\p.site<=3/\1<=p.inc/\p.inc<=99/\1<=p.num/\p.num<=999:=by
 unfold gm;simp only [qBa,decide_eq_true_eq];constructor
 ·rintro ⟨⟨⟨a,b⟩,c,d⟩,e,f⟩;exact ⟨a,b,c,d,e,f⟩
 ·rintro ⟨a,b,c,d,e,f⟩;exact ⟨⟨⟨a,b⟩,c,d⟩,e,f⟩
def oL (a b:Int):Int:=if a<b then -1 else if b<a then 1 else 0
def bH (p q:Pr):Int:=if oL p.site q.site≠0 then oL p.site q.site else if oL p.inc q.inc≠0 then oL p.inc q.inc else oL p.num q.num
def ll:Pr:=⟨0,0,0⟩
def bE (n:Int):Int:=if n<0\/1073741824<=n then 1 else n+1
def Pr.val (p:Pr):Value:=.agg #[.int .i64 p.site,.int .i64 p.inc,.int .i64 p.num]
theorem zG (n a b:Int) (w:World):Calls prog 194 #[.int .i64 n,.int .i64 a,.int .i64 b] w (qA w (.bool (decide (a<=n) && decide (n<=b)))):=by
 go_enter func194,ntmps194
 go_wp2
 all_goals go_ret
 all_goals refine ⟨aX ?_,rfl⟩
 all_goals (first|rfl|(simp_all;done)|(simp_all;omega)|(rw [Bool.eq_iff_iff];simp_all;done)|(rw [Bool.eq_iff_iff];simp_all;omega))
theorem qB (a b:Int) (w:World):Calls prog 174 #[.int .i64 a,.int .i64 b] w (qA w (.int .i64 (oL a b))):=by
 unfold oL
 go_enter func174,ntmps174
 go_wp2
 all_goals go_ret
 all_goals refine ⟨tO ?_,rfl⟩
 all_goals first|(simp_all;done)|(repeat (first|rw [if_pos (by omega)]|rw [if_neg (by omega)]))
theorem Cc (p:Pr) (w:World):Calls prog 83 #[p.val] w (xc w (.bool (gm p))):=by
 obtain ⟨a,b,c⟩:=p;unfold gm Pr.val
 go_enter func83,ntmps83
 go_wp2
 all_goals go_ret
 all_goals refine ⟨aX ?_,(Below.refl _ _).alloc (Nat.le_refl _) _⟩
 all_goals (first|rfl|(simp_all;done)|(simp_all;omega)|(rw [Bool.eq_iff_iff];simp_all;done)|(rw [Bool.eq_iff_iff];simp_all;omega))
theorem qC (p:Pr) (w:World):Calls prog 107 #[p.val] w (xc w (.bool (gm p))):=by
 have H1:=Lib.hid (fun n a b w=>zG n a b w);obtain ⟨a,b,c⟩:=p;unfold gm Pr.val
 go_enter func107,ntmps107
 go_wp2_with (first|(refine (H1.out _ _ _ _).mono ?_;rintro e w' ⟨rfl,rfl⟩)|fail)
 all_goals go_ret
 all_goals refine ⟨aX ?_,(Below.refl _ _).alloc (Nat.le_refl _) _⟩
 all_goals (first|rfl|(simp_all;done)|(simp_all;omega)|(rw [Bool.eq_iff_iff];simp_all;done)|(rw [Bool.eq_iff_iff];simp_all;omega))
def dJ:Nat->Nat->Nat->List UInt8->Nat×Nat×Int
 | 0,_,_,_=>(0,0,6)
 | _+1,_,_,[]=>(0,0,5)
 | f+1,i,v,c :: r =>
  if (i=9/\1<c.toNat)\/(c.toNat=0/\0<i) then (0,0,6)
  else if c.toNat<128 then (v+c.toNat % 128*2 ^ (7*i),i+1,0)
  else dJ f (i+1) (v+c.toNat % 128*2 ^ (7*i)) r
def aQ (l:List UInt8):Nat×Nat×Int:=dJ 10 0 0 l
def bp (v:Nat):List UInt8:=if v<128 then [UInt8.ofNat v] else UInt8.ofNat (v % 128+128) :: bp (v / 128)
termination_by v
decreasing_by omega
theorem i8 {n:Nat} (h:n<256):(UInt8.ofNat n).toNat=n:=by
 rw [UInt8.toNat_ofNat'];exact Nat.mod_eq_of_lt h
theorem jX {v:Nat} (h:v<128):bp v=[UInt8.ofNat v]:=by rw [bp,if_pos h]
theorem t8 {v:Nat} (h:¬v<128):bp v=UInt8.ofNat (v % 128+128) :: bp (v / 128):=by rw [bp,if_neg h]
theorem jr:∀(k v:Nat),v<2 ^ (7*(k+1))->(bp v).length<=k+1
 | 0,v,h=>by rw [jX (by simpa using h)];simp
 | k+1,v,h=>by
  by_cases h1:v<128
  ·rw [jX h1];simp
  ·rw [t8 h1,List.length_cons];have:=jr k (v / 128) (by
    rw [Nat.div_lt_iff_lt_mul (by decide)];have e:7*(k+1+1)=7*(k+1)+7:=by omega
    rw [e,Nat.pow_add] at h;exact h)
   omega
theorem zH:∀(v i acc:Nat) (tail:List UInt8),i<=9->v<2 ^ (64-7*i)->(0<i->0<v)->dJ (10-i) i acc (bp v++tail)=(acc+v*2 ^ (7*i),i+(bp v).length,0)
 | v,i,acc,tail,hi,hv,h0=>by
  obtain ⟨f,hf⟩:∃f,10-i=f+1:=⟨9-i,by omega⟩;by_cases h:v<128
  ·rw [jX h,hf];show dJ (f+1) i acc (UInt8.ofNat v :: tail)=_;unfold dJ;rw [i8 (by omega),if_neg,if_pos h,Nat.mod_eq_of_lt h]
   ·rfl
   ·rintro (⟨rfl,h2⟩|⟨h2,h3⟩)
    ·have:v<2 ^ 1:=hv;omega
    ·have:=h0 h3;omega
  ·have hi8:i<=8:=by
    rcases Nat.lt_or_ge i 9 with h9|h9
    ·omega
    ·have:i=9:=by omega
     subst this;have:v<2 ^ 1:=hv;omega
   rw [t8 h,hf];show dJ (f+1) i acc (UInt8.ofNat (v % 128+128) :: (bp (v / 128)++tail))=_;unfold dJ;rw [i8 (by omega),if_neg (by omega),if_neg (by omega)];have e1:(v % 128+128) % 128=v % 128:=by omega
   have e2:f=10-(i+1):=by omega
   have e3:v / 128<2 ^ (64-7*(i+1)):=by
    rw [Nat.div_lt_iff_lt_mul (by decide)];have e:64-7*i=(64-7*(i+1))+7:=by omega
    rw [e,Nat.pow_add] at hv;exact hv
   rw [e1,e2,zH (v / 128) (i+1) _ tail (by omega) e3 (by omega),List.length_cons];have e4:2 ^ (7*(i+1))=2 ^ (7*i)*128:=by
    rw [show 7*(i+1)=7*i+7 by omega,Nat.pow_add]
   rw [e4];have e5:v % 128*2 ^ (7*i)+v / 128*(2 ^ (7*i)*128)=v*2 ^ (7*i):=by
    rw [show v / 128*(2 ^ (7*i)*128)=(128*(v / 128))*2 ^ (7*i) by
     rw [Nat.mul_comm (2 ^ (7*i)) 128,<-Nat.mul_assoc,Nat.mul_comm (v / 128) 128],<-Nat.add_mul]
    congr 1
    omega
   rw [Nat.add_assoc,e5];congr 2
   omega
termination_by v=>v
theorem js {v:Nat} (h:v<2 ^ 64) (tail:List UInt8):aQ (bp v++tail)=(v,(bp v).length,0):=by
 have:=zH v 0 0 tail (by omega) h (by omega);simpa [aQ] using this
theorem oM:∀(f i v:Nat) (l:List UInt8),f+i=10->v<2 ^ (7*i)->(dJ f i v l).1<2 ^ 64/\((dJ f i v l).2.2=0->i<(dJ f i v l).2.1/\(dJ f i v l).2.1<=i+l.length/\(dJ f i v l).2.1<=10)/\((dJ f i v l).2.2=0\/(dJ f i v l).2.2=5\/(dJ f i v l).2.2=6)
 | 0,i,v,l,_,_=>by simp [dJ]
 | f+1,i,v,[],_,_=>by simp [dJ]
 | f+1,i,v,c :: r,hf,hv=>by
  unfold dJ;split
  ·simp
  ·next hn =>
   have hlt:v+c.toNat % 128*2 ^ (7*i)<2 ^ (7*(i+1)):=by
    rw [show 7*(i+1)=7*i+7 by omega,Nat.pow_add];have h1:c.toNat % 128<=127:=by omega
    have h2:=Nat.mul_le_mul_right (2 ^ (7*i)) h1;omega
   have hlt64:v+c.toNat % 128*2 ^ (7*i)<2 ^ 64:=by
    rcases Nat.lt_or_ge i 9 with h9|h9
    ·exact Nat.lt_of_lt_of_le hlt (Nat.pow_le_pow_right (by decide) (by omega))
    ·have h9':i=9:=by omega
     subst h9';have hc1:c.toNat<=1:=by omega
     have h1:c.toNat % 128<=1:=by omega
     have h2:=Nat.mul_le_mul_right (2 ^ (7*9)) h1;have h3:2 ^ 64=2 ^ (7*9)+2 ^ (7*9):=by decide
     omega
   split
   ·exact ⟨hlt64,fun _=>⟨Nat.lt_succ_self _,by simp only [List.length_cons];omega,by show i+1<=10;omega⟩,Or.inl rfl⟩
   ·obtain ⟨b1,b2,b3⟩:=oM f (i+1) _ r (by omega) hlt;exact ⟨b1,fun h=>by have:=b2 h;simp only [List.length_cons];omega,b3⟩
theorem cU (l:List UInt8):(aQ l).1<2 ^ 64/\((aQ l).2.2=0->0<(aQ l).2.1/\(aQ l).2.1<=l.length/\(aQ l).2.1<=10)/\((aQ l).2.2=0\/(aQ l).2.2=5\/(aQ l).2.2=6):=by
 have:=oM 10 0 0 l rfl (by decide);simpa [aQ] using this
def Cd (a b c:Nat) (n:Nat):Pr×Nat×Int:=if gm ⟨a,b,c⟩=true then (⟨a,b,c⟩,n,0) else (ll,0,2)
def dV (l:List UInt8):Pr×Nat×Int :=
 let u:=aQ l
 if u.2.2≠0 then (ll,0,u.2.2) else
  let v:=aQ (l.drop u.2.1)
  if v.2.2≠0 then (ll,0,v.2.2) else
   let x:=aQ (l.drop (u.2.1+v.2.1))
   if x.2.2≠0 then (ll,0,x.2.2) else Cd u.1 v.1 x.1 (u.2.1+v.2.1+x.2.1)
def oN (p:Pr):List UInt8:=bp p.site.toNat++(bp p.inc.toNat++bp p.num.toNat)
def wK (p:Pr):List UInt8:=if gm p=true then oN p else []
theorem E6 {p:Pr} (h:gm p=true) (tail:List UInt8):dV (oN p++tail)=(p,(oN p).length,0):=by
 obtain ⟨a,b,c,d,e,f⟩:=mE.1 h;have h1:=js (v:=p.site.toNat) (by omega) (bp p.inc.toNat++bp p.num.toNat++tail);have h2:=js (v:=p.inc.toNat) (by omega) (bp p.num.toNat++tail);have h3:=js (v:=p.num.toNat) (by omega) tail;have e0:oN p++tail=bp p.site.toNat++(bp p.inc.toNat++bp p.num.toNat++tail):=by unfold oN;simp
 have e1:(oN p++tail).drop (bp p.site.toNat).length=bp p.inc.toNat++(bp p.num.toNat++tail):=by rw [e0,List.drop_left];simp
 have e2:(oN p++tail).drop ((bp p.site.toNat).length+(bp p.inc.toNat).length)=bp p.num.toNat++tail:=by rw [<-List.drop_drop,e1,List.drop_left]
 rw [<-e0] at h1;rw [<-e1] at h2;rw [<-e2] at h3;unfold dV;simp only [h1,h2,h3,ne_eq,not_true_eq_false,if_false];unfold Cd;have hp:(⟨(p.site.toNat:Int),(p.inc.toNat:Int),(p.num.toNat:Int)⟩:Pr)=p:=by
  obtain ⟨x,y,z⟩:=p;simp only [Pr.mk.injEq];simp only at a c e;omega
 rw [hp,if_pos h];unfold oN;simp only [List.length_append,Prod.mk.injEq,true_and,and_true];omega
section
variable {α:Type} {E:El α} {w w':World} {l:List α} {v:Value} {base:Nat} {e:TypeId}
theorem OwnRows.addr (h:OwnRows E e w base v l) (h0:0<l.length) :
  ∃g cap,v = .slice (some ⟨g,0,none⟩) l.length cap/\base<=g/\g<w.heap.size/\l.length<=cap/\cap<=maxLen/\(∀j,w.frozen? ⟨g,j,none⟩=false)/\RowsAt E w (Lo w.heap.size) (some ⟨g,0,none⟩) l:=by
 obtain ⟨A,cap,hA,hr,hc,hm⟩:=h.form;have h2:=h;obtain ⟨_,xs,h1,_⟩:=h2;rcases h1.2 with ⟨hv,hn⟩|⟨g,cap',cur,hv,hg,hh,hnc,hcm,hcs,ht⟩
 ·omega
 ·rw [hv] at hA;injection hA with e1 e2 e3;subst e1;subst e3;exact ⟨g,cap',hv,hg,(Array.getElem?_eq_some_iff.1 hh).1,hc,hm,fun j=>frozen_of_row w g j cur e hh,hr⟩
theorem OwnRows.form2 (h:OwnRows E e w base v l) :
  ∃A cap,v = .slice A l.length cap/\(A=none->l.length=0/\cap=0)/\RowsAt E w (Lo w.heap.size) A l/\l.length<=cap/\cap<=maxLen:=by
 obtain ⟨A,cap,hA,hr,hc,hm⟩:=h.form;refine ⟨A,cap,hA,fun hn=>?_,hr,hc,hm⟩;subst hn;obtain ⟨_,xs,h1,_⟩:=h;rcases h1.2 with ⟨hv,hn⟩|⟨g,cap',cur,hv,_⟩
 ·rw [hv] at hA;injection hA with _ e2 e3;exact ⟨e2.symm,e3.symm⟩
 ·rw [hv] at hA;injection hA with e1;cases e1
end
theorem Below.al {a w:World} (h:Below a.heap.size a w) (o:Obj):Below a.heap.size a (w.alloc o):=h.alloc h.size o
theorem Below.tr {a b c:World} (h:Below a.heap.size a b) (k:Below b.heap.size b c):Below a.heap.size a c:=h.trans (k.mono h.size)
theorem Below.st {a w:World} {p:Addr} {u:Value} (h:Below a.heap.size a w) (hp:a.heap.size<=p.block):Below a.heap.size a (w.setCell p u):=h.setCell hp u
theorem lN {W w1:World} (hb:Below W.heap.size W w1):(∀b o,b<W.heap.size->w1.cell? ⟨b,o,none⟩=W.cell? ⟨b,o,none⟩)/\(∀b o,b<W.heap.size->w1.frozen? ⟨b,o,none⟩=W.frozen? ⟨b,o,none⟩) :=
 ⟨fun b o h=>hb.cell (p:=⟨b,o,none⟩) h,fun b o h=>hb.frozen (p:=⟨b,o,none⟩) h⟩
theorem xf {α:Type} {E:El α} {P:Program} {t e:TypeId} {by_:Nat} (T:ElTB P E t e by_) {ops:Array Oper} {rest:List Oper} {o:Oper} {a:Act} {Q:Exit->Act->World->Prop} (hgd:o.guard=none) (s x:Operand)
  (ho:o.op = .call { callee:=.builtin .append,args:=#[s,x],argTypes:=#[t,t] })
  (w:World) (A:Option Addr) (cap n:Nat) (l:List α) (hn:l.length=n) (y:α) (cs:List Value) (ca:Array Value) (hca:ca=cs.toArray) (hs:a.eval s = .slice A n cap) (hcap:cap<=n) (hA:A=none->n=0/\cap=0) (hr:RowsAt E w (Lo w.heap.size) A l)
  (nb:Nat) (hx:a.eval x = .slice (some ⟨nb,0,none⟩) 1 1) (hnb:nb=w.heap.size) (hy:E.rep w (Lo w.heap.size) y cs) (hl:n<maxLen) (hlb:(n+1)*by_<=140737488355328)
  (h:∀v' w',OwnRows E e w' w.heap.size v' (l++[y])->Below w.heap.size w w'->wpList P ops Q rest (a.put o.dst v') w') :
  wpList P ops Q (o :: rest) a (w.alloc (.cells ca e)):=by
 subst hn;subst hnb;subst hca;obtain ⟨i0,z,hi,hz0,hz1,hz2,hz3⟩:=T.info;obtain ⟨xs,h1,h2⟩:=hr;have hkeep:∀b,b<w.heap.size->(w.alloc (.cells cs.toArray e)).heap[b]? = w.heap[b]?:=fun b hb=>Below.heap_alloc w _ b hb;refine wpList_append_grows (w.alloc (.cells cs.toArray e)) hgd s x t ho e i0 z E.n by_ T.under hi hz0 hz1 hz3 hz2 E.pos A l.length cap xs hs hA h1.length ?_ ⟨w.heap.size,0,none⟩ 1 1 cs hx (by rw [E.len hy,Nat.one_mul]) ?_ (E.one hy) (by omega) (by omega) hlb ?_
 ·intro b hb j u hu;rcases Nat.eq_zero_or_pos l.length with h0|h0
  ·have hxl:=h1.length;rw [h0,Nat.zero_mul] at hxl;rw [List.eq_nil_of_length_eq_zero hxl] at hu;cases hu
  ·obtain ⟨b',off,hA',hb',hc⟩:=h2 h0;rw [hA'] at hb;injection hb with hb;subst hb;rw [fy];exact (World.cell?_alloc_lt w _ ⟨b',off+j,none⟩ hb').trans (hc j u hu)
 ·intro j u hu;rw [fy];exact xb w cs e j u hu
 ·intro v' w' hown hg;have hsz:w.heap.size<(w.alloc (.cells cs.toArray e)).heap.size:=by simp
  have hb1:Below (w.alloc (.cells cs.toArray e)).heap.size (w.alloc (.cells cs.toArray e)) w':=(Below.refl _ _).grown hg (Nat.le_refl _) (fun k hk=>by cases hk);have hb:Below w.heap.size w w':=Below.tr (Below.al (Below.refl _ _) _) hb1;have hoth:∀b,b<w.heap.size->ym w' v' b:=fun b hlt=>⟨Nat.lt_of_lt_of_le hlt hb.size,fun e=>by have:=(hown.lt b e).1;omega⟩;refine h v' w' ?_ hb;have ho2:OwnRows E e w' (w.alloc (.cells cs.toArray e)).heap.size v' (l++[y]) :=
   ⟨hb1.size,xs++cs,by rw [List.length_append];exact hown,(h1.same (fun b hlt=>hb.block b hlt) hoth).append (Reps.single (E.same hy (fun b hlt=>hb.block b hlt) hoth))⟩
  exact ho2.older (by simp)
theorem Kf (a b:Pr) (w:World):(Op.equalIn 10000 42 a.val b.val).run prog w = .ok (decide (a=b)) w:=by
 have hS:prog.underlying 42=some (.struct (prog.fieldsOf 42)):=by kernel_rfl
 have hp:prog.stoodInHeld 42=false:=by kernel_rfl
 unfold Pr.val;rw [show (10000:Nat)=9999+1 from rfl,run_equalIn_agg w 9999 42 _ _ hS hp];have u3:=underlying3;simp only [Program.fieldsOf,underlying42];go_simp
 obtain ⟨a1,a2,a3⟩:=a;obtain ⟨b1,b2,b3⟩:=b;by_cases h1:a1=b1 <;> by_cases h2:a2=b2 <;> by_cases h3:a3=b3 <;> simp [h1,h2,h3]
structure Cmps (t:TypeId) (x y:Array Value) (r:Bool):Prop where
 neq:∀w,(binOp .neq t (.agg x) (.agg y)).run prog w = .ok (.bool (!r)) w
 eql:∀w,(binOp .eql t (.agg x) (.agg y)).run prog w = .ok (.bool r) w
 guard:∀(op:BinOp) (a b:Operand) (xs ys:Array Value) w,(eqGuard op t a b (.agg xs) (.agg ys)).run prog w = .ok () w
theorem Cmps.mk' {t:TypeId} {x y:Array Value} {r:Bool} (h:∀w,(Op.equalIn 10000 t (.agg x) (.agg y)).run prog w = .ok r w) (hg:∀(op:BinOp) (a b:Operand) (xs ys:Array Value) w,(eqGuard op t a b (.agg xs) (.agg ys)).run prog w = .ok () w):Cmps t x y r where
 neq:=fun w=>(run_neq_struct (P:=prog) w t x y).trans (by rw [h w];rfl)
 eql:=fun w=>(run_eql_struct (P:=prog) w t x y).trans (by rw [h w];rfl)
 guard:=hg
theorem Mj (a b c x y z:Int):Cmps 42 #[.int .i64 a,.int .i64 b,.int .i64 c] #[.int .i64 x,.int .i64 y,.int .i64 z] (decide ((⟨a,b,c⟩:Pr)=⟨x,y,z⟩)):=Cmps.mk' (Kf ⟨a,b,c⟩ ⟨x,y,z⟩) (fun op a b xs ys w=>run_eqGuard_agg w op 42 a b xs ys (by kernel_rfl))
structure Am where
 mode:Int
 units:Int
deriving DecidableEq
def Am.cells (a:Am):List Value:=[.int .i64 a.mode,.int .i64 a.units]
def Am.val (a:Am):Value:=.agg #[.int .i64 a.mode,.int .i64 a.units]
def Am.zero:Am:=⟨0,0⟩
structure Tm where
 name:ByteArray
 am:Am
deriving DecidableEq
def Tm.cells (a:Tm):List Value:=[.string a.name,.int .i64 a.am.mode,.int .i64 a.am.units]
def Tm.val (a:Tm):Value:=.agg #[.string a.name,.int .i64 a.am.mode,.int .i64 a.am.units]
structure Ho where
 proc:Pr
 am:Am
deriving DecidableEq
def Ho.cells (a:Ho):List Value:=[.int .i64 a.proc.site,.int .i64 a.proc.inc,.int .i64 a.proc.num,.int .i64 a.am.mode,.int .i64 a.am.units]
structure Wt where
 proc:Pr
 am:Am
 prio:Int
 passed:Int
deriving DecidableEq
def Wt.cells (a:Wt):List Value:=[.int .i64 a.proc.site,.int .i64 a.proc.inc,.int .i64 a.proc.num,.int .i64 a.am.mode,.int .i64 a.am.units,.int .i64 a.prio,.int .i64 a.passed]
def E8:El Am:=El.plain 2 (by decide) Am.cells (fun _=>rfl) (by intro x u hu;simp [Am.cells] at hu;rcases hu with rfl|rfl <;> rfl)
def da:El Tm:=El.plain 3 (by decide) Tm.cells (fun _=>rfl) (by intro x u hu;simp [Tm.cells] at hu;rcases hu with rfl|rfl|rfl <;> rfl)
def g8:El Ho:=El.plain 5 (by decide) Ho.cells (fun _=>rfl) (by intro x u hu;simp [Ho.cells] at hu;rcases hu with rfl|rfl|rfl|rfl|rfl <;> rfl)
def gc:El Wt:=El.plain 7 (by decide) Wt.cells (fun _=>rfl) (by intro x u hu;simp [Wt.cells] at hu;rcases hu with rfl|rfl|rfl|rfl|rfl|rfl|rfl <;> rfl)
section
variable {w:World} {S:Nat->Prop} {A:Option Addr} {i:Nat}
theorem GP {l:List Am} {m u:Int} (h:RowsAt E8 w S A l) (hi:i<l.length) (hx:l[i]=⟨m,u⟩) :
  ∃k off,A=some ⟨k,off,none⟩/\S k/\w.cell? ⟨k,off+i*2,none⟩=some (.int .i64 m)/\w.cell? ⟨k,off+i*2+1,none⟩=some (.int .i64 u):=by
 obtain ⟨k,off,cs,hA,hS,hc,hd⟩:=h.getx hi hx;obtain rfl:cs=[.int .i64 m,.int .i64 u]:=hc;exact ⟨k,off,hA,hS,hd 0 (show 0<2 by decide),hd 1 (show 1<2 by decide)⟩
end
theorem P2:ElTB prog da 44 63 32:=ElTB.mk' underlying44 (.agg #[.string { data:=#[] },.int .i64 0,.int .i64 0]) 3 32 (by kernel_rfl) rfl rfl
theorem MT:ElTB prog g8 75 223 40:=ElTB.mk' underlying75 (.agg #[.int .i64 0,.int .i64 0,.int .i64 0,.int .i64 0,.int .i64 0]) 5 40 (by kernel_rfl) rfl rfl
theorem GQ:ElTB prog gc 76 154 56:=ElTB.mk' underlying76 (.agg #[.int .i64 0,.int .i64 0,.int .i64 0,.int .i64 0,.int .i64 0,.int .i64 0,.int .i64 0]) 7 56 (by kernel_rfl) rfl rfl
theorem Kg (a b:Am) (w:World):(Op.equalIn 10000 61 a.val b.val).run prog w = .ok (decide (a=b)) w:=by
 have hS:prog.underlying 61=some (.struct (prog.fieldsOf 61)):=by kernel_rfl
 have hp:prog.stoodInHeld 61=false:=by kernel_rfl
 unfold Am.val;rw [show (10000:Nat)=9999+1 from rfl,run_equalIn_agg w 9999 61 _ _ hS hp];have u3:=underlying3;simp only [Program.fieldsOf,underlying61];go_simp
 obtain ⟨a1,a2⟩:=a;obtain ⟨b1,b2⟩:=b;by_cases h1:a1=b1 <;> by_cases h2:a2=b2 <;> simp [h1,h2]
theorem OD (a b x y:Int):Cmps 61 #[.int .i64 a,.int .i64 b] #[.int .i64 x,.int .i64 y] (decide ((⟨a,b⟩:Am)=⟨x,y⟩)):=Cmps.mk' (Kg ⟨a,b⟩ ⟨x,y⟩) (fun op a b xs ys w=>run_eqGuard_agg w op 61 a b xs ys (by kernel_rfl))
def bP (m:Int):Bool:=decide (1<=m) && decide (m<=5)
def dK (a b:Int):Bool:=bP a && bP b && (decide (a=b) || decide (a=5) || decide (b=1) || decide (a=4) && !decide (b=5))
def lP (a b:Int):Bool:=bP a && bP b && !decide (a=5) && !decide (b=5) && (decide (a=1) || decide (b=1) || decide (a=b) && !decide (a=4))
theorem dL {a:Int} (h:bP a=true):a=1\/a=2\/a=3\/a=4\/a=5:=by
 unfold bP at h;simp at h;omega
theorem fA (m:Int) (w:World):Calls prog 230 #[.int .i64 m] w (qA w (.bool (bP m))):=by
 go_enter func230,ntmps230
 go_wp2
 all_goals go_ret
 all_goals refine ⟨aX ?_,rfl⟩
 all_goals unfold bP
 all_goals (first|rfl|(simp_all;done)|(simp_all;omega)|(rw [Bool.eq_iff_iff];simp_all;done)|(rw [Bool.eq_iff_iff];simp_all;omega))
theorem yq {fn:Func} {p:Tmp} {ty:TypeId} (h:fn.results = #[.cell p ty]) (tmps:Array Value) (P:Program) (w:World):(results fn tmps).run P w=((asAddr (tmps.getD p undef)).run P w).andThen fun a w₁=>(loadVar ty a).run P w₁:=by
 simp only [results,h];simp [Sem.run_bind,Result.andThen]
def MU (m:Int):Value:=.agg #[.bool false,.bool (bP m),.bool (decide (m=5) || decide (m=4) || decide (m=2)),.bool (decide (m=5) || decide (m=4) || decide (m=3)),.bool (decide (m=5) || decide (m=4)),.bool (decide (m=5))]
theorem zI (m:Int) (hm:bP m=true) (w:World):Calls prog 320 #[.int .i64 m] w (xc w (MU m)):=by
 rcases dL hm with rfl|rfl|rfl|rfl|rfl;all_goals
  clear hm
  go_enter func320,ntmps320
  go_wp2
  (try simp only [Exit.inBlock,Exit.then])
  refine bodyPost_ret_by (v:=_) ?_ rfl ⟨rfl,by exact fp⟩;rw [yq rfl];go_simp
  rfl
theorem E9 {a b:Int} (ha:bP a=true) (hb:bP b=true) (w:World):(Instr.index 262 (MU a) (.int .i64 b)).run prog w = .ok (.bool (dK a b)) w:=by
 rcases dL ha with rfl|rfl|rfl|rfl|rfl <;> rcases dL hb with rfl|rfl|rfl|rfl|rfl <;> kernel_rfl
theorem ua (a b:Int) (w:World):Calls prog 251 #[.int .i64 a,.int .i64 b] w (xc w (.bool (dK a b))):=by
 have H:=Lib.hid (fun m W=>fA m W);have HI:=Lib.hid (fun ha hb W=>E9 (a:=a) (b:=b) ha hb W);have HU:Hid ((bP a && bP b)=false->dK a b=false):=Lib.hid (fun h=>by unfold dK;rw [h];rfl);generalize dK a b=q at *
 go_enter func251,ntmps251
 go_wp2_with fail
 repeat' (first|(go_at_call 230;refine (H.out _ _).mono ?_;rintro e wa1 ⟨rfl,hwa1⟩;obtain rfl:=hwa1.symm;clear hwa1;go_wp2_with fail)|(go_at_call 320;refine (zI a (by assumption) _).mono ?_;rintro e w2 ⟨rfl,hb2⟩;have k:=HI.out (by assumption) (by assumption);generalize MU a=v at *;have HB2:=Lib.hid hb2;clear hb2;go_wp2_with fail)|(go_ret;refine ⟨aX ?_,by exact fp⟩;first|rfl|(rw [HU.out (by simp_all)])))
structure Tog (w:World):Prop where
 at_:∀i j:Nat,i<5->j<5->w.cell? ⟨0,i*5+j,none⟩=some (.bool (lP (i+1:Nat) (j+1:Nat)))
theorem Tog.below {w w':World} (h:Tog w) (hb:Below w.heap.size w w'):Tog w' where
 at_:=fun i j hi hj=>(hb.cell (p:=⟨0,i*5+j,none⟩) (World.block_lt_of_cell? w _ (h.at_ i j hi hj))).trans (h.at_ i j hi hj)
theorem nV (a b:Int) (w:World) (hT:Tog w):Calls prog 213 #[.int .i64 a,.int .i64 b] w (qA w (.bool (lP a b))):=by
 have H:=Lib.hid (fun m W=>fA m W);by_cases hab:bP a=true/\bP b=true
 ·obtain ⟨ha,hb⟩:=hab;obtain ⟨i,hi,ei⟩:∃i:Nat,i<5/\a=((i+1:Nat):Int):=⟨(a-1).toNat,by have:=dL ha;omega,by have:=dL ha;omega⟩;obtain ⟨j,hj,ej⟩:∃i:Nat,i<5/\b=((i+1:Nat):Int):=⟨(b-1).toNat,by have:=dL hb;omega,by have:=dL hb;omega⟩;have hc:=hT.at_ i j hi hj;rw [<-ei,<-ej] at hc;have w1:IntKind.i64.wrap (a-1)=(i:Int):=by rw [IntWalk.i64_in _ (by omega)];omega
  have w2:IntKind.i64.wrap (b-1)=(j:Int):=by rw [IntWalk.i64_in _ (by omega)];omega
  have H1:Hid (∀m W,m=a\/m=b->Calls prog 230 #[.int .i64 m] W (qA W (.bool true))):=Lib.hid (fun m W h=>by rcases h with rfl|rfl;exact ha▸fA _ W;exact hb▸fA _ W);generalize lP a b=q at *
  clear ha hb H hT ei ej
  go_enter func213,ntmps213
  go_wp2_with fail
  repeat' (first|(go_at_call 230;refine (H1.out _ _ (by simp)).mono ?_;rintro e wa1 ⟨rfl,hwa1⟩;obtain rfl:=hwa1.symm;clear hwa1;go_wp2_with fail)|(go_ret;exact ⟨aX rfl,rfl⟩))
 ·have HF:Hid (lP a b=false):=Lib.hid (by unfold lP;simp only [Bool.and_eq_false_imp];intros;simp_all);have HN:=Lib.hid hab;clear hab hT
  go_enter func213,ntmps213
  go_wp2_with fail
  repeat' (first|(go_at_call 230;refine (H.out _ _).mono ?_;rintro e wa1 ⟨rfl,hwa1⟩;obtain rfl:=hwa1.symm;clear hwa1;go_wp2_with fail)|(go_ret;first|exact ⟨aX HF.out.symm,rfl⟩|(exact absurd ⟨by assumption,by assumption⟩ HN.out))|(exact absurd ⟨by assumption,by assumption⟩ HN.out))
theorem Fb {α:Type} {l:List α} {k:Nat} {x:α} (h:k<l.length) (hx:l[k]=x):l.drop k=x :: l.drop (k+1):=by rw [qDc h,hx]
theorem GV {α:Type} {l:List α} {k:Nat} (h:¬k<l.length):l.drop k=[]:=qDn (by omega)
def af:List Ho->Pr->Am
 | [],_=>⟨0,0⟩
 | h :: l,p=>bif decide (h.proc=p) then h.am else af l p
def iA (l:List Ho):List Am:=l.map (·.am)
def cL (l:List Ho):List Pr:=l.map (·.proc)
theorem Cf (p q:Pr) (w:World):Calls prog 85 #[p.val,q.val] w (xc w (.int .i64 (bH p q))):=by
 obtain ⟨a,b,c⟩:=p;obtain ⟨x,y,z⟩:=q;unfold Pr.val bH;dsimp only;obtain ⟨r1,h1⟩:∃r,oL a x=r:=⟨_,rfl⟩;obtain ⟨r2,h2⟩:∃r,oL b y=r:=⟨_,rfl⟩;obtain ⟨r3,h3⟩:∃r,oL c z=r:=⟨_,rfl⟩;rw [h1,h2,h3];obtain ⟨r,hr⟩:=qGe ((if r1≠0 then r1 else if r2≠0 then r2 else r3));rw [hr];have HR:=Lib.hid hr;have G1:Hid (∀W:World,Calls prog 174 #[.int .i64 a,.int .i64 x] W (qA W (.int .i64 r1))):=Lib.hid (fun W=>by have:=qB a x W;rw [h1] at this;exact this);have G2:Hid (∀W:World,Calls prog 174 #[.int .i64 b,.int .i64 y] W (qA W (.int .i64 r2))):=Lib.hid (fun W=>by have:=qB b y W;rw [h2] at this;exact this);have G3:Hid (∀W:World,Calls prog 174 #[.int .i64 c,.int .i64 z] W (qA W (.int .i64 r3))):=Lib.hid (fun W=>by have:=qB c z W;rw [h3] at this;exact this);clear hr h1 h2 h3
 go_enter func85,ntmps85
 go_wp2_with fail
 refine (G1.out _).mono ?_;rintro e w' ⟨rfl,rfl⟩;go_wp2_with fail
 rotate_left
 refine (G2.out _).mono ?_;rintro e w' ⟨rfl,rfl⟩;go_wp2_with fail
 rotate_left
 refine (G3.out _).mono ?_;rintro e w' ⟨rfl,rfl⟩;go_wp2_with fail
 all_goals go_ret
 all_goals refine ⟨tO ?_,((Below.refl _ _).alloc (Nat.le_refl _) _).alloc (by simp) _⟩
 all_goals rw [<-HR.out]
 all_goals (clear HR G1 G2 G3;simp_all)
section
inductive Ex where
 | mk (k:Int) (atom:Tm) (kids:List Ex)
namespace Ex
def k:Ex->Int | .mk k _ _=>k
def atom:Ex->Tm | .mk _ a _=>a
def kids:Ex->List Ex | .mk _ _ l=>l
theorem ind {P:Ex->Prop} (h:∀k a l,(∀x∈l,P x)->P (.mk k a l)):∀x,P x:=by
 intro x;refine Ex.rec (motive_1:=P) (motive_2:=fun l=>∀x∈l,P x) h (fun x hx=>absurd hx (by simp)) (fun x l h1 h2 y hy=>?_) x;rcases List.mem_cons.1 hy with rfl|hy
 ·exact h1
 ·exact h2 _ hy
end Ex
def Ex.zero:Ex:=.mk 0 ⟨⟨#[]⟩,Am.zero⟩ []
def qF:Nat->El Ex
 | 0=>{ n:=5,pos:=by decide,rep:=fun _ _ _ _=>False,len:=fun h=>h.elim,one:=fun h=>h.elim,same:=fun h _ _=>h.elim }
 | d+1=>{
  n:=5
  pos:=by decide
  rep:=fun w S x cs=>∃A cap,cs=[.int .i64 x.k,.string x.atom.name,.int .i64 x.atom.am.mode,.int .i64 x.atom.am.units,.slice A x.kids.length cap]/\x.kids.length<=cap/\cap<=maxLen/\RowsAt (qF d) w S A x.kids
  len:=fun h=>by obtain ⟨A,cap,rfl,_⟩:=h;rfl
  one:=fun h=>by obtain ⟨A,cap,rfl,_⟩:=h;intro u hu;simp at hu;rcases hu with rfl|rfl|rfl|rfl|rfl <;> rfl
  same:=fun h hk hS=>by
   obtain ⟨A,cap,e,h1,h2,h3⟩:=h;exact ⟨A,cap,e,h1,h2,h3.same hk hS⟩ }
section
variable {w:World} {S:Nat->Prop} {A:Option Addr} {i d:Nat}
end
mutual
def Ex.cnt:Ex->Nat
 | .mk _ _ l=>1+jg l
def jg:List Ex->Nat
 | []=>0
 | x :: l=>x.cnt+jg l
end
mutual
def Ex.dep:Ex->Nat
 | .mk _ _ l=>1+nY l
def nY:List Ex->Nat
 | []=>0
 | x :: l=>max x.dep (nY l)
end
theorem Ex.dep_mk (k:Int) (a:Tm) (l:List Ex):(Ex.mk k a l).dep=1+nY l:=rfl
theorem Ex.cnt_mk (k:Int) (a:Tm) (l:List Ex):(Ex.mk k a l).cnt=1+jg l:=rfl
theorem xp (x:Ex) (l:List Ex):nY (x :: l)=max x.dep (nY l):=rfl
theorem gp (x:Ex) (l:List Ex):jg (x :: l)=x.cnt+jg l:=rfl
theorem Ex.dep_pos (x:Ex):0<x.dep:=by cases x;rw [Ex.dep_mk];omega
theorem Ex.cnt_pos (x:Ex):0<x.cnt:=by cases x;rw [Ex.cnt_mk];omega
theorem sw:∀l:List Ex,l.length<=jg l
 | []=>Nat.zero_le _
 | x :: l=>by have:=sw l;have:=x.cnt_pos;rw [gp,List.length_cons];omega
def Cp (x:Ex):Bool:=decide (x.dep<=4) && decide (x.cnt<=24)
mutual
def jA:Ex->Nat->Nat->Nat×Nat
 | .mk _ _ l,lev,n=>if 4<lev\/24<n+1 then (0,n+1) else nF l lev (n+1) 0
def nF:List Ex->Nat->Nat->Nat->Nat×Nat
 | [],_,n,d=>(d+1,n)
 | x :: l,lev,n,d=>if (jA x (lev+1) n).1=0 then (0,(jA x (lev+1) n).2) else nF l lev (jA x (lev+1) n).2 (max d (jA x (lev+1) n).1)
end
theorem DI (k:Int) (a:Tm) (l:List Ex) (lev n:Nat):jA (.mk k a l) lev n=if 4<lev\/24<n+1 then (0,n+1) else nF l lev (n+1) 0:=rfl
theorem Fn (lev n d:Nat):nF [] lev n d=(d+1,n):=rfl
theorem ur (x:Ex) (l:List Ex) (lev n d:Nat):nF (x :: l) lev n d=if (jA x (lev+1) n).1=0 then (0,(jA x (lev+1) n).2) else nF l lev (jA x (lev+1) n).2 (max d (jA x (lev+1) n).1):=rfl
theorem DJ:∀(x:Ex) (lev n:Nat),(x.dep+lev<=5/\n+x.cnt<=24/\jA x lev n=(x.dep,n+x.cnt))\/(¬(x.dep+lev<=5/\n+x.cnt<=24)/\(jA x lev n).1=0/\((jA x lev n).2<=25\/(jA x lev n).2<=n+1)):=by
 refine Ex.ind (fun k a l ih=>?_);have hl:∀(m:List Ex) (lev n d:Nat),(∀x∈m,x∈l)->lev<=4->n<=24->(nY m+lev<=4/\n+jg m<=24/\nF m lev n d=(max d (nY m)+1,n+jg m))\/(¬(nY m+lev<=4/\n+jg m<=24)/\(nF m lev n d).1=0/\(nF m lev n d).2<=25):=by
  intro m;induction m with
  | nil=>intro lev n d _ h1 h2;exact .inl ⟨by simpa [nY] using h1,by simpa [jg] using h2,by rw [Fn];simp [nY,jg]⟩
  | cons x m ihm =>
   intro lev n d hm h1 h2;rw [ur,xp,gp];have hx0:=x.dep_pos;rcases ih x (hm x (by simp)) (lev+1) n with ⟨a1,a2,a3⟩|⟨a1,a2,a3⟩
   ·rw [a3];rw [if_neg (by show ¬x.dep=0;omega)];rcases ihm lev (n+x.cnt) (max d x.dep) (fun y hy=>hm y (by simp [hy])) h1 a2 with ⟨b1,b2,b3⟩|⟨b1,b2,b3⟩
    ·exact .inl ⟨by omega,by omega,by rw [b3];congr 1 <;> omega⟩
    ·exact .inr ⟨by omega,b2,b3⟩
   ·rw [if_pos a2];exact .inr ⟨by omega,rfl,by show (jA x (lev+1) n).2<=25;omega⟩
 intro lev n;rw [DI,Ex.dep_mk,Ex.cnt_mk];by_cases hc:4<lev\/24<n+1
 ·rw [if_pos hc];exact .inr ⟨by omega,rfl,.inr (Nat.le_refl _)⟩
 ·rw [if_neg hc];rcases hl l lev (n+1) 0 (fun _ h=>h) (by omega) (by omega) with ⟨b1,b2,b3⟩|⟨b1,b2,b3⟩
  ·exact .inl ⟨by omega,by omega,by rw [b3];congr 1 <;> omega⟩
  ·exact .inr ⟨by omega,b2,.inl b3⟩
theorem Kl (x:Ex):(jA x 1 0).1=if Cp x then x.dep else 0:=by
 unfold Cp;rcases DJ x 1 0 with ⟨a1,a2,a3⟩|⟨a1,a2,_⟩
 ·rw [a3];simp;omega
 ·rw [a2,if_neg];simp;omega
mutual
def gL:Ex->Nat->Nat×Nat
 | .mk _ _ l,dp=>if 4<dp\/24<l.length then (25,0) else j6 l dp 1 0
def j6:List Ex->Nat->Nat->Nat->Nat×Nat
 | [],_,n,d=>(n,d+1)
 | x :: l,dp,n,d=>if 24<n+(gL x (dp+1)).1 then (25,0) else j6 l dp (n+(gL x (dp+1)).1) (if d<(gL x (dp+1)).2 then (gL x (dp+1)).2 else d)
end
theorem zU (k:Int) (a:Tm) (l:List Ex) (dp:Nat):gL (.mk k a l) dp=if 4<dp\/24<l.length then (25,0) else j6 l dp 1 0:=rfl
theorem Cq (dp n d:Nat):j6 [] dp n d=(n,d+1):=rfl
theorem sy (x:Ex) (l:List Ex) (dp n d:Nat):j6 (x :: l) dp n d=if 24<n+(gL x (dp+1)).1 then (25,0) else j6 l dp (n+(gL x (dp+1)).1) (if d<(gL x (dp+1)).2 then (gL x (dp+1)).2 else d):=rfl
theorem ut:∀(x:Ex) (dp:Nat),(x.dep+dp<=5/\x.cnt<=24/\gL x dp=(x.cnt,x.dep))\/(¬(x.dep+dp<=5/\x.cnt<=24)/\gL x dp=(25,0)):=by
 refine Ex.ind (fun k a l ih=>?_);have hl:∀(m:List Ex) (dp n d:Nat),(∀x∈m,x∈l)->dp<=4->n<=24->(nY m+dp<=4/\n+jg m<=24/\j6 m dp n d=(n+jg m,max d (nY m)+1))\/(¬(nY m+dp<=4/\n+jg m<=24)/\j6 m dp n d=(25,0)):=by
  intro m;induction m with
  | nil=>intro dp n d _ h1 h2;exact .inl ⟨by simpa [nY] using h1,by simpa [jg] using h2,by rw [Cq];simp [nY,jg]⟩
  | cons x m ihm =>
   intro dp n d hm h1 h2;rw [sy,xp,gp];have hx0:=x.dep_pos;rcases ih x (hm x (by simp)) (dp+1) with ⟨a1,a2,a3⟩|⟨a1,a3⟩
   ·rw [a3];by_cases hn:24<n+x.cnt
    ·rw [if_pos hn];exact .inr ⟨by omega,rfl⟩
    ·rw [if_neg hn];rcases ihm dp (n+x.cnt) (if d<x.dep then x.dep else d) (fun y hy=>hm y (by simp [hy])) h1 (by omega) with ⟨b1,b2,b3⟩|⟨b1,b2⟩
     ·refine .inl ⟨by omega,by omega,?_⟩;rw [b3];congr 1
      ·omega
      ·split <;> omega
     ·exact .inr ⟨by omega,b2⟩
   ·rw [a3,if_pos (by show 24<n+25;omega)];exact .inr ⟨by omega,rfl⟩
 intro dp;rw [zU,Ex.dep_mk,Ex.cnt_mk];have hlen:=sw l;by_cases hc:4<dp\/24<l.length
 ·rw [if_pos hc];exact .inr ⟨by omega,rfl⟩
 ·rw [if_neg hc];rcases hl l dp 1 0 (fun _ h=>h) (by omega) (by omega) with ⟨b1,b2,b3⟩|⟨b1,b3⟩
  ·exact .inl ⟨by omega,by omega,by rw [b3];congr 1;omega⟩
  ·exact .inr ⟨by omega,b3⟩
theorem Hc (x:Ex):(24<(gL x 1).1) = ¬Cp x=true:=by
 unfold Cp;rcases ut x 1 with ⟨a1,a2,a3⟩|⟨a1,a3⟩ <;> rw [a3] <;> simp <;> omega
end
structure But (g:Nat) (w w':World):Prop where
 os:w'.os=w.os
 tape:w'.tape=w.tape
 output:w'.output=w.output
 size:w.heap.size<=w'.heap.size
 block:∀k,k<w.heap.size->k≠g->w'.heap[k]? = w.heap[k]?
section
variable {g:Nat} {a b c w w':World}
end
section
variable {X:Nat->Prop} {a b c w w':World} {u v v':Value} {base:Nat}
end
section
variable {α:Type} {e:TypeId} {n:Nat} {pos:0<n} {f:α->List Value} {len:∀x,(f x).length=n} {one:∀x,∀u∈f x,u.oneCell'=true}
theorem Mk {w w':World} {S S':Nat->Prop}:∀{l:List α} {xs:List Value},Reps (El.plain n pos f len one) w S l xs->Reps (El.plain n pos f len one) w' S' l xs
 | [],_,h=>h
 | _ :: _,_,h=>by
  obtain ⟨cs,rest,rfl,h1,h2⟩:=h;exact ⟨cs,rest,rfl,h1,Mk h2⟩
end
def P4 (base:Nat) (w:World) (b:Nat):Prop:=base<=b/\b<w.heap.size
section
variable {α:Type} {E:El α} {base:Nat} {w:World} {S:Nat->Prop} {e t:TypeId}
end
section
variable {α:Type} {e:TypeId} {n:Nat} {pos:0<n} {f:α->List Value} {len:∀x,(f x).length=n} {one:∀x,∀u∈f x,u.oneCell'=true}
theorem OwnRows.newP {w:World} {base:Nat} {v:Value} {l:List α} (h:OwnRows (El.plain n pos f len one) e w base v l):∃A cap,v = .slice A l.length cap/\RowsAt (El.plain n pos f len one) w (P4 base w) A l/\l.length<=cap:=by
 rcases Nat.eq_zero_or_pos l.length with hl|hl
 ·obtain ⟨A,cap,hv,_,hc,_⟩:=h.form;obtain rfl:l=[]:=List.eq_nil_of_length_eq_zero hl;exact ⟨A,cap,hv,RowsAt.nil _ _ _ _,hc⟩
 ·obtain ⟨g,cap,hv,hg,hg2,hc,_,_,hr⟩:=h.addr hl;obtain ⟨xs,h1,h2⟩:=hr;refine ⟨_,cap,hv,⟨xs,Mk h1,fun hp=>?_⟩,hc⟩;obtain ⟨b,off,hA,_,hcells⟩:=h2 hp;injection hA with hA;injection hA with e1 e2;subst e1;subst e2;exact ⟨_,_,rfl,⟨hg,hg2⟩,hcells⟩
end
section
variable {w:World} {g:Nat} {t:TypeId}
end
theorem results_cell_tmp2 {fn:Func} {p u u':Tmp} {ty:TypeId} (h:fn.results = #[.cell p ty,.tmp u,.tmp u']) (tmps:Array Value) (P:Program) (w:World) :
  (results fn tmps).run P w=((asAddr (tmps.getD p undef)).run P w).andThen fun a w₁=>((loadVar ty a).run P w₁).andThen fun v w₂=>.ok (.tuple #[v,tmps.getD u undef,tmps.getD u' undef]) w₂:=by
 simp only [results,h];simp [Sem.run_bind,Result.andThen]
section
variable {P:Program} {fn:Func} {p u u':Tmp} {ty:TypeId} {R:Ending->World->Prop} {a:Act} {w:World} {v v':Value}
end
end Go.Proofs.YtkkbopkbjacfmaaGreatDoor
