/- Part 1 of 35 of the proof of centralNew_holds (no condition). -/
import Derived.Test.YtjndcdcbjidocaaGreatDoorProg
import Derived.WalkKit
import Derived.Lib.Hide
import Derived.WalkLawsBesides
import Derived.WalkSpells
import Derived.Deep.QuietTactic
import Derived.BigQuiet
import Derived.Deep.LoopGhost
import Derived.Maps.AppendAt
import Derived.Deep.Slices
import Derived.Deep.Fields
import Derived.ChangeSame
import Derived.OpenShut
import Derived.Laws.OwnMore
import Derived.StillTail
import Derived.Sort.Walk0
import Derived.Lib.AtoiAll
import Derived.Lib.ItoaNum
import Derived.Lib.Split
import Derived.Laws.StructEq
set_option linter.unusedVariables false
set_option linter.unusedSimpArgs false
set_option maxRecDepth 100000
set_option maxHeartbeats 64000000
namespace Go.Proofs.YtjndcdcbjidocaaGreatDoor
open Go.RowKit Go.Proofs.Tryz
abbrev Bs:=List UInt8
def F3 (s:Bs):Bool:=s == [97,108,108] || s == [97,110,121] || s == [111,102] || s == [112,114,105,111] || s == [108,105,109,105,116]
theorem qZ (s:ByteArray) (w:World):Calls prog 204 #[.string s] w fun e w'=>e = .returned (.bool (F3 s.toList))∧w'=w:=by
 go_enter func204,ntmps204
 go_wp2
 all_goals go_ret
 all_goals exact ⟨by simp_all [F3],rfl⟩
theorem tf (s:ByteArray) (w:World):Calls prog 186 #[.string s] w fun e w'=>e = .returned (.bool (F3 s.toList))∧w'=w:=by
 go_enter func186,ntmps186
 go_wp2
 all_goals go_ret
 all_goals exact ⟨by simp_all [F3],rfl⟩
def eI (c:UInt8):Bool:=decide ((97:Int)≤c.toNat) && decide ((c.toNat:Int)≤122)
def ie (c:UInt8):Bool:=eI c || decide ((48:Int)≤c.toNat) && decide ((c.toNat:Int)≤57) || decide ((c.toNat:Int)=95) || decide ((c.toNat:Int)=45)
theorem o0 (c:UInt8) (w:World):Calls prog 203 #[.int .u8 c.toNat] w fun e w'=>e = .returned (.bool (eI c))∧w'=w:=by
 unfold eI
 generalize (c.toNat:Int)=n
 go_enter func203,ntmps203
 go_wp2
 all_goals go_ret
 all_goals exact ⟨by simp_all <;> omega,rfl⟩
theorem Bn (c:UInt8) (w:World):Calls prog 205 #[.int .u8 c.toNat] w fun e w'=>e = .returned (.bool (ie c))∧w'=w:=by
 have HL:=Lib.hid (o0 c w)
 obtain ⟨b,hb⟩:∃b,eI c=b:=⟨_,rfl⟩
 have HB:=Lib.hid hb
 have hp:ie c=(b || decide ((48:Int)≤c.toNat) && decide ((c.toNat:Int)≤57) || decide ((c.toNat:Int)=95) || decide ((c.toNat:Int)=45)):=by
  unfold ie
  rw [hb]
 rw [hb] at HL
 rw [hp]
 clear hp hb HB
 generalize (c.toNat:Int)=n at *
 go_enter func205,ntmps205
 go_wp2_with fail
 refine HL.out.mono ?_
 rintro e w' ⟨rfl,rfl⟩
 cases b <;> go_wp2
 all_goals go_ret
 all_goals refine ⟨congrArg (fun b=>Ending.returned (.bool b)) (?_:(_:Bool)=_),rfl⟩
 all_goals first|rfl|(rw [Bool.eq_iff_iff];done)|(rw [Bool.eq_iff_iff];simp;done)|(rw [Bool.eq_iff_iff];simp;omega)
section
open Go.WideShapes Go.ChangeShapes Go.Deep
structure El (α:Type) where
 n:Nat
 pos:0<n
 rep:World→(Nat→Prop)→α→List Value→Prop
 len:∀{w:World} {S:Nat→Prop} {x:α} {cs:List Value},rep w S x cs→cs.length=n
 one:∀{w:World} {S:Nat→Prop} {x:α} {cs:List Value},rep w S x cs→∀u∈cs,u.oneCell'=true
 same:∀{w w':World} {S S':Nat→Prop} {x:α} {cs:List Value},rep w S x cs→(∀b,S b→w'.heap[b]? = w.heap[b]?)→(∀b,S b→S' b)→rep w' S' x cs
section
variable {α:Type} {E:El α} {w w':World} {S S':Nat→Prop} {A:Option Addr} {l l':List α} {xs ys:List Value} {v:Value} {base B:Nat} {e:TypeId}
def Reps (E:El α) (w:World) (S:Nat→Prop):List α→List Value→Prop
 | [],xs=>xs=[]
 | x :: l,xs=>∃cs rest,xs=cs++rest∧E.rep w S x cs∧Reps E w S l rest
theorem Reps.length:∀{l:List α} {xs:List Value},Reps E w S l xs→xs.length=l.length*E.n
 | [],xs,h=>by rw [show xs=[] from h];simp
 | x :: l,xs,h=>by
  obtain ⟨cs,rest,rfl,h1,h2⟩:=h
  rw [List.length_append,E.len h1,Reps.length h2,List.length_cons,Nat.add_mul,Nat.one_mul,Nat.add_comm]
theorem Reps.one:∀{l:List α} {xs:List Value},Reps E w S l xs→∀u∈xs,u.oneCell'=true
 | [],xs,h=>by rw [show xs=[] from h];simp
 | x :: l,xs,h=>by
  obtain ⟨cs,rest,rfl,h1,h2⟩:=h
  intro u hu
  rcases List.mem_append.1 hu with hu|hu
  ·exact E.one h1 u hu
  ·exact Reps.one h2 u hu
theorem Reps.same:∀{l:List α} {xs:List Value},Reps E w S l xs→(∀b,S b→w'.heap[b]? = w.heap[b]?)→(∀b,S b→S' b)→Reps E w' S' l xs
 | [],xs,h,_,_=>h
 | x :: l,xs,h,hk,hS=>by
  obtain ⟨cs,rest,rfl,h1,h2⟩:=h
  exact ⟨cs,rest,rfl,E.same h1 hk hS,Reps.same h2 hk hS⟩
theorem Reps.append:∀{l l':List α} {xs ys:List Value},Reps E w S l xs→Reps E w S l' ys→Reps E w S (l++l') (xs++ys)
 | [],l',xs,ys,h,k=>by rw [show xs=[] from h];exact k
 | x :: l,l',xs,ys,h,k=>by
  obtain ⟨cs,rest,rfl,h1,h2⟩:=h
  exact ⟨cs,rest++ys,by simp,h1,Reps.append h2 k⟩
theorem Reps.single {x:α} {cs:List Value} (h:E.rep w S x cs):Reps E w S [x] cs:=⟨cs,[],by simp,h,rfl⟩
theorem Reps.drop:∀{l:List α} {xs:List Value} (k:Nat),Reps E w S l xs→Reps E w S (l.drop k) (xs.drop (k*E.n))
 | l,xs,0,h=>by simpa using h
 | [],xs,k+1,h=>by rw [show xs=[] from h];simp [Reps]
 | x :: l,xs,k+1,h=>by
  obtain ⟨cs,rest,rfl,h1,h2⟩:=h
  have e1:(cs++rest).drop ((k+1)*E.n)=rest.drop (k*E.n):=by
   rw [List.drop_append,E.len h1,List.drop_eq_nil_of_le (by rw [E.len h1,Nat.add_mul];omega),Nat.add_mul,Nat.one_mul,Nat.add_sub_cancel,List.nil_append]
  rw [e1]
  exact Reps.drop k h2
theorem Reps.take:∀{l:List α} {xs:List Value} (k:Nat),Reps E w S l xs→Reps E w S (l.take k) (xs.take (k*E.n))
 | l,xs,0,h=>by simp [Reps]
 | [],xs,k+1,h=>by rw [show xs=[] from h];simp [Reps]
 | x :: l,xs,k+1,h=>by
  obtain ⟨cs,rest,rfl,h1,h2⟩:=h
  have e1:(cs++rest).take ((k+1)*E.n)=cs++rest.take (k*E.n):=by
   rw [List.take_append,E.len h1,List.take_of_length_le (by rw [E.len h1,Nat.add_mul];omega),Nat.add_mul,Nat.one_mul,Nat.add_sub_cancel]
  rw [e1]
  exact ⟨cs,_,rfl,h1,Reps.take k h2⟩
theorem Reps.get:∀{l:List α} {xs:List Value},Reps E w S l xs→∀i (h:i<l.length),∃cs,E.rep w S l[i] cs∧∀j,j<E.n→xs[i*E.n+j]? = cs[j]?
 | [],xs,h,i,hi=>absurd hi (by simp)
 | x :: l,xs,h,0,hi=>by
  obtain ⟨cs,rest,rfl,h1,h2⟩:=h
  exact ⟨cs,h1,fun j hj=>by rw [Nat.zero_mul,Nat.zero_add,List.getElem?_append_left (by rw [E.len h1];exact hj)]⟩
 | x :: l,xs,h,i+1,hi=>by
  obtain ⟨cs,rest,rfl,h1,h2⟩:=h
  obtain ⟨cs',h3,h4⟩:=Reps.get h2 i (by simpa using hi)
  refine ⟨cs',by simpa using h3,fun j hj=>?_⟩
  rw [←h4 j hj,List.getElem?_append_right (by rw [E.len h1,Nat.add_mul];omega),E.len h1,Nat.add_mul,Nat.one_mul]
  congr 1
  omega
theorem Reps.set:∀{l:List α} {xs:List Value} {i:Nat} {y:α} {cs:List Value},Reps E w S l xs→E.rep w S y cs→i<l.length→Reps E w S (l.set i y) (xs.take (i*E.n)++cs++xs.drop (i*E.n+E.n))
 | [],xs,i,y,cs,h,hy,hi=>absurd hi (by simp)
 | x :: l,xs,0,y,cs,h,hy,hi=>by
  obtain ⟨cs',rest,rfl,h1,h2⟩:=h
  refine ⟨cs,rest,?_,hy,h2⟩
  rw [Nat.zero_mul,List.take_zero,List.nil_append,Nat.zero_add,List.drop_append,E.len h1,List.drop_eq_nil_of_le (by rw [E.len h1];omega),Nat.sub_self,List.drop_zero,List.nil_append]
 | x :: l,xs,i+1,y,cs,h,hy,hi=>by
  obtain ⟨cs',rest,rfl,h1,h2⟩:=h
  refine ⟨cs',rest.take (i*E.n)++cs++rest.drop (i*E.n+E.n),?_,h1,Reps.set h2 hy (by simpa using hi)⟩
  have hl:=E.len h1
  rw [List.take_append,List.drop_append,hl,List.take_of_length_le (by rw [hl,Nat.add_mul];omega),List.drop_eq_nil_of_le (by rw [hl,Nat.add_mul];omega)]
  rw [show (i+1)*E.n-E.n=i*E.n by rw [Nat.add_mul];omega,show (i+1)*E.n+E.n-E.n=i*E.n+E.n by rw [Nat.add_mul];omega]
  simp
def RowsAt (E:El α) (w:World) (S:Nat→Prop) (A:Option Addr) (l:List α):Prop :=
 ∃xs,Reps E w S l xs∧(0<l.length→∃b off,A=some ⟨b,off,none⟩∧S b∧∀j u,xs[j]? = some u→w.cell? ⟨b,off+j,none⟩=some u)
theorem RowsAt.nil (E:El α) (w:World) (S:Nat→Prop) (A:Option Addr):RowsAt E w S A []:=⟨[],rfl,fun h=>absurd h (by simp)⟩
theorem RowsAt.same (h:RowsAt E w S A l) (hk:∀b,S b→w'.heap[b]? = w.heap[b]?) (hS:∀b,S b→S' b):RowsAt E w' S' A l:=by
 obtain ⟨xs,h1,h2⟩:=h
 refine ⟨xs,h1.same hk hS,fun h0=>?_⟩
 obtain ⟨b,off,hA,hb,hc⟩:=h2 h0
 exact ⟨b,off,hA,hS b hb,fun j u hu=>(World.cell?_of_block (w:=w) (a:=⟨b,off+j,none⟩) (hk b hb)).trans (hc j u hu)⟩
theorem RowsAt.mono (h:RowsAt E w S A l) (hS:∀b,S b→S' b):RowsAt E w S' A l:=h.same (fun _ _=>rfl) hS
theorem RowsAt.get (h:RowsAt E w S A l) {i:Nat} (hi:i<l.length) :
  ∃b off cs,A=some ⟨b,off,none⟩∧S b∧E.rep w S l[i] cs∧∀j,j<E.n→w.cell? ⟨b,off+i*E.n+j,none⟩=cs[j]?:=by
 obtain ⟨xs,h1,h2⟩:=h
 obtain ⟨b,off,hA,hb,hc⟩:=h2 (by omega)
 obtain ⟨cs,h3,h4⟩:=h1.get i hi
 refine ⟨b,off,cs,hA,hb,h3,fun j hj=>?_⟩
 have hj2:j<cs.length:=by rw [E.len h3];exact hj
 have h5:=h4 j hj
 rw [List.getElem?_eq_getElem hj2] at h5 ⊢
 rw [Nat.add_assoc]
 exact hc _ _ h5
theorem RowsAt.getx (h:RowsAt E w S A l) {i:Nat} {x:α} (hi:i<l.length) (hx:l[i]=x) :
  ∃b off cs,A=some ⟨b,off,none⟩∧S b∧E.rep w S x cs∧∀j,j<E.n→w.cell? ⟨b,off+i*E.n+j,none⟩=cs[j]?:=by subst hx;exact h.get hi
theorem RowsAt.take (h:RowsAt E w S A l) (k:Nat):RowsAt E w S A (l.take k):=by
 obtain ⟨xs,h1,h2⟩:=h
 refine ⟨_,h1.take k,fun h0=>?_⟩
 obtain ⟨b,off,hA,hb,hc⟩:=h2 (by rw [List.length_take] at h0;omega)
 exact ⟨b,off,hA,hb,fun j u hu=>hc j u (by rw [List.getElem?_take] at hu;split at hu;exact hu;cases hu)⟩
theorem RowsAt.drop {b off:Nat} (h:RowsAt E w S (some ⟨b,off,none⟩) l) (k:Nat):RowsAt E w S (some ⟨b,off+k*E.n,none⟩) (l.drop k):=by
 obtain ⟨xs,h1,h2⟩:=h
 refine ⟨_,h1.drop k,fun h0=>?_⟩
 obtain ⟨b',off',hA,hb,hc⟩:=h2 (by rw [List.length_drop] at h0;omega)
 injection hA with hA
 injection hA with e1 e2
 subst e1
 subst e2
 exact ⟨b,_,rfl,hb,fun j u hu=>by rw [Nat.add_assoc];exact hc _ u (by rw [List.getElem?_drop] at hu;exact hu)⟩
def Lo (B:Nat) (b:Nat):Prop:=b<B
def oK (w:World) (v:Value) (b:Nat):Prop:=b<w.heap.size∧v.ownBlock≠some b
theorem RowsAt.below {B B' B'':Nat} (h:RowsAt E w (Lo B) A l) (hb:Below B' w w') (hB:B≤B') (hB2:B≤B''):RowsAt E w' (Lo B'') A l :=
 h.same (fun b hl=>hb.block b (Nat.lt_of_lt_of_le hl hB)) fun _ hl=>Nat.lt_of_lt_of_le hl hB2
theorem El.below {x:α} {cs:List Value} {B B' B'':Nat} (h:E.rep w (Lo B) x cs) (hb:Below B' w w') (hB:B≤B') (hB2:B≤B''):E.rep w' (Lo B'') x cs :=
 E.same h (fun b hl=>hb.block b (Nat.lt_of_lt_of_le hl hB)) fun _ hl=>Nat.lt_of_lt_of_le hl hB2
def OwnRows (E:El α) (e:TypeId) (w:World) (base:Nat) (v:Value) (l:List α):Prop :=
 base≤w.heap.size∧∃xs,w.ownsRow base e E.n v l.length xs∧Reps E w (oK w v) l xs
theorem OwnRows.nil (E:El α) (e:TypeId) (w:World) (base:Nat) (hb:base≤w.heap.size):OwnRows E e w base (.slice none 0 0) []:=⟨hb,[],World.ownsRow_nil _ _ _ _,rfl⟩
theorem OwnRows.block (h:OwnRows E e w base v l):∀k,v.ownBlock=some k→base≤k∧k<w.heap.size:=by
 obtain ⟨_,xs,h1,_⟩:=h
 exact h1.lt
theorem OwnRows.keep (h:OwnRows E e w base v l) (hk:∀b,b<w.heap.size→w'.heap[b]? = w.heap[b]?) (hs:w.heap.size≤w'.heap.size):OwnRows E e w' base v l:=by
 obtain ⟨h0,xs,⟨h1,h2⟩,h3⟩:=h
 refine ⟨Nat.le_trans h0 hs,xs,⟨h1,?_⟩,h3.same (fun b hb=>hk b hb.1) fun b hb=>⟨Nat.lt_of_lt_of_le hb.1 hs,hb.2⟩⟩
 rcases h2 with hn|⟨g,cap,cur,hv,hg,hh,rest⟩
 ·exact .inl hn
 ·exact .inr ⟨g,cap,cur,hv,hg,by rw [hk g (Array.getElem?_eq_some_iff.1 hh).1];exact hh,rest⟩
theorem OwnRows.below (h:OwnRows E e w base v l) (hb:Below B w w') (hB:w.heap.size≤B):OwnRows E e w' base v l:=h.keep (fun b hlt=>hb.block b (by omega)) hb.size
theorem OwnRows.drewN (h:OwnRows E e w base v l) (n:Nat):OwnRows E e (w.drewN n) base v l:=h.keep (fun _ _=>rfl) (Nat.le_refl _)
theorem OwnRows.alloc (h:OwnRows E e w base v l) (o:Obj):OwnRows E e (w.alloc o) base v l:=h.keep (fun b hlt=>Below.heap_alloc w o b hlt) (by simp)
theorem OwnRows.older (h:OwnRows E e w base v l) {base':Nat} (hb:base'≤base):OwnRows E e w base' v l:=by
 obtain ⟨h0,xs,⟨h1,h2⟩,h3⟩:=h
 refine ⟨Nat.le_trans hb h0,xs,⟨h1,?_⟩,h3⟩
 rcases h2 with hn|⟨g,cap,cur,hv,hg,rest⟩
 ·exact .inl hn
 ·exact .inr ⟨g,cap,cur,hv,Nat.le_trans hb hg,rest⟩
theorem OwnRows.form (h:OwnRows E e w base v l) :
  ∃A cap,v = .slice A l.length cap∧RowsAt E w (Lo w.heap.size) A l∧l.length≤cap∧cap≤maxLen:=by
 obtain ⟨h0,xs,h1,h3⟩:=h
 have hc:∀g,v.ownBlock=some g→∀j u,xs[j]? = some u→w.cell? ((⟨g,0,none⟩:Addr).add j)=some u:=fun g hg=>h1.cells hg
 rcases h1.2 with ⟨hv,hn⟩|⟨g,cap,cur,hv,hg,hh,hnc,hcm,hcs,ht⟩
 ·have hl:l=[]:=List.eq_nil_of_length_eq_zero hn
  subst hl
  exact ⟨none,0,hv,RowsAt.nil _ _ _ _,by simp,by simp [maxLen]⟩
 ·refine ⟨_,cap,hv,⟨xs,h3.same (fun _ _=>rfl) (fun b hb=>hb.1),fun _=>⟨g,0,rfl,(Array.getElem?_eq_some_iff.1 hh).1,fun j u hu=>?_⟩⟩,hnc,hcm⟩
  have:=hc g (by rw [hv];rfl) j u hu
  have e:(⟨g,0,none⟩:Addr).add j=⟨g,0+j,none⟩:=by unfold Addr.add;split <;> simp_all
  rwa [e] at this
theorem OwnRows.len (h:OwnRows E e w base v l):l.length≤maxLen:=by
 obtain ⟨A,cap,_,_,h1,h2⟩:=h.form
 omega
theorem OwnRows.oth (h:OwnRows E e w base v l) {b:Nat} (hb:b<base):oK w v b:=⟨Nat.lt_of_lt_of_le hb h.1,fun e=>by have:=(h.block b e).1;omega⟩
def m4 (w w':World) (v v':Value):Prop:=∀b,oK w v b→w'.heap[b]? = w.heap[b]?∧v'.ownBlock≠some b
structure ElTB (P:Program) (E:El α) (t e:TypeId) (by_:Nat):Prop where
 under:P.underlying t=some (.slice e)
 info:∃i z,P.info? e=some i∧i.zero=some z∧i.size=E.n∧z.cells.size=E.n∧i.bytes=by_
theorem ElTB.mk' {P:Program} {t e:TypeId} (hu:P.underlying t=some (.slice e)) (z:Value) (n by_:Nat) (hi:(P.info? e).map (fun i=>(i.zero,i.size,i.bytes))=some (some z,n,by_)) (hn:n=E.n) (hz:z.cells.size=n):ElTB P E t e by_:=by
 obtain ⟨i,h,h0,h1,h2⟩:=info_parts hi
 exact ⟨hu,i,z,h,h0,h1.trans hn,hz.trans hn,h2⟩
def ElT (P:Program) (E:El α) (t e:TypeId):Prop:=∃by_,ElTB P E t e by_∧by_≤1024
theorem ElT.mk' {P:Program} {t e:TypeId} (hu:P.underlying t=some (.slice e)) (z:Value) (n by_:Nat) (hi:(P.info? e).map (fun i=>(i.zero,i.size,i.bytes))=some (some z,n,by_)) (hn:n=E.n) (hz:z.cells.size=n) (hb:by_≤1024):ElT P E t e:=⟨by_,ElTB.mk' hu z n by_ hi hn hz,hb⟩
theorem lZ {P:Program} (w:World) (base:Nat) (t ty e:TypeId) (i:TypeInfo) (size:Nat) (ht:P.underlying t=some (.slice e)) (hi:P.info? e=some i)
  (v:Value) (n:Nat) (xs:List Value) (hown:w.ownsRow base e size v n xs) (c:Nat):(Builtin.append_ #[t,t] ty #[v,.slice none 0 c]).run P w = .ok v w:=by
 rcases hown.2 with ⟨rfl,rfl⟩|⟨g,cap,cur,rfl,_,_,hnc,_⟩
 ·simp [Builtin.append_,run_underlying ht,sizeOf,typeInfo,hi,Builtin.lenOf,Builtin.firstCells]
 ·simp [Builtin.append_,run_underlying ht,sizeOf,typeInfo,hi,Builtin.lenOf,Builtin.firstCells,hnc,storeCells]
theorem cL (b off j:Nat):(Addr.mk b off none).add j=⟨b,off+j,none⟩:=by
 unfold Addr.add
 by_cases h:j=0 <;> simp [h]
theorem m5 {P:Program} {t e:TypeId} {by_:Nat} (T:ElTB P E t e by_) (w:World) (ty:TypeId) (base:Nat) (v:Value) (l ns:List α) (A:Option Addr) (c:Nat) (hown:OwnRows E e w base v l)
  (xs:List Value) (hx:Reps E w (oK w v) ns xs) (hA:0<ns.length→∃b off,A=some ⟨b,off,none⟩∧∀j u,xs[j]? = some u→w.cell? ⟨b,off+j,none⟩=some u) (hl:l.length+ns.length≤maxLen) (hlb:(l.length+ns.length)*by_≤140737488355328) :
  ∃v' w',(Builtin.append_ #[t,t] ty #[v,.slice A ns.length c]).run P w = .ok v' w'∧OwnRows E e w' base v' (l++ns)∧Below base w w'∧m4 w w' v v':=by
 obtain ⟨i0,z,hi,hz0,hz1,hz2,hz3⟩:=T.info
 obtain ⟨h0,us,h1,h3⟩:=hown
 rcases A with _|ad
 ·have hn:ns=[]:=by
   cases ns with
   | nil=>rfl
   | cons a r=>obtain ⟨_,_,h,_⟩:=hA (by simp);cases h
  subst hn
  exact ⟨v,w,lZ w base t ty e i0 E.n T.under hi v l.length _ h1 c,by simpa using ⟨h0,us,h1,h3⟩,Below.refl _ _,fun b hb=>⟨rfl,hb.2⟩⟩
 ·have hxl:=hx.length
  have hcells:∀j u,xs[j]? = some u→w.cell? (ad.add j)=some u:=by
   intro j u hu
   rcases Nat.eq_zero_or_pos ns.length with hz|hz
   ·rw [hz,Nat.zero_mul] at hxl
    have:xs=[]:=List.eq_nil_of_length_eq_zero hxl
    subst this
    cases hu
   ·obtain ⟨b,off,h,hc⟩:=hA hz
    injection h with h
    subst h
    rw [cL]
    exact hc j u hu
  obtain ⟨v',w',hrun,k1,k2,_,k4⟩:=run_append_own_at (P:=P) w base t ty e i0 z E.n i0.bytes T.under hi hz0 hz1 rfl hz2 E.pos v l.length _ h1 ad ns.length c xs
   hxl hcells hx.one hl (by rw [hz3];exact hlb) h0
  have hb:Below base w w':=(Below.refl base w).grown k2 h0 (fun k hk=>(h1.lt k hk).1)
  have hsp:m4 w w' v v':=fun b hb2=>⟨k2.block b hb2.1 (fun e=>hb2.2 e.symm),by
   rcases k4 with e|e
   ·rw [e];exact hb2.2
   ·rw [e]
    intro h
    injection h with h
    have:=hb2.1
    omega⟩
  have keep:∀{m:List α} {ms:List Value},Reps E w (oK w v) m ms→Reps E w' (oK w' v') m ms:=fun hm =>
   hm.same (fun b hb2=>(hsp b hb2).1) fun b hb2=>⟨Nat.lt_of_lt_of_le hb2.1 hb.size,(hsp b hb2).2⟩
  exact ⟨v',w',hrun,⟨Nat.le_trans h0 hb.size,us++xs,by rw [List.length_append];exact k1,(keep h3).append (keep hx)⟩,hb,hsp⟩
theorem tg {P:Program} {t e:TypeId} {by_:Nat} (T:ElTB P E t e by_) {ops:Array Oper} {rest:List Oper} {o:Oper} {a:Act} {Q:Exit→Act→World→Prop} (hgd:o.guard=none) (s x:Operand)
  (ho:o.op = .call { callee:=.builtin .append,args:=#[s,x],argTypes:=#[t,t] })
  (w:World) (base:Nat) (v:Value) (l ns:List α) (n:Nat) (hn:ns.length=n) (A:Option Addr) (c:Nat) (hs:a.eval s=v) (hown:OwnRows E e w base v l) (hx:a.eval x = .slice A n c) (hr:RowsAt E w (oK w v) A ns) (hl:l.length+n≤maxLen) (hlb:(l.length+n)*by_≤140737488355328)
  (h:∀v' w',OwnRows E e w' base v' (l++ns)→Below base w w'→m4 w w' v v'→wpList P ops Q rest (a.put o.dst v') w') :
  wpList P ops Q (o :: rest) a w:=by
 subst hn
 refine wpList_plain hgd fun K hK=>?_
 obtain ⟨xs,hx1,hx2⟩:=hr
 obtain ⟨v',w',hrun,h1,h2,h3⟩:=m5 T w o.type base v l ns A c hown xs hx1 (fun h0=>by
  obtain ⟨b,off,hA,_,hc⟩:=hx2 h0
  exact ⟨b,off,hA,hc⟩) hl hlb
 unfold Oper.wp execOp
 simp only [ho,resolve,invoke,builtin,Sem.run_bind,Sem.run_pure,Result.andThen_ok,List.map_toArray,List.map_cons,List.map_nil,hs,hx,hrun]
 exact hK _ _ (h v' w' h1 h2 h3)
theorem rQ (w:World) (cs:List Value) (e:TypeId) (j:Nat) (u:Value) (hu:cs[j]? = some u):(w.alloc (.cells cs.toArray e)).cell? ⟨w.heap.size,0+j,none⟩=some u:=by
 have:(w.alloc (.cells cs.toArray e)).heap[w.heap.size]? = some (.cells cs.toArray e (0,0)):=heap_alloc_new w _
 rw [cell_of_row _ _ _ _ _ _ this,Nat.zero_add,List.getElem?_toArray]
 exact hu
theorem Bo {P:Program} {t e:TypeId} {by_:Nat} (T:ElTB P E t e by_) {ops:Array Oper} {rest:List Oper} {o:Oper} {a:Act} {Q:Exit→Act→World→Prop} (hgd:o.guard=none) (s x:Operand)
  (ho:o.op = .call { callee:=.builtin .append,args:=#[s,x],argTypes:=#[t,t] })
  (w:World) (base:Nat) (v:Value) (l:List α) (y:α) (cs:List Value) (ca:Array Value) (hca:ca=cs.toArray) (hs:a.eval s=v) (hown:OwnRows E e w base v l) (nb:Nat) (hx:a.eval x = .slice (some ⟨nb,0,none⟩) 1 1) (hnb:nb=w.heap.size) (hy:E.rep w (oK w v) y cs) (hl:l.length<maxLen) (hlb:(l.length+1)*by_≤140737488355328)
  (h:∀v' w',OwnRows E e w' base v' (l++[y])→Below base w w'→m4 w w' v v'→wpList P ops Q rest (a.put o.dst v') w') :
  wpList P ops Q (o :: rest) a (w.alloc (.cells ca e)):=by
 subst hnb
 subst hca
 have hsz:w.heap.size≤(w.alloc (.cells cs.toArray e)).heap.size:=by simp
 have hkeep:∀b,b<w.heap.size→(w.alloc (.cells cs.toArray e)).heap[b]? = w.heap[b]?:=fun b hb=>Below.heap_alloc w _ b hb
 have hy':E.rep (w.alloc (.cells cs.toArray e)) (oK (w.alloc (.cells cs.toArray e)) v) y cs:=E.same hy (fun b hb=>hkeep b hb.1) fun b hb=>⟨Nat.lt_of_lt_of_le hb.1 hsz,hb.2⟩
 have hnot:v.ownBlock≠some w.heap.size:=fun e=>by have:=(hown.block _ e).2;omega
 refine tg T hgd s x ho _ base v l [y] 1 rfl _ 1 hs (hown.alloc _) hx ⟨cs,Reps.single hy',fun _=>⟨w.heap.size,0,rfl,⟨by simp,hnot⟩,fun j u hu=>rQ w cs e j u hu⟩⟩ hl hlb ?_
 intro v' w' h1 h2 h3
 refine h v' w' h1 (((Below.refl base w).alloc hown.1 _).trans h2) fun b hb=>?_
 obtain ⟨e1,e2⟩:=h3 b ⟨Nat.lt_of_lt_of_le hb.1 hsz,hb.2⟩
 exact ⟨e1.trans (hkeep b hb.1),e2⟩
theorem OwnRows.made (E:El α) (e:TypeId) (w:World) (base:Nat) (cur:Array Value) (cap:Nat) (hb:base≤w.heap.size) (hm:cap≤maxLen) (hs:cur.size=cap*E.n):OwnRows E e (w.alloc (.cells cur e)) base (.slice (some ⟨w.heap.size,0,none⟩) 0 cap) [] :=
 ⟨by simp;omega,[],World.ownsRow_made w cur cap hb hm hs,rfl⟩
theorem OwnRows.one (w:World) (base:Nat) (y:α) (cs:List Value) (hb:base≤w.heap.size) (hy:E.rep w (Lo w.heap.size) y cs):OwnRows E e (w.alloc (.cells cs.toArray e)) base (.slice (some ⟨w.heap.size,0,none⟩) 1 1) [y] :=
 ⟨by simp;omega,cs,by simpa using World.ownsRow_lit (e:=e) (size:=E.n) w cs.toArray 1 hb (by simp [maxLen]) (by simpa using E.len hy),
  Reps.single (E.same hy (fun b hb=>Below.heap_alloc w _ b hb) fun b hb=>⟨by simp;exact Nat.lt_succ_of_lt hb,fun e=>by injection e with e;have:b<w.heap.size:=hb;simp at e;omega⟩)⟩
theorem OwnRows.setAll (h:OwnRows E e w base v l) {i:Nat} (hi:i<l.length) {y:α} {cs:List Value} (hy:E.rep w' (oK w' v) y cs) (hs:w'.heap.size=w.heap.size)
  (hk:∀b,oK w v b→w'.heap[b]? = w.heap[b]?) (hrow:∀xs,w.ownsRow base e E.n v l.length xs→w'.ownsRow base e E.n v l.length (xs.take (i*E.n)++cs++xs.drop (i*E.n+E.n))):OwnRows E e w' base v (l.set i y):=by
 obtain ⟨h0,xs,h1,h3⟩:=h
 refine ⟨by omega,_,by rw [List.length_set];exact hrow xs h1,Reps.set (h3.same hk fun b hb=>⟨by rw [hs];exact hb.1,hb.2⟩) hy hi⟩
end
def El.plain {α:Type} (n:Nat) (pos:0<n) (f:α→List Value) (len:∀x,(f x).length=n) (one:∀x,∀u∈f x,u.oneCell'=true):El α where
 n:=n
 pos:=pos
 rep:=fun _ _ x cs=>cs=f x
 len:=fun h=>by rw [h];exact len _
 one:=fun h=>by rw [h];exact one _
 same:=fun h _ _=>h
def Is:El Int:=El.plain 1 (by decide) (fun x=>[.int .i64 x]) (fun _=>rfl) (by intro x u hu;simp at hu;subst hu;rfl)
def cU:El Bool:=El.plain 1 (by decide) (fun x=>[.bool x]) (fun _=>rfl) (by intro x u hu;simp at hu;subst hu;rfl)
def q7:El ByteArray:=El.plain 1 (by decide) (fun x=>[.string x]) (fun _=>rfl) (by intro x u hu;simp at hu;subst hu;rfl)
def El.sl {α:Type} (E:El α):El (List α) where
 n:=1
 pos:=by decide
 rep:=fun w S l cs=>∃A cap,cs=[.slice A l.length cap]∧l.length≤cap∧cap≤maxLen∧RowsAt E w S A l
 len:=fun h=>by obtain ⟨A,cap,rfl,_⟩:=h;rfl
 one:=fun h=>by obtain ⟨A,cap,rfl,_⟩:=h;intro u hu;simp at hu;subst hu;rfl
 same:=fun h hk hS=>by
  obtain ⟨A,cap,e,h1,h2,h3⟩:=h
  exact ⟨A,cap,e,h1,h2,h3.same hk hS⟩
def Opens {α:Type} (P:Program) (E:El α) (t:TypeId) (fits:α→Prop):Prop :=
 ∀{H:Type} {enc:TypeId×Value→H} {w:World} {base:Nat} {spare:Nat→Bool} {held:Bool} {fuel:Nat} {cs:List Value} {x:DataW H×List MemPlace},DataW.trod enc P w base spare held fuel t cs=some x→∃y,E.rep w (Lo w.heap.size) y cs∧fits y
theorem Gv {n:Int} (h:(Lit.int .i64 n).wf=true) : -9223372036854775808≤n∧n≤9223372036854775807:=by
 have:=bounds_i64 h
 omega
def D8 (n:Int):Prop:=-9223372036854775808≤n∧n≤9223372036854775807
theorem m6 {P:Program} {t:TypeId} (ht:P.underlying t=some (.int .i64)):Opens P Is t D8:=by
 intro H enc w base spare held fuel cs x h
 obtain ⟨n,e,_,hw⟩:=DataW.trod_int ht h
 exact ⟨n,e,Gv hw⟩
theorem zI {P:Program} {t:TypeId} (ht:P.underlying t=some .string):Opens P q7 t (fun s=>s.size≤maxLen):=by
 intro H enc w base spare held fuel cs x h
 obtain ⟨n,e,_,hw⟩:=DataW.trod_string ht h
 exact ⟨n,e,hw⟩
theorem o8 {w:World} {a:Addr} {v:Value} (h:w.cell? (a.add 0)=some v):∃b off,a=⟨b,off,none⟩:=by
 obtain ⟨b,off,spot⟩:=a
 have hspot:spot=none:=by simpa [Addr.add] using World.cell?_spot h
 subst hspot
 exact ⟨b,off,rfl⟩
theorem th {α:Type} {E:El α} {w:World} {S:Nat→Prop} {fits:α→Prop} {b:Nat}:∀(n off:Nat),(∀i,i<n→∃y cs,E.rep w S y cs∧fits y∧∀j u,cs[j]? = some u→w.cell? ⟨b,off+i*E.n+j,none⟩=some u)→
  ∃l xs,l.length=n∧Reps E w S l xs∧(∀y∈l,fits y)∧∀j u,xs[j]? = some u→w.cell? ⟨b,off+j,none⟩=some u
 | 0,off,_=>⟨[],[],rfl,rfl,by simp,by simp⟩
 | n+1,off,h=>by
  obtain ⟨y,cs,h1,h2,h3⟩:=h 0 (by omega)
  obtain ⟨l,xs,k1,k2,k3,k4⟩:=th (E:=E) (fits:=fits) n (off+E.n) (fun i hi=>by
   obtain ⟨y,cs,h1,h2,h3⟩:=h (i+1) (by omega)
   exact ⟨y,cs,h1,h2,fun j u hu=>by have:=h3 j u hu;rwa [Nat.add_mul,Nat.one_mul,show off+(i*E.n+E.n)+j=off+E.n+i*E.n+j by omega] at this⟩)
  refine ⟨y :: l,cs++xs,by simp [k1],⟨cs,xs,rfl,h1,k2⟩,?_,?_⟩
  ·intro z hz
   rcases List.mem_cons.1 hz with rfl|hz
   ·exact h2
   ·exact k3 z hz
  ·intro j u hu
   have hl:=E.len h1
   rcases Nat.lt_or_ge j E.n with hj|hj
   ·rw [List.getElem?_append_left (by omega)] at hu
    have:=h3 j u hu
    rwa [Nat.zero_mul,Nat.add_zero] at this
   ·rw [List.getElem?_append_right (by omega),hl] at hu
    have:=k4 _ u hu
    rwa [show off+E.n+(j-E.n)=off+j by omega] at this
theorem Opens.sl {α:Type} {P:Program} {E:El α} {t e:TypeId} {fits:α→Prop} (ho:Opens P E e fits) (ht:P.underlying t=some (.slice e)) (hC:P.cellsOf e=E.n):Opens P E.sl t (fun l=>l.length≤maxLen∧∀y∈l,fits y):=by
 intro H enc w base spare held fuel cs x h
 rcases open_slice ht h with ⟨rfl,_⟩|⟨a,len,cap,m,n,D,Pl,rfl,hb,hl,hm,hmm,_,hi⟩
 ·exact ⟨[],⟨none,0,rfl,by simp,by simp [maxLen],RowsAt.nil _ _ _ _⟩,by simp [maxLen],by simp⟩
 ·have hml:len≤m:=by rw [hmm];split <;> omega
  rcases Nat.eq_zero_or_pos len with h0|h0
  ·subst h0
   exact ⟨[],⟨some a,cap,rfl,by simp,hm,RowsAt.nil _ _ _ _⟩,by simp [maxLen],by simp⟩
  ·have hplain:∃b off,a=⟨b,off,none⟩:=by
    obtain ⟨cs',hc,_⟩:=hi 0 (by omega)
    obtain ⟨_,hcl,hat⟩:=World.cells?_some hc
    have hp:=E.pos
    have h1:=hat 0 (by omega)
    rw [Nat.zero_mul,List.getElem?_eq_getElem (by omega)] at h1
    have e0:(a.add 0).add 0=a.add 0:=by rw [Go.Deep.add_add]
    rw [e0] at h1
    exact o8 h1
   obtain ⟨b,off,rfl⟩:=hplain
   have hel:∀i,i<len→∃y cs,E.rep w (Lo w.heap.size) y cs∧fits y∧∀j u,cs[j]? = some u→w.cell? ⟨b,off+i*E.n+j,none⟩=some u:=by
    intro i hil
    obtain ⟨cs',hc,hd⟩:=hi i (by omega)
    obtain ⟨y,hy,hf⟩:=ho hd
    obtain ⟨_,hcl,hat⟩:=World.cells?_some hc
    refine ⟨y,cs',hy,hf,fun j u hu=>?_⟩
    have hj:j<cs'.length:=(List.getElem?_eq_some_iff.1 hu).1
    have h1:=hat j (by omega)
    rw [hu,cL,cL,hC] at h1
    exact h1
   obtain ⟨l,xs,k1,k2,k3,k4⟩:=th len off hel
   subst k1
   refine ⟨l,⟨_,cap,rfl,hl,hm,xs,k2,fun _=>⟨b,off,rfl,?_,k4⟩⟩,by omega,k3⟩
   have hxl:=k2.length
   have hp:=E.pos
   have:0<xs.length:=by rw [hxl];exact Nat.mul_pos h0 hp
   exact World.block_lt_of_cell? w _ (k4 0 _ (List.getElem?_eq_getElem this))
end
structure Ext (w0:World) where
 w:World
 below:Below w0.heap.size w0 w
instance (w0:World):Nonempty (Ext w0):=⟨⟨w0,Below.refl _ _⟩⟩
theorem Ext.cell {w0:World} {b o:Nat} {v:Value} (h:w0.cell? ⟨b,o,none⟩=some v) (n:Ext w0):n.w.cell? ⟨b,o,none⟩=some v :=
 (n.below.cell (p:=⟨b,o,none⟩) (World.block_lt_of_cell? w0 _ h)).trans h
theorem Jp {P:Prop} (h:P:=by (repeat (first|(with_reducible exact Below.refl _ _)|(with_reducible assumption)|(with_reducible refine bL ?_ _)|(with_reducible refine Below.drew ?_)|(with_reducible refine Below.al ?_ _)|(with_reducible refine Below.st ?_ (by simp;try omega))|(with_reducible refine Below.tr ?_ (by assumption))))):P:=h
theorem aU {P:Prop} (h:P:=by (repeat (first|(with_reducible exact Below.refl _ _)|(with_reducible assumption)|(with_reducible refine bL ?_ _)|(with_reducible refine Below.drew ?_)|(with_reducible refine Below.al ?_ _)|(with_reducible refine Below.st ?_ (by simp;try omega))|(with_reducible refine Below.tr ?_ (Hid.out (by assumption)))|(with_reducible exact Hid.out (by assumption))))):P:=h
theorem bL {B:Nat} {a w:World} (h:Below B a w) (n:Nat):Below B a (w.drewN n):=⟨h.os,h.tape,h.output,h.size,h.block⟩
theorem Ext.call {P:Program} {f:FuncId} {args:Array Value} {w0:World} {v:Value} (n:Ext w0) (h:Calls P f args n.w fun e w'=>e = .returned v∧Below n.w.heap.size n.w w'):Calls P f args n.w fun e w'=>e = .returned v∧∃m:Ext w0,w'=m.w :=
 h.mono fun _ _ ⟨he,hb⟩=>⟨he,⟨_,n.below.trans (hb.mono n.below.size)⟩,rfl⟩
theorem dP (w:World) (cs:Array Value) (e:TypeId) (j:Nat):(w.alloc (.cells cs e)).cell? ⟨w.heap.size,j,none⟩=cs[j]?:=cell_of_row _ _ _ _ _ _ (heap_alloc_new w (.cells cs e))
theorem Ext.new {w0:World} (cs:Array Value) (e:TypeId) {j:Nat} {v:Value} (h:cs[j]? = some v) (n:Ext (w0.alloc (.cells cs e))):n.w.cell? ⟨w0.heap.size,j,none⟩=some v:=Ext.cell ((dP w0 cs e j).trans h) n
theorem Ext.old {w0:World} {b o:Nat} {v:Value} (ob:Obj) (h:w0.cell? ⟨b,o,none⟩=some v) (n:Ext (w0.alloc ob)):n.w.cell? ⟨b,o,none⟩=some v :=
 Ext.cell ((World.cell?_alloc_lt w0 ob ⟨b,o,none⟩ (World.block_lt_of_cell? w0 _ h)).trans h) n
def Blk (w:World) (g:Nat) (t:TypeId) (cs:Array Value):Prop:=w.heap[g]? = some (.cells cs t (0,0))
section
variable {w w':World} {g:Nat} {t:TypeId} {cs:Array Value}
theorem Blk.lt (h:Blk w g t cs):g<w.heap.size:=(Array.getElem?_eq_some_iff.1 h).1
theorem Blk.cell (h:Blk w g t cs) (i:Nat):w.cell? ⟨g,i,none⟩=cs[i]?:=cell_of_row w g i cs t (0,0) h
theorem Blk.cellx (h:Blk w g t cs) (i:Nat) {v:Value} (hv:cs[i]? = some v):w.cell? ⟨g,i,none⟩=some v:=(h.cell i).trans hv
theorem Blk.frozen (h:Blk w g t cs) (i:Nat):w.frozen? ⟨g,i,none⟩=false:=by
 unfold Blk at h
 simp [World.frozen?,h]
theorem Blk.new (w:World) (t:TypeId) (cs:Array Value):Blk (w.alloc (.cells cs t)) w.heap.size t cs:=heap_alloc_new w _
theorem Blk.drewN (h:Blk w g t cs) (n:Nat):Blk (w.drewN n) g t cs:=h
theorem Blk.alloc (h:Blk w g t cs) (o:Obj):Blk (w.alloc o) g t cs:=(Below.heap_alloc w o g h.lt).trans h
theorem Blk.set_ (h:Blk w g t cs) (i:Nat) (u:Value):Blk (w.setCell ⟨g,i,none⟩ u) g t (cs.setIfInBounds i u):=by
 unfold Blk at h ⊢
 simp [World.setCell,Array.getElem?_modify,h]
theorem Blk.far (h:Blk w g t cs) {p:Addr} (hp:g≠p.block) (u:Value):Blk (w.setCell p u) g t cs:=(Below.heap_setCell w p u g hp).trans h
theorem Blk.below {B:Nat} (h:Blk w g t cs) (hb:Below B w w') (hg:g<B):Blk w' g t cs:=(hb.block g hg).trans h
end
structure Just (w0:World) where
 w:World
 eq:w=w0
instance (w0:World):Nonempty (Just w0):=⟨⟨w0,rfl⟩⟩
theorem Just.cell {w0:World} {b o:Nat} {v:Value} (h:w0.cell? ⟨b,o,none⟩=some v) (n:Just w0.drew):n.w.cell? ⟨b,o,none⟩=some v:=by rw [n.eq];exact h
theorem Just.new {w0:World} (cs:Array Value) (e:TypeId) {j:Nat} {v:Value} (h:cs[j]? = some v) (n:Just (w0.alloc (.cells cs e)).drew):n.w.cell? ⟨w0.heap.size,j,none⟩=some v:=Just.cell ((dP w0 cs e j).trans h) n
theorem Just.old {w0:World} {b o:Nat} {v:Value} (ob:Obj) (h:w0.cell? ⟨b,o,none⟩=some v) (n:Just (w0.alloc ob).drew):n.w.cell? ⟨b,o,none⟩=some v :=
 Just.cell ((World.cell?_alloc_lt w0 ob ⟨b,o,none⟩ (World.block_lt_of_cell? w0 _ h)).trans h) n
theorem Just.call {P:Program} {f:FuncId} {args:Array Value} {w0:World} {v:Value} (n:Just w0) (h:Calls P f args n.w fun e w'=>e = .returned v∧w'=n.w):Calls P f args n.w fun e w'=>e = .returned v∧∃m:Just w0,w'=m.w :=
 h.mono fun _ _ ⟨he,hb⟩=>⟨he,n,hb⟩
def lC (w:World) (v:Value) (e:Ending) (w':World):Prop:=e = .returned v∧Below w.heap.size w w'
def uW (w:World) (v:Value) (e:Ending) (w':World):Prop:=e = .returned v∧w'=w
theorem aN {a b:Bool} (h:a=b):Ending.returned (.bool a) = .returned (.bool b):=by rw [h]
theorem jY {k:IntKind} {a b:Int} (h:a=b):Ending.returned (.int k a) = .returned (.int k b):=by rw [h]
def o9 {α:Type} (E:El α) (t:TypeId) (w:World) (l:List α) (e:Ending) (w':World):Prop:=∃v,e = .returned v∧OwnRows E t w' w.heap.size v l∧Below w.heap.size w w'
def co (s:Bs):Bool:=decide (1≤s.length) && decide (s.length≤12) && !F3 s && (s.take 1).all eI && s.all ie
theorem nT (s:ByteArray):s.toList.length=s.size:=by rw [ByteArray.toList_eq];simp
theorem yv (s:ByteArray) (k:Nat) (h:k<s.size) (h':k<s.toList.length):s.toList[k]=s[k]:=by
 simp only [ByteArray.toList_eq]
 rfl
theorem q9 {p:UInt8→Bool} {l:Bs} {k:Nat} (h:k<l.length):(l.take (k+1)).all p=((l.take k).all p && p l[k]):=by
 rw [List.take_succ_eq_append_getElem h,List.all_append]
 simp
theorem uX {s:Bs} (h1:1≤s.length) (h12:s.length≤12):co s=(!F3 s && eI s[0] && s.all ie):=by
 unfold co
 rw [decide_eq_true h1,decide_eq_true h12]
 cases s with
 | nil=>simp at h1
 | cons a r=>simp
theorem jp (s:ByteArray) (w:World):Calls prog 133 #[.string s] w fun e w'=>e = .returned (.bool (co s.toList))∧w'=w:=by
 have hsz:=nT s
 by_cases h1:s.size<1
 ·have hn:Hid (co s.toList=false):=Lib.hid (by unfold co;rw [show decide (1≤s.toList.length)=false from decide_eq_false (by omega)];rfl)
  go_enter func133,ntmps133
  go_wp2_with fail
  go_ret
  exact ⟨aN hn.out.symm,rfl⟩
 ·by_cases h2:12<s.size
  ·have hn:Hid (co s.toList=false):=Lib.hid (by unfold co;rw [show decide (s.toList.length≤12)=false from decide_eq_false (by omega),Bool.and_false];rfl)
   go_enter func133,ntmps133
   go_wp2_with fail
   go_ret
   exact ⟨aN hn.out.symm,rfl⟩
  ·have HN:=Lib.hid (uX (s:=s.toList) (by omega) (by omega))
   have HG:=Lib.hid (yv s)
   have h0:0<s.size:=by omega
   have hlen:s.toList.length=s.size:=hsz
   generalize co s.toList=r at *
   go_enter func133,ntmps133
   go_wp2_with fail
   refine (o0 _ w).mono ?_
   rintro e w' ⟨rfl,hw'⟩
   obtain rfl:=hw'.symm
   obtain ⟨b0,hb0⟩:∃b,eI s[0]=b:=⟨_,rfl⟩
   have HB:=Lib.hid hb0
   rw [hb0]
   clear hb0
   cases b0 with
   | false =>
    go_wp2
    go_ret
    exact ⟨aN (by rw [HN.out,HG.out 0 h0 (by omega),HB.out];simp),rfl⟩
   | true =>
    go_wp2_with fail
    refine (qZ s w).mono ?_
    rintro e w' ⟨rfl,hw'⟩
    obtain rfl:=hw'.symm
    obtain ⟨b1,hb1⟩:∃b,F3 s.toList=b:=⟨_,rfl⟩
    have HB1:=Lib.hid hb1
    rw [hb1]
    clear hb1
    cases b1 with
    | true =>
     go_wp2
     go_ret
     exact ⟨aN (by rw [HN.out,HB1.out];simp),rfl⟩
    | false =>
     have HM:Hid (r=s.toList.all ie):=Lib.hid (by rw [HN.out,HB1.out,HG.out 0 h0 (by omega),HB.out];simp)
     go_wp2_with fail
     go_loopg [3] s.size (fun m v wq=>∃k:Nat,v = .int .i64 (k:Int)∧k≤s.size∧s.size≤k+m∧Hid ((s.toList.take k).all ie=true)∧wq=w)
     case atStart=>exact ⟨0,rfl,Nat.zero_le _,by omega,Lib.hid (by simp),rfl⟩
     case round =>
      obtain ⟨k,rfl,hk,hkm,hall,rfl⟩:=hrel
      by_cases hlt:k<s.size
      ·go_wp2_with fail
       refine (Bn _ _).mono ?_
       rintro e w' ⟨rfl,hw'⟩
       obtain rfl:=hw'.symm
       obtain ⟨b2,hb2⟩:∃b,ie s[k]=b:=⟨_,rfl⟩
       have HB2:=Lib.hid hb2
       rw [hb2]
       clear hb2
       cases b2 with
       | false =>
        go_wp2
        go_ret
        refine ⟨aN ?_,rfl⟩
        rw [HM.out]
        symm
        rw [Bool.eq_false_iff]
        intro h
        have h3:=(List.all_eq_true.1 h) _ (List.getElem_mem (show k<s.toList.length by omega))
        rw [HG.out k hlt (by omega),HB2.out] at h3
        cases h3
       | true =>
        have hnx:Hid ((s.toList.take (k+1)).all ie=true):=Lib.hid (by rw [q9 (by omega),hall.out,HG.out k hlt (by omega),HB2.out];rfl)
        go_wp2
        go_roundg (gk-1)
        case measure=>omega
        case rel=>exact ⟨k+1,by go_num,by omega,by omega,hnx,rfl⟩
      ·have hfin:Hid (r=true):=Lib.hid (by rw [HM.out,←hall.out,List.take_of_length_le (by omega)])
       go_wp2
       go_ret
       exact ⟨aN hfin.out.symm,rfl⟩
def jq (k:Nat) (n:Int):Prop:=(97≤n∧n≤122)∨(k≠0∧((48≤n∧n≤57)∨n=95∨n=45))
theorem rR {c:UInt8}:ie c=true↔jq 1 c.toNat:=by
 unfold ie eI jq
 simp only [Bool.or_eq_true,Bool.and_eq_true,decide_eq_true_eq]
 omega
theorem uY {c:UInt8}:eI c=true↔jq 0 c.toNat:=by
 unfold eI jq
 simp only [Bool.and_eq_true,decide_eq_true_eq]
 omega
theorem tj {s:Bs} (h:0<s.length):(eI s[0] && s.all ie)=true↔∀k (hk:k<s.length),jq k s[k].toNat:=by
 rw [Bool.and_eq_true,uY,List.all_eq_true]
 constructor
 ·rintro ⟨h1,h2⟩ k hk
  have:=rR.1 (h2 _ (List.getElem_mem hk))
  rcases Nat.eq_zero_or_pos k with rfl|h0
  ·exact h1
  ·unfold jq at this ⊢
   omega
 ·intro h1
  refine ⟨h1 0 h,fun c hc=>?_⟩
  obtain ⟨k,hk,rfl⟩:=List.mem_iff_getElem.1 hc
  rw [rR]
  have:=h1 k hk
  unfold jq at this ⊢
  omega
theorem g5 (s:ByteArray) (w:World):Calls prog 108 #[.string s] w fun e w'=>e = .returned (.bool (co s.toList))∧w'=w:=by
  have hsz:=nT s
  by_cases h1:s.size<1
  · have hn:Hid (co s.toList=false):=Lib.hid (by unfold co;rw [show decide (1≤s.toList.length)=false from decide_eq_false (by omega)];rfl)
    go_enter func108,ntmps108
    go_wp2_with fail
    go_ret
    exact ⟨aN hn.out.symm,rfl⟩
  · by_cases h2:12<s.size
    · have hn:Hid (co s.toList=false):=Lib.hid (by unfold co;rw [show decide (s.toList.length≤12)=false from decide_eq_false (by omega),Bool.and_false];rfl)
      go_enter func108,ntmps108
      go_wp2_with fail
      go_ret
      exact ⟨aN hn.out.symm,rfl⟩
    · have HN:=Lib.hid (uX (s:=s.toList) (by omega) (by omega))
      have HG:=Lib.hid (yv s)
      have h0:0<s.size:=by omega
      have hlen:s.toList.length=s.size:=hsz
      have HAP:=Lib.hid (tj (s:=s.toList) (by omega))
      generalize co s.toList=r at *
      go_enter func108,ntmps108
      go_wp2_with fail
      refine (tf s w).mono ?_
      rintro e w' ⟨rfl,hw'⟩
      obtain rfl:=hw'.symm
      obtain ⟨b1,hb1⟩:∃b,F3 s.toList=b:=⟨_,rfl⟩
      have HB1:=Lib.hid hb1
      rw [hb1]
      clear hb1
      cases b1 with
      | true =>
        go_wp2
        go_ret
        exact ⟨aN (by rw [HN.out,HB1.out];simp),rfl⟩
      | false =>
        have HM:Hid (r=(eI s.toList[0] && s.toList.all ie)):=Lib.hid (by rw [HN.out,HB1.out];simp)
        have HBad:Hid (∀k (h:k<s.size),¬jq k s[k].toNat→false=r):=Lib.hid fun k h hno=>by
          symm
          rw [Bool.eq_false_iff,HM.out]
          intro hc
          have:=HAP.out.1 hc k (by omega)
          rw [HG.out k h (by omega)] at this
          exact hno this
        have HGood:Hid ((∀k (h:k<s.size),jq k s[k].toNat)→true=r):=Lib.hid fun h=>by
          rw [HM.out]
          symm
          refine HAP.out.2 fun k hk=>?_
          rw [HG.out k (by omega) hk]
          exact h k (by omega)
        clear HN HM HB1 HG HAP hlen hsz
        go_wp2_with fail
        go_loopg [21] s.size (fun m v wq=>∃k:Nat,v = .int .i64 (k:Int)∧k≤s.size∧s.size≤k+m∧Hid (∀j (h:j<s.size),j<k→jq j s[j].toNat)∧wq=w)
        case atStart=>exact ⟨0,rfl,Nat.zero_le _,by omega,Lib.hid (fun j _ h=>absurd h (by omega)),rfl⟩
        case round =>
          obtain ⟨k,rfl,hk,hkm,hall,rfl⟩:=hrel
          by_cases hlt:k<s.size
          · have hbad:=Lib.hid (HBad.out k hlt)
            have hnext:Hid (jq k s[k].toNat→∀j (h:j<s.size),j<k+1→jq j s[j].toNat):=Lib.hid fun hk1 j hj h=>by
              by_cases e:j=k
              · subst e;exact hk1
              · exact hall.out j hj (by omega)
            have hN:jq k s[k].toNat∨¬jq k s[k].toNat:=Classical.em _
            have hcl:(97≤(s[k].toNat:Int)∧(s[k].toNat:Int)≤122)∨(s[k].toNat:Int)<97∨122<(s[k].toNat:Int):=by omega
            have hco:(48≤(s[k].toNat:Int)∧(s[k].toNat:Int)≤57)∨(s[k].toNat:Int)=95∨(s[k].toNat:Int)=45∨((s[k].toNat:Int)<48∧¬(s[k].toNat:Int)=45)∨(57<(s[k].toNat:Int)∧¬(s[k].toNat:Int)=95):=by omega
            rcases hN with hN|hN
            · have hn:=Lib.hid (hnext.out hN)
              unfold jq at hN
              clear hbad hnext HBad HGood
              rcases hcl with ⟨ha,hb⟩|hcl
              · clear hco hN
                go_wp2_with fail
                all_goals
                  go_roundg (gk-1)
                  case measure=>omega
                  case rel=>exact ⟨k+1,by go_num,by omega,by omega,hn,rfl⟩
              · have hk0:0<k:=by omega
                have hco2:(48≤(s[k].toNat:Int)∧(s[k].toNat:Int)≤57)∨(s[k].toNat:Int)=95∨(s[k].toNat:Int)=45:=by omega
                clear hN hco
                rcases hcl with ha|ha
                all_goals rcases hco2 with ⟨hb,hc⟩|hb|hb
                all_goals first
                  | (exfalso;omega)
                  | (go_wp2_with fail
                     go_roundg (gk-1)
                     case measure=>omega
                     case rel=>exact ⟨k+1,by go_num,by omega,by omega,hn,rfl⟩)
            · have hb0:=Lib.hid (hbad.out hN)
              clear hbad hnext HBad HGood
              have hcl2:(s[k].toNat:Int)<97∨122<(s[k].toNat:Int):=by unfold jq at hN;omega
              have hk1:k=0∨(0<k∧(((s[k].toNat:Int)<48∧¬(s[k].toNat:Int)=45)∨(57<(s[k].toNat:Int)∧¬(s[k].toNat:Int)=95))):=by unfold jq at hN;omega
              clear hN hcl hco
              rcases hk1 with rfl|⟨hk0,hco⟩
              · rcases hcl2 with ha|ha
                all_goals
                  go_wp2_with fail
                  all_goals first
                    | (go_ret
                       exact ⟨aN hb0.out,rfl⟩)
                    | (exfalso
                       have d1:decide ((s[0].toNat:Int)≤122)=false:=decide_eq_false (by omega)
                       simp_all)
              · rcases hcl2 with ha|ha
                all_goals rcases hco with ⟨hb,hc⟩|⟨hb,hc⟩
                all_goals first
                  | (exfalso;omega)
                  | (have e1:((s[k].toNat:Int) == 95)=false:=beq_eq_false_iff_ne.2 (by omega)
                     have e2:((s[k].toNat:Int) == 45)=false:=beq_eq_false_iff_ne.2 (by omega)
                     try have e3:decide ((s[k].toNat:Int)≤57)=false:=decide_eq_false (by omega)
                     try have e4:decide ((s[k].toNat:Int)≤122)=false:=decide_eq_false (by omega)
                     go_wp2_with fail
                     all_goals
                       go_ret
                       exact ⟨aN hb0.out,rfl⟩)
          · go_wp2
            go_ret
            exact ⟨aN (HGood.out fun j hj=>hall.out j hj (by omega)),rfl⟩
structure Rs where
 name:ByteArray
 kind:Int
 units:Int
 home:Int
deriving Inhabited
abbrev Ct:=List Rs
def Rs.key (r:Rs):Bs:=r.name.toList
def Rs.cells (r:Rs):List Value:=[.string r.name,.int .i64 r.kind,.int .i64 r.units,.int .i64 r.home]
def Rs.val (r:Rs):Value:=.agg #[.string r.name,.int .i64 r.kind,.int .i64 r.units,.int .i64 r.home]
def de:El Rs:=El.plain 4 (by decide) Rs.cells (fun _=>rfl) (by intro x u hu;simp [Rs.cells] at hu;rcases hu with rfl|rfl|rfl|rfl <;> rfl)
def Rs.Fit (r:Rs):Prop:=r.name.size≤maxLen∧D8 r.kind∧D8 r.units∧D8 r.home
theorem toList_inj {a b:ByteArray} (h:a.toList=b.toList):a=b:=by
 rw [ByteArray.toList_eq,ByteArray.toList_eq] at h
 have h2:a.data=b.data:=Array.toList_inj.1 h
 cases a
 cases b
 simpa using h2
def a7 (r:Rs):Bool:=(decide (r.kind=1) && decide (r.units=1)) || (decide (r.kind=2) && decide (1≤r.units) && decide (r.units≤8))
def jr (r:Rs):Bool:=co r.key && a7 r && decide (0≤r.home) && decide (r.home<4)
def Sorted (l:Ct):Prop:=∀i (h:i+1<l.length),l[i].key<l[i+1].key
def VCat (l:Ct):Prop:=l.length≤8∧(∀i (h:i<l.length),jr l[i]=true)∧Sorted l
theorem VCat.nil:VCat []:=⟨by simp,fun i h=>absurd h (by simp),fun i h=>absurd h (by simp)⟩
theorem Sorted.lt {l:Ct} (h:Sorted l):∀j i (hj:j<l.length) (hi:i<j),l[i].key<l[j].key:=by
 intro j
 induction j with
 | zero=>intro i _ hi;omega
 | succ j ih =>
  intro i hj hi
  have h1:=h j hj
  by_cases e:i=j
  ·subst e;exact h1
  ·exact List.lt_trans (ih i (by omega) (by omega)) h1
theorem Sorted.inj {l:Ct} (h:Sorted l) {i j:Nat} (hi:i<l.length) (hj:j<l.length) (e:l[i].key=l[j].key):i=j:=by
 rcases Nat.lt_trichotomy i j with hlt|he|hgt
 ·exact absurd (h.lt j i hj hlt) (by rw [e];exact List.lt_irrefl _)
 ·exact he
 ·exact absurd (h.lt i j hi hgt) (by rw [e];exact List.lt_irrefl _)
theorem uZ (r:Rs) (w:World):Calls prog 138 #[r.val] w (lC w (.bool (a7 r))):=by
 obtain ⟨nm,k,u,h⟩:=r
 unfold Rs.val a7
 go_enter func138,ntmps138
 go_wp2
 all_goals go_ret
 all_goals refine ⟨aN ?_,(Below.refl _ _).alloc (Nat.le_refl _) _⟩
 all_goals (first|rfl|(simp_all;done)|(simp_all;omega)|(rw [Bool.eq_iff_iff];simp_all;done)|(rw [Bool.eq_iff_iff];simp_all;omega))
theorem iN (r:Rs) (w:World):Calls prog 114 #[r.val] w (lC w (.bool (a7 r))):=by
 obtain ⟨nm,k,u,h⟩:=r
 unfold Rs.val a7
 go_enter func114,ntmps114
 go_wp2
 all_goals go_ret
 all_goals refine ⟨aN ?_,(Below.refl _ _).alloc (Nat.le_refl _) _⟩
 all_goals (first|rfl|(simp_all;done)|(simp_all;omega)|(rw [Bool.eq_iff_iff];simp_all;done)|(rw [Bool.eq_iff_iff];simp_all;omega))
theorem tk (r:Rs) (w:World):Calls prog 97 #[r.val] w (lC w (.bool (jr r))):=by
 have HS:=Lib.hid (fun w=>iN r w)
 have HN:=Lib.hid (fun w=>g5 r.name w)
 unfold jr Rs.key
 obtain ⟨b1,hb1⟩:∃b,co r.name.toList=b:=⟨_,rfl⟩
 obtain ⟨b2,hb2⟩:∃b,a7 r=b:=⟨_,rfl⟩
 rw [hb1] at HN ⊢
 rw [hb2] at HS ⊢
 clear hb1 hb2
 obtain ⟨nm,k,u,h⟩:=r
 unfold Rs.val at HS ⊢
 go_enter func97,ntmps97
 go_wp2_with fail
 refine (HN.out _).mono ?_
 rintro e w' ⟨rfl,hw'⟩
 obtain rfl:=hw'.symm
 cases b1 with
 | false =>
  go_wp2
  go_ret
  exact ⟨aN (by simp),(Below.refl _ _).alloc (Nat.le_refl _) _⟩
 | true =>
  go_wp2_with fail
  refine (HS.out _).mono ?_
  rintro e w' ⟨rfl,hb⟩
  have hbb:=((Below.refl w.heap.size w).alloc (Nat.le_refl _) _).trans (hb.mono (by simp))
  obtain ⟨hc,hz⟩:(∀b o,b<w.heap.size+1→w'.cell? ⟨b,o,none⟩=(w.alloc (.cells #[.string nm,.int .i64 k,.int .i64 u,.int .i64 h] 55)).cell? ⟨b,o,none⟩)∧w.heap.size+1≤w'.heap.size :=
   ⟨fun b o hlt=>hb.cell (p:=⟨b,o,none⟩) (by simpa using hlt),by simpa using hb.size⟩
  clear hb
  go_wp2
  all_goals go_ret
  all_goals refine ⟨aN ?_,hbb⟩
  all_goals (clear hbb hc hz HS HN)
  all_goals (first|rfl|(simp_all;done)|(simp_all;omega)|(rw [Bool.eq_iff_iff];simp_all;done)|(rw [Bool.eq_iff_iff];simp_all;omega))
theorem ra (r:Rs) (w:World):Calls prog 98 #[r.val] w (lC w (.bool (jr r))):=by
 have HS:=Lib.hid (fun w=>uZ r w)
 have HN:=Lib.hid (fun w=>jp r.name w)
 unfold jr Rs.key
 obtain ⟨b1,hb1⟩:∃b,co r.name.toList=b:=⟨_,rfl⟩
 obtain ⟨b2,hb2⟩:∃b,a7 r=b:=⟨_,rfl⟩
 rw [hb1] at HN ⊢
 rw [hb2] at HS ⊢
 clear hb1 hb2
 obtain ⟨nm,k,u,h⟩:=r
 unfold Rs.val at HS ⊢
 go_enter func98,ntmps98
 go_wp2_with fail
 refine (HN.out _).mono ?_
 rintro e w' ⟨rfl,hw'⟩
 obtain rfl:=hw'.symm
 cases b1 with
 | false =>
  go_wp2
  go_ret
  exact ⟨aN (by simp),(Below.refl _ _).alloc (Nat.le_refl _) _⟩
 | true =>
  go_wp2_with fail
  refine (HS.out _).mono ?_
  rintro e w' ⟨rfl,hb⟩
  have hbb:=((Below.refl w.heap.size w).alloc (Nat.le_refl _) _).trans (hb.mono (by simp))
  obtain ⟨hc,hz⟩:(∀b o,b<w.heap.size+1→w'.cell? ⟨b,o,none⟩=(w.alloc (.cells #[.string nm,.int .i64 k,.int .i64 u,.int .i64 h] 55)).cell? ⟨b,o,none⟩)∧w.heap.size+1≤w'.heap.size :=
   ⟨fun b o hlt=>hb.cell (p:=⟨b,o,none⟩) (by simpa using hlt),by simpa using hb.size⟩
  clear hb
  go_wp2
  all_goals go_ret
  all_goals refine ⟨aN ?_,hbb⟩
  all_goals (clear hbb hc hz HS HN)
  all_goals (first|rfl|(simp_all;done)|(simp_all;omega)|(rw [Bool.eq_iff_iff];simp_all;done)|(rw [Bool.eq_iff_iff];simp_all;omega))
structure Pr where
 site:Int
 inc:Int
 num:Int
 deriving DecidableEq
structure St where
 time:Int
 site:Int
 deriving DecidableEq
def js (p:Pr):Bool:=decide (0≤p.site) && decide (p.site≤3) && (decide (1≤p.inc) && decide (p.inc≤99)) && (decide (1≤p.num) && decide (p.num≤999))
def l9 (a b:Int):Int:=if a<b then -1 else if b<a then 1 else 0
def bt (p q:Pr):Int:=if l9 p.site q.site≠0 then l9 p.site q.site else if l9 p.inc q.inc≠0 then l9 p.inc q.inc else l9 p.num q.num
def It:Pr:=⟨0,0,0⟩
def aQ (n:Int):Int:=if n<0∨1073741824≤n then 1 else n+1
theorem lD (a b:Int):(a<b∧l9 a b = -1)∨(a=b∧l9 a b=0)∨(b<a∧l9 a b=1):=by
 unfold l9
 split
 ·exact Or.inl ⟨by assumption,rfl⟩
 ·split
  ·exact Or.inr (Or.inr ⟨by assumption,rfl⟩)
  ·exact Or.inr (Or.inl ⟨by omega,rfl⟩)
def fq (p q:Pr):Prop:=p.site<q.site∨p.site=q.site∧(p.inc<q.inc∨p.inc=q.inc∧p.num<q.num)
theorem cM (p q:Pr):(fq p q∧bt p q = -1)∨(p=q∧bt p q=0)∨(fq q p∧bt p q=1):=by
 unfold bt fq
 rcases lD p.site q.site with ⟨h,e⟩|⟨h,e⟩|⟨h,e⟩ <;> rw [e]
 ·exact Or.inl ⟨Or.inl h,rfl⟩
 ·rw [if_neg (by decide)]
  rcases lD p.inc q.inc with ⟨h2,e⟩|⟨h2,e⟩|⟨h2,e⟩ <;> rw [e]
  ·exact Or.inl ⟨Or.inr ⟨h,Or.inl h2⟩,rfl⟩
  ·rw [if_neg (by decide)]
   rcases lD p.num q.num with ⟨h3,e⟩|⟨h3,e⟩|⟨h3,e⟩ <;> rw [e]
   ·exact Or.inl ⟨Or.inr ⟨h,Or.inr ⟨h2,h3⟩⟩,rfl⟩
   ·refine Or.inr (Or.inl ⟨?_,rfl⟩)
    cases p;cases q
    simp_all
   ·exact Or.inr (Or.inr ⟨Or.inr ⟨h.symm,Or.inr ⟨h2.symm,h3⟩⟩,rfl⟩)
  ·exact Or.inr (Or.inr ⟨Or.inr ⟨h.symm,Or.inl h2⟩,rfl⟩)
 ·exact Or.inr (Or.inr ⟨Or.inl h,rfl⟩)
theorem bp (p:Pr):¬fq p p:=by
 unfold fq
 omega
theorem cq {p q r:Pr} (h1:fq p q) (h2:fq q r):fq p r:=by
 unfold fq at *
 omega
theorem jZ {p q:Pr} (h1:fq p q):¬fq q p:=fun h2=>bp p (cq h1 h2)
theorem j5 (p q:Pr):bt p q=0↔p=q:=by
 rcases cM p q with ⟨h,e⟩|⟨h,e⟩|⟨h,e⟩ <;> rw [e]
 ·exact ⟨fun c=>absurd c (by decide),fun c=>absurd h (by rw [c];exact bp _)⟩
 ·exact ⟨fun _=>h,fun _=>rfl⟩
 ·exact ⟨fun c=>absurd c (by decide),fun c=>absurd h (by rw [c];exact bp _)⟩
def Pr.val (p:Pr):Value:=.agg #[.int .i64 p.site,.int .i64 p.inc,.int .i64 p.num]
def St.val (s:St):Value:=.agg #[.int .i64 s.time,.int .i64 s.site]
theorem va (n a b:Int) (w:World):Calls prog 107 #[.int .i64 n,.int .i64 a,.int .i64 b] w (uW w (.bool (decide (a≤n) && decide (n≤b)))):=by
 go_enter func107,ntmps107
 go_wp2
 all_goals go_ret
 all_goals refine ⟨aN ?_,rfl⟩
 all_goals (first|rfl|(simp_all;done)|(simp_all;omega)|(rw [Bool.eq_iff_iff];simp_all;done)|(rw [Bool.eq_iff_iff];simp_all;omega))
theorem m7 (a b:Int) (w:World):Calls prog 77 #[.int .i64 a,.int .i64 b] w (uW w (.int .i64 (l9 a b))):=by
 unfold l9
 go_enter func77,ntmps77
 go_wp2
 all_goals go_ret
 all_goals refine ⟨jY ?_,rfl⟩
 all_goals first|(simp_all;done)|(repeat (first|rw [if_pos (by omega)]|rw [if_neg (by omega)]))
theorem xc (p:Pr) (w:World):Calls prog 62 #[p.val] w (lC w (.bool (js p))):=by
 obtain ⟨a,b,c⟩:=p
 unfold js Pr.val
 go_enter func62,ntmps62
 go_wp2
 all_goals go_ret
 all_goals refine ⟨aN ?_,(Below.refl _ _).alloc (Nat.le_refl _) _⟩
 all_goals (first|rfl|(simp_all;done)|(simp_all;omega)|(rw [Bool.eq_iff_iff];simp_all;done)|(rw [Bool.eq_iff_iff];simp_all;omega))
theorem zJ (p:Pr) (w:World):Calls prog 48 #[p.val] w (lC w (.bool (js p))):=by
 have H1:=Lib.hid (fun n a b w=>va n a b w)
 obtain ⟨a,b,c⟩:=p
 unfold js Pr.val
 go_enter func48,ntmps48
 go_wp2_with (first|(refine (H1.out _ _ _ _).mono ?_;rintro e w' ⟨rfl,rfl⟩)|fail)
 all_goals go_ret
 all_goals refine ⟨aN ?_,(Below.refl _ _).alloc (Nat.le_refl _) _⟩
 all_goals (first|rfl|(simp_all;done)|(simp_all;omega)|(rw [Bool.eq_iff_iff];simp_all;done)|(rw [Bool.eq_iff_iff];simp_all;omega))
section
variable {α:Type} {E:El α} {w w':World} {l:List α} {v:Value} {base:Nat} {e:TypeId}
theorem OwnRows.addr (h:OwnRows E e w base v l) (h0:0<l.length) :
  ∃g cap,v = .slice (some ⟨g,0,none⟩) l.length cap∧base≤g∧g<w.heap.size∧l.length≤cap∧cap≤maxLen∧(∀j,w.frozen? ⟨g,j,none⟩=false)∧RowsAt E w (Lo w.heap.size) (some ⟨g,0,none⟩) l:=by
 obtain ⟨A,cap,hA,hr,hc,hm⟩:=h.form
 have h2:=h
 obtain ⟨_,xs,h1,_⟩:=h2
 rcases h1.2 with ⟨hv,hn⟩|⟨g,cap',cur,hv,hg,hh,hnc,hcm,hcs,ht⟩
 ·omega
 ·rw [hv] at hA
  injection hA with e1 e2 e3
  subst e1
  subst e3
  exact ⟨g,cap',hv,hg,(Array.getElem?_eq_some_iff.1 hh).1,hc,hm,fun j=>frozen_of_row w g j cur e hh,hr⟩
theorem OwnRows.form2 (h:OwnRows E e w base v l) :
  ∃A cap,v = .slice A l.length cap∧(A=none→l.length=0∧cap=0)∧RowsAt E w (Lo w.heap.size) A l∧l.length≤cap∧cap≤maxLen:=by
 obtain ⟨A,cap,hA,hr,hc,hm⟩:=h.form
 refine ⟨A,cap,hA,fun hn=>?_,hr,hc,hm⟩
 subst hn
 obtain ⟨_,xs,h1,_⟩:=h
 rcases h1.2 with ⟨hv,hn⟩|⟨g,cap',cur,hv,_⟩
 ·rw [hv] at hA
  injection hA with _ e2 e3
  exact ⟨e2.symm,e3.symm⟩
 ·rw [hv] at hA
  injection hA with e1
  cases e1
end
theorem Below.al {a w:World} (h:Below a.heap.size a w) (o:Obj):Below a.heap.size a (w.alloc o):=h.alloc h.size o
theorem Below.tr {a b c:World} (h:Below a.heap.size a b) (k:Below b.heap.size b c):Below a.heap.size a c:=h.trans (k.mono h.size)
theorem Below.st {a w:World} {p:Addr} {u:Value} (h:Below a.heap.size a w) (hp:a.heap.size≤p.block):Below a.heap.size a (w.setCell p u):=h.setCell hp u
theorem gy {W w1:World} (hb:Below W.heap.size W w1):(∀b o,b<W.heap.size→w1.cell? ⟨b,o,none⟩=W.cell? ⟨b,o,none⟩)∧(∀b o,b<W.heap.size→w1.frozen? ⟨b,o,none⟩=W.frozen? ⟨b,o,none⟩) :=
 ⟨fun b o h=>hb.cell (p:=⟨b,o,none⟩) h,fun b o h=>hb.frozen (p:=⟨b,o,none⟩) h⟩
def Pr.cells (p:Pr):List Value:=[.int .i64 p.site,.int .i64 p.inc,.int .i64 p.num]
def St.cells (p:St):List Value:=[.int .i64 p.time,.int .i64 p.site]
def Pr.Fit (p:Pr):Prop:=D8 p.site∧D8 p.inc∧D8 p.num
def St.Fit (p:St):Prop:=D8 p.time∧D8 p.site
def eY:El Pr:=El.plain 3 (by decide) Pr.cells (fun _=>rfl) (by intro x u hu;simp [Pr.cells] at hu;rcases hu with rfl|rfl|rfl <;> rfl)
theorem jt {w:World} {S:Nat→Prop} {A:Option Addr} {l:List Pr} {i:Nat} {a b c:Int} (h:RowsAt eY w S A l) (hi:i<l.length) (hx:l[i]=⟨a,b,c⟩) :
  ∃k off,A=some ⟨k,off,none⟩∧S k∧w.cell? ⟨k,off+i*3,none⟩=some (.int .i64 a)∧w.cell? ⟨k,off+i*3+1,none⟩=some (.int .i64 b)∧w.cell? ⟨k,off+i*3+2,none⟩=some (.int .i64 c):=by
 obtain ⟨k,off,cs,hA,hS,hc,hd⟩:=h.getx hi hx
 have hc':cs=[.int .i64 a,.int .i64 b,.int .i64 c]:=hc
 subst hc'
 exact ⟨k,off,hA,hS,hd 0 (show 0<3 by decide),hd 1 (show 1<3 by decide),hd 2 (show 2<3 by decide)⟩
theorem Jx:ElTB prog eY 75 35 24:=ElTB.mk' underlying75 (.agg #[.int .i64 0,.int .i64 0,.int .i64 0]) 3 24 (by kernel_rfl) rfl rfl
theorem D9 (a b:Pr) (w:World):(Op.equalIn 10000 35 a.val b.val).run prog w = .ok (decide (a=b)) w:=by
 have hS:prog.underlying 35=some (.struct (prog.fieldsOf 35)):=by kernel_rfl
 have hp:prog.stoodInHeld 35=false:=by kernel_rfl
 unfold Pr.val
 rw [show (10000:Nat)=9999+1 from rfl,run_equalIn_agg w 9999 35 _ _ hS hp]
 have u3:=underlying3
 simp only [Program.fieldsOf,underlying35]
 go_simp
 obtain ⟨a1,a2,a3⟩:=a
 obtain ⟨b1,b2,b3⟩:=b
 by_cases h1:a1=b1 <;> by_cases h2:a2=b2 <;> by_cases h3:a3=b3 <;> simp [h1,h2,h3]
structure Cmps (t:TypeId) (x y:Array Value) (r:Bool):Prop where
 neq:∀w,(binOp .neq t (.agg x) (.agg y)).run prog w = .ok (.bool (!r)) w
 eql:∀w,(binOp .eql t (.agg x) (.agg y)).run prog w = .ok (.bool r) w
 guard:∀(op:BinOp) (a b:Operand) (xs ys:Array Value) w,(eqGuard op t a b (.agg xs) (.agg ys)).run prog w = .ok () w
theorem Cmps.mk' {t:TypeId} {x y:Array Value} {r:Bool} (h:∀w,(Op.equalIn 10000 t (.agg x) (.agg y)).run prog w = .ok r w) (hg:∀(op:BinOp) (a b:Operand) (xs ys:Array Value) w,(eqGuard op t a b (.agg xs) (.agg ys)).run prog w = .ok () w):Cmps t x y r where
 neq:=fun w=>(run_neq_struct (P:=prog) w t x y).trans (by rw [h w];rfl)
 eql:=fun w=>(run_eql_struct (P:=prog) w t x y).trans (by rw [h w];rfl)
 guard:=hg
theorem F4 (a b c x y z:Int):Cmps 35 #[.int .i64 a,.int .i64 b,.int .i64 c] #[.int .i64 x,.int .i64 y,.int .i64 z] (decide ((⟨a,b,c⟩:Pr)=⟨x,y,z⟩)):=Cmps.mk' (D9 ⟨a,b,c⟩ ⟨x,y,z⟩) (fun op a b xs ys w=>run_eqGuard_agg w op 35 a b xs ys (by kernel_rfl))
structure Am where
 mode:Int
 units:Int
deriving DecidableEq
def Am.cells (a:Am):List Value:=[.int .i64 a.mode,.int .i64 a.units]
def Am.val (a:Am):Value:=.agg #[.int .i64 a.mode,.int .i64 a.units]
def Am.zero:Am:=⟨0,0⟩
structure Tm where
 name:ByteArray
 am:Am
deriving DecidableEq
def Tm.cells (a:Tm):List Value:=[.string a.name,.int .i64 a.am.mode,.int .i64 a.am.units]
def Tm.val (a:Tm):Value:=.agg #[.string a.name,.int .i64 a.am.mode,.int .i64 a.am.units]
structure Ho where
 proc:Pr
 am:Am
deriving DecidableEq
def Ho.cells (a:Ho):List Value:=[.int .i64 a.proc.site,.int .i64 a.proc.inc,.int .i64 a.proc.num,.int .i64 a.am.mode,.int .i64 a.am.units]
def Ho.val (a:Ho):Value:=.agg #[.int .i64 a.proc.site,.int .i64 a.proc.inc,.int .i64 a.proc.num,.int .i64 a.am.mode,.int .i64 a.am.units]
structure Wt where
 proc:Pr
 am:Am
 prio:Int
 passed:Int
deriving DecidableEq
def Wt.cells (a:Wt):List Value:=[.int .i64 a.proc.site,.int .i64 a.proc.inc,.int .i64 a.proc.num,.int .i64 a.am.mode,.int .i64 a.am.units,.int .i64 a.prio,.int .i64 a.passed]
def Wt.val (a:Wt):Value:=.agg #[.int .i64 a.proc.site,.int .i64 a.proc.inc,.int .i64 a.proc.num,.int .i64 a.am.mode,.int .i64 a.am.units,.int .i64 a.prio,.int .i64 a.passed]
def zK:El Am:=El.plain 2 (by decide) Am.cells (fun _=>rfl) (by intro x u hu;simp [Am.cells] at hu;rcases hu with rfl|rfl <;> rfl)
def bV:El Tm:=El.plain 3 (by decide) Tm.cells (fun _=>rfl) (by intro x u hu;simp [Tm.cells] at hu;rcases hu with rfl|rfl|rfl <;> rfl)
def ga:El Ho:=El.plain 5 (by decide) Ho.cells (fun _=>rfl) (by intro x u hu;simp [Ho.cells] at hu;rcases hu with rfl|rfl|rfl|rfl|rfl <;> rfl)
def eZ:El Wt:=El.plain 7 (by decide) Wt.cells (fun _=>rfl) (by intro x u hu;simp [Wt.cells] at hu;rcases hu with rfl|rfl|rfl|rfl|rfl|rfl|rfl <;> rfl)
section
variable {w:World} {S:Nat→Prop} {A:Option Addr} {i:Nat}
theorem Bp {l:List Am} {m u:Int} (h:RowsAt zK w S A l) (hi:i<l.length) (hx:l[i]=⟨m,u⟩) :
  ∃k off,A=some ⟨k,off,none⟩∧S k∧w.cell? ⟨k,off+i*2,none⟩=some (.int .i64 m)∧w.cell? ⟨k,off+i*2+1,none⟩=some (.int .i64 u):=by
 obtain ⟨k,off,cs,hA,hS,hc,hd⟩:=h.getx hi hx
 obtain rfl:cs=[.int .i64 m,.int .i64 u]:=hc
 exact ⟨k,off,hA,hS,hd 0 (show 0<2 by decide),hd 1 (show 1<2 by decide)⟩
theorem vb {l:List Tm} {n:ByteArray} {m u:Int} (h:RowsAt bV w S A l) (hi:i<l.length) (hx:l[i]=⟨n,⟨m,u⟩⟩) :
  ∃k off,A=some ⟨k,off,none⟩∧S k∧w.cell? ⟨k,off+i*3,none⟩=some (.string n)∧w.cell? ⟨k,off+i*3+1,none⟩=some (.int .i64 m)∧w.cell? ⟨k,off+i*3+2,none⟩=some (.int .i64 u):=by
 obtain ⟨k,off,cs,hA,hS,hc,hd⟩:=h.getx hi hx
 obtain rfl:cs=[.string n,.int .i64 m,.int .i64 u]:=hc
 exact ⟨k,off,hA,hS,hd 0 (show 0<3 by decide),hd 1 (show 1<3 by decide),hd 2 (show 2<3 by decide)⟩
end
theorem Gw:ElTB prog bV 103 39 32:=ElTB.mk' underlying103 (.agg #[.string { data:=#[] },.int .i64 0,.int .i64 0]) 3 32 (by kernel_rfl) rfl rfl
theorem Jy:ElTB prog ga 78 197 40:=ElTB.mk' underlying78 (.agg #[.int .i64 0,.int .i64 0,.int .i64 0,.int .i64 0,.int .i64 0]) 5 40 (by kernel_rfl) rfl rfl
theorem Gx:ElTB prog eZ 79 171 56:=ElTB.mk' underlying79 (.agg #[.int .i64 0,.int .i64 0,.int .i64 0,.int .i64 0,.int .i64 0,.int .i64 0,.int .i64 0]) 7 56 (by kernel_rfl) rfl rfl
theorem Ea (a b:Am) (w:World):(Op.equalIn 10000 37 a.val b.val).run prog w = .ok (decide (a=b)) w:=by
 have hS:prog.underlying 37=some (.struct (prog.fieldsOf 37)):=by kernel_rfl
 have hp:prog.stoodInHeld 37=false:=by kernel_rfl
 unfold Am.val
 rw [show (10000:Nat)=9999+1 from rfl,run_equalIn_agg w 9999 37 _ _ hS hp]
 have u3:=underlying3
 simp only [Program.fieldsOf,underlying37]
 go_simp
 obtain ⟨a1,a2⟩:=a
 obtain ⟨b1,b2⟩:=b
 by_cases h1:a1=b1 <;> by_cases h2:a2=b2 <;> simp [h1,h2]
theorem Iu (a b x y:Int):Cmps 37 #[.int .i64 a,.int .i64 b] #[.int .i64 x,.int .i64 y] (decide ((⟨a,b⟩:Am)=⟨x,y⟩)):=Cmps.mk' (Ea ⟨a,b⟩ ⟨x,y⟩) (fun op a b xs ys w=>run_eqGuard_agg w op 37 a b xs ys (by kernel_rfl))
end Go.Proofs.YtjndcdcbjidocaaGreatDoor
