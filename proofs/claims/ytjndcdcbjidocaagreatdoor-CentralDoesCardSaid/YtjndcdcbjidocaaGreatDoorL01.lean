/- Part 1 of 33 of the proof of centralDoes_holds (no condition). -/
import Derived.Test.YtjndcdcbjidocaaGreatDoorProg
import Derived.Test.YtjndcdcbjidocaaGreatDoorRows
import Derived.Test.YtjndcdcbjidocaaGreatDoorCards
import Derived.Test.YtjndcdcbjidocaaGreatDoorTie
import Derived.WalkKit
import Derived.Lib.Hide
import Derived.WalkLawsBesides
import Derived.WalkSpells
import Derived.Deep.QuietTactic
import Derived.BigQuiet
import Derived.Deep.LoopGhost
import Derived.Maps.AppendAt
import Derived.Deep.Slices
import Derived.Deep.Fields
import Derived.ChangeSame
import Derived.OpenShut
import Derived.Laws.OwnMore
import Derived.StillTail
import Derived.Sort.Walk0
import Derived.Lib.AtoiAll
import Derived.Lib.ItoaNum
import Derived.Lib.Split
import Derived.Laws.StructEq
import Derived.Laws.ResultCell
import Derived.Laws.NewBlocks
import Derived.HandedShaped
import Derived.ProofKit
import Derived.Lib.SmallJoins
import Derived.Lib.LaidTab
import Derived.Shelf.Vars
import Derived.LaidMore
import Derived.Lay
import Derived.LaidSub
import Derived.MakeChecks
import Derived.Stop.Joined
import Derived.SevenTiedAt
import Derived.SizedLaws
import Derived.Carry
set_option linter.unusedVariables false
set_option linter.unusedSimpArgs false
set_option maxRecDepth 100000
set_option maxHeartbeats 64000000
namespace Go.Proofs.YtjndcdcbjidocaaGreatDoor
open Go.RowKit Go.Proofs.Tryz
abbrev Bs:=List UInt8
def G4 (s:Bs):Bool:=s == [97,108,108] || s == [97,110,121] || s == [111,102] || s == [112,114,105,111] || s == [108,105,109,105,116]
theorem sA (s:ByteArray) (w:World):Calls prog 204 #[.string s] w fun e w'=>e = .returned (.bool (G4 s.toList))∧w'=w:=by
 go_enter func204,ntmps204
 go_wp2
 all_goals go_ret
 all_goals exact ⟨by simp_all [G4],rfl⟩
theorem uq (s:ByteArray) (w:World):Calls prog 186 #[.string s] w fun e w'=>e = .returned (.bool (G4 s.toList))∧w'=w:=by
 go_enter func186,ntmps186
 go_wp2
 all_goals go_ret
 all_goals exact ⟨by simp_all [G4],rfl⟩
def fh (c:UInt8):Bool:=decide ((97:Int)≤c.toNat) && decide ((c.toNat:Int)≤122)
def iR (c:UInt8):Bool:=fh c || decide ((48:Int)≤c.toNat) && decide ((c.toNat:Int)≤57) || decide ((c.toNat:Int)=95) || decide ((c.toNat:Int)=45)
theorem qg (c:UInt8) (w:World):Calls prog 203 #[.int .u8 c.toNat] w fun e w'=>e = .returned (.bool (fh c))∧w'=w:=by
 unfold fh;generalize (c.toNat:Int)=n
 go_enter func203,ntmps203
 go_wp2
 all_goals go_ret
 all_goals exact ⟨by simp_all <;> omega,rfl⟩
theorem Cb (c:UInt8) (w:World):Calls prog 205 #[.int .u8 c.toNat] w fun e w'=>e = .returned (.bool (iR c))∧w'=w:=by
 have HL:=Lib.hid (qg c w);obtain ⟨b,hb⟩:∃b,fh c=b:=⟨_,rfl⟩;have HB:=Lib.hid hb;have hp:iR c=(b || decide ((48:Int)≤c.toNat) && decide ((c.toNat:Int)≤57) || decide ((c.toNat:Int)=95) || decide ((c.toNat:Int)=45)):=by
  unfold iR;rw [hb]
 rw [hb] at HL;rw [hp];clear hp hb HB;generalize (c.toNat:Int)=n at *
 go_enter func205,ntmps205
 go_wp2_with fail
 refine HL.out.mono ?_;rintro e w' ⟨rfl,rfl⟩;cases b <;> go_wp2
 all_goals go_ret
 all_goals refine ⟨congrArg (fun b=>Ending.returned (.bool b)) (?_:(_:Bool)=_),rfl⟩
 all_goals first|rfl|(rw [Bool.eq_iff_iff];done)|(rw [Bool.eq_iff_iff];simp;done)|(rw [Bool.eq_iff_iff];simp;omega)
section
open Go.WideShapes Go.ChangeShapes Go.Deep
structure El (α:Type) where
 n:Nat
 pos:0<n
 rep:World→(Nat→Prop)→α→List Value→Prop
 len:∀{w:World} {S:Nat→Prop} {x:α} {cs:List Value},rep w S x cs→cs.length=n
 one:∀{w:World} {S:Nat→Prop} {x:α} {cs:List Value},rep w S x cs→∀u∈cs,u.oneCell'=true
 same:∀{w w':World} {S S':Nat→Prop} {x:α} {cs:List Value},rep w S x cs→(∀b,S b→w'.heap[b]? = w.heap[b]?)→(∀b,S b→S' b)→rep w' S' x cs
section
variable {α:Type} {E:El α} {w w':World} {S S':Nat→Prop} {A:Option Addr} {l l':List α} {xs ys:List Value} {v:Value} {base B:Nat} {e:TypeId}
def Reps (E:El α) (w:World) (S:Nat→Prop):List α→List Value→Prop
 | [],xs=>xs=[]
 | x :: l,xs=>∃cs rest,xs=cs++rest∧E.rep w S x cs∧Reps E w S l rest
theorem Reps.length:∀{l:List α} {xs:List Value},Reps E w S l xs→xs.length=l.length*E.n
 | [],xs,h=>by rw [show xs=[] from h];simp
 | x :: l,xs,h=>by
  obtain ⟨cs,rest,rfl,h1,h2⟩:=h;rw [List.length_append,E.len h1,Reps.length h2,List.length_cons,Nat.add_mul,Nat.one_mul,Nat.add_comm]
theorem Reps.one:∀{l:List α} {xs:List Value},Reps E w S l xs→∀u∈xs,u.oneCell'=true
 | [],xs,h=>by rw [show xs=[] from h];simp
 | x :: l,xs,h=>by
  obtain ⟨cs,rest,rfl,h1,h2⟩:=h;intro u hu;rcases List.mem_append.1 hu with hu|hu
  ·exact E.one h1 u hu
  ·exact Reps.one h2 u hu
theorem Reps.same:∀{l:List α} {xs:List Value},Reps E w S l xs→(∀b,S b→w'.heap[b]? = w.heap[b]?)→(∀b,S b→S' b)→Reps E w' S' l xs
 | [],xs,h,_,_=>h
 | x :: l,xs,h,hk,hS=>by
  obtain ⟨cs,rest,rfl,h1,h2⟩:=h;exact ⟨cs,rest,rfl,E.same h1 hk hS,Reps.same h2 hk hS⟩
theorem Reps.append:∀{l l':List α} {xs ys:List Value},Reps E w S l xs→Reps E w S l' ys→Reps E w S (l++l') (xs++ys)
 | [],l',xs,ys,h,k=>by rw [show xs=[] from h];exact k
 | x :: l,l',xs,ys,h,k=>by
  obtain ⟨cs,rest,rfl,h1,h2⟩:=h;exact ⟨cs,rest++ys,by simp,h1,Reps.append h2 k⟩
theorem Reps.single {x:α} {cs:List Value} (h:E.rep w S x cs):Reps E w S [x] cs:=⟨cs,[],by simp,h,rfl⟩
theorem Reps.drop:∀{l:List α} {xs:List Value} (k:Nat),Reps E w S l xs→Reps E w S (l.drop k) (xs.drop (k*E.n))
 | l,xs,0,h=>by simpa using h
 | [],xs,k+1,h=>by rw [show xs=[] from h];simp [Reps]
 | x :: l,xs,k+1,h=>by
  obtain ⟨cs,rest,rfl,h1,h2⟩:=h;have e1:(cs++rest).drop ((k+1)*E.n)=rest.drop (k*E.n):=by
   rw [List.drop_append,E.len h1,List.drop_eq_nil_of_le (by rw [E.len h1,Nat.add_mul];omega),Nat.add_mul,Nat.one_mul,Nat.add_sub_cancel,List.nil_append]
  rw [e1];exact Reps.drop k h2
theorem Reps.take:∀{l:List α} {xs:List Value} (k:Nat),Reps E w S l xs→Reps E w S (l.take k) (xs.take (k*E.n))
 | l,xs,0,h=>by simp [Reps]
 | [],xs,k+1,h=>by rw [show xs=[] from h];simp [Reps]
 | x :: l,xs,k+1,h=>by
  obtain ⟨cs,rest,rfl,h1,h2⟩:=h;have e1:(cs++rest).take ((k+1)*E.n)=cs++rest.take (k*E.n):=by
   rw [List.take_append,E.len h1,List.take_of_length_le (by rw [E.len h1,Nat.add_mul];omega),Nat.add_mul,Nat.one_mul,Nat.add_sub_cancel]
  rw [e1];exact ⟨cs,_,rfl,h1,Reps.take k h2⟩
theorem Reps.get:∀{l:List α} {xs:List Value},Reps E w S l xs→∀i (h:i<l.length),∃cs,E.rep w S l[i] cs∧∀j,j<E.n→xs[i*E.n+j]? = cs[j]?
 | [],xs,h,i,hi=>absurd hi (by simp)
 | x :: l,xs,h,0,hi=>by
  obtain ⟨cs,rest,rfl,h1,h2⟩:=h;exact ⟨cs,h1,fun j hj=>by rw [Nat.zero_mul,Nat.zero_add,List.getElem?_append_left (by rw [E.len h1];exact hj)]⟩
 | x :: l,xs,h,i+1,hi=>by
  obtain ⟨cs,rest,rfl,h1,h2⟩:=h;obtain ⟨cs',h3,h4⟩:=Reps.get h2 i (by simpa using hi);refine ⟨cs',by simpa using h3,fun j hj=>?_⟩;rw [←h4 j hj,List.getElem?_append_right (by rw [E.len h1,Nat.add_mul];omega),E.len h1,Nat.add_mul,Nat.one_mul];congr 1
  omega
theorem Reps.set:∀{l:List α} {xs:List Value} {i:Nat} {y:α} {cs:List Value},Reps E w S l xs→E.rep w S y cs→i<l.length→Reps E w S (l.set i y) (xs.take (i*E.n)++cs++xs.drop (i*E.n+E.n))
 | [],xs,i,y,cs,h,hy,hi=>absurd hi (by simp)
 | x :: l,xs,0,y,cs,h,hy,hi=>by
  obtain ⟨cs',rest,rfl,h1,h2⟩:=h;refine ⟨cs,rest,?_,hy,h2⟩;rw [Nat.zero_mul,List.take_zero,List.nil_append,Nat.zero_add,List.drop_append,E.len h1,List.drop_eq_nil_of_le (by rw [E.len h1];omega),Nat.sub_self,List.drop_zero,List.nil_append]
 | x :: l,xs,i+1,y,cs,h,hy,hi=>by
  obtain ⟨cs',rest,rfl,h1,h2⟩:=h;refine ⟨cs',rest.take (i*E.n)++cs++rest.drop (i*E.n+E.n),?_,h1,Reps.set h2 hy (by simpa using hi)⟩;have hl:=E.len h1;rw [List.take_append,List.drop_append,hl,List.take_of_length_le (by rw [hl,Nat.add_mul];omega),List.drop_eq_nil_of_le (by rw [hl,Nat.add_mul];omega)];rw [show (i+1)*E.n-E.n=i*E.n by rw [Nat.add_mul];omega,show (i+1)*E.n+E.n-E.n=i*E.n+E.n by rw [Nat.add_mul];omega];simp
def RowsAt (E:El α) (w:World) (S:Nat→Prop) (A:Option Addr) (l:List α):Prop :=
 ∃xs,Reps E w S l xs∧(0<l.length→∃b off,A=some ⟨b,off,none⟩∧S b∧∀j u,xs[j]? = some u→w.cell? ⟨b,off+j,none⟩=some u)
theorem RowsAt.nil (E:El α) (w:World) (S:Nat→Prop) (A:Option Addr):RowsAt E w S A []:=⟨[],rfl,fun h=>absurd h (by simp)⟩
theorem RowsAt.same (h:RowsAt E w S A l) (hk:∀b,S b→w'.heap[b]? = w.heap[b]?) (hS:∀b,S b→S' b):RowsAt E w' S' A l:=by
 obtain ⟨xs,h1,h2⟩:=h;refine ⟨xs,h1.same hk hS,fun h0=>?_⟩;obtain ⟨b,off,hA,hb,hc⟩:=h2 h0;exact ⟨b,off,hA,hS b hb,fun j u hu=>(World.cell?_of_block (w:=w) (a:=⟨b,off+j,none⟩) (hk b hb)).trans (hc j u hu)⟩
theorem RowsAt.mono (h:RowsAt E w S A l) (hS:∀b,S b→S' b):RowsAt E w S' A l:=h.same (fun _ _=>rfl) hS
theorem RowsAt.get (h:RowsAt E w S A l) {i:Nat} (hi:i<l.length) :
  ∃b off cs,A=some ⟨b,off,none⟩∧S b∧E.rep w S l[i] cs∧∀j,j<E.n→w.cell? ⟨b,off+i*E.n+j,none⟩=cs[j]?:=by
 obtain ⟨xs,h1,h2⟩:=h;obtain ⟨b,off,hA,hb,hc⟩:=h2 (by omega);obtain ⟨cs,h3,h4⟩:=h1.get i hi;refine ⟨b,off,cs,hA,hb,h3,fun j hj=>?_⟩;have hj2:j<cs.length:=by rw [E.len h3];exact hj
 have h5:=h4 j hj;rw [List.getElem?_eq_getElem hj2] at h5 ⊢;rw [Nat.add_assoc];exact hc _ _ h5
theorem RowsAt.getx (h:RowsAt E w S A l) {i:Nat} {x:α} (hi:i<l.length) (hx:l[i]=x) :
  ∃b off cs,A=some ⟨b,off,none⟩∧S b∧E.rep w S x cs∧∀j,j<E.n→w.cell? ⟨b,off+i*E.n+j,none⟩=cs[j]?:=by subst hx;exact h.get hi
theorem RowsAt.take (h:RowsAt E w S A l) (k:Nat):RowsAt E w S A (l.take k):=by
 obtain ⟨xs,h1,h2⟩:=h;refine ⟨_,h1.take k,fun h0=>?_⟩;obtain ⟨b,off,hA,hb,hc⟩:=h2 (by rw [List.length_take] at h0;omega);exact ⟨b,off,hA,hb,fun j u hu=>hc j u (by rw [List.getElem?_take] at hu;split at hu;exact hu;cases hu)⟩
theorem RowsAt.drop {b off:Nat} (h:RowsAt E w S (some ⟨b,off,none⟩) l) (k:Nat):RowsAt E w S (some ⟨b,off+k*E.n,none⟩) (l.drop k):=by
 obtain ⟨xs,h1,h2⟩:=h;refine ⟨_,h1.drop k,fun h0=>?_⟩;obtain ⟨b',off',hA,hb,hc⟩:=h2 (by rw [List.length_drop] at h0;omega);injection hA with hA;injection hA with e1 e2;subst e1;subst e2;exact ⟨b,_,rfl,hb,fun j u hu=>by rw [Nat.add_assoc];exact hc _ u (by rw [List.getElem?_drop] at hu;exact hu)⟩
def Lo (B:Nat) (b:Nat):Prop:=b<B
def ya (w:World) (v:Value) (b:Nat):Prop:=b<w.heap.size∧v.ownBlock≠some b
theorem RowsAt.below {B B' B'':Nat} (h:RowsAt E w (Lo B) A l) (hb:Below B' w w') (hB:B≤B') (hB2:B≤B''):RowsAt E w' (Lo B'') A l :=
 h.same (fun b hl=>hb.block b (Nat.lt_of_lt_of_le hl hB)) fun _ hl=>Nat.lt_of_lt_of_le hl hB2
def OwnRows (E:El α) (e:TypeId) (w:World) (base:Nat) (v:Value) (l:List α):Prop :=
 base≤w.heap.size∧∃xs,w.ownsRow base e E.n v l.length xs∧Reps E w (ya w v) l xs
theorem OwnRows.nil (E:El α) (e:TypeId) (w:World) (base:Nat) (hb:base≤w.heap.size):OwnRows E e w base (.slice none 0 0) []:=⟨hb,[],World.ownsRow_nil _ _ _ _,rfl⟩
theorem OwnRows.block (h:OwnRows E e w base v l):∀k,v.ownBlock=some k→base≤k∧k<w.heap.size:=by
 obtain ⟨_,xs,h1,_⟩:=h;exact h1.lt
theorem OwnRows.keep (h:OwnRows E e w base v l) (hk:∀b,b<w.heap.size→w'.heap[b]? = w.heap[b]?) (hs:w.heap.size≤w'.heap.size):OwnRows E e w' base v l:=by
 obtain ⟨h0,xs,⟨h1,h2⟩,h3⟩:=h;refine ⟨Nat.le_trans h0 hs,xs,⟨h1,?_⟩,h3.same (fun b hb=>hk b hb.1) fun b hb=>⟨Nat.lt_of_lt_of_le hb.1 hs,hb.2⟩⟩;rcases h2 with hn|⟨g,cap,cur,hv,hg,hh,rest⟩
 ·exact .inl hn
 ·exact .inr ⟨g,cap,cur,hv,hg,by rw [hk g (Array.getElem?_eq_some_iff.1 hh).1];exact hh,rest⟩
theorem OwnRows.below (h:OwnRows E e w base v l) (hb:Below B w w') (hB:w.heap.size≤B):OwnRows E e w' base v l:=h.keep (fun b hlt=>hb.block b (by omega)) hb.size
theorem OwnRows.drewN (h:OwnRows E e w base v l) (n:Nat):OwnRows E e (w.drewN n) base v l:=h.keep (fun _ _=>rfl) (Nat.le_refl _)
theorem OwnRows.alloc (h:OwnRows E e w base v l) (o:Obj):OwnRows E e (w.alloc o) base v l:=h.keep (fun b hlt=>Below.heap_alloc w o b hlt) (by simp)
theorem OwnRows.older (h:OwnRows E e w base v l) {base':Nat} (hb:base'≤base):OwnRows E e w base' v l:=by
 obtain ⟨h0,xs,⟨h1,h2⟩,h3⟩:=h;refine ⟨Nat.le_trans hb h0,xs,⟨h1,?_⟩,h3⟩;rcases h2 with hn|⟨g,cap,cur,hv,hg,rest⟩
 ·exact .inl hn
 ·exact .inr ⟨g,cap,cur,hv,Nat.le_trans hb hg,rest⟩
theorem OwnRows.form (h:OwnRows E e w base v l) :
  ∃A cap,v = .slice A l.length cap∧RowsAt E w (Lo w.heap.size) A l∧l.length≤cap∧cap≤maxLen:=by
 obtain ⟨h0,xs,h1,h3⟩:=h;have hc:∀g,v.ownBlock=some g→∀j u,xs[j]? = some u→w.cell? ((⟨g,0,none⟩:Addr).add j)=some u:=fun g hg=>h1.cells hg;rcases h1.2 with ⟨hv,hn⟩|⟨g,cap,cur,hv,hg,hh,hnc,hcm,hcs,ht⟩
 ·have hl:l=[]:=List.eq_nil_of_length_eq_zero hn;subst hl;exact ⟨none,0,hv,RowsAt.nil _ _ _ _,by simp,by simp [maxLen]⟩
 ·refine ⟨_,cap,hv,⟨xs,h3.same (fun _ _=>rfl) (fun b hb=>hb.1),fun _=>⟨g,0,rfl,(Array.getElem?_eq_some_iff.1 hh).1,fun j u hu=>?_⟩⟩,hnc,hcm⟩;have:=hc g (by rw [hv];rfl) j u hu;have e:(⟨g,0,none⟩:Addr).add j=⟨g,0+j,none⟩:=by unfold Addr.add;split <;> simp_all
  rwa [e] at this
theorem OwnRows.oth (h:OwnRows E e w base v l) {b:Nat} (hb:b<base):ya w v b:=⟨Nat.lt_of_lt_of_le hb h.1,fun e=>by have:=(h.block b e).1;omega⟩
def ur (w w':World) (v v':Value):Prop:=∀b,ya w v b→w'.heap[b]? = w.heap[b]?∧v'.ownBlock≠some b
structure ElTB (P:Program) (E:El α) (t e:TypeId) (by_:Nat):Prop where
 under:P.underlying t=some (.slice e)
 info:∃i z,P.info? e=some i∧i.zero=some z∧i.size=E.n∧z.cells.size=E.n∧i.bytes=by_
theorem ElTB.mk' {P:Program} {t e:TypeId} (hu:P.underlying t=some (.slice e)) (z:Value) (n by_:Nat) (hi:(P.info? e).map (fun i=>(i.zero,i.size,i.bytes))=some (some z,n,by_)) (hn:n=E.n) (hz:z.cells.size=n):ElTB P E t e by_:=by
 obtain ⟨i,h,h0,h1,h2⟩:=info_parts hi;exact ⟨hu,i,z,h,h0,h1.trans hn,hz.trans hn,h2⟩
theorem ng {P:Program} (w:World) (base:Nat) (t ty e:TypeId) (i:TypeInfo) (size:Nat) (ht:P.underlying t=some (.slice e)) (hi:P.info? e=some i)
  (v:Value) (n:Nat) (xs:List Value) (hown:w.ownsRow base e size v n xs) (c:Nat):(Builtin.append_ #[t,t] ty #[v,.slice none 0 c]).run P w = .ok v w:=by
 rcases hown.2 with ⟨rfl,rfl⟩|⟨g,cap,cur,rfl,_,_,hnc,_⟩
 ·simp [Builtin.append_,run_underlying ht,sizeOf,typeInfo,hi,Builtin.lenOf,Builtin.firstCells]
 ·simp [Builtin.append_,run_underlying ht,sizeOf,typeInfo,hi,Builtin.lenOf,Builtin.firstCells,hnc,storeCells]
theorem ew (b off j:Nat):(Addr.mk b off none).add j=⟨b,off+j,none⟩:=by
 unfold Addr.add;by_cases h:j=0 <;> simp [h]
theorem ta {P:Program} {t e:TypeId} {by_:Nat} (T:ElTB P E t e by_) (w:World) (ty:TypeId) (base:Nat) (v:Value) (l ns:List α) (A:Option Addr) (c:Nat) (hown:OwnRows E e w base v l)
  (xs:List Value) (hx:Reps E w (ya w v) ns xs) (hA:0<ns.length→∃b off,A=some ⟨b,off,none⟩∧∀j u,xs[j]? = some u→w.cell? ⟨b,off+j,none⟩=some u) (hl:l.length+ns.length≤maxLen) (hlb:(l.length+ns.length)*by_≤140737488355328) :
  ∃v' w',(Builtin.append_ #[t,t] ty #[v,.slice A ns.length c]).run P w = .ok v' w'∧OwnRows E e w' base v' (l++ns)∧Below base w w'∧ur w w' v v':=by
 obtain ⟨i0,z,hi,hz0,hz1,hz2,hz3⟩:=T.info;obtain ⟨h0,us,h1,h3⟩:=hown;rcases A with _|ad
 ·have hn:ns=[]:=by
   cases ns with
   | nil=>rfl
   | cons a r=>obtain ⟨_,_,h,_⟩:=hA (by simp);cases h
  subst hn;exact ⟨v,w,ng w base t ty e i0 E.n T.under hi v l.length _ h1 c,by simpa using ⟨h0,us,h1,h3⟩,Below.refl _ _,fun b hb=>⟨rfl,hb.2⟩⟩
 ·have hxl:=hx.length;have hcells:∀j u,xs[j]? = some u→w.cell? (ad.add j)=some u:=by
   intro j u hu;rcases Nat.eq_zero_or_pos ns.length with hz|hz
   ·rw [hz,Nat.zero_mul] at hxl;have:xs=[]:=List.eq_nil_of_length_eq_zero hxl;subst this;cases hu
   ·obtain ⟨b,off,h,hc⟩:=hA hz;injection h with h;subst h;rw [ew];exact hc j u hu
  obtain ⟨v',w',hrun,k1,k2,_,k4⟩:=run_append_own_at (P:=P) w base t ty e i0 z E.n i0.bytes T.under hi hz0 hz1 rfl hz2 E.pos v l.length _ h1 ad ns.length c xs
   hxl hcells hx.one hl (by rw [hz3];exact hlb) h0
  have hb:Below base w w':=(Below.refl base w).grown k2 h0 (fun k hk=>(h1.lt k hk).1);have hsp:ur w w' v v':=fun b hb2=>⟨k2.block b hb2.1 (fun e=>hb2.2 e.symm),by
   rcases k4 with e|e
   ·rw [e];exact hb2.2
   ·rw [e];intro h;injection h with h;have:=hb2.1;omega⟩
  have keep:∀{m:List α} {ms:List Value},Reps E w (ya w v) m ms→Reps E w' (ya w' v') m ms:=fun hm =>
   hm.same (fun b hb2=>(hsp b hb2).1) fun b hb2=>⟨Nat.lt_of_lt_of_le hb2.1 hb.size,(hsp b hb2).2⟩
  exact ⟨v',w',hrun,⟨Nat.le_trans h0 hb.size,us++xs,by rw [List.length_append];exact k1,(keep h3).append (keep hx)⟩,hb,hsp⟩
theorem yb {P:Program} {t e:TypeId} {by_:Nat} (T:ElTB P E t e by_) {ops:Array Oper} {rest:List Oper} {o:Oper} {a:Act} {Q:Exit→Act→World→Prop} (hgd:o.guard=none) (s x:Operand)
  (ho:o.op = .call { callee:=.builtin .append,args:=#[s,x],argTypes:=#[t,t] })
  (w:World) (base:Nat) (v:Value) (l ns:List α) (n:Nat) (hn:ns.length=n) (A:Option Addr) (c:Nat) (hs:a.eval s=v) (hown:OwnRows E e w base v l) (hx:a.eval x = .slice A n c) (hr:RowsAt E w (ya w v) A ns) (hl:l.length+n≤maxLen) (hlb:(l.length+n)*by_≤140737488355328)
  (h:∀v' w',OwnRows E e w' base v' (l++ns)→Below base w w'→ur w w' v v'→wpList P ops Q rest (a.put o.dst v') w') :
  wpList P ops Q (o :: rest) a w:=by
 subst hn;refine wpList_plain hgd fun K hK=>?_;obtain ⟨xs,hx1,hx2⟩:=hr;obtain ⟨v',w',hrun,h1,h2,h3⟩:=ta T w o.type base v l ns A c hown xs hx1 (fun h0=>by
  obtain ⟨b,off,hA,_,hc⟩:=hx2 h0;exact ⟨b,off,hA,hc⟩) hl hlb
 unfold Oper.wp execOp;simp only [ho,resolve,invoke,builtin,Sem.run_bind,Sem.run_pure,Result.andThen_ok,List.map_toArray,List.map_cons,List.map_nil,hs,hx,hrun];exact hK _ _ (h v' w' h1 h2 h3)
theorem OwnRows.made (E:El α) (e:TypeId) (w:World) (base:Nat) (cur:Array Value) (cap:Nat) (hb:base≤w.heap.size) (hm:cap≤maxLen) (hs:cur.size=cap*E.n):OwnRows E e (w.alloc (.cells cur e)) base (.slice (some ⟨w.heap.size,0,none⟩) 0 cap) [] :=
 ⟨by simp;omega,[],World.ownsRow_made w cur cap hb hm hs,rfl⟩
theorem OwnRows.setAll (h:OwnRows E e w base v l) {i:Nat} (hi:i<l.length) {y:α} {cs:List Value} (hy:E.rep w' (ya w' v) y cs) (hs:w'.heap.size=w.heap.size)
  (hk:∀b,ya w v b→w'.heap[b]? = w.heap[b]?) (hrow:∀xs,w.ownsRow base e E.n v l.length xs→w'.ownsRow base e E.n v l.length (xs.take (i*E.n)++cs++xs.drop (i*E.n+E.n))):OwnRows E e w' base v (l.set i y):=by
 obtain ⟨h0,xs,h1,h3⟩:=h;refine ⟨by omega,_,by rw [List.length_set];exact hrow xs h1,Reps.set (h3.same hk fun b hb=>⟨by rw [hs];exact hb.1,hb.2⟩) hy hi⟩
end
def El.plain {α:Type} (n:Nat) (pos:0<n) (f:α→List Value) (len:∀x,(f x).length=n) (one:∀x,∀u∈f x,u.oneCell'=true):El α where
 n:=n
 pos:=pos
 rep:=fun _ _ x cs=>cs=f x
 len:=fun h=>by rw [h];exact len _
 one:=fun h=>by rw [h];exact one _
 same:=fun h _ _=>h
def Jt:El Int:=El.plain 1 (by decide) (fun x=>[.int .i64 x]) (fun _=>rfl) (by intro x u hu;simp at hu;subst hu;rfl)
def cg:El Bool:=El.plain 1 (by decide) (fun x=>[.bool x]) (fun _=>rfl) (by intro x u hu;simp at hu;subst hu;rfl)
def pS:El ByteArray:=El.plain 1 (by decide) (fun x=>[.string x]) (fun _=>rfl) (by intro x u hu;simp at hu;subst hu;rfl)
def El.sl {α:Type} (E:El α):El (List α) where
 n:=1
 pos:=by decide
 rep:=fun w S l cs=>∃A cap,cs=[.slice A l.length cap]∧l.length≤cap∧cap≤maxLen∧RowsAt E w S A l
 len:=fun h=>by obtain ⟨A,cap,rfl,_⟩:=h;rfl
 one:=fun h=>by obtain ⟨A,cap,rfl,_⟩:=h;intro u hu;simp at hu;subst hu;rfl
 same:=fun h hk hS=>by
  obtain ⟨A,cap,e,h1,h2,h3⟩:=h;exact ⟨A,cap,e,h1,h2,h3.same hk hS⟩
def Opens {α:Type} (P:Program) (E:El α) (t:TypeId) (fits:α→Prop):Prop :=
 ∀{H:Type} {enc:TypeId×Value→H} {w:World} {base:Nat} {spare:Nat→Bool} {held:Bool} {fuel:Nat} {cs:List Value} {x:DataW H×List MemPlace},DataW.trod enc P w base spare held fuel t cs=some x→∃y,E.rep w (Lo w.heap.size) y cs∧fits y
theorem Hx {n:Int} (h:(Lit.int .i64 n).wf=true) : -9223372036854775808≤n∧n≤9223372036854775807:=by
 have:=bounds_i64 h;omega
def Hy (n:Int):Prop:=-9223372036854775808≤n∧n≤9223372036854775807
theorem bw {P:Program} {t:TypeId} (ht:P.underlying t=some (.int .i64)):Opens P Jt t Hy:=by
 intro H enc w base spare held fuel cs x h;obtain ⟨n,e,_,hw⟩:=DataW.trod_int ht h;exact ⟨n,e,Hx hw⟩
theorem yc {P:Program} {t:TypeId} (ht:P.underlying t=some .bool):Opens P cg t (fun _=>True):=by
 intro H enc w base spare held fuel cs x h;obtain ⟨n,e,_⟩:=DataW.trod_bool ht h;exact ⟨n,e,trivial⟩
theorem lH {P:Program} {t:TypeId} (ht:P.underlying t=some .string):Opens P pS t (fun s=>s.size≤maxLen):=by
 intro H enc w base spare held fuel cs x h;obtain ⟨n,e,_,hw⟩:=DataW.trod_string ht h;exact ⟨n,e,hw⟩
theorem qh {w:World} {a:Addr} {v:Value} (h:w.cell? (a.add 0)=some v):∃b off,a=⟨b,off,none⟩:=by
 obtain ⟨b,off,spot⟩:=a;have hspot:spot=none:=by simpa [Addr.add] using World.cell?_spot h
 subst hspot;exact ⟨b,off,rfl⟩
theorem ut {α:Type} {E:El α} {w:World} {S:Nat→Prop} {fits:α→Prop} {b:Nat}:∀(n off:Nat),(∀i,i<n→∃y cs,E.rep w S y cs∧fits y∧∀j u,cs[j]? = some u→w.cell? ⟨b,off+i*E.n+j,none⟩=some u)→
  ∃l xs,l.length=n∧Reps E w S l xs∧(∀y∈l,fits y)∧∀j u,xs[j]? = some u→w.cell? ⟨b,off+j,none⟩=some u
 | 0,off,_=>⟨[],[],rfl,rfl,by simp,by simp⟩
 | n+1,off,h=>by
  obtain ⟨y,cs,h1,h2,h3⟩:=h 0 (by omega);obtain ⟨l,xs,k1,k2,k3,k4⟩:=ut (E:=E) (fits:=fits) n (off+E.n) (fun i hi=>by
   obtain ⟨y,cs,h1,h2,h3⟩:=h (i+1) (by omega);exact ⟨y,cs,h1,h2,fun j u hu=>by have:=h3 j u hu;rwa [Nat.add_mul,Nat.one_mul,show off+(i*E.n+E.n)+j=off+E.n+i*E.n+j by omega] at this⟩)
  refine ⟨y :: l,cs++xs,by simp [k1],⟨cs,xs,rfl,h1,k2⟩,?_,?_⟩
  ·intro z hz;rcases List.mem_cons.1 hz with rfl|hz
   ·exact h2
   ·exact k3 z hz
  ·intro j u hu;have hl:=E.len h1;rcases Nat.lt_or_ge j E.n with hj|hj
   ·rw [List.getElem?_append_left (by omega)] at hu;have:=h3 j u hu
    rwa [Nat.zero_mul,Nat.add_zero] at this
   ·rw [List.getElem?_append_right (by omega),hl] at hu;have:=k4 _ u hu
    rwa [show off+E.n+(j-E.n)=off+j by omega] at this
theorem Opens.sl {α:Type} {P:Program} {E:El α} {t e:TypeId} {fits:α→Prop} (ho:Opens P E e fits) (ht:P.underlying t=some (.slice e)) (hC:P.cellsOf e=E.n):Opens P E.sl t (fun l=>l.length≤maxLen∧∀y∈l,fits y):=by
 intro H enc w base spare held fuel cs x h;rcases open_slice ht h with ⟨rfl,_⟩|⟨a,len,cap,m,n,D,Pl,rfl,hb,hl,hm,hmm,_,hi⟩
 ·exact ⟨[],⟨none,0,rfl,by simp,by simp [maxLen],RowsAt.nil _ _ _ _⟩,by simp [maxLen],by simp⟩
 ·have hml:len≤m:=by rw [hmm];split <;> omega
  rcases Nat.eq_zero_or_pos len with h0|h0
  ·subst h0;exact ⟨[],⟨some a,cap,rfl,by simp,hm,RowsAt.nil _ _ _ _⟩,by simp [maxLen],by simp⟩
  ·have hplain:∃b off,a=⟨b,off,none⟩:=by
    obtain ⟨cs',hc,_⟩:=hi 0 (by omega);obtain ⟨_,hcl,hat⟩:=World.cells?_some hc;have hp:=E.pos;have h1:=hat 0 (by omega);rw [Nat.zero_mul,List.getElem?_eq_getElem (by omega)] at h1;have e0:(a.add 0).add 0=a.add 0:=by rw [Go.Deep.add_add]
    rw [e0] at h1;exact qh h1
   obtain ⟨b,off,rfl⟩:=hplain;have hel:∀i,i<len→∃y cs,E.rep w (Lo w.heap.size) y cs∧fits y∧∀j u,cs[j]? = some u→w.cell? ⟨b,off+i*E.n+j,none⟩=some u:=by
    intro i hil;obtain ⟨cs',hc,hd⟩:=hi i (by omega);obtain ⟨y,hy,hf⟩:=ho hd;obtain ⟨_,hcl,hat⟩:=World.cells?_some hc;refine ⟨y,cs',hy,hf,fun j u hu=>?_⟩;have hj:j<cs'.length:=(List.getElem?_eq_some_iff.1 hu).1;have h1:=hat j (by omega);rw [hu,ew,ew,hC] at h1;exact h1
   obtain ⟨l,xs,k1,k2,k3,k4⟩:=ut len off hel;subst k1;refine ⟨l,⟨_,cap,rfl,hl,hm,xs,k2,fun _=>⟨b,off,rfl,?_,k4⟩⟩,by omega,k3⟩;have hxl:=k2.length;have hp:=E.pos;have:0<xs.length:=by rw [hxl];exact Nat.mul_pos h0 hp
   exact World.block_lt_of_cell? w _ (k4 0 _ (List.getElem?_eq_getElem this))
end
structure Ext (w0:World) where
 w:World
 below:Below w0.heap.size w0 w
instance (w0:World):Nonempty (Ext w0):=⟨⟨w0,Below.refl _ _⟩⟩
theorem Ky {P:Prop} (h:P:=by (repeat (first|(with_reducible exact Below.refl _ _)|(with_reducible assumption)|(with_reducible refine b9 ?_ _)|(with_reducible refine Below.drew ?_)|(with_reducible refine Below.al ?_ _)|(with_reducible refine Below.st ?_ (by simp;try omega))|(with_reducible refine Below.tr ?_ (by assumption))))):P:=h
theorem ce {P:Prop} (h:P:=by (repeat (first|(with_reducible exact Below.refl _ _)|(with_reducible assumption)|(with_reducible refine b9 ?_ _)|(with_reducible refine Below.drew ?_)|(with_reducible refine Below.al ?_ _)|(with_reducible refine Below.st ?_ (by simp;try omega))|(with_reducible refine Below.tr ?_ (Hid.out (by assumption)))|(with_reducible exact Hid.out (by assumption))))):P:=h
theorem b9 {B:Nat} {a w:World} (h:Below B a w) (n:Nat):Below B a (w.drewN n):=⟨h.os,h.tape,h.output,h.size,h.block⟩
theorem iS (w:World) (cs:Array Value) (e:TypeId) (j:Nat):(w.alloc (.cells cs e)).cell? ⟨w.heap.size,j,none⟩=cs[j]?:=cell_of_row _ _ _ _ _ _ (heap_alloc_new w (.cells cs e))
def Blk (w:World) (g:Nat) (t:TypeId) (cs:Array Value):Prop:=w.heap[g]? = some (.cells cs t (0,0))
section
variable {w w':World} {g:Nat} {t:TypeId} {cs:Array Value}
theorem Blk.lt (h:Blk w g t cs):g<w.heap.size:=(Array.getElem?_eq_some_iff.1 h).1
theorem Blk.cell (h:Blk w g t cs) (i:Nat):w.cell? ⟨g,i,none⟩=cs[i]?:=cell_of_row w g i cs t (0,0) h
theorem Blk.cellx (h:Blk w g t cs) (i:Nat) {v:Value} (hv:cs[i]? = some v):w.cell? ⟨g,i,none⟩=some v:=(h.cell i).trans hv
theorem Blk.frozen (h:Blk w g t cs) (i:Nat):w.frozen? ⟨g,i,none⟩=false:=by
 unfold Blk at h;simp [World.frozen?,h]
theorem Blk.new (w:World) (t:TypeId) (cs:Array Value):Blk (w.alloc (.cells cs t)) w.heap.size t cs:=heap_alloc_new w _
theorem Blk.alloc (h:Blk w g t cs) (o:Obj):Blk (w.alloc o) g t cs:=(Below.heap_alloc w o g h.lt).trans h
theorem Blk.set_ (h:Blk w g t cs) (i:Nat) (u:Value):Blk (w.setCell ⟨g,i,none⟩ u) g t (cs.setIfInBounds i u):=by
 unfold Blk at h ⊢;simp [World.setCell,Array.getElem?_modify,h]
theorem Blk.far (h:Blk w g t cs) {p:Addr} (hp:g≠p.block) (u:Value):Blk (w.setCell p u) g t cs:=(Below.heap_setCell w p u g hp).trans h
theorem Blk.below {B:Nat} (h:Blk w g t cs) (hb:Below B w w') (hg:g<B):Blk w' g t cs:=(hb.block g hg).trans h
end
structure Just (w0:World) where
 w:World
 eq:w=w0
instance (w0:World):Nonempty (Just w0):=⟨⟨w0,rfl⟩⟩
def o9 (w:World) (v:Value) (e:Ending) (w':World):Prop:=e = .returned v∧Below w.heap.size w w'
def vO (w:World) (v:Value) (e:Ending) (w':World):Prop:=e = .returned v∧w'=w
theorem aY {a b:Bool} (h:a=b):Ending.returned (.bool a) = .returned (.bool b):=by rw [h]
theorem lI {k:IntKind} {a b:Int} (h:a=b):Ending.returned (.int k a) = .returned (.int k b):=by rw [h]
def uu {α:Type} (E:El α) (t:TypeId) (w:World) (l:List α) (e:Ending) (w':World):Prop:=∃v,e = .returned v∧OwnRows E t w' w.heap.size v l∧Below w.heap.size w w'
def cK (s:Bs):Bool:=decide (1≤s.length) && decide (s.length≤12) && !G4 s && (s.take 1).all fh && s.all iR
theorem pd (s:ByteArray):s.toList.length=s.size:=by rw [ByteArray.toList_eq];simp
theorem zr (s:ByteArray) (k:Nat) (h:k<s.size) (h':k<s.toList.length):s.toList[k]=s[k]:=by
 simp only [ByteArray.toList_eq];rfl
theorem sB {p:UInt8→Bool} {l:Bs} {k:Nat} (h:k<l.length):(l.take (k+1)).all p=((l.take k).all p && p l[k]):=by
 rw [List.take_succ_eq_append_getElem h,List.all_append];simp
theorem vP {s:Bs} (h1:1≤s.length) (h12:s.length≤12):cK s=(!G4 s && fh s[0] && s.all iR):=by
 unfold cK;rw [decide_eq_true h1,decide_eq_true h12];cases s with
 | nil=>simp at h1
 | cons a r=>simp
theorem j8 (s:ByteArray) (w:World):Calls prog 133 #[.string s] w fun e w'=>e = .returned (.bool (cK s.toList))∧w'=w:=by
 have hsz:=pd s;by_cases h1:s.size<1
 ·have hn:Hid (cK s.toList=false):=Lib.hid (by unfold cK;rw [show decide (1≤s.toList.length)=false from decide_eq_false (by omega)];rfl)
  go_enter func133,ntmps133
  go_wp2_with fail
  go_ret
  exact ⟨aY hn.out.symm,rfl⟩
 ·by_cases h2:12<s.size
  ·have hn:Hid (cK s.toList=false):=Lib.hid (by unfold cK;rw [show decide (s.toList.length≤12)=false from decide_eq_false (by omega),Bool.and_false];rfl)
   go_enter func133,ntmps133
   go_wp2_with fail
   go_ret
   exact ⟨aY hn.out.symm,rfl⟩
  ·have HN:=Lib.hid (vP (s:=s.toList) (by omega) (by omega));have HG:=Lib.hid (zr s);have h0:0<s.size:=by omega
   have hlen:s.toList.length=s.size:=hsz;generalize cK s.toList=r at *
   go_enter func133,ntmps133
   go_wp2_with fail
   refine (qg _ w).mono ?_;rintro e w' ⟨rfl,hw'⟩;obtain rfl:=hw'.symm;obtain ⟨b0,hb0⟩:∃b,fh s[0]=b:=⟨_,rfl⟩;have HB:=Lib.hid hb0;rw [hb0];clear hb0;cases b0 with
   | false =>
    go_wp2
    go_ret
    exact ⟨aY (by rw [HN.out,HG.out 0 h0 (by omega),HB.out];simp),rfl⟩
   | true =>
    go_wp2_with fail
    refine (sA s w).mono ?_;rintro e w' ⟨rfl,hw'⟩;obtain rfl:=hw'.symm;obtain ⟨b1,hb1⟩:∃b,G4 s.toList=b:=⟨_,rfl⟩;have HB1:=Lib.hid hb1;rw [hb1];clear hb1;cases b1 with
    | true =>
     go_wp2
     go_ret
     exact ⟨aY (by rw [HN.out,HB1.out];simp),rfl⟩
    | false =>
     have HM:Hid (r=s.toList.all iR):=Lib.hid (by rw [HN.out,HB1.out,HG.out 0 h0 (by omega),HB.out];simp);go_wp2_with fail
     go_loopg [3] s.size (fun m v wq=>∃k:Nat,v = .int .i64 (k:Int)∧k≤s.size∧s.size≤k+m∧Hid ((s.toList.take k).all iR=true)∧wq=w)
     case atStart=>exact ⟨0,rfl,Nat.zero_le _,by omega,Lib.hid (by simp),rfl⟩
     case round =>
      obtain ⟨k,rfl,hk,hkm,hall,rfl⟩:=hrel;by_cases hlt:k<s.size
      ·go_wp2_with fail
       refine (Cb _ _).mono ?_;rintro e w' ⟨rfl,hw'⟩;obtain rfl:=hw'.symm;obtain ⟨b2,hb2⟩:∃b,iR s[k]=b:=⟨_,rfl⟩;have HB2:=Lib.hid hb2;rw [hb2];clear hb2;cases b2 with
       | false =>
        go_wp2
        go_ret
        refine ⟨aY ?_,rfl⟩;rw [HM.out]
        symm
        rw [Bool.eq_false_iff];intro h;have h3:=(List.all_eq_true.1 h) _ (List.getElem_mem (show k<s.toList.length by omega));rw [HG.out k hlt (by omega),HB2.out] at h3;cases h3
       | true =>
        have hnx:Hid ((s.toList.take (k+1)).all iR=true):=Lib.hid (by rw [sB (by omega),hall.out,HG.out k hlt (by omega),HB2.out];rfl);go_wp2
        go_roundg (gk-1)
        case measure=>omega
        case rel=>exact ⟨k+1,by go_num,by omega,by omega,hnx,rfl⟩
      ·have hfin:Hid (r=true):=Lib.hid (by rw [HM.out,←hall.out,List.take_of_length_le (by omega)]);go_wp2
       go_ret
       exact ⟨aY hfin.out.symm,rfl⟩
def j9 (k:Nat) (n:Int):Prop:=(97≤n∧n≤122)∨(k≠0∧((48≤n∧n≤57)∨n=95∨n=45))
theorem tc {c:UInt8}:iR c=true↔j9 1 c.toNat:=by
 unfold iR fh j9;simp only [Bool.or_eq_true,Bool.and_eq_true,decide_eq_true_eq];omega
theorem vQ {c:UInt8}:fh c=true↔j9 0 c.toNat:=by
 unfold fh j9;simp only [Bool.and_eq_true,decide_eq_true_eq];omega
theorem uv {s:Bs} (h:0<s.length):(fh s[0] && s.all iR)=true↔∀k (hk:k<s.length),j9 k s[k].toNat:=by
 rw [Bool.and_eq_true,vQ,List.all_eq_true];constructor
 ·rintro ⟨h1,h2⟩ k hk;have:=tc.1 (h2 _ (List.getElem_mem hk));rcases Nat.eq_zero_or_pos k with rfl|h0
  ·exact h1
  ·unfold j9 at this ⊢;omega
 ·intro h1;refine ⟨h1 0 h,fun c hc=>?_⟩;obtain ⟨k,hk,rfl⟩:=List.mem_iff_getElem.1 hc;rw [tc];have:=h1 k hk;unfold j9 at this ⊢;omega
theorem mu (s:ByteArray) (w:World):Calls prog 108 #[.string s] w fun e w'=>e = .returned (.bool (cK s.toList))∧w'=w:=by
  have hsz:=pd s;by_cases h1:s.size<1
  · have hn:Hid (cK s.toList=false):=Lib.hid (by unfold cK;rw [show decide (1≤s.toList.length)=false from decide_eq_false (by omega)];rfl)
    go_enter func108,ntmps108
    go_wp2_with fail
    go_ret
    exact ⟨aY hn.out.symm,rfl⟩
  · by_cases h2:12<s.size
    · have hn:Hid (cK s.toList=false):=Lib.hid (by unfold cK;rw [show decide (s.toList.length≤12)=false from decide_eq_false (by omega),Bool.and_false];rfl)
      go_enter func108,ntmps108
      go_wp2_with fail
      go_ret
      exact ⟨aY hn.out.symm,rfl⟩
    · have HN:=Lib.hid (vP (s:=s.toList) (by omega) (by omega))
      have HG:=Lib.hid (zr s);have h0:0<s.size:=by omega
      have hlen:s.toList.length=s.size:=hsz;have HAP:=Lib.hid (uv (s:=s.toList) (by omega));generalize cK s.toList=r at *
      go_enter func108,ntmps108
      go_wp2_with fail
      refine (uq s w).mono ?_;rintro e w' ⟨rfl,hw'⟩;obtain rfl:=hw'.symm;obtain ⟨b1,hb1⟩:∃b,G4 s.toList=b:=⟨_,rfl⟩;have HB1:=Lib.hid hb1;rw [hb1];clear hb1;cases b1 with
      | true =>
        go_wp2
        go_ret
        exact ⟨aY (by rw [HN.out,HB1.out];simp),rfl⟩
      | false =>
        have HM:Hid (r=(fh s.toList[0] && s.toList.all iR)):=Lib.hid (by rw [HN.out,HB1.out];simp);have HBad:Hid (∀k (h:k<s.size),¬j9 k s[k].toNat→false=r):=Lib.hid fun k h hno=>by
          symm
          rw [Bool.eq_false_iff,HM.out];intro hc;have:=HAP.out.1 hc k (by omega);rw [HG.out k h (by omega)] at this;exact hno this
        have HGood:Hid ((∀k (h:k<s.size),j9 k s[k].toNat)→true=r):=Lib.hid fun h=>by
          rw [HM.out]
          symm
          refine HAP.out.2 fun k hk=>?_;rw [HG.out k (by omega) hk];exact h k (by omega)
        clear HN HM HB1 HG HAP hlen hsz;go_wp2_with fail
        go_loopg [21] s.size (fun m v wq=>∃k:Nat,v = .int .i64 (k:Int)∧k≤s.size∧s.size≤k+m∧Hid (∀j (h:j<s.size),j<k→j9 j s[j].toNat)∧wq=w)
        case atStart=>exact ⟨0,rfl,Nat.zero_le _,by omega,Lib.hid (fun j _ h=>absurd h (by omega)),rfl⟩
        case round =>
          obtain ⟨k,rfl,hk,hkm,hall,rfl⟩:=hrel;by_cases hlt:k<s.size
          · have hbad:=Lib.hid (HBad.out k hlt)
            have hnext:Hid (j9 k s[k].toNat→∀j (h:j<s.size),j<k+1→j9 j s[j].toNat):=Lib.hid fun hk1 j hj h=>by
              by_cases e:j=k
              · subst e;exact hk1
              · exact hall.out j hj (by omega)
            have hN:j9 k s[k].toNat∨¬j9 k s[k].toNat:=Classical.em _;have hcl:(97≤(s[k].toNat:Int)∧(s[k].toNat:Int)≤122)∨(s[k].toNat:Int)<97∨122<(s[k].toNat:Int):=by omega
            have hco:(48≤(s[k].toNat:Int)∧(s[k].toNat:Int)≤57)∨(s[k].toNat:Int)=95∨(s[k].toNat:Int)=45∨((s[k].toNat:Int)<48∧¬(s[k].toNat:Int)=45)∨(57<(s[k].toNat:Int)∧¬(s[k].toNat:Int)=95):=by omega
            rcases hN with hN|hN
            · have hn:=Lib.hid (hnext.out hN)
              unfold j9 at hN;clear hbad hnext HBad HGood;rcases hcl with ⟨ha,hb⟩|hcl
              · clear hco hN
                go_wp2_with fail
                all_goals
                  go_roundg (gk-1)
                  case measure=>omega
                  case rel=>exact ⟨k+1,by go_num,by omega,by omega,hn,rfl⟩
              · have hk0:0<k:=by omega
                have hco2:(48≤(s[k].toNat:Int)∧(s[k].toNat:Int)≤57)∨(s[k].toNat:Int)=95∨(s[k].toNat:Int)=45:=by omega
                clear hN hco;rcases hcl with ha|ha;all_goals rcases hco2 with ⟨hb,hc⟩|hb|hb
                all_goals first
                  | (exfalso;omega)
                  | (go_wp2_with fail
                     go_roundg (gk-1)
                     case measure=>omega
                     case rel=>exact ⟨k+1,by go_num,by omega,by omega,hn,rfl⟩)
            · have hb0:=Lib.hid (hbad.out hN)
              clear hbad hnext HBad HGood;have hcl2:(s[k].toNat:Int)<97∨122<(s[k].toNat:Int):=by unfold j9 at hN;omega
              have hk1:k=0∨(0<k∧(((s[k].toNat:Int)<48∧¬(s[k].toNat:Int)=45)∨(57<(s[k].toNat:Int)∧¬(s[k].toNat:Int)=95))):=by unfold j9 at hN;omega
              clear hN hcl hco;rcases hk1 with rfl|⟨hk0,hco⟩
              · rcases hcl2 with ha|ha
                all_goals
                  go_wp2_with fail
                  all_goals first
                    | (go_ret
                       exact ⟨aY hb0.out,rfl⟩)
                    | (exfalso
                       have d1:decide ((s[0].toNat:Int)≤122)=false:=decide_eq_false (by omega)
                       simp_all)
              · rcases hcl2 with ha|ha
                all_goals rcases hco with ⟨hb,hc⟩|⟨hb,hc⟩
                all_goals first
                  | (exfalso;omega)
                  | (have e1:((s[k].toNat:Int) == 95)=false:=beq_eq_false_iff_ne.2 (by omega)
                     have e2:((s[k].toNat:Int) == 45)=false:=beq_eq_false_iff_ne.2 (by omega);try have e3:decide ((s[k].toNat:Int)≤57)=false:=decide_eq_false (by omega)
                     try have e4:decide ((s[k].toNat:Int)≤122)=false:=decide_eq_false (by omega)
                     go_wp2_with fail
                     all_goals
                       go_ret
                       exact ⟨aY hb0.out,rfl⟩)
          · go_wp2
            go_ret
            exact ⟨aY (HGood.out fun j hj=>hall.out j hj (by omega)),rfl⟩
structure Rs where
 name:ByteArray
 kind:Int
 units:Int
 home:Int
deriving Inhabited
abbrev Ct:=List Rs
def Rs.key (r:Rs):Bs:=r.name.toList
def Rs.cells (r:Rs):List Value:=[.string r.name,.int .i64 r.kind,.int .i64 r.units,.int .i64 r.home]
def Rs.val (r:Rs):Value:=.agg #[.string r.name,.int .i64 r.kind,.int .i64 r.units,.int .i64 r.home]
def eT:El Rs:=El.plain 4 (by decide) Rs.cells (fun _=>rfl) (by intro x u hu;simp [Rs.cells] at hu;rcases hu with rfl|rfl|rfl|rfl <;> rfl)
def Rs.Fit (r:Rs):Prop:=r.name.size≤maxLen∧Hy r.kind∧Hy r.units∧Hy r.home
theorem toList_inj {a b:ByteArray} (h:a.toList=b.toList):a=b:=by
 rw [ByteArray.toList_eq,ByteArray.toList_eq] at h;have h2:a.data=b.data:=Array.toList_inj.1 h;cases a
 cases b
 simpa using h2
def bc (r:Rs):Bool:=(decide (r.kind=1) && decide (r.units=1)) || (decide (r.kind=2) && decide (1≤r.units) && decide (r.units≤8))
def mm (r:Rs):Bool:=cK r.key && bc r && decide (0≤r.home) && decide (r.home<4)
def Sorted (l:Ct):Prop:=∀i (h:i+1<l.length),l[i].key<l[i+1].key
theorem Sorted.lt {l:Ct} (h:Sorted l):∀j i (hj:j<l.length) (hi:i<j),l[i].key<l[j].key:=by
 intro j;induction j with
 | zero=>intro i _ hi;omega
 | succ j ih =>
  intro i hj hi;have h1:=h j hj;by_cases e:i=j
  ·subst e;exact h1
  ·exact List.lt_trans (ih i (by omega) (by omega)) h1
theorem vR (r:Rs) (w:World):Calls prog 138 #[r.val] w (o9 w (.bool (bc r))):=by
 obtain ⟨nm,k,u,h⟩:=r;unfold Rs.val bc
 go_enter func138,ntmps138
 go_wp2
 all_goals go_ret
 all_goals refine ⟨aY ?_,(Below.refl _ _).alloc (Nat.le_refl _) _⟩
 all_goals (first|rfl|(simp_all;done)|(simp_all;omega)|(rw [Bool.eq_iff_iff];simp_all;done)|(rw [Bool.eq_iff_iff];simp_all;omega))
theorem jp (r:Rs) (w:World):Calls prog 114 #[r.val] w (o9 w (.bool (bc r))):=by
 obtain ⟨nm,k,u,h⟩:=r;unfold Rs.val bc
 go_enter func114,ntmps114
 go_wp2
 all_goals go_ret
 all_goals refine ⟨aY ?_,(Below.refl _ _).alloc (Nat.le_refl _) _⟩
 all_goals (first|rfl|(simp_all;done)|(simp_all;omega)|(rw [Bool.eq_iff_iff];simp_all;done)|(rw [Bool.eq_iff_iff];simp_all;omega))
theorem uw (r:Rs) (w:World):Calls prog 97 #[r.val] w (o9 w (.bool (mm r))):=by
 have HS:=Lib.hid (fun w=>jp r w);have HN:=Lib.hid (fun w=>mu r.name w);unfold mm Rs.key;obtain ⟨b1,hb1⟩:∃b,cK r.name.toList=b:=⟨_,rfl⟩;obtain ⟨b2,hb2⟩:∃b,bc r=b:=⟨_,rfl⟩;rw [hb1] at HN ⊢;rw [hb2] at HS ⊢;clear hb1 hb2;obtain ⟨nm,k,u,h⟩:=r;unfold Rs.val at HS ⊢
 go_enter func97,ntmps97
 go_wp2_with fail
 refine (HN.out _).mono ?_;rintro e w' ⟨rfl,hw'⟩;obtain rfl:=hw'.symm;cases b1 with
 | false =>
  go_wp2
  go_ret
  exact ⟨aY (by simp),(Below.refl _ _).alloc (Nat.le_refl _) _⟩
 | true =>
  go_wp2_with fail
  refine (HS.out _).mono ?_;rintro e w' ⟨rfl,hb⟩;have hbb:=((Below.refl w.heap.size w).alloc (Nat.le_refl _) _).trans (hb.mono (by simp));obtain ⟨hc,hz⟩:(∀b o,b<w.heap.size+1→w'.cell? ⟨b,o,none⟩=(w.alloc (.cells #[.string nm,.int .i64 k,.int .i64 u,.int .i64 h] 55)).cell? ⟨b,o,none⟩)∧w.heap.size+1≤w'.heap.size :=
   ⟨fun b o hlt=>hb.cell (p:=⟨b,o,none⟩) (by simpa using hlt),by simpa using hb.size⟩
  clear hb;go_wp2
  all_goals go_ret
  all_goals refine ⟨aY ?_,hbb⟩
  all_goals (clear hbb hc hz HS HN)
  all_goals (first|rfl|(simp_all;done)|(simp_all;omega)|(rw [Bool.eq_iff_iff];simp_all;done)|(rw [Bool.eq_iff_iff];simp_all;omega))
theorem sC (r:Rs) (w:World):Calls prog 98 #[r.val] w (o9 w (.bool (mm r))):=by
 have HS:=Lib.hid (fun w=>vR r w);have HN:=Lib.hid (fun w=>j8 r.name w);unfold mm Rs.key;obtain ⟨b1,hb1⟩:∃b,cK r.name.toList=b:=⟨_,rfl⟩;obtain ⟨b2,hb2⟩:∃b,bc r=b:=⟨_,rfl⟩;rw [hb1] at HN ⊢;rw [hb2] at HS ⊢;clear hb1 hb2;obtain ⟨nm,k,u,h⟩:=r;unfold Rs.val at HS ⊢
 go_enter func98,ntmps98
 go_wp2_with fail
 refine (HN.out _).mono ?_;rintro e w' ⟨rfl,hw'⟩;obtain rfl:=hw'.symm;cases b1 with
 | false =>
  go_wp2
  go_ret
  exact ⟨aY (by simp),(Below.refl _ _).alloc (Nat.le_refl _) _⟩
 | true =>
  go_wp2_with fail
  refine (HS.out _).mono ?_;rintro e w' ⟨rfl,hb⟩;have hbb:=((Below.refl w.heap.size w).alloc (Nat.le_refl _) _).trans (hb.mono (by simp));obtain ⟨hc,hz⟩:(∀b o,b<w.heap.size+1→w'.cell? ⟨b,o,none⟩=(w.alloc (.cells #[.string nm,.int .i64 k,.int .i64 u,.int .i64 h] 55)).cell? ⟨b,o,none⟩)∧w.heap.size+1≤w'.heap.size :=
   ⟨fun b o hlt=>hb.cell (p:=⟨b,o,none⟩) (by simpa using hlt),by simpa using hb.size⟩
  clear hb;go_wp2
  all_goals go_ret
  all_goals refine ⟨aY ?_,hbb⟩
  all_goals (clear hbb hc hz HS HN)
  all_goals (first|rfl|(simp_all;done)|(simp_all;omega)|(rw [Bool.eq_iff_iff];simp_all;done)|(rw [Bool.eq_iff_iff];simp_all;omega))
structure Pr where
 site:Int
 inc:Int
 num:Int
 deriving DecidableEq
def jl (p:Pr):Bool:=decide (0≤p.site) && decide (p.site≤3) && (decide (1≤p.inc) && decide (p.inc≤99)) && (decide (1≤p.num) && decide (p.num≤999))
def nh (a b:Int):Int:=if a<b then -1 else if b<a then 1 else 0
def bE (p q:Pr):Int:=if nh p.site q.site≠0 then nh p.site q.site else if nh p.inc q.inc≠0 then nh p.inc q.inc else nh p.num q.num
def Ju:Pr:=⟨0,0,0⟩
def aS (n:Int):Int:=if n<0∨1073741824≤n then 1 else n+1
theorem mD (a b:Int):(a<b∧nh a b = -1)∨(a=b∧nh a b=0)∨(b<a∧nh a b=1):=by
 unfold nh;split
 ·exact Or.inl ⟨by assumption,rfl⟩
 ·split
  ·exact Or.inr (Or.inr ⟨by assumption,rfl⟩)
  ·exact Or.inr (Or.inl ⟨by omega,rfl⟩)
def fT (p q:Pr):Prop:=p.site<q.site∨p.site=q.site∧(p.inc<q.inc∨p.inc=q.inc∧p.num<q.num)
theorem dd (p q:Pr):(fT p q∧bE p q = -1)∨(p=q∧bE p q=0)∨(fT q p∧bE p q=1):=by
 unfold bE fT;rcases mD p.site q.site with ⟨h,e⟩|⟨h,e⟩|⟨h,e⟩ <;> rw [e]
 ·exact Or.inl ⟨Or.inl h,rfl⟩
 ·rw [if_neg (by decide)];rcases mD p.inc q.inc with ⟨h2,e⟩|⟨h2,e⟩|⟨h2,e⟩ <;> rw [e]
  ·exact Or.inl ⟨Or.inr ⟨h,Or.inl h2⟩,rfl⟩
  ·rw [if_neg (by decide)];rcases mD p.num q.num with ⟨h3,e⟩|⟨h3,e⟩|⟨h3,e⟩ <;> rw [e]
   ·exact Or.inl ⟨Or.inr ⟨h,Or.inr ⟨h2,h3⟩⟩,rfl⟩
   ·refine Or.inr (Or.inl ⟨?_,rfl⟩);cases p;cases q
    simp_all
   ·exact Or.inr (Or.inr ⟨Or.inr ⟨h.symm,Or.inr ⟨h2.symm,h3⟩⟩,rfl⟩)
  ·exact Or.inr (Or.inr ⟨Or.inr ⟨h.symm,Or.inl h2⟩,rfl⟩)
 ·exact Or.inr (Or.inr ⟨Or.inl h,rfl⟩)
theorem bH (p:Pr):¬fT p p:=by
 unfold fT;omega
theorem cL {p q r:Pr} (h1:fT p q) (h2:fT q r):fT p r:=by
 unfold fT at *
 omega
theorem lJ {p q:Pr} (h1:fT p q):¬fT q p:=fun h2=>bH p (cL h1 h2)
theorem lK (p q:Pr):bE p q=0↔p=q:=by
 rcases dd p q with ⟨h,e⟩|⟨h,e⟩|⟨h,e⟩ <;> rw [e]
 ·exact ⟨fun c=>absurd c (by decide),fun c=>absurd h (by rw [c];exact bH _)⟩
 ·exact ⟨fun _=>h,fun _=>rfl⟩
 ·exact ⟨fun c=>absurd c (by decide),fun c=>absurd h (by rw [c];exact bH _)⟩
def Pr.val (p:Pr):Value:=.agg #[.int .i64 p.site,.int .i64 p.inc,.int .i64 p.num]
theorem vS (n a b:Int) (w:World):Calls prog 107 #[.int .i64 n,.int .i64 a,.int .i64 b] w (vO w (.bool (decide (a≤n) && decide (n≤b)))):=by
 go_enter func107,ntmps107
 go_wp2
 all_goals go_ret
 all_goals refine ⟨aY ?_,rfl⟩
 all_goals (first|rfl|(simp_all;done)|(simp_all;omega)|(rw [Bool.eq_iff_iff];simp_all;done)|(rw [Bool.eq_iff_iff];simp_all;omega))
theorem og (a b:Int) (w:World):Calls prog 77 #[.int .i64 a,.int .i64 b] w (vO w (.int .i64 (nh a b))):=by
 unfold nh
 go_enter func77,ntmps77
 go_wp2
 all_goals go_ret
 all_goals refine ⟨lI ?_,rfl⟩
 all_goals first|(simp_all;done)|(repeat (first|rw [if_pos (by omega)]|rw [if_neg (by omega)]))
theorem yd (p:Pr) (w:World):Calls prog 62 #[p.val] w (o9 w (.bool (jl p))):=by
 obtain ⟨a,b,c⟩:=p;unfold jl Pr.val
 go_enter func62,ntmps62
 go_wp2
 all_goals go_ret
 all_goals refine ⟨aY ?_,(Below.refl _ _).alloc (Nat.le_refl _) _⟩
 all_goals (first|rfl|(simp_all;done)|(simp_all;omega)|(rw [Bool.eq_iff_iff];simp_all;done)|(rw [Bool.eq_iff_iff];simp_all;omega))
theorem AH (p:Pr) (w:World):Calls prog 48 #[p.val] w (o9 w (.bool (jl p))):=by
 have H1:=Lib.hid (fun n a b w=>vS n a b w);obtain ⟨a,b,c⟩:=p;unfold jl Pr.val
 go_enter func48,ntmps48
 go_wp2_with (first|(refine (H1.out _ _ _ _).mono ?_;rintro e w' ⟨rfl,rfl⟩)|fail)
 all_goals go_ret
 all_goals refine ⟨aY ?_,(Below.refl _ _).alloc (Nat.le_refl _) _⟩
 all_goals (first|rfl|(simp_all;done)|(simp_all;omega)|(rw [Bool.eq_iff_iff];simp_all;done)|(rw [Bool.eq_iff_iff];simp_all;omega))
section
variable {α:Type} {E:El α} {w w':World} {l:List α} {v:Value} {base:Nat} {e:TypeId}
theorem OwnRows.addr (h:OwnRows E e w base v l) (h0:0<l.length) :
  ∃g cap,v = .slice (some ⟨g,0,none⟩) l.length cap∧base≤g∧g<w.heap.size∧l.length≤cap∧cap≤maxLen∧(∀j,w.frozen? ⟨g,j,none⟩=false)∧RowsAt E w (Lo w.heap.size) (some ⟨g,0,none⟩) l:=by
 obtain ⟨A,cap,hA,hr,hc,hm⟩:=h.form;have h2:=h;obtain ⟨_,xs,h1,_⟩:=h2;rcases h1.2 with ⟨hv,hn⟩|⟨g,cap',cur,hv,hg,hh,hnc,hcm,hcs,ht⟩
 ·omega
 ·rw [hv] at hA;injection hA with e1 e2 e3;subst e1;subst e3;exact ⟨g,cap',hv,hg,(Array.getElem?_eq_some_iff.1 hh).1,hc,hm,fun j=>frozen_of_row w g j cur e hh,hr⟩
theorem OwnRows.form2 (h:OwnRows E e w base v l) :
  ∃A cap,v = .slice A l.length cap∧(A=none→l.length=0∧cap=0)∧RowsAt E w (Lo w.heap.size) A l∧l.length≤cap∧cap≤maxLen:=by
 obtain ⟨A,cap,hA,hr,hc,hm⟩:=h.form;refine ⟨A,cap,hA,fun hn=>?_,hr,hc,hm⟩;subst hn;obtain ⟨_,xs,h1,_⟩:=h;rcases h1.2 with ⟨hv,hn⟩|⟨g,cap',cur,hv,_⟩
 ·rw [hv] at hA;injection hA with _ e2 e3;exact ⟨e2.symm,e3.symm⟩
 ·rw [hv] at hA;injection hA with e1;cases e1
end
theorem Below.al {a w:World} (h:Below a.heap.size a w) (o:Obj):Below a.heap.size a (w.alloc o):=h.alloc h.size o
theorem Below.tr {a b c:World} (h:Below a.heap.size a b) (k:Below b.heap.size b c):Below a.heap.size a c:=h.trans (k.mono h.size)
theorem Below.st {a w:World} {p:Addr} {u:Value} (h:Below a.heap.size a w) (hp:a.heap.size≤p.block):Below a.heap.size a (w.setCell p u):=h.setCell hp u
theorem pe {W w1:World} (hb:Below W.heap.size W w1):(∀b o,b<W.heap.size→w1.cell? ⟨b,o,none⟩=W.cell? ⟨b,o,none⟩)∧(∀b o,b<W.heap.size→w1.frozen? ⟨b,o,none⟩=W.frozen? ⟨b,o,none⟩) :=
 ⟨fun b o h=>hb.cell (p:=⟨b,o,none⟩) h,fun b o h=>hb.frozen (p:=⟨b,o,none⟩) h⟩
def Pr.cells (p:Pr):List Value:=[.int .i64 p.site,.int .i64 p.inc,.int .i64 p.num]
def Pr.Fit (p:Pr):Prop:=Hy p.site∧Hy p.inc∧Hy p.num
def fK:El Pr:=El.plain 3 (by decide) Pr.cells (fun _=>rfl) (by intro x u hu;simp [Pr.cells] at hu;rcases hu with rfl|rfl|rfl <;> rfl)
theorem ka {w:World} {S:Nat→Prop} {A:Option Addr} {l:List Pr} {i:Nat} {a b c:Int} (h:RowsAt fK w S A l) (hi:i<l.length) (hx:l[i]=⟨a,b,c⟩) :
  ∃k off,A=some ⟨k,off,none⟩∧S k∧w.cell? ⟨k,off+i*3,none⟩=some (.int .i64 a)∧w.cell? ⟨k,off+i*3+1,none⟩=some (.int .i64 b)∧w.cell? ⟨k,off+i*3+2,none⟩=some (.int .i64 c):=by
 obtain ⟨k,off,cs,hA,hS,hc,hd⟩:=h.getx hi hx;have hc':cs=[.int .i64 a,.int .i64 b,.int .i64 c]:=hc;subst hc';exact ⟨k,off,hA,hS,hd 0 (show 0<3 by decide),hd 1 (show 1<3 by decide),hd 2 (show 2<3 by decide)⟩
theorem KE:ElTB prog fK 75 35 24:=ElTB.mk' underlying75 (.agg #[.int .i64 0,.int .i64 0,.int .i64 0]) 3 24 (by kernel_rfl) rfl rfl
theorem E8 (a b:Pr) (w:World):(Op.equalIn 10000 35 a.val b.val).run prog w = .ok (decide (a=b)) w:=by
 have hS:prog.underlying 35=some (.struct (prog.fieldsOf 35)):=by kernel_rfl
 have hp:prog.stoodInHeld 35=false:=by kernel_rfl
 unfold Pr.val;rw [show (10000:Nat)=9999+1 from rfl,run_equalIn_agg w 9999 35 _ _ hS hp];have u3:=underlying3;simp only [Program.fieldsOf,underlying35];go_simp
 obtain ⟨a1,a2,a3⟩:=a;obtain ⟨b1,b2,b3⟩:=b;by_cases h1:a1=b1 <;> by_cases h2:a2=b2 <;> by_cases h3:a3=b3 <;> simp [h1,h2,h3]
structure Cmps (t:TypeId) (x y:Array Value) (r:Bool):Prop where
 neq:∀w,(binOp .neq t (.agg x) (.agg y)).run prog w = .ok (.bool (!r)) w
 eql:∀w,(binOp .eql t (.agg x) (.agg y)).run prog w = .ok (.bool r) w
 guard:∀(op:BinOp) (a b:Operand) (xs ys:Array Value) w,(eqGuard op t a b (.agg xs) (.agg ys)).run prog w = .ok () w
theorem Cmps.mk' {t:TypeId} {x y:Array Value} {r:Bool} (h:∀w,(Op.equalIn 10000 t (.agg x) (.agg y)).run prog w = .ok r w) (hg:∀(op:BinOp) (a b:Operand) (xs ys:Array Value) w,(eqGuard op t a b (.agg xs) (.agg ys)).run prog w = .ok () w):Cmps t x y r where
 neq:=fun w=>(run_neq_struct (P:=prog) w t x y).trans (by rw [h w];rfl)
 eql:=fun w=>(run_eql_struct (P:=prog) w t x y).trans (by rw [h w];rfl)
 guard:=hg
theorem G5 (a b c x y z:Int):Cmps 35 #[.int .i64 a,.int .i64 b,.int .i64 c] #[.int .i64 x,.int .i64 y,.int .i64 z] (decide ((⟨a,b,c⟩:Pr)=⟨x,y,z⟩)):=Cmps.mk' (E8 ⟨a,b,c⟩ ⟨x,y,z⟩) (fun op a b xs ys w=>run_eqGuard_agg w op 35 a b xs ys (by kernel_rfl))
structure Am where
 mode:Int
 units:Int
deriving DecidableEq
def Am.cells (a:Am):List Value:=[.int .i64 a.mode,.int .i64 a.units]
def Am.val (a:Am):Value:=.agg #[.int .i64 a.mode,.int .i64 a.units]
def Am.zero:Am:=⟨0,0⟩
structure Tm where
 name:ByteArray
 am:Am
deriving DecidableEq
def Tm.cells (a:Tm):List Value:=[.string a.name,.int .i64 a.am.mode,.int .i64 a.am.units]
def Tm.val (a:Tm):Value:=.agg #[.string a.name,.int .i64 a.am.mode,.int .i64 a.am.units]
structure Ho where
 proc:Pr
 am:Am
deriving DecidableEq
def Ho.cells (a:Ho):List Value:=[.int .i64 a.proc.site,.int .i64 a.proc.inc,.int .i64 a.proc.num,.int .i64 a.am.mode,.int .i64 a.am.units]
structure Wt where
 proc:Pr
 am:Am
 prio:Int
 passed:Int
deriving DecidableEq
def Wt.cells (a:Wt):List Value:=[.int .i64 a.proc.site,.int .i64 a.proc.inc,.int .i64 a.proc.num,.int .i64 a.am.mode,.int .i64 a.am.units,.int .i64 a.prio,.int .i64 a.passed]
def zt:El Am:=El.plain 2 (by decide) Am.cells (fun _=>rfl) (by intro x u hu;simp [Am.cells] at hu;rcases hu with rfl|rfl <;> rfl)
def cw:El Tm:=El.plain 3 (by decide) Tm.cells (fun _=>rfl) (by intro x u hu;simp [Tm.cells] at hu;rcases hu with rfl|rfl|rfl <;> rfl)
def fV:El Ho:=El.plain 5 (by decide) Ho.cells (fun _=>rfl) (by intro x u hu;simp [Ho.cells] at hu;rcases hu with rfl|rfl|rfl|rfl|rfl <;> rfl)
def eM:El Wt:=El.plain 7 (by decide) Wt.cells (fun _=>rfl) (by intro x u hu;simp [Wt.cells] at hu;rcases hu with rfl|rfl|rfl|rfl|rfl|rfl|rfl <;> rfl)
section
variable {w:World} {S:Nat→Prop} {A:Option Addr} {i:Nat}
theorem Cc {l:List Am} {m u:Int} (h:RowsAt zt w S A l) (hi:i<l.length) (hx:l[i]=⟨m,u⟩) :
  ∃k off,A=some ⟨k,off,none⟩∧S k∧w.cell? ⟨k,off+i*2,none⟩=some (.int .i64 m)∧w.cell? ⟨k,off+i*2+1,none⟩=some (.int .i64 u):=by
 obtain ⟨k,off,cs,hA,hS,hc,hd⟩:=h.getx hi hx;obtain rfl:cs=[.int .i64 m,.int .i64 u]:=hc;exact ⟨k,off,hA,hS,hd 0 (show 0<2 by decide),hd 1 (show 1<2 by decide)⟩
theorem Cd {l:List Tm} {n:ByteArray} {m u:Int} (h:RowsAt cw w S A l) (hi:i<l.length) (hx:l[i]=⟨n,⟨m,u⟩⟩) :
  ∃k off,A=some ⟨k,off,none⟩∧S k∧w.cell? ⟨k,off+i*3,none⟩=some (.string n)∧w.cell? ⟨k,off+i*3+1,none⟩=some (.int .i64 m)∧w.cell? ⟨k,off+i*3+2,none⟩=some (.int .i64 u):=by
 obtain ⟨k,off,cs,hA,hS,hc,hd⟩:=h.getx hi hx;obtain rfl:cs=[.string n,.int .i64 m,.int .i64 u]:=hc;exact ⟨k,off,hA,hS,hd 0 (show 0<3 by decide),hd 1 (show 1<3 by decide),hd 2 (show 2<3 by decide)⟩
end
theorem KF:ElTB prog cw 103 39 32:=ElTB.mk' underlying103 (.agg #[.string { data:=#[] },.int .i64 0,.int .i64 0]) 3 32 (by kernel_rfl) rfl rfl
theorem KH:ElTB prog fV 78 197 40:=ElTB.mk' underlying78 (.agg #[.int .i64 0,.int .i64 0,.int .i64 0,.int .i64 0,.int .i64 0]) 5 40 (by kernel_rfl) rfl rfl
theorem Hz:ElTB prog eM 79 171 56:=ElTB.mk' underlying79 (.agg #[.int .i64 0,.int .i64 0,.int .i64 0,.int .i64 0,.int .i64 0,.int .i64 0,.int .i64 0]) 7 56 (by kernel_rfl) rfl rfl
theorem E9 (a b:Am) (w:World):(Op.equalIn 10000 37 a.val b.val).run prog w = .ok (decide (a=b)) w:=by
 have hS:prog.underlying 37=some (.struct (prog.fieldsOf 37)):=by kernel_rfl
 have hp:prog.stoodInHeld 37=false:=by kernel_rfl
 unfold Am.val;rw [show (10000:Nat)=9999+1 from rfl,run_equalIn_agg w 9999 37 _ _ hS hp];have u3:=underlying3;simp only [Program.fieldsOf,underlying37];go_simp
 obtain ⟨a1,a2⟩:=a;obtain ⟨b1,b2⟩:=b;by_cases h1:a1=b1 <;> by_cases h2:a2=b2 <;> simp [h1,h2]
theorem Jv (a b x y:Int):Cmps 37 #[.int .i64 a,.int .i64 b] #[.int .i64 x,.int .i64 y] (decide ((⟨a,b⟩:Am)=⟨x,y⟩)):=Cmps.mk' (E9 ⟨a,b⟩ ⟨x,y⟩) (fun op a b xs ys w=>run_eqGuard_agg w op 37 a b xs ys (by kernel_rfl))
def bY (m:Int):Bool:=decide (1≤m) && decide (m≤5)
def dw (a b:Int):Bool:=bY a && bY b && (decide (a=b) || decide (a=5) || decide (b=1) || decide (a=4) && !decide (b=5))
def ke (a b:Int):Bool:=bY a && bY b && !decide (a=5) && !decide (b=5) && (decide (a=1) || decide (b=1) || decide (a=b) && !decide (a=4))
theorem cY {a:Int} (h:bY a=true):a=1∨a=2∨a=3∨a=4∨a=5:=by
 unfold bY at h;simp at h;omega
theorem eV (m:Int) (w:World):Calls prog 115 #[.int .i64 m] w (vO w (.bool (bY m))):=by
 go_enter func115,ntmps115
 go_wp2
 all_goals go_ret
 all_goals refine ⟨aY ?_,rfl⟩
 all_goals unfold bY
 all_goals (first|rfl|(simp_all;done)|(simp_all;omega)|(rw [Bool.eq_iff_iff];simp_all;done)|(rw [Bool.eq_iff_iff];simp_all;omega))
theorem ux {fn:Func} {p:Tmp} {ty:TypeId} (h:fn.results = #[.cell p ty]) (tmps:Array Value) (P:Program) (w:World):(results fn tmps).run P w=((asAddr (tmps.getD p undef)).run P w).andThen fun a w₁=>(loadVar ty a).run P w₁:=by
 simp only [results,h];simp [Sem.run_bind,Result.andThen]
def HA (m:Int):Value:=.agg #[.bool false,.bool (bY m),.bool (decide (m=5) || decide (m=4) || decide (m=2)),.bool (decide (m=5) || decide (m=4) || decide (m=3)),.bool (decide (m=5) || decide (m=4)),.bool (decide (m=5))]
theorem vT (m:Int) (hm:bY m=true) (w:World):Calls prog 240 #[.int .i64 m] w (o9 w (HA m)):=by
 rcases cY hm with rfl|rfl|rfl|rfl|rfl;all_goals
  clear hm
  go_enter func240,ntmps240
  go_wp2
  (try simp only [Exit.inBlock,Exit.then])
  refine bodyPost_ret_by (v:=_) ?_ rfl ⟨rfl,by exact ce⟩;rw [ux rfl];go_simp
  rfl
theorem AI {a b:Int} (ha:bY a=true) (hb:bY b=true) (w:World):(Instr.index 235 (HA a) (.int .i64 b)).run prog w = .ok (.bool (dw a b)) w:=by
 rcases cY ha with rfl|rfl|rfl|rfl|rfl <;> rcases cY hb with rfl|rfl|rfl|rfl|rfl <;> kernel_rfl
theorem qi (a b:Int) (w:World):Calls prog 181 #[.int .i64 a,.int .i64 b] w (o9 w (.bool (dw a b))):=by
 have H:=Lib.hid (fun m W=>eV m W);have HI:=Lib.hid (fun ha hb W=>AI (a:=a) (b:=b) ha hb W);have HU:Hid ((bY a && bY b)=false→dw a b=false):=Lib.hid (fun h=>by unfold dw;rw [h];rfl);generalize dw a b=q at *
 go_enter func181,ntmps181
 go_wp2_with fail
 repeat' (first|(go_at_call 115;refine (H.out _ _).mono ?_;rintro e wa1 ⟨rfl,hwa1⟩;obtain rfl:=hwa1.symm;clear hwa1;go_wp2_with fail)|(go_at_call 240;refine (vT a (by assumption) _).mono ?_;rintro e w2 ⟨rfl,hb2⟩;have k:=HI.out (by assumption) (by assumption);generalize HA a=v at *;have HB2:=Lib.hid hb2;clear hb2;go_wp2_with fail)|(go_ret;refine ⟨aY ?_,by exact ce⟩;first|rfl|(rw [HU.out (by simp_all)])))
structure Tog (w:World):Prop where
 at_:∀i j:Nat,i<5→j<5→w.cell? ⟨1,i*5+j,none⟩=some (.bool (ke (i+1:Nat) (j+1:Nat)))
theorem Tog.below {w w':World} (h:Tog w) (hb:Below w.heap.size w w'):Tog w' where
 at_:=fun i j hi hj=>(hb.cell (p:=⟨1,i*5+j,none⟩) (World.block_lt_of_cell? w _ (h.at_ i j hi hj))).trans (h.at_ i j hi hj)
theorem mE (a b:Int) (w:World) (hT:Tog w):Calls prog 327 #[.int .i64 a,.int .i64 b] w (vO w (.bool (ke a b))):=by
 have H:=Lib.hid (fun m W=>eV m W);by_cases hab:bY a=true∧bY b=true
 ·obtain ⟨ha,hb⟩:=hab;obtain ⟨i,hi,ei⟩:∃i:Nat,i<5∧a=((i+1:Nat):Int):=⟨(a-1).toNat,by have:=cY ha;omega,by have:=cY ha;omega⟩;obtain ⟨j,hj,ej⟩:∃i:Nat,i<5∧b=((i+1:Nat):Int):=⟨(b-1).toNat,by have:=cY hb;omega,by have:=cY hb;omega⟩;have hc:=hT.at_ i j hi hj;rw [←ei,←ej] at hc;have w1:IntKind.i64.wrap (a-1)=(i:Int):=by rw [IntWalk.i64_in _ (by omega)];omega
  have w2:IntKind.i64.wrap (b-1)=(j:Int):=by rw [IntWalk.i64_in _ (by omega)];omega
  have H1:Hid (∀m W,m=a∨m=b→Calls prog 115 #[.int .i64 m] W (vO W (.bool true))):=Lib.hid (fun m W h=>by rcases h with rfl|rfl;exact ha▸eV _ W;exact hb▸eV _ W);generalize ke a b=q at *
  clear ha hb H hT ei ej
  go_enter func327,ntmps327
  go_wp2_with fail
  repeat' (first|(go_at_call 115;refine (H1.out _ _ (by simp)).mono ?_;rintro e wa1 ⟨rfl,hwa1⟩;obtain rfl:=hwa1.symm;clear hwa1;go_wp2_with fail)|(go_ret;exact ⟨aY rfl,rfl⟩))
 ·have HF:Hid (ke a b=false):=Lib.hid (by unfold ke;simp only [Bool.and_eq_false_imp];intros;simp_all);have HN:=Lib.hid hab;clear hab hT
  go_enter func327,ntmps327
  go_wp2_with fail
  repeat' (first|(go_at_call 115;refine (H.out _ _).mono ?_;rintro e wa1 ⟨rfl,hwa1⟩;obtain rfl:=hwa1.symm;clear hwa1;go_wp2_with fail)|(go_ret;first|exact ⟨aY HF.out.symm,rfl⟩|(exact absurd ⟨by assumption,by assumption⟩ HN.out))|(exact absurd ⟨by assumption,by assumption⟩ HN.out))
section
variable {H:Type} {enc:TypeId×Value→H}
theorem ye {a:Assume} {C:Checked} {os:Os} {f:FuncId} {fn:Func} {s:ChangeSpec} {conds:List PathCond} {apart fresh handsOn again:Bool} {X:World→Array Value→Prop}
  (hX:∀(w w':World) (args:Array Value),w.heap=w'.heap→X w args→X w' args)
  (own:ownKnob C.prog.godebug=none) (started:os.Started) (noInit:C.prog.inits.idxOf? f=none) (hfn:C.prog.funcs[f]? = some fn)
  (witness:∃(w:World) (tape:Tape) (i:Input),w.os=os∧(w.forCall tape i).Shaped C.prog∧i.vars=[]∧Input.okWide C.prog (w.forCall tape i) .any w.heap.size f i∧
   ((s.pre enc C.prog fn conds apart (w.forCall tape i).memory i.args∧X (w.forCall tape i).memory i.args)∧sizedMet enc C.prog fn (OpenSpec.ofChange s) apart (w.forCall tape i).memory i.args)∧a.holds C.prog (lone (Frame.enter C.prog f i.args .normal) [] (w.forCall tape i)))
  (contract:∀(W:World) (base:Nat) (args:Array Value) (ds gs:List (DataW H)) (before:List MemPlace),
   (∀(j:Nat) t v,fn.params[j]? = some t→args[j]? = some v→Value.okWide C.prog W .any base t v)→
   DataW.Whole enc C.prog fn.params.toList s.vars apart W args.toList ds gs before→
   conds.all (PathCond.test C.prog ⟨fn.params.toList,ds,s.plain.varTypes C.prog,gs⟩)=true→
   (DataW.weightsEach C.prog (fn.params.toList++s.plain.varTypes C.prog) (ds++gs)).all (·≤reachBytes)=true→X W args→
   W.ShapedOpen C.prog→
   Calls C.prog f args W fun e W'=>∃v,e = .returned v∧s.post enc C.prog fn apart fresh handsOn again W args v W') :
  ReturnsInHanded a C os f .any (fun w args=>(s.pre enc C.prog fn conds apart w args∧X w args)∧sizedMet enc C.prog fn (OpenSpec.ofChange s) apart w args) (s.post enc C.prog fn apart fresh handsOn again):=by
 refine returnsInHanded_of_calls own started noInit witness ?_;intro w tape i _ hsh _ hok hpre _;obtain ⟨_,_,_,fn',hfn',_,_,_,_,hval⟩:=hok;have e:fn'=fn:=Option.some.inj (hfn'.symm.trans hfn);subst e;obtain ⟨⟨⟨ds,gs,before,hw,hc⟩,hx⟩,hz⟩:=hpre;have hw':=DataW.Whole.of_heap (w':=w.forCall tape i) (by rfl) hw;refine (contract (w.forCall tape i) w.heap.size i.args ds gs before hval hw' hc (hz.weights hw) (hX _ _ _ (by rfl) hx) hsh).mono fun e W' ⟨v,he,hp⟩=>?_;subst he;exact ChangeSpec.post_blind hp
end
section
open Go.WideShapes Go.ChangeShapes Go.Deep
section
variable {H:Type} {enc:TypeId×Value→H} {P:Program}
theorem sD {f:Func} {s:ChangeSpec} {apart fresh handsOn again:Bool} {W W':World} {args:Array Value} {v:Value} {ds gs:List (DataW H)} {before pa pv:List MemPlace}
  (hW:DataW.Whole enc P f.params.toList s.vars apart W args.toList ds gs before)
  (hres:∀(b:Nat) (sp:Nat→Bool) (hd:Bool),DataW.TrodAll enc P W' b sp hd f.resultTypes.toList (v.resultList f.resultTypes.size) (s.fn H (ds++gs)).results [])
  (hargs:∀sp:Nat→Bool,(∀p∈before,sp p.block=true)→DataW.TrodAll enc P W' 0 sp true f.params.toList args.toList (s.fn H (ds++gs)).args pa)
  (hvars:∀sp:Nat→Bool,(∀p∈before,sp p.block=true)→DataW.TrodVars enc P W' sp s.vars (s.fn H (ds++gs)).vars pv)
  (hps:before=pa++pv) (hb:Below W.heap.size W W')
  (hok:∀(j:Nat) (t:TypeId) (r:Value),f.resultTypes[j]? = some t→(v.resultList f.resultTypes.size)[j]? = some r→Value.okWide P W' .any 0 t r) :
  s.post enc P f apart fresh handsOn again W args v W':=by
 have hlt:∀p∈before,p.block<W.heap.size:=fun p hp=>hW.lt p hp;have hold:∀p∈before,(fun b=>decide (b<W.heap.size)) p.block=true:=fun p hp=>by simpa using hlt p hp
 refine ⟨ds,gs,before,[],pa,pv,hW,hres _ _ _,hargs _ hold,hvars _ hold,World.keptBut_mono (fun p hp=>⟨hp,?_⟩) (hb.frame (·∈before)),fun _=>?_⟩
 ·rw [hps,List.mem_append] at hp;exact Or.inr hp
 ·obtain ⟨_,_,_,_,_,hz,hn⟩:=hW;refine ⟨hok,_,_,([]++pa)++pv,⟨[]++pa,pv,trodAll_append (hargs _ (fun _ _=>rfl)) (hres _ _ _),hvars _ (fun _ _=>rfl),rfl,?_,?_⟩,?_⟩
  ·intro b off hp;have hin:MemPlace.cell b off∈before:=by rw [hps];simpa using hp
   rw [hb.frozen (hlt _ hin)];exact hz b off hin
  ·intro ha;have:=hn ha;rw [hps] at this;simpa using this
  ·intro p hp _;rw [hps];simpa using hp
end
theorem Tryz.own:ownKnob prog.godebug=none:=by kernel_rfl
theorem laidOut:laidOutB prog=true:=by kernel_rfl
end
section
open Go.ChangeShapes Go.WideShapes Go.ChangeAt Go.OpenShut
def ni:List (String×DataW Unit):=Rows.centralNewRow.laid
set_option maxRecDepth 100000
theorem AJ (os:Os) (args:Array Value):laidMetH prog ni ((World.laidAll prog os ni).forCall (fun _ _=>0) ⟨#[],args,[]⟩).memory:=by
 rw [Go.MakeChecks.laidMetH_plain _ _ _ (by kernel_rfl)];exact laidMet_laidAll _ (by kernel_rfl) (by kernel_rfl)
theorem kf {P:Program} {w:World}:∀{l:List (String×DataW Unit)} {ps:List MemPlace},DataW.LaidVars P w l ps→∀n d,(n,d)∈l→
  ∃g t cs fuel p,P.globalNamed n=some g∧(P.globals[g]?).map (·.type)=some t∧w.var? P n=some cs∧DataW.trod (fun _=>()) P w 0 (fun _=>true) false fuel t cs.toList=some (d,p)
 | [],_,_,_,_,hm=>by cases hm
 | (n',d') :: r,ps,h,n,d,hm=>by
  obtain ⟨g,t,cs,fuel,p,q,h1,h2,h3,h4,h5,_⟩:=h;rcases List.mem_cons.1 hm with e|e
  ·cases e
   exact ⟨g,t,cs,fuel,p,h1,h2,h3,h4⟩
  ·exact kf h5 n d e
theorem AK {P:Program} {w:World} {n:String} {g:Nat} {cs:Array Value} (hg:P.globalNamed n=some g) (h:w.var? P n=some cs) (i:Nat):w.cell? ⟨g,i,none⟩=cs[i]?:=by
 unfold World.var? at h;rw [hg] at h;simp only [Option.bind_some] at h;unfold World.cell?;rcases ho:w.heap[g]? with _|o
 ·rw [ho] at h;cases h
 ·rw [ho] at h;simp only at h ⊢;cases o <;> simp_all
section
variable {H:Type} {enc:TypeId×Value→H} {P:Program} {w:World} {base:Nat} {sp:Nat→Bool} {held:Bool} {fuel:Nat} {t e:TypeId} {n:Nat} {cs:List Value}
theorem Ce {bs:List Bool} {p:List MemPlace} (ht:P.underlying t=some (.array n e)) (he:P.underlying e=some .bool) (hc:P.cellsOf e=1) (h:DataW.trod enc P w base sp held fuel t cs=some (.agg (bs.map fun b=>.lit (.bool b)),p)):∀j (hj:j<bs.length),cs[j]? = some (.bool bs[j]):=by
 obtain ⟨xs,m,_,hx,hl,hn,hi⟩:=DataW.trod_array ht h;injection hx with hx _;injection hx with hx;intro j hj;have hlen:bs.length=xs.length:=by have:=congrArg List.length hx;simpa using this
 have h1:=hi j (by omega);rw [hc,Nat.mul_one,List.getElem?_eq_getElem (by omega)] at h1;obtain ⟨b,h2,h3⟩:=DataW.trod_bool he h1;have h4:(xs.map (·.1))[j]? = some (.lit (.bool b)):=by rw [List.getElem?_map,List.getElem?_eq_getElem (by omega),h3];rfl
 rw [←hx,List.getElem?_map,List.getElem?_eq_getElem hj] at h4;injection h4 with h4;injection h4 with h4;injection h4 with h4;have h5:(cs.drop j)[0]? = some (.bool b):=by
  have:=congrArg (·[0]?) h2;simpa [List.getElem?_take] using this
 rw [List.getElem?_drop,Nat.add_zero] at h5;rw [h5,h4]
theorem Cf {bs:List (List Bool)} {p:List MemPlace} {t2:TypeId} {k:Nat} (ht:P.underlying t2=some (.array k t)) (ht2:P.underlying t=some (.array n e)) (he:P.underlying e=some .bool) (hc:P.cellsOf e=1) (hn5:P.cellsOf t=n) (hbs:∀r∈bs,r.length=n)
  (h:DataW.trod enc P w base sp held fuel t2 cs=some (.agg (bs.map fun r=>.agg (r.map fun b=>.lit (.bool b))),p)):∀i j (hi:i<bs.length) (hj:j<bs[i].length),cs[i*n+j]? = some (.bool bs[i][j]):=by
 obtain ⟨xs,m,_,hx,hl,hn,hi⟩:=DataW.trod_array ht h;injection hx with hx _;injection hx with hx;intro i j hil hj;have hlen:bs.length=xs.length:=by have:=congrArg List.length hx;simpa using this
 have h1:=hi i (by omega);rw [hn5,List.getElem?_eq_getElem (by omega)] at h1;have h4:(xs.map (·.1))[i]? = some xs[i].1:=by rw [List.getElem?_map,List.getElem?_eq_getElem (by omega)];rfl
 rw [←hx,List.getElem?_map,List.getElem?_eq_getElem hil] at h4;injection h4 with h4;have h5:DataW.trod enc P w base sp held m t ((cs.drop (i*n)).take n)=some (.agg (bs[i].map fun b=>.lit (.bool b)),xs[i].2):=by rw [h1];exact congrArg some (Prod.ext h4.symm rfl)
 have h6:=Ce ht2 he hc h5 j hj;have h7:j<n:=by have:=hbs _ (List.getElem_mem hil);omega
 rw [List.getElem?_take,if_pos h7,List.getElem?_drop] at h6;exact h6
end
theorem HD {W:World} (h:laidMetH prog ni W):Tog W:=by
 rw [Go.MakeChecks.laidMetH_plain _ _ _ (by kernel_rfl)] at h;obtain ⟨_,hv,_⟩:=h;obtain ⟨g',t',cs,fuel,p,h1,h2,h3,h4⟩:=kf hv "clusterlocks/mode.together" Rows.laid_clusterlocks_mode_together (by simp [ni,Rows.centralNewRow]);have hg:prog.globalNamed "clusterlocks/mode.together" = some 1:=by kernel_rfl
 have ht:(prog.globals[1]?).map (·.type)=some 301:=by kernel_rfl
 obtain rfl:=Option.some.inj (hg.symm.trans h1);obtain rfl:=Option.some.inj (ht.symm.trans h2);have h5:=Cf (bs:=[[true,true,true,true,false],[true,true,false,false,false],[true,false,true,false,false],[true,false,false,false,false],[false,false,false,false,false]]) (k:=5) (n:=5) (e:=4) (t:=300) underlying301 underlying300 underlying4 (by kernel_rfl) (by kernel_rfl) (by decide) h4;refine ⟨fun i j hi hj=>?_⟩;rw [AK hg h3,←Array.getElem?_toList]
 match i,hi,j,hj with
 | 0,_,0,_=>exact h5 0 0 (by decide) (by decide)
 | 0,_,1,_=>exact h5 0 1 (by decide) (by decide)
 | 0,_,2,_=>exact h5 0 2 (by decide) (by decide)
 | 0,_,3,_=>exact h5 0 3 (by decide) (by decide)
 | 0,_,4,_=>exact h5 0 4 (by decide) (by decide)
 | 1,_,0,_=>exact h5 1 0 (by decide) (by decide)
 | 1,_,1,_=>exact h5 1 1 (by decide) (by decide)
 | 1,_,2,_=>exact h5 1 2 (by decide) (by decide)
 | 1,_,3,_=>exact h5 1 3 (by decide) (by decide)
 | 1,_,4,_=>exact h5 1 4 (by decide) (by decide)
 | 2,_,0,_=>exact h5 2 0 (by decide) (by decide)
 | 2,_,1,_=>exact h5 2 1 (by decide) (by decide)
 | 2,_,2,_=>exact h5 2 2 (by decide) (by decide)
 | 2,_,3,_=>exact h5 2 3 (by decide) (by decide)
 | 2,_,4,_=>exact h5 2 4 (by decide) (by decide)
 | 3,_,0,_=>exact h5 3 0 (by decide) (by decide)
 | 3,_,1,_=>exact h5 3 1 (by decide) (by decide)
 | 3,_,2,_=>exact h5 3 2 (by decide) (by decide)
 | 3,_,3,_=>exact h5 3 3 (by decide) (by decide)
 | 3,_,4,_=>exact h5 3 4 (by decide) (by decide)
 | 4,_,0,_=>exact h5 4 0 (by decide) (by decide)
 | 4,_,1,_=>exact h5 4 1 (by decide) (by decide)
 | 4,_,2,_=>exact h5 4 2 (by decide) (by decide)
 | 4,_,3,_=>exact h5 4 3 (by decide) (by decide)
 | 4,_,4,_=>exact h5 4 4 (by decide) (by decide)
theorem Fa {W:World} (h:laidMetH prog ni W) (_:W.ShapedOpen prog):Tog W:=HD h
end
section
open Go.WideShapes Go.ChangeShapes Go.Deep Go.Joins
theorem nj:Opens prog fK 35 Pr.Fit:=by
 intro H enc w base spare held fuel cs x h;obtain ⟨y0,y1,y2,n,_,hl,h0,h1,h2⟩:=trod_struct3 underlying35 h;have hl3:cs.length=3:=hl.trans (by kernel_rfl)
 match cs,hl3 with
 | [c0,c1,c2],_ =>
  have e1:prog.cellsOf 3=1:=by kernel_rfl
  obtain ⟨a,g0,w0⟩:=bw underlying3 h0;obtain ⟨b,g1,w1⟩:=bw underlying3 h1;obtain ⟨c,g2,w2⟩:=bw underlying3 h2;refine ⟨⟨a,b,c⟩,?_,w0,w1,w2⟩;have g0':([c0,c1,c2].drop 0).take (prog.cellsOf 3)=[.int .i64 a]:=g0;have g1':([c0,c1,c2].drop 1).take (prog.cellsOf 3)=[.int .i64 b]:=g1;have g2':([c0,c1,c2].drop 2).take (prog.cellsOf 3)=[.int .i64 c]:=g2;rw [e1] at g0' g1' g2';simp at g0' g1' g2';show [c0,c1,c2]=[.int .i64 a,.int .i64 b,.int .i64 c];rw [g0',g1',g2']
section
variable {H:Type} {enc:TypeId×Value→H} {w:World} {base:Nat} {spare:Nat→Bool} {held:Bool}
end
end
section
open Go.WideShapes Go.ChangeShapes Go.Deep Go.Joins
theorem AL:Opens prog eT 55 Rs.Fit:=by
 intro H enc w base spare held fuel cs x h;obtain ⟨y0,y1,y2,y3,n,_,hl,h0,h1,h2,h3⟩:=trod_struct4 underlying55 h;have hl4:cs.length=4:=hl.trans (by kernel_rfl)
 match cs,hl4 with
 | [c0,c1,c2,c3],_ =>
  have e0:prog.cellsOf 9=1:=by kernel_rfl
  have e1:prog.cellsOf 3=1:=by kernel_rfl
  obtain ⟨s,g0,w0⟩:=lH underlying9 h0;obtain ⟨k,g1,w1⟩:=bw underlying3 h1;obtain ⟨u,g2,w2⟩:=bw underlying3 h2;obtain ⟨hm,g3,w3⟩:=bw underlying3 h3;refine ⟨⟨s,k,u,hm⟩,?_,w0,w1,w2,w3⟩;have g0':([c0,c1,c2,c3].drop 0).take (prog.cellsOf 9)=[.string s]:=g0;have g1':([c0,c1,c2,c3].drop 1).take (prog.cellsOf 3)=[.int .i64 k]:=g1;have g2':([c0,c1,c2,c3].drop 2).take (prog.cellsOf 3)=[.int .i64 u]:=g2;have g3':([c0,c1,c2,c3].drop 3).take (prog.cellsOf 3)=[.int .i64 hm]:=g3;rw [e0] at g0';rw [e1] at g1' g2' g3';simp at g0' g1' g2' g3';show [c0,c1,c2,c3]=[.string s,.int .i64 k,.int .i64 u,.int .i64 hm];rw [g0',g1',g2',g3']
section
variable {H:Type} {enc:TypeId×Value→H} {w:World} {base:Nat} {spare:Nat→Bool} {held:Bool}
end
end
end Go.Proofs.YtjndcdcbjidocaaGreatDoor
