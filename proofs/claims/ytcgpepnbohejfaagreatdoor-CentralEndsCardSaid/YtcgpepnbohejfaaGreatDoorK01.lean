/- Part 1 of 56 of the proof of both_hold (no condition). -/
import Derived.Test.YtcgpepnbohejfaaGreatDoorProg
import Derived.WalkKit
import Derived.Lib.Hide
import Derived.WalkLawsBesides
import Derived.WalkSpells
import Derived.Deep.QuietTactic
import Derived.BigQuiet
import Derived.Deep.LoopGhost
import Derived.Maps.AppendAt
import Derived.Deep.Slices
import Derived.Deep.Fields
import Derived.ChangeSame
import Derived.OpenShut
import Derived.Laws.OwnMore
import Derived.StillTail
set_option linter.unusedVariables false
set_option linter.unusedSimpArgs false
set_option maxRecDepth 100000
set_option maxHeartbeats 64000000
namespace Go.Proofs.YtcgpepnbohejfaaGreatDoor
open Go.RowKit Go.Proofs.Tryz
abbrev Bs:=List UInt8
def Fg (s:Bs):Bool:=s == [97,108,108] || s == [97,110,121] || s == [111,102] || s == [112,114,105,111] || s == [108,105,109,105,116]
theorem rh (s:ByteArray) (w:World):Calls prog 141 #[.string s] w fun e w'=>e = .returned (.bool (Fg s.toList))∧w'=w:=by
 go_enter func141,ntmps141
 go_wp2
 all_goals go_ret
 all_goals exact ⟨by simp_all [Fg],rfl⟩
theorem tE (s:ByteArray) (w:World):Calls prog 150 #[.string s] w fun e w'=>e = .returned (.bool (Fg s.toList))∧w'=w:=by
 go_enter func150,ntmps150
 go_wp2
 all_goals go_ret
 all_goals exact ⟨by simp_all [Fg],rfl⟩
def d9 (c:UInt8):Bool:=decide ((97:Int)≤c.toNat) && decide ((c.toNat:Int)≤122)
def gF (c:UInt8):Bool:=d9 c || decide ((48:Int)≤c.toNat) && decide ((c.toNat:Int)≤57) || decide ((c.toNat:Int)=95) || decide ((c.toNat:Int)=45)
theorem ou (c:UInt8) (w:World):Calls prog 140 #[.int .u8 c.toNat] w fun e w'=>e = .returned (.bool (d9 c))∧w'=w:=by
 unfold d9;generalize (c.toNat:Int)=n
 go_enter func140,ntmps140
 go_wp2
 all_goals go_ret
 all_goals exact ⟨by simp_all <;> omega,rfl⟩
theorem A9 (c:UInt8) (w:World):Calls prog 142 #[.int .u8 c.toNat] w fun e w'=>e = .returned (.bool (gF c))∧w'=w:=by
 have HL:=Lib.hid (ou c w);obtain ⟨b,hb⟩:∃b,d9 c=b:=⟨_,rfl⟩;have HB:=Lib.hid hb;have hp:gF c=(b || decide ((48:Int)≤c.toNat) && decide ((c.toNat:Int)≤57) || decide ((c.toNat:Int)=95) || decide ((c.toNat:Int)=45)):=by
  unfold gF;rw [hb]
 rw [hb] at HL;rw [hp];clear hp hb HB;generalize (c.toNat:Int)=n at *
 go_enter func142,ntmps142
 go_wp2_with fail
 refine HL.out.mono ?_;rintro e w' ⟨rfl,rfl⟩;cases b <;> go_wp2
 all_goals go_ret
 all_goals refine ⟨congrArg (fun b=>Ending.returned (.bool b)) (?_:(_:Bool)=_),rfl⟩
 all_goals first|rfl|(rw [Bool.eq_iff_iff];done)|(rw [Bool.eq_iff_iff];simp;done)|(rw [Bool.eq_iff_iff];simp;omega)
section
open Go.WideShapes Go.ChangeShapes Go.Deep
structure El (α:Type) where
 n:Nat
 pos:0<n
 rep:World→(Nat→Prop)→α→List Value→Prop
 len:∀{w:World} {S:Nat→Prop} {x:α} {cs:List Value},rep w S x cs→cs.length=n
 one:∀{w:World} {S:Nat→Prop} {x:α} {cs:List Value},rep w S x cs→∀u∈cs,u.oneCell'=true
 same:∀{w w':World} {S S':Nat→Prop} {x:α} {cs:List Value},rep w S x cs→(∀b,S b→w'.heap[b]? = w.heap[b]?)→(∀b,S b→S' b)→rep w' S' x cs
section
variable {α:Type} {E:El α} {w w':World} {S S':Nat→Prop} {A:Option Addr} {l l':List α} {xs ys:List Value} {v:Value} {base B:Nat} {e:TypeId}
def Reps (E:El α) (w:World) (S:Nat→Prop):List α→List Value→Prop
 | [],xs=>xs=[]
 | x :: l,xs=>∃cs rest,xs=cs++rest∧E.rep w S x cs∧Reps E w S l rest
theorem Reps.length:∀{l:List α} {xs:List Value},Reps E w S l xs→xs.length=l.length*E.n
 | [],xs,h=>by rw [show xs=[] from h];simp
 | x :: l,xs,h=>by
  obtain ⟨cs,rest,rfl,h1,h2⟩:=h;rw [List.length_append,E.len h1,Reps.length h2,List.length_cons,Nat.add_mul,Nat.one_mul,Nat.add_comm]
theorem Reps.one:∀{l:List α} {xs:List Value},Reps E w S l xs→∀u∈xs,u.oneCell'=true
 | [],xs,h=>by rw [show xs=[] from h];simp
 | x :: l,xs,h=>by
  obtain ⟨cs,rest,rfl,h1,h2⟩:=h;intro u hu;rcases List.mem_append.1 hu with hu|hu
  ·exact E.one h1 u hu
  ·exact Reps.one h2 u hu
theorem Reps.same:∀{l:List α} {xs:List Value},Reps E w S l xs→(∀b,S b→w'.heap[b]? = w.heap[b]?)→(∀b,S b→S' b)→Reps E w' S' l xs
 | [],xs,h,_,_=>h
 | x :: l,xs,h,hk,hS=>by
  obtain ⟨cs,rest,rfl,h1,h2⟩:=h;exact ⟨cs,rest,rfl,E.same h1 hk hS,Reps.same h2 hk hS⟩
theorem Reps.append:∀{l l':List α} {xs ys:List Value},Reps E w S l xs→Reps E w S l' ys→Reps E w S (l++l') (xs++ys)
 | [],l',xs,ys,h,k=>by rw [show xs=[] from h];exact k
 | x :: l,l',xs,ys,h,k=>by
  obtain ⟨cs,rest,rfl,h1,h2⟩:=h;exact ⟨cs,rest++ys,by simp,h1,Reps.append h2 k⟩
theorem Reps.single {x:α} {cs:List Value} (h:E.rep w S x cs):Reps E w S [x] cs:=⟨cs,[],by simp,h,rfl⟩
theorem Reps.drop:∀{l:List α} {xs:List Value} (k:Nat),Reps E w S l xs→Reps E w S (l.drop k) (xs.drop (k*E.n))
 | l,xs,0,h=>by simpa using h
 | [],xs,k+1,h=>by rw [show xs=[] from h];simp [Reps]
 | x :: l,xs,k+1,h=>by
  obtain ⟨cs,rest,rfl,h1,h2⟩:=h;have e1:(cs++rest).drop ((k+1)*E.n)=rest.drop (k*E.n):=by
   rw [List.drop_append,E.len h1,List.drop_eq_nil_of_le (by rw [E.len h1,Nat.add_mul];omega),Nat.add_mul,Nat.one_mul,Nat.add_sub_cancel,List.nil_append]
  rw [e1];exact Reps.drop k h2
theorem Reps.take:∀{l:List α} {xs:List Value} (k:Nat),Reps E w S l xs→Reps E w S (l.take k) (xs.take (k*E.n))
 | l,xs,0,h=>by simp [Reps]
 | [],xs,k+1,h=>by rw [show xs=[] from h];simp [Reps]
 | x :: l,xs,k+1,h=>by
  obtain ⟨cs,rest,rfl,h1,h2⟩:=h;have e1:(cs++rest).take ((k+1)*E.n)=cs++rest.take (k*E.n):=by
   rw [List.take_append,E.len h1,List.take_of_length_le (by rw [E.len h1,Nat.add_mul];omega),Nat.add_mul,Nat.one_mul,Nat.add_sub_cancel]
  rw [e1];exact ⟨cs,_,rfl,h1,Reps.take k h2⟩
theorem Reps.get:∀{l:List α} {xs:List Value},Reps E w S l xs→∀i (h:i<l.length),∃cs,E.rep w S l[i] cs∧∀j,j<E.n→xs[i*E.n+j]? = cs[j]?
 | [],xs,h,i,hi=>absurd hi (by simp)
 | x :: l,xs,h,0,hi=>by
  obtain ⟨cs,rest,rfl,h1,h2⟩:=h;exact ⟨cs,h1,fun j hj=>by rw [Nat.zero_mul,Nat.zero_add,List.getElem?_append_left (by rw [E.len h1];exact hj)]⟩
 | x :: l,xs,h,i+1,hi=>by
  obtain ⟨cs,rest,rfl,h1,h2⟩:=h;obtain ⟨cs',h3,h4⟩:=Reps.get h2 i (by simpa using hi);refine ⟨cs',by simpa using h3,fun j hj=>?_⟩;rw [←h4 j hj,List.getElem?_append_right (by rw [E.len h1,Nat.add_mul];omega),E.len h1,Nat.add_mul,Nat.one_mul];congr 1
  omega
theorem Reps.set:∀{l:List α} {xs:List Value} {i:Nat} {y:α} {cs:List Value},Reps E w S l xs→E.rep w S y cs→i<l.length→Reps E w S (l.set i y) (xs.take (i*E.n)++cs++xs.drop (i*E.n+E.n))
 | [],xs,i,y,cs,h,hy,hi=>absurd hi (by simp)
 | x :: l,xs,0,y,cs,h,hy,hi=>by
  obtain ⟨cs',rest,rfl,h1,h2⟩:=h;refine ⟨cs,rest,?_,hy,h2⟩;rw [Nat.zero_mul,List.take_zero,List.nil_append,Nat.zero_add,List.drop_append,E.len h1,List.drop_eq_nil_of_le (by rw [E.len h1];omega),Nat.sub_self,List.drop_zero,List.nil_append]
 | x :: l,xs,i+1,y,cs,h,hy,hi=>by
  obtain ⟨cs',rest,rfl,h1,h2⟩:=h;refine ⟨cs',rest.take (i*E.n)++cs++rest.drop (i*E.n+E.n),?_,h1,Reps.set h2 hy (by simpa using hi)⟩;have hl:=E.len h1;rw [List.take_append,List.drop_append,hl,List.take_of_length_le (by rw [hl,Nat.add_mul];omega),List.drop_eq_nil_of_le (by rw [hl,Nat.add_mul];omega)];rw [show (i+1)*E.n-E.n=i*E.n by rw [Nat.add_mul];omega,show (i+1)*E.n+E.n-E.n=i*E.n+E.n by rw [Nat.add_mul];omega];simp
def RowsAt (E:El α) (w:World) (S:Nat→Prop) (A:Option Addr) (l:List α):Prop :=
 ∃xs,Reps E w S l xs∧(0<l.length→∃b off,A=some ⟨b,off,none⟩∧S b∧∀j u,xs[j]? = some u→w.cell? ⟨b,off+j,none⟩=some u)
theorem RowsAt.nil (E:El α) (w:World) (S:Nat→Prop) (A:Option Addr):RowsAt E w S A []:=⟨[],rfl,fun h=>absurd h (by simp)⟩
theorem RowsAt.same (h:RowsAt E w S A l) (hk:∀b,S b→w'.heap[b]? = w.heap[b]?) (hS:∀b,S b→S' b):RowsAt E w' S' A l:=by
 obtain ⟨xs,h1,h2⟩:=h;refine ⟨xs,h1.same hk hS,fun h0=>?_⟩;obtain ⟨b,off,hA,hb,hc⟩:=h2 h0;exact ⟨b,off,hA,hS b hb,fun j u hu=>(World.cell?_of_block (w:=w) (a:=⟨b,off+j,none⟩) (hk b hb)).trans (hc j u hu)⟩
theorem RowsAt.mono (h:RowsAt E w S A l) (hS:∀b,S b→S' b):RowsAt E w S' A l:=h.same (fun _ _=>rfl) hS
theorem RowsAt.get (h:RowsAt E w S A l) {i:Nat} (hi:i<l.length) :
  ∃b off cs,A=some ⟨b,off,none⟩∧S b∧E.rep w S l[i] cs∧∀j,j<E.n→w.cell? ⟨b,off+i*E.n+j,none⟩=cs[j]?:=by
 obtain ⟨xs,h1,h2⟩:=h;obtain ⟨b,off,hA,hb,hc⟩:=h2 (by omega);obtain ⟨cs,h3,h4⟩:=h1.get i hi;refine ⟨b,off,cs,hA,hb,h3,fun j hj=>?_⟩;have hj2:j<cs.length:=by rw [E.len h3];exact hj
 have h5:=h4 j hj;rw [List.getElem?_eq_getElem hj2] at h5 ⊢;rw [Nat.add_assoc];exact hc _ _ h5
theorem RowsAt.getx (h:RowsAt E w S A l) {i:Nat} {x:α} (hi:i<l.length) (hx:l[i]=x) :
  ∃b off cs,A=some ⟨b,off,none⟩∧S b∧E.rep w S x cs∧∀j,j<E.n→w.cell? ⟨b,off+i*E.n+j,none⟩=cs[j]?:=by subst hx;exact h.get hi
theorem RowsAt.take (h:RowsAt E w S A l) (k:Nat):RowsAt E w S A (l.take k):=by
 obtain ⟨xs,h1,h2⟩:=h;refine ⟨_,h1.take k,fun h0=>?_⟩;obtain ⟨b,off,hA,hb,hc⟩:=h2 (by rw [List.length_take] at h0;omega);exact ⟨b,off,hA,hb,fun j u hu=>hc j u (by rw [List.getElem?_take] at hu;split at hu;exact hu;cases hu)⟩
theorem RowsAt.drop {b off:Nat} (h:RowsAt E w S (some ⟨b,off,none⟩) l) (k:Nat):RowsAt E w S (some ⟨b,off+k*E.n,none⟩) (l.drop k):=by
 obtain ⟨xs,h1,h2⟩:=h;refine ⟨_,h1.drop k,fun h0=>?_⟩;obtain ⟨b',off',hA,hb,hc⟩:=h2 (by rw [List.length_drop] at h0;omega);injection hA with hA;injection hA with e1 e2;subst e1;subst e2;exact ⟨b,_,rfl,hb,fun j u hu=>by rw [Nat.add_assoc];exact hc _ u (by rw [List.getElem?_drop] at hu;exact hu)⟩
def Lo (B:Nat) (b:Nat):Prop:=b<B
def Ba (w:World) (v:Value) (b:Nat):Prop:=b<w.heap.size∧v.ownBlock≠some b
theorem RowsAt.below {B B' B'':Nat} (h:RowsAt E w (Lo B) A l) (hb:Below B' w w') (hB:B≤B') (hB2:B≤B''):RowsAt E w' (Lo B'') A l :=
 h.same (fun b hl=>hb.block b (Nat.lt_of_lt_of_le hl hB)) fun _ hl=>Nat.lt_of_lt_of_le hl hB2
def OwnRows (E:El α) (e:TypeId) (w:World) (base:Nat) (v:Value) (l:List α):Prop :=
 base≤w.heap.size∧∃xs,w.ownsRow base e E.n v l.length xs∧Reps E w (Ba w v) l xs
theorem OwnRows.nil (E:El α) (e:TypeId) (w:World) (base:Nat) (hb:base≤w.heap.size):OwnRows E e w base (.slice none 0 0) []:=⟨hb,[],World.ownsRow_nil _ _ _ _,rfl⟩
theorem OwnRows.block (h:OwnRows E e w base v l):∀k,v.ownBlock=some k→base≤k∧k<w.heap.size:=by
 obtain ⟨_,xs,h1,_⟩:=h;exact h1.lt
theorem OwnRows.keep (h:OwnRows E e w base v l) (hk:∀b,b<w.heap.size→w'.heap[b]? = w.heap[b]?) (hs:w.heap.size≤w'.heap.size):OwnRows E e w' base v l:=by
 obtain ⟨h0,xs,⟨h1,h2⟩,h3⟩:=h;refine ⟨Nat.le_trans h0 hs,xs,⟨h1,?_⟩,h3.same (fun b hb=>hk b hb.1) fun b hb=>⟨Nat.lt_of_lt_of_le hb.1 hs,hb.2⟩⟩;rcases h2 with hn|⟨g,cap,cur,hv,hg,hh,rest⟩
 ·exact .inl hn
 ·exact .inr ⟨g,cap,cur,hv,hg,by rw [hk g (Array.getElem?_eq_some_iff.1 hh).1];exact hh,rest⟩
theorem OwnRows.below (h:OwnRows E e w base v l) (hb:Below B w w') (hB:w.heap.size≤B):OwnRows E e w' base v l:=h.keep (fun b hlt=>hb.block b (by omega)) hb.size
theorem OwnRows.older (h:OwnRows E e w base v l) {base':Nat} (hb:base'≤base):OwnRows E e w base' v l:=by
 obtain ⟨h0,xs,⟨h1,h2⟩,h3⟩:=h;refine ⟨Nat.le_trans hb h0,xs,⟨h1,?_⟩,h3⟩;rcases h2 with hn|⟨g,cap,cur,hv,hg,rest⟩
 ·exact .inl hn
 ·exact .inr ⟨g,cap,cur,hv,Nat.le_trans hb hg,rest⟩
theorem OwnRows.form (h:OwnRows E e w base v l) :
  ∃A cap,v = .slice A l.length cap∧RowsAt E w (Lo w.heap.size) A l∧l.length≤cap∧cap≤maxLen:=by
 obtain ⟨h0,xs,h1,h3⟩:=h;have hc:∀g,v.ownBlock=some g→∀j u,xs[j]? = some u→w.cell? ((⟨g,0,none⟩:Addr).add j)=some u:=fun g hg=>h1.cells hg;rcases h1.2 with ⟨hv,hn⟩|⟨g,cap,cur,hv,hg,hh,hnc,hcm,hcs,ht⟩
 ·have hl:l=[]:=List.eq_nil_of_length_eq_zero hn;subst hl;exact ⟨none,0,hv,RowsAt.nil _ _ _ _,by simp,by simp [maxLen]⟩
 ·refine ⟨_,cap,hv,⟨xs,h3.same (fun _ _=>rfl) (fun b hb=>hb.1),fun _=>⟨g,0,rfl,(Array.getElem?_eq_some_iff.1 hh).1,fun j u hu=>?_⟩⟩,hnc,hcm⟩;have:=hc g (by rw [hv];rfl) j u hu;have e:(⟨g,0,none⟩:Addr).add j=⟨g,0+j,none⟩:=by unfold Addr.add;split <;> simp_all
  rwa [e] at this
theorem OwnRows.oth (h:OwnRows E e w base v l) {b:Nat} (hb:b<base):Ba w v b:=⟨Nat.lt_of_lt_of_le hb h.1,fun e=>by have:=(h.block b e).1;omega⟩
def wX (w w':World) (v v':Value):Prop:=∀b,Ba w v b→w'.heap[b]? = w.heap[b]?∧v'.ownBlock≠some b
structure ElTB (P:Program) (E:El α) (t e:TypeId) (by_:Nat):Prop where
 under:P.underlying t=some (.slice e)
 info:∃i z,P.info? e=some i∧i.zero=some z∧i.size=E.n∧z.cells.size=E.n∧i.bytes=by_
theorem ElTB.mk' {P:Program} {t e:TypeId} (hu:P.underlying t=some (.slice e)) (z:Value) (n by_:Nat) (hi:(P.info? e).map (fun i=>(i.zero,i.size,i.bytes))=some (some z,n,by_)) (hn:n=E.n) (hz:z.cells.size=n):ElTB P E t e by_:=by
 obtain ⟨i,h,h0,h1,h2⟩:=info_parts hi;exact ⟨hu,i,z,h,h0,h1.trans hn,hz.trans hn,h2⟩
theorem li {P:Program} (w:World) (base:Nat) (t ty e:TypeId) (i:TypeInfo) (size:Nat) (ht:P.underlying t=some (.slice e)) (hi:P.info? e=some i)
  (v:Value) (n:Nat) (xs:List Value) (hown:w.ownsRow base e size v n xs) (c:Nat):(Builtin.append_ #[t,t] ty #[v,.slice none 0 c]).run P w = .ok v w:=by
 rcases hown.2 with ⟨rfl,rfl⟩|⟨g,cap,cur,rfl,_,_,hnc,_⟩
 ·simp [Builtin.append_,run_underlying ht,sizeOf,typeInfo,hi,Builtin.lenOf,Builtin.firstCells]
 ·simp [Builtin.append_,run_underlying ht,sizeOf,typeInfo,hi,Builtin.lenOf,Builtin.firstCells,hnc,storeCells]
theorem eC (b off j:Nat):(Addr.mk b off none).add j=⟨b,off+j,none⟩:=by
 unfold Addr.add;by_cases h:j=0 <;> simp [h]
theorem sb {P:Program} {t e:TypeId} {by_:Nat} (T:ElTB P E t e by_) (w:World) (ty:TypeId) (base:Nat) (v:Value) (l ns:List α) (A:Option Addr) (c:Nat) (hown:OwnRows E e w base v l)
  (xs:List Value) (hx:Reps E w (Ba w v) ns xs) (hA:0<ns.length→∃b off,A=some ⟨b,off,none⟩∧∀j u,xs[j]? = some u→w.cell? ⟨b,off+j,none⟩=some u) (hl:l.length+ns.length≤maxLen) (hlb:(l.length+ns.length)*by_≤140737488355328) :
  ∃v' w',(Builtin.append_ #[t,t] ty #[v,.slice A ns.length c]).run P w = .ok v' w'∧OwnRows E e w' base v' (l++ns)∧Below base w w'∧wX w w' v v':=by
 obtain ⟨i0,z,hi,hz0,hz1,hz2,hz3⟩:=T.info;obtain ⟨h0,us,h1,h3⟩:=hown;rcases A with _|ad
 ·have hn:ns=[]:=by
   cases ns with
   | nil=>rfl
   | cons a r=>obtain ⟨_,_,h,_⟩:=hA (by simp);cases h
  subst hn;exact ⟨v,w,li w base t ty e i0 E.n T.under hi v l.length _ h1 c,by simpa using ⟨h0,us,h1,h3⟩,Below.refl _ _,fun b hb=>⟨rfl,hb.2⟩⟩
 ·have hxl:=hx.length;have hcells:∀j u,xs[j]? = some u→w.cell? (ad.add j)=some u:=by
   intro j u hu;rcases Nat.eq_zero_or_pos ns.length with hz|hz
   ·rw [hz,Nat.zero_mul] at hxl;have:xs=[]:=List.eq_nil_of_length_eq_zero hxl;subst this;cases hu
   ·obtain ⟨b,off,h,hc⟩:=hA hz;injection h with h;subst h;rw [eC];exact hc j u hu
  obtain ⟨v',w',hrun,k1,k2,_,k4⟩:=run_append_own_at (P:=P) w base t ty e i0 z E.n i0.bytes T.under hi hz0 hz1 rfl hz2 E.pos v l.length _ h1 ad ns.length c xs
   hxl hcells hx.one hl (by rw [hz3];exact hlb) h0
  have hb:Below base w w':=(Below.refl base w).grown k2 h0 (fun k hk=>(h1.lt k hk).1);have hsp:wX w w' v v':=fun b hb2=>⟨k2.block b hb2.1 (fun e=>hb2.2 e.symm),by
   rcases k4 with e|e
   ·rw [e];exact hb2.2
   ·rw [e];intro h;injection h with h;have:=hb2.1;omega⟩
  have keep:∀{m:List α} {ms:List Value},Reps E w (Ba w v) m ms→Reps E w' (Ba w' v') m ms:=fun hm =>
   hm.same (fun b hb2=>(hsp b hb2).1) fun b hb2=>⟨Nat.lt_of_lt_of_le hb2.1 hb.size,(hsp b hb2).2⟩
  exact ⟨v',w',hrun,⟨Nat.le_trans h0 hb.size,us++xs,by rw [List.length_append];exact k1,(keep h3).append (keep hx)⟩,hb,hsp⟩
theorem wY {P:Program} {t e:TypeId} {by_:Nat} (T:ElTB P E t e by_) {ops:Array Oper} {rest:List Oper} {o:Oper} {a:Act} {Q:Exit→Act→World→Prop} (hgd:o.guard=none) (s x:Operand)
  (ho:o.op = .call { callee:=.builtin .append,args:=#[s,x],argTypes:=#[t,t] })
  (w:World) (base:Nat) (v:Value) (l ns:List α) (n:Nat) (hn:ns.length=n) (A:Option Addr) (c:Nat) (hs:a.eval s=v) (hown:OwnRows E e w base v l) (hx:a.eval x = .slice A n c) (hr:RowsAt E w (Ba w v) A ns) (hl:l.length+n≤maxLen) (hlb:(l.length+n)*by_≤140737488355328)
  (h:∀v' w',OwnRows E e w' base v' (l++ns)→Below base w w'→wX w w' v v'→wpList P ops Q rest (a.put o.dst v') w') :
  wpList P ops Q (o :: rest) a w:=by
 subst hn;refine wpList_plain hgd fun K hK=>?_;obtain ⟨xs,hx1,hx2⟩:=hr;obtain ⟨v',w',hrun,h1,h2,h3⟩:=sb T w o.type base v l ns A c hown xs hx1 (fun h0=>by
  obtain ⟨b,off,hA,_,hc⟩:=hx2 h0;exact ⟨b,off,hA,hc⟩) hl hlb
 unfold Oper.wp execOp;simp only [ho,resolve,invoke,builtin,Sem.run_bind,Sem.run_pure,Result.andThen_ok,List.map_toArray,List.map_cons,List.map_nil,hs,hx,hrun];exact hK _ _ (h v' w' h1 h2 h3)
theorem OwnRows.made (E:El α) (e:TypeId) (w:World) (base:Nat) (cur:Array Value) (cap:Nat) (hb:base≤w.heap.size) (hm:cap≤maxLen) (hs:cur.size=cap*E.n):OwnRows E e (w.alloc (.cells cur e)) base (.slice (some ⟨w.heap.size,0,none⟩) 0 cap) [] :=
 ⟨by simp;omega,[],World.ownsRow_made w cur cap hb hm hs,rfl⟩
theorem OwnRows.setAll (h:OwnRows E e w base v l) {i:Nat} (hi:i<l.length) {y:α} {cs:List Value} (hy:E.rep w' (Ba w' v) y cs) (hs:w'.heap.size=w.heap.size)
  (hk:∀b,Ba w v b→w'.heap[b]? = w.heap[b]?) (hrow:∀xs,w.ownsRow base e E.n v l.length xs→w'.ownsRow base e E.n v l.length (xs.take (i*E.n)++cs++xs.drop (i*E.n+E.n))):OwnRows E e w' base v (l.set i y):=by
 obtain ⟨h0,xs,h1,h3⟩:=h;refine ⟨by omega,_,by rw [List.length_set];exact hrow xs h1,Reps.set (h3.same hk fun b hb=>⟨by rw [hs];exact hb.1,hb.2⟩) hy hi⟩
end
def El.plain {α:Type} (n:Nat) (pos:0<n) (f:α→List Value) (len:∀x,(f x).length=n) (one:∀x,∀u∈f x,u.oneCell'=true):El α where
 n:=n
 pos:=pos
 rep:=fun _ _ x cs=>cs=f x
 len:=fun h=>by rw [h];exact len _
 one:=fun h=>by rw [h];exact one _
 same:=fun h _ _=>h
def ov:El Int:=El.plain 1 (by decide) (fun x=>[.int .i64 x]) (fun _=>rfl) (by intro x u hu;simp at hu;subst hu;rfl)
def c9:El Bool:=El.plain 1 (by decide) (fun x=>[.bool x]) (fun _=>rfl) (by intro x u hu;simp at hu;subst hu;rfl)
def FH:El ByteArray:=El.plain 1 (by decide) (fun x=>[.string x]) (fun _=>rfl) (by intro x u hu;simp at hu;subst hu;rfl)
def El.sl {α:Type} (E:El α):El (List α) where
 n:=1
 pos:=by decide
 rep:=fun w S l cs=>∃A cap,cs=[.slice A l.length cap]∧l.length≤cap∧cap≤maxLen∧RowsAt E w S A l
 len:=fun h=>by obtain ⟨A,cap,rfl,_⟩:=h;rfl
 one:=fun h=>by obtain ⟨A,cap,rfl,_⟩:=h;intro u hu;simp at hu;subst hu;rfl
 same:=fun h hk hS=>by
  obtain ⟨A,cap,e,h1,h2,h3⟩:=h;exact ⟨A,cap,e,h1,h2,h3.same hk hS⟩
def Opens {α:Type} (P:Program) (E:El α) (t:TypeId) (fits:α→Prop):Prop :=
 ∀{H:Type} {enc:TypeId×Value→H} {w:World} {base:Nat} {spare:Nat→Bool} {held:Bool} {fuel:Nat} {cs:List Value} {x:DataW H×List MemPlace},DataW.trod enc P w base spare held fuel t cs=some x→∃y,E.rep w (Lo w.heap.size) y cs∧fits y
theorem FI {n:Int} (h:(Lit.int .i64 n).wf=true) : -9223372036854775808≤n∧n≤9223372036854775807:=by
 have:=bounds_i64 h;omega
def Jx (n:Int):Prop:=-9223372036854775808≤n∧n≤9223372036854775807
theorem zC {P:Program} {t:TypeId} (ht:P.underlying t=some (.int .i64)):Opens P ov t Jx:=by
 intro H enc w base spare held fuel cs x h;obtain ⟨n,e,_,hw⟩:=DataW.trod_int ht h;exact ⟨n,e,FI hw⟩
theorem wZ {w:World} {a:Addr} {v:Value} (h:w.cell? (a.add 0)=some v):∃b off,a=⟨b,off,none⟩:=by
 obtain ⟨b,off,spot⟩:=a;have hspot:spot=none:=by simpa [Addr.add] using World.cell?_spot h
 subst hspot;exact ⟨b,off,rfl⟩
theorem yn {α:Type} {E:El α} {w:World} {S:Nat→Prop} {fits:α→Prop} {b:Nat}:∀(n off:Nat),(∀i,i<n→∃y cs,E.rep w S y cs∧fits y∧∀j u,cs[j]? = some u→w.cell? ⟨b,off+i*E.n+j,none⟩=some u)→
  ∃l xs,l.length=n∧Reps E w S l xs∧(∀y∈l,fits y)∧∀j u,xs[j]? = some u→w.cell? ⟨b,off+j,none⟩=some u
 | 0,off,_=>⟨[],[],rfl,rfl,by simp,by simp⟩
 | n+1,off,h=>by
  obtain ⟨y,cs,h1,h2,h3⟩:=h 0 (by omega);obtain ⟨l,xs,k1,k2,k3,k4⟩:=yn (E:=E) (fits:=fits) n (off+E.n) (fun i hi=>by
   obtain ⟨y,cs,h1,h2,h3⟩:=h (i+1) (by omega);exact ⟨y,cs,h1,h2,fun j u hu=>by have:=h3 j u hu;rwa [Nat.add_mul,Nat.one_mul,show off+(i*E.n+E.n)+j=off+E.n+i*E.n+j by omega] at this⟩)
  refine ⟨y :: l,cs++xs,by simp [k1],⟨cs,xs,rfl,h1,k2⟩,?_,?_⟩
  ·intro z hz;rcases List.mem_cons.1 hz with rfl|hz
   ·exact h2
   ·exact k3 z hz
  ·intro j u hu;have hl:=E.len h1;rcases Nat.lt_or_ge j E.n with hj|hj
   ·rw [List.getElem?_append_left (by omega)] at hu;have:=h3 j u hu
    rwa [Nat.zero_mul,Nat.add_zero] at this
   ·rw [List.getElem?_append_right (by omega),hl] at hu;have:=k4 _ u hu
    rwa [show off+E.n+(j-E.n)=off+j by omega] at this
theorem Opens.sl {α:Type} {P:Program} {E:El α} {t e:TypeId} {fits:α→Prop} (ho:Opens P E e fits) (ht:P.underlying t=some (.slice e)) (hC:P.cellsOf e=E.n):Opens P E.sl t (fun l=>l.length≤maxLen∧∀y∈l,fits y):=by
 intro H enc w base spare held fuel cs x h;rcases open_slice ht h with ⟨rfl,_⟩|⟨a,len,cap,m,n,D,Pl,rfl,hb,hl,hm,hmm,_,hi⟩
 ·exact ⟨[],⟨none,0,rfl,by simp,by simp [maxLen],RowsAt.nil _ _ _ _⟩,by simp [maxLen],by simp⟩
 ·have hml:len≤m:=by rw [hmm];split <;> omega
  rcases Nat.eq_zero_or_pos len with h0|h0
  ·subst h0;exact ⟨[],⟨some a,cap,rfl,by simp,hm,RowsAt.nil _ _ _ _⟩,by simp [maxLen],by simp⟩
  ·have hplain:∃b off,a=⟨b,off,none⟩:=by
    obtain ⟨cs',hc,_⟩:=hi 0 (by omega);obtain ⟨_,hcl,hat⟩:=World.cells?_some hc;have hp:=E.pos;have h1:=hat 0 (by omega);rw [Nat.zero_mul,List.getElem?_eq_getElem (by omega)] at h1;have e0:(a.add 0).add 0=a.add 0:=by rw [Go.Deep.add_add]
    rw [e0] at h1;exact wZ h1
   obtain ⟨b,off,rfl⟩:=hplain;have hel:∀i,i<len→∃y cs,E.rep w (Lo w.heap.size) y cs∧fits y∧∀j u,cs[j]? = some u→w.cell? ⟨b,off+i*E.n+j,none⟩=some u:=by
    intro i hil;obtain ⟨cs',hc,hd⟩:=hi i (by omega);obtain ⟨y,hy,hf⟩:=ho hd;obtain ⟨_,hcl,hat⟩:=World.cells?_some hc;refine ⟨y,cs',hy,hf,fun j u hu=>?_⟩;have hj:j<cs'.length:=(List.getElem?_eq_some_iff.1 hu).1;have h1:=hat j (by omega);rw [hu,eC,eC,hC] at h1;exact h1
   obtain ⟨l,xs,k1,k2,k3,k4⟩:=yn len off hel;subst k1;refine ⟨l,⟨_,cap,rfl,hl,hm,xs,k2,fun _=>⟨b,off,rfl,?_,k4⟩⟩,by omega,k3⟩;have hxl:=k2.length;have hp:=E.pos;have:0<xs.length:=by rw [hxl];exact Nat.mul_pos h0 hp
   exact World.block_lt_of_cell? w _ (k4 0 _ (List.getElem?_eq_getElem this))
end
structure Ext (w0:World) where
 w:World
 below:Below w0.heap.size w0 w
instance (w0:World):Nonempty (Ext w0):=⟨⟨w0,Below.refl _ _⟩⟩
theorem IA {P:Prop} (h:P:=by (repeat (first|(with_reducible exact Below.refl _ _)|(with_reducible assumption)|(with_reducible refine bL ?_ _)|(with_reducible refine Below.drew ?_)|(with_reducible refine Below.al ?_ _)|(with_reducible refine Below.st ?_ (by simp;try omega))|(with_reducible refine Below.tr ?_ (by assumption))))):P:=h
theorem bO {P:Prop} (h:P:=by (repeat (first|(with_reducible exact Below.refl _ _)|(with_reducible assumption)|(with_reducible refine bL ?_ _)|(with_reducible refine Below.drew ?_)|(with_reducible refine Below.al ?_ _)|(with_reducible refine Below.st ?_ (by simp;try omega))|(with_reducible refine Below.tr ?_ (Hid.out (by assumption)))|(with_reducible exact Hid.out (by assumption))))):P:=h
theorem bL {B:Nat} {a w:World} (h:Below B a w) (n:Nat):Below B a (w.drewN n):=⟨h.os,h.tape,h.output,h.size,h.block⟩
theorem gG (w:World) (cs:Array Value) (e:TypeId) (j:Nat):(w.alloc (.cells cs e)).cell? ⟨w.heap.size,j,none⟩=cs[j]?:=cell_of_row _ _ _ _ _ _ (heap_alloc_new w (.cells cs e))
def Blk (w:World) (g:Nat) (t:TypeId) (cs:Array Value):Prop:=w.heap[g]? = some (.cells cs t (0,0))
section
variable {w w':World} {g:Nat} {t:TypeId} {cs:Array Value}
theorem Blk.lt (h:Blk w g t cs):g<w.heap.size:=(Array.getElem?_eq_some_iff.1 h).1
theorem Blk.cell (h:Blk w g t cs) (i:Nat):w.cell? ⟨g,i,none⟩=cs[i]?:=cell_of_row w g i cs t (0,0) h
theorem Blk.cellx (h:Blk w g t cs) (i:Nat) {v:Value} (hv:cs[i]? = some v):w.cell? ⟨g,i,none⟩=some v:=(h.cell i).trans hv
theorem Blk.frozen (h:Blk w g t cs) (i:Nat):w.frozen? ⟨g,i,none⟩=false:=by
 unfold Blk at h;simp [World.frozen?,h]
theorem Blk.new (w:World) (t:TypeId) (cs:Array Value):Blk (w.alloc (.cells cs t)) w.heap.size t cs:=heap_alloc_new w _
theorem Blk.alloc (h:Blk w g t cs) (o:Obj):Blk (w.alloc o) g t cs:=(Below.heap_alloc w o g h.lt).trans h
theorem Blk.set_ (h:Blk w g t cs) (i:Nat) (u:Value):Blk (w.setCell ⟨g,i,none⟩ u) g t (cs.setIfInBounds i u):=by
 unfold Blk at h ⊢;simp [World.setCell,Array.getElem?_modify,h]
theorem Blk.far (h:Blk w g t cs) {p:Addr} (hp:g≠p.block) (u:Value):Blk (w.setCell p u) g t cs:=(Below.heap_setCell w p u g hp).trans h
theorem Blk.below {B:Nat} (h:Blk w g t cs) (hb:Below B w w') (hg:g<B):Blk w' g t cs:=(hb.block g hg).trans h
end
structure Just (w0:World) where
 w:World
 eq:w=w0
instance (w0:World):Nonempty (Just w0):=⟨⟨w0,rfl⟩⟩
def rf (w:World) (v:Value) (e:Ending) (w':World):Prop:=e = .returned v∧Below w.heap.size w w'
def DF (w:World) (v:Value) (e:Ending) (w':World):Prop:=e = .returned v∧w'=w
theorem aO {a b:Bool} (h:a=b):Ending.returned (.bool a) = .returned (.bool b):=by rw [h]
theorem n7 {k:IntKind} {a b:Int} (h:a=b):Ending.returned (.int k a) = .returned (.int k b):=by rw [h]
def tF {α:Type} (E:El α) (t:TypeId) (w:World) (l:List α) (e:Ending) (w':World):Prop:=∃v,e = .returned v∧OwnRows E t w' w.heap.size v l∧Below w.heap.size w w'
end Go.Proofs.YtcgpepnbohejfaaGreatDoor
