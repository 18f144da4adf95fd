/- Part K10 of a proof of statements of chapter 15 (no condition). -/
import Derived.Test.YthpgjkjgkhjjlaaGreatDoorK08
set_option linter.unusedVariables false
set_option linter.unusedSimpArgs false
set_option maxRecDepth 100000
set_option maxHeartbeats 64000000
namespace Go.Proofs.YthpgjkjgkhjjlaaGreatDoor
open Go.RowKit Go.Proofs.Tryz
structure ExF (w:World) (B d:Nat) (A:Option Addr) (x:Ex):Prop where
 hm:x.kids.length<=maxLen
 hB:B<=w.heap.size
 hr:RowsAt (pA d) w (Lo B) A x.kids
theorem ExF.below {w w':World} {B d:Nat} {A:Option Addr} {x:Ex} (h:ExF w B d A x) (hb:Below w.heap.size w w'):ExF w' B d A x:=⟨h.hm,Nat.le_trans h.hB hb.size,h.hr.below hb h.hB (Nat.le_refl _)⟩
theorem Hl (a b:Tm) (w:World):(Op.equalIn 10000 44 a.val b.val).run prog w = .ok (decide (a=b)) w:=by
 have hS:prog.underlying 44=some (.struct (prog.fieldsOf 44)):=by kernel_rfl
 have hp:prog.stoodInHeld 44=false:=by kernel_rfl
 unfold Tm.val;rw [show (10000:Nat)=9999+1 from rfl,run_equalIn_agg w 9999 44 _ _ hS hp];have u3:=underlying3;simp only [Program.fieldsOf,underlying44];go_simp
 obtain ⟨an,a1,a2⟩:=a;obtain ⟨bn,b1,b2⟩:=b;have hn:an.toList=bn.toList↔an=bn:=⟨toList_inj,fun e=>by rw [e]⟩;simp only [hn];by_cases h0:an=bn <;> by_cases h1:a1=b1 <;> by_cases h2:a2=b2 <;> simp [h0,h1,h2]
theorem RT (n:ByteArray) (a b:Int) (n':ByteArray) (x y:Int):Cmps 44 #[.string n,.int .i64 a,.int .i64 b] #[.string n',.int .i64 x,.int .i64 y] (decide ((⟨n,⟨a,b⟩⟩:Tm)=⟨n',⟨x,y⟩⟩)) :=
 Cmps.mk' (Hl ⟨n,⟨a,b⟩⟩ ⟨n',⟨x,y⟩⟩) (fun op a b xs ys w=>run_eqGuard_agg w op 44 a b xs ys (by kernel_rfl))
def Dist (l:List Tm) (i k:Nat):Prop:=∀(a b:Nat) (ha:a<l.length) (hb:b<a),a<i\/(a=i/\b<k)->l[a].name≠l[b].name
theorem Dist.start (l:List Tm):Dist l 0 0:=fun a b ha hb h=>by omega
theorem Dist.step {l:List Tm} {i k:Nat} (h:Dist l i k) (hi:i<l.length) (hk:k<i) (hne:l[i].name≠l[k].name):Dist l i (k+1):=fun a b ha hb hab=>by
 by_cases h2:a=i/\b=k
 ·obtain ⟨rfl,rfl⟩:=h2;exact hne
 ·exact h a b ha hb (by omega)
theorem Dist.row {l:List Tm} {i k:Nat} (h:Dist l i k) (hk:¬k<i):Dist l (i+1) 0:=fun a b ha hb hab=>h a b ha hb (by omega)
theorem Dist.all {l:List Tm} {i:Nat} (h:Dist l i 0) (hi:¬i<l.length):l.Pairwise fun a b=>a.name≠b.name:=by
 rw [List.pairwise_iff_getElem];intro a b ha hb hab e;exact h b a hb hab (by omega) e.symm
theorem Dist.not {l:List Tm} {i k:Nat} (hi:i<l.length) (hk:k<i) (he:l[i].name=l[k].name):¬sa l:=fun h=>by
 have h2:=h.2;rw [List.pairwise_iff_getElem] at h2;exact h2 k i (by omega) hi hk he.symm
end Go.Proofs.YthpgjkjgkhjjlaaGreatDoor
