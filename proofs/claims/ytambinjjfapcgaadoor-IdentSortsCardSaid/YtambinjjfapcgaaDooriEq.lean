/- Comparisons of processes and of stamps. -/
import Derived.Test.YtambinjjfapcgaaDooriFun
import Derived.Test.YtambinjjfapcgaaDoorRows2
import Derived.Laws.StructEq
namespace Go.Proofs.YtambinjjfapcgaaDoor
open Go.RowKit

theorem equalPr (a b : Pr) (w : World) : (Op.equalIn 10000 24 a.val b.val).run Tryd.prog w = .ok (decide (a = b)) w := by
  have hS : Tryd.prog.underlying 24 = some (.struct (Tryd.prog.fieldsOf 24)) := by kernel_rfl
  have hp : Tryd.prog.stoodInHeld 24 = false := by kernel_rfl
  unfold Pr.val
  rw [show (10000 : Nat) = 9999 + 1 from rfl, run_equalIn_agg w 9999 24 _ _ hS hp]
  have u3 := Tryd.underlying3
  simp only [Program.fieldsOf, Tryd.underlying24]
  go_simp
  obtain ⟨a1, a2, a3⟩ := a
  obtain ⟨b1, b2, b3⟩ := b
  by_cases h1 : a1 = b1 <;> by_cases h2 : a2 = b2 <;> by_cases h3 : a3 = b3 <;> simp [h1, h2, h3]
theorem equalSt (a b : St) (w : World) : (Op.equalIn 10000 32 a.val b.val).run Tryd.prog w = .ok (decide (a = b)) w := by
  have hS : Tryd.prog.underlying 32 = some (.struct (Tryd.prog.fieldsOf 32)) := by kernel_rfl
  have hp : Tryd.prog.stoodInHeld 32 = false := by kernel_rfl
  unfold St.val
  rw [show (10000 : Nat) = 9999 + 1 from rfl, run_equalIn_agg w 9999 32 _ _ hS hp]
  have u3 := Tryd.underlying3
  simp only [Program.fieldsOf, Tryd.underlying32]
  go_simp
  obtain ⟨a1, a2⟩ := a
  obtain ⟨b1, b2⟩ := b
  by_cases h1 : a1 = b1 <;> by_cases h2 : a2 = b2 <;> simp [h1, h2]
/-- The comparisons of two values of a struct's type, for the walk. -/
structure Cmps (t : TypeId) (x y : Array Value) (r : Bool) : Prop where
  neq : ∀ w, (binOp .neq t (.agg x) (.agg y)).run Tryd.prog w = .ok (.bool (!r)) w
  eql : ∀ w, (binOp .eql t (.agg x) (.agg y)).run Tryd.prog w = .ok (.bool r) w
  guard : ∀ (op : BinOp) (a b : Operand) (xs ys : Array Value) w, (eqGuard op t a b (.agg xs) (.agg ys)).run Tryd.prog w = .ok () w
theorem Cmps.mk' {t : TypeId} {x y : Array Value} {r : Bool} (h : ∀ w, (Op.equalIn 10000 t (.agg x) (.agg y)).run Tryd.prog w = .ok r w) (hg : ∀ (op : BinOp) (a b : Operand) (xs ys : Array Value) w, (eqGuard op t a b (.agg xs) (.agg ys)).run Tryd.prog w = .ok () w) : Cmps t x y r where
  neq := fun w => (run_neq_struct (P := Tryd.prog) w t x y).trans (by rw [h w]; rfl)
  eql := fun w => (run_eql_struct (P := Tryd.prog) w t x y).trans (by rw [h w]; rfl)
  guard := hg
theorem cmpPr (a b c x y z : Int) : Cmps 24 #[.int .i64 a, .int .i64 b, .int .i64 c] #[.int .i64 x, .int .i64 y, .int .i64 z] (decide ((⟨a, b, c⟩ : Pr) = ⟨x, y, z⟩)) := Cmps.mk' (equalPr ⟨a, b, c⟩ ⟨x, y, z⟩) (fun op a b xs ys w => run_eqGuard_agg w op 24 a b xs ys (by kernel_rfl))
theorem cmpSt (a b x y : Int) : Cmps 32 #[.int .i64 a, .int .i64 b] #[.int .i64 x, .int .i64 y] (decide ((⟨a, b⟩ : St) = ⟨x, y⟩)) := Cmps.mk' (equalSt ⟨a, b⟩ ⟨x, y⟩) (fun op a b xs ys w => run_eqGuard_agg w op 32 a b xs ys (by kernel_rfl))

end Go.Proofs.YtambinjjfapcgaaDoor
