/- Reserved and ValidName, the program's and the document's. -/
import Derived.Test.YtbjbolpmbdllnaaDoorChecked
import Derived.WalkKit
import Derived.Lib.Hide
import Derived.WalkLawsBesides
namespace Go.Proofs.YtbjbolpmbdllnaaDoor
open Go.RowKit

abbrev Bs := List UInt8
/-- The reserved words. -/
def rsv (s : Bs) : Bool := s == [97, 108, 108] || s == [97, 110, 121] || s == [111, 102] || s == [112, 114, 105, 111] || s == [108, 105, 109, 105, 116]

theorem rReserved_any (s : ByteArray) (w : World) : Calls Tryd.prog 41 #[.string s] w fun e w' => e = .returned (.bool (rsv s.toList)) ∧ w' = w := by
  go_enter Tryd.func41, Tryd.ntmps41
  go_wp2
  all_goals go_ret
  all_goals exact ⟨by simp_all [rsv], rfl⟩
theorem Reserved_any (s : ByteArray) (w : World) : Calls Tryd.prog 28 #[.string s] w fun e w' => e = .returned (.bool (rsv s.toList)) ∧ w' = w := by
  go_enter Tryd.func28, Tryd.ntmps28
  go_wp2
  all_goals go_ret
  all_goals exact ⟨by simp_all [rsv], rfl⟩
def letterB (c : UInt8) : Bool := decide ((97 : Int) ≤ c.toNat) && decide ((c.toNat : Int) ≤ 122)
def partB (c : UInt8) : Bool := letterB c || decide ((48 : Int) ≤ c.toNat) && decide ((c.toNat : Int) ≤ 57) || decide ((c.toNat : Int) = 95) || decide ((c.toNat : Int) = 45)

theorem Letter_any (c : UInt8) (w : World) : Calls Tryd.prog 40 #[.int .u8 c.toNat] w fun e w' => e = .returned (.bool (letterB c)) ∧ w' = w := by
  unfold letterB
  generalize (c.toNat : Int) = n
  go_enter Tryd.func40, Tryd.ntmps40
  go_wp2
  all_goals go_ret
  all_goals exact ⟨by simp_all <;> omega, rfl⟩

theorem Part_any (c : UInt8) (w : World) : Calls Tryd.prog 42 #[.int .u8 c.toNat] w fun e w' => e = .returned (.bool (partB c)) ∧ w' = w := by
  have HL := Lib.hid (Letter_any c w)
  obtain ⟨b, hb⟩ : ∃ b, letterB c = b := ⟨_, rfl⟩
  have HB := Lib.hid hb
  have hp : partB c = (b || decide ((48 : Int) ≤ c.toNat) && decide ((c.toNat : Int) ≤ 57) || decide ((c.toNat : Int) = 95) || decide ((c.toNat : Int) = 45)) := by
    unfold partB
    rw [hb]
  rw [hb] at HL
  rw [hp]
  clear hp hb HB
  generalize (c.toNat : Int) = n at *
  go_enter Tryd.func42, Tryd.ntmps42
  go_wp2_with fail
  refine HL.out.mono ?_
  rintro e w' ⟨rfl, rfl⟩
  cases b <;> go_wp2
  all_goals go_ret
  all_goals refine ⟨congrArg (fun b => Ending.returned (.bool b)) (?_ : (_ : Bool) = _), rfl⟩
  all_goals first | rfl | (rw [Bool.eq_iff_iff]; done) | (rw [Bool.eq_iff_iff]; simp; done) | (rw [Bool.eq_iff_iff]; simp; omega)
end Go.Proofs.YtbjbolpmbdllnaaDoor
