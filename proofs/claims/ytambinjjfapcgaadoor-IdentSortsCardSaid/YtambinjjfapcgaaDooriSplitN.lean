/- SplitN at a point and four pieces at most, however long the string. -/
import Derived.Test.YtambinjjfapcgaaDoorChecked
import Derived.Test.YtambinjjfapcgaaDoorShelfA
import Derived.WalkKit
import Derived.WalkSpells
import Derived.WalkLawsBesides
import Derived.Lib.Hide
import Derived.Lib.CutLaws
import Derived.Lib.IndexBytes
import Derived.Deep.LoopGhost
namespace Go.Proofs.YtambinjjfapcgaaDoor
open Go.RowKit

theorem indexB_dot (x : ByteArray) : Lib.indexB x ⟨#[46]⟩ = Lib.indexByte x.data.toList 46 := Lib.index_one _ _
/-- What SplitN returns. -/
def SplitsTo (s : ByteArray) (N : Nat) (w : World) (e : Ending) (w' : World) : Prop :=
  e = .returned (.slice (some ⟨w.heap.size, 0, none⟩) (Lib.splitB ⟨#[46]⟩ 0 (N - 1) s).length N) ∧ w' = w.alloc (.cells (Lib.cellsOf (Lib.splitB ⟨#[46]⟩ 0 (N - 1) s) N) 9)

set_option maxHeartbeats 4000000 in
set_option maxRecDepth 100000 in
theorem genSplit4 (s : ByteArray) (h4 : 4 ≤ s.size) (hs : s.size ≤ 4611686018427387904) (w : World) : Calls Tryd.prog 27 #[.string s, .string ⟨#[46]⟩, .int .i64 0, .int .i64 4] w (SplitsTo s 4 w) := by
  have HI := Lib.hid (fun (x : ByteArray) W => Tryd.strings_Index_one x 46 W)
  have hmin : min (4 : Int) ((s.size : Int) + 1) = 4 := by omega
  have hse : (⟨#[46]⟩ : ByteArray).toList.isEmpty = false := by rw [ByteArray.toList_eq]; rfl
  have hmk : ∀ w : World, (Instr.makeSlice 40 (.int .i64 4) (.int .i64 4)).run Tryd.prog w = .ok (.slice (some ⟨w.heap.size, 0, none⟩) 4 4) (w.alloc (.cells (Lib.cellsOf [] 4) 9)) := fun _ => by kernel_rfl
  have hsz : (⟨#[46]⟩ : ByteArray).size = 1 := rfl
  go_enter Tryd.func27, Tryd.ntmps27
  go_wp2_with fail
  clear hmk
  go_loopg [0, 10] 3 (fun g s0 s10 wr => ∃ (done : List ByteArray) (rest : ByteArray), s0 = .string rest ∧ s10 = .int .i64 (done.length : Int) ∧ done.length ≤ 3 ∧ g = 3 - done.length ∧ rest.size ≤ s.size ∧
      wr = w.alloc (.cells (Lib.cellsOf done 4) 9) ∧ Hid (done ++ Lib.splitB ⟨#[46]⟩ 0 (3 - done.length) rest = Lib.splitB ⟨#[46]⟩ 0 3 s))
  case atStart => exact ⟨[], s, rfl, rfl, Nat.zero_le _, rfl, Nat.le_refl _, rfl, Lib.hid rfl⟩
  case round =>
    obtain ⟨done, rest, rfl, rfl, hd, rfl, hrs, rfl, HS⟩ := hrel
    have hnext : (Lib.cellsOf done 4)[done.length]? = some (.string ByteArray.empty) := Lib.cellsOf_next (by omega)
    have fin : Hid (Lib.splitB ⟨#[46]⟩ 0 (3 - done.length) rest = [rest] → (Lib.splitB ⟨#[46]⟩ 0 3 s).length = done.length + 1 ∧ (Lib.cellsOf done 4).setIfInBounds done.length (.string rest) = Lib.cellsOf (Lib.splitB ⟨#[46]⟩ 0 3 s) 4) := Lib.hid (fun h => by
      have e := HS.out
      rw [h] at e
      rw [← e]
      exact ⟨by simp, Lib.cellsOf_set (by omega) rest⟩)
    by_cases hlt : done.length < 3
    · have hltz : ((done.length : Nat) : Int) < 3 := by omega
      rcases Lib.indexB_cases rest ⟨#[46]⟩ with hix | ⟨i, hix, hroom⟩
      · have HX := Lib.hid hix
        have hix2 : Lib.indexByte rest.data.toList 46 = -1 := by rw [← indexB_dot]; exact hix
        have HX2 := Lib.hid hix2
        clear hix hix2
        go_wp2_with fail
        refine (HI.out rest _).mono ?_
        rintro e w' ⟨rfl, hw⟩
        rw [hw, HX2.out]
        go_wp2_with fail
        go_ret
        obtain ⟨f1, f2⟩ := fin.out (Lib.splitB_miss ⟨#[46]⟩ 0 _ rest HX.out)
        unfold SplitsTo
        rw [f1, ← f2]
        exact ⟨by first | rfl | (congr 2 <;> omega), rfl⟩
      · have HX := Lib.hid hix
        have hix2 : Lib.indexByte rest.data.toList 46 = i := by rw [← indexB_dot]; exact hix
        have HX2 := Lib.hid hix2
        rw [hsz] at hroom
        clear hix hix2
        go_wp2_with fail
        refine (HI.out rest _).mono ?_
        rintro e w' ⟨rfl, hw⟩
        rw [hw, HX2.out]
        clear hw
        go_wp2_with fail
        go_roundg (3 - (done.length + 1))
        case measure => omega
        case rel =>
          have e1 := Lib.cellsOf_set (done := done) (N := 4) (by omega) (rest.extract 0 i)
          refine ⟨done ++ [rest.extract 0 i], rest.extract (i + 1) rest.size, ?_, ?_, by simp; omega, by simp, by rw [ByteArray.size_extract]; omega, ?_, Lib.hid ?_⟩
          · rfl
          · simp
          · rw [← e1]
          · have e := HS.out
            rw [show 3 - done.length = (3 - (done.length + 1)) + 1 by omega, Lib.splitB_hit _ _ _ _ _ HX.out] at e
            rw [hsz] at e
            rw [← e]
            simp
    · have h3 : done.length = 3 := by omega
      obtain ⟨f1, f2⟩ := fin.out (by rw [h3]; rfl)
      rw [h3] at hnext f1 f2
      have F := Lib.hid (And.intro f1 f2)
      clear f1 f2
      go_wp2_with fail
      go_ret
      obtain ⟨f1, f2⟩ := F.out
      unfold SplitsTo
      rw [f1, ← f2]
      exact ⟨rfl, rfl⟩

set_option maxHeartbeats 1000000 in
theorem SplitN_any (s : ByteArray) (hs : s.size ≤ 281474976710656) (m : Int) (w : World) (hm : w.cell? ⟨2, 0, none⟩ = some (.int .i64 m)) : Calls Tryd.prog 18 #[.string s, .string ⟨#[46]⟩, .int .i64 4] w (SplitsTo s (min 4 (s.size + 1)) w) := by
  by_cases h : s.size < 4294967281
  · exact Tryd.strings_SplitN s ⟨#[46]⟩ 4 m w h hm (by decide) (by decide) (by decide)
  · rw [show min 4 (s.size + 1) = 4 by omega]
    have H := Lib.hid (genSplit4 s (by omega) (by omega) w)
    go_enter Tryd.func18, Tryd.ntmps18
    go_wp2_with fail
    refine H.out.mono ?_
    rintro e w' ⟨rfl, hw⟩
    go_wp2_with fail
    go_ret
    exact ⟨rfl, rfl⟩
end Go.Proofs.YtambinjjfapcgaaDoor
