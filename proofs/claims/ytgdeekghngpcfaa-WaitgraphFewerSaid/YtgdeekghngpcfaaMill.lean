/- The numbers of which graphs are made: Light, Mod, the tape. -/
import Derived.Test.YtgdeekghngpcfaaPure
namespace Go.Proofs.Ytgdeekghngpcfaa
open Go.RowKit

/-- n modulo m, from 0 to m - 1; 0 if m is not positive. -/
def modI (n m : Int) : Int := if m < 1 then 0 else if n.tmod m < 0 then n.tmod m + m else n.tmod m
theorem modI_ok (n m : Int) : 0 ≤ modI n m ∧ (1 ≤ m → modI n m < m) := by
  unfold modI
  by_cases hm : m < 1
  · rw [if_pos hm]; omega
  · rw [if_neg hm]
    have h1 : n.tmod m < m := Int.tmod_lt_of_pos n (by omega)
    have h2 : -m < n.tmod m := Int.lt_tmod_of_pos n (by omega)
    split <;> omega

theorem Light_any (A : Option Addr) (n cap : Nat) (w : World) (hm : n ≤ 9223372036854775807) :
    Calls Try.prog 24 #[.slice A n cap] w fun e w' => e = .returned (.bool (decide (n ≤ 300))) ∧ w = w' := by
  go_enter Try.func24, Try.ntmps24
  go_wp2
  go_ret
  exact ⟨ret_bool (by rw [Bool.eq_iff_iff, decide_eq_true_iff, decide_eq_true_iff]; omega), rfl⟩

set_option maxHeartbeats 400000 in
theorem Mod_any (n m : Int) (w : World) (_hn1 : -9223372036854775808 ≤ n) (_hn2 : n ≤ 9223372036854775807) (_hm2 : m ≤ 1048576) :
    Calls Try.prog 26 #[.int .i64 n, .int .i64 m] w fun e w' => e = .returned (.int .i64 (modI n m)) ∧ w' = w := by
  by_cases hm : m < 1
  · go_enter Try.func26, Try.ntmps26
    go_wp2
    go_ret
    exact ⟨ret_int (by unfold modI; rw [if_pos hm]), rfl⟩
  · have hm1 : 1 ≤ m := by omega
    have h1 : n.tmod m < m := Int.tmod_lt_of_pos n (by omega)
    have h2 : -m < n.tmod m := Int.lt_tmod_of_pos n (by omega)
    by_cases hneg : n.tmod m < 0
    · go_enter Try.func26, Try.ntmps26
      go_wp2
      go_ret
      exact ⟨ret_int (by unfold modI; rw [if_neg (by omega), if_pos (by omega)]), rfl⟩
    · have hpos : 0 ≤ n.tmod m := by omega
      go_enter Try.func26, Try.ntmps26
      go_wp2
      go_ret
      exact ⟨ret_int (by unfold modI; rw [if_neg (by omega), if_neg (by omega)]), rfl⟩

/-- The tape lies in block tb: the numbers l, read up to k. -/
def TapeAt (w : World) (tb : Nat) (A : Option Addr) (l : List Int) (cap k : Nat) : Prop :=
  w.heap[tb]? = some (.cells #[.slice A l.length cap, .int .i64 (k : Int)] 50 (0, 0)) ∧ IntsAt w tb A l ∧ k ≤ l.length
/-- The call returns a number that meets P, and reads the tape on; only the tape's block turns. -/
def RetTape (w : World) (tb : Nat) (A : Option Addr) (l : List Int) (cap : Nat) (P : Int → Prop) (e : Ending) (w' : World) : Prop :=
  ∃ (r : Int) (k : Nat), e = .returned (.int .i64 r) ∧ P r ∧ TapeAt w' tb A l cap k ∧ w.grownBy w' (some tb)

theorem TapeAt.cells {w : World} {tb : Nat} {A : Option Addr} {l : List Int} {cap k : Nat} (h : TapeAt w tb A l cap k) :
    w.cell? ⟨tb, 0, none⟩ = some (.slice A l.length cap) ∧ w.cell? ⟨tb, 1, none⟩ = some (.int .i64 (k : Int)) ∧ (∀ j, w.frozen? ⟨tb, j, none⟩ = false) ∧ tb < w.heap.size :=
  ⟨by simp [World.cell?, h.1], by simp [World.cell?, h.1], fun j => by simp [World.frozen?, h.1], (Array.getElem?_eq_some_iff.1 h.1).1⟩
theorem TapeAt.below {w w' : World} {tb B : Nat} {A : Option Addr} {l : List Int} {cap k : Nat} (h : TapeAt w tb A l cap k) (hb : Below B w w') (hB : tb < B) : TapeAt w' tb A l cap k :=
  ⟨(hb.block tb hB).trans h.1, h.2.1.below hb (by omega) (Nat.le_refl _), h.2.2⟩

set_option maxHeartbeats 800000 in
theorem tapeNext_any (tb cap k : Nat) (A : Option Addr) (l : List Int) (m : Int) (w : World) (hm : m ≤ 1048576) (hl : l.length ≤ 300) (hwd : ∀ j (h : j < l.length), -9223372036854775808 ≤ l[j] ∧ l[j] ≤ 9223372036854775807)
    (ht : TapeAt w tb A l cap k) : Calls Try.prog 37 #[.pointer (some ⟨tb, 0, none⟩), .int .i64 m] w (RetTape w tb A l cap (fun r => 0 ≤ r ∧ (1 ≤ m → r < m))) := by
  obtain ⟨hc0, hc1, hfz, htb⟩ := ht.cells
  have hfz1 := hfz 1
  clear hfz
  have HT := Lib.hid ht
  have HW := Lib.hid hwd
  clear ht hwd
  by_cases hlt : k < l.length
  · have hlt' : decide (l.length ≤ k) = false := decide_eq_false (by omega)
    obtain ⟨b, off, rfl, hb, hc⟩ := HT.out.2.1.get hlt rfl
    obtain ⟨hx1, hx2⟩ := HW.out k hlt
    go_enter Try.func37, Try.ntmps37
    go_wp2
    go_quiet (fail)
    go_wp2
    have hbt : ¬ b = tb := by omega
    go_quiet ((go_at_call 26; exact Calls.quiet_of_same (Mod_any _ _ _ hx1 hx2 hm)))
    go_wp2
    go_ret
    have hmo := modI_ok l[k] m
    refine ⟨modI l[k] m, k + 1, rfl, hmo, ⟨?_, ?_, by omega⟩, ⟨rfl, rfl, rfl, by simp [World.setCell], fun i _ hi => ?_⟩⟩
    · simp [World.setCell, Array.getElem?_modify, HT.out.1]
    · exact HT.out.2.1.same (fun a ha hlt2 => Below.heap_setCell _ _ _ _ (by simp; omega)) (Nat.le_refl _)
    · exact Below.heap_setCell _ ⟨tb, 1, none⟩ _ i (by intro e; exact hi (by rw [e]))
  · have hle : decide (l.length ≤ k) = true := decide_eq_true (by omega)
    go_enter Try.func37, Try.ntmps37
    go_wp2
    go_quiet (fail)
    go_wp2
    go_ret
    exact ⟨0, k, rfl, ⟨by omega, fun h => by omega⟩, HT.out, ⟨rfl, rfl, rfl, Nat.le_refl _, fun _ _ _ => rfl⟩⟩
end Go.Proofs.Ytgdeekghngpcfaa
