/- Find, the program's and the document's; where a name stands in a sorted catalog. -/
import Derived.Test.YtfmbkkpdmpgmdaaDoorbValid
namespace Go.Proofs.YtfmbkkpdmpgmdaaDoor
open Go.RowKit

def Rs.zero : Rs := ⟨{ data := #[] }, 0, 0, 0⟩
/-- The first resource of this name. -/
def findR (l : Ct) (n : ByteArray) : Option Rs := l.find? fun r => r.name.toList == n.toList
def retFind (o : Option Rs) : Value := .tuple #[(o.getD Rs.zero).val, .bool o.isSome]

theorem find_take {l : Ct} {p : Rs → Bool} {k : Nat} (h : ∀ i (hi : i < l.length), i < k → p l[i] = false) (hk : k < l.length) (hp : p l[k] = true) : l.find? p = some l[k] := by
  induction l generalizing k with
  | nil => simp at hk
  | cons a r ih =>
    cases k with
    | zero => simp only [List.getElem_cons_zero] at hp; rw [List.find?_cons, hp]; rfl
    | succ k =>
      have h0 := h 0 (by simp) (by omega)
      simp only [List.getElem_cons_zero] at h0
      rw [List.find?_cons, h0]
      simp only [List.getElem_cons_succ] at hp ⊢
      exact ih (fun i hi hik => by have := h (i + 1) (by simpa using hi) (by omega); simpa using this) (by simpa using hk) hp
theorem find_no {l : Ct} {p : Rs → Bool} (h : ∀ i (hi : i < l.length), p l[i] = false) : l.find? p = none := by
  rw [List.find?_eq_none]
  intro x hx
  obtain ⟨i, hi, rfl⟩ := List.mem_iff_getElem.1 hx
  simp [h i hi]

set_option maxHeartbeats 800000 in
theorem rFind_any (A : Option Addr) (B cap : Nat) (l : Ct) (n : ByteArray) (w : World) (hm : l.length ≤ maxLen) (hB : B ≤ w.heap.size) (hr : RowsAt resE w (Lo B) A l) :
    Calls Tryd.prog 29 #[.slice A l.length cap, .string n] w (Ret w (retFind (findR l n))) := by
  unfold maxLen at hm
  go_enter Tryd.func29, Tryd.ntmps29
  go_wp2_with fail
  go_loopg [6] l.length (fun m v wq => ∃ k : Nat, v = .int .i64 (k : Int) ∧ k ≤ l.length ∧ l.length ≤ k + m ∧ Hid (∀ i (h : i < l.length), i < k → (l[i].name.toList == n.toList) = false) ∧ wq = w.alloc (.cells #[.string { data := #[] }, .int .i64 0, .int .i64 0, .int .i64 0] 26))
  case atStart => exact ⟨0, rfl, Nat.zero_le _, by omega, Lib.hid (fun _ _ h => absurd h (by omega)), rfl⟩
  case round =>
    obtain ⟨k, rfl, hk, hkm, hall, rfl⟩ := hrel
    by_cases hlt : k < l.length
    · obtain ⟨⟨nm, kd, u, h⟩, hx⟩ : ∃ x, l[k] = x := ⟨_, rfl⟩
      obtain ⟨b, off, rfl, hbl, hc0, hc1, hc2, hc3⟩ := res_cells hr hlt hx
      have hbl2 : b < w.heap.size := Nat.lt_of_lt_of_le hbl hB
      obtain ⟨q, hq⟩ : ∃ q, (nm.toList == n.toList) = q := ⟨_, rfl⟩
      have HX := Lib.hid hx
      have HQ := Lib.hid hq
      clear hx
      cases q with
      | true =>
        go_wp2
        refine bodyPost_ret (v := .tuple #[.agg #[.string nm, .int .i64 kd, .int .i64 u, .int .i64 h], .bool true]) (by simp [results, Tryd.results29, go_sem]) rfl ⟨?_, ?_⟩
        · unfold findR
          rw [find_take hall.out hlt (by rw [HX.out]; exact HQ.out), HX.out]
          rfl
        · exact (Below.refl _ _).alloc (Nat.le_refl _) _
      | false =>
        go_wp2
        go_roundg (gk - 1)
        case measure => omega
        case rel => exact ⟨k + 1, by go_num, by omega, by omega, Lib.hid (fun i hi h1 => by
          rcases Nat.lt_or_ge i k with h2 | h2
          · exact hall.out i hi h2
          · obtain rfl : i = k := by omega
            rw [HX.out]; exact HQ.out), rfl⟩
    · have hno := Lib.hid (find_no (l := l) (p := fun r => r.name.toList == n.toList) fun i hi => hall.out i hi (by omega))
      go_wp2
      refine bodyPost_ret (v := .tuple #[.agg #[.string { data := #[] }, .int .i64 0, .int .i64 0, .int .i64 0], .bool false]) (by simp [results, Tryd.results29, go_sem]) rfl ⟨?_, ?_⟩
      · unfold findR
        rw [hno.out]
        rfl
      · exact (Below.refl _ _).alloc (Nat.le_refl _) _

set_option maxHeartbeats 800000 in
theorem Find_any (A : Option Addr) (B cap : Nat) (l : Ct) (n : ByteArray) (w : World) (hm : l.length ≤ maxLen) (hB : B ≤ w.heap.size) (hr : RowsAt resE w (Lo B) A l) :
    Calls Tryd.prog 28 #[.slice A l.length cap, .string n] w (Ret w (retFind (findR l n))) := by
  unfold maxLen at hm
  go_enter Tryd.func28, Tryd.ntmps28
  go_wp2_with fail
  go_loopg [10] l.length (fun m v wq => ∃ k : Nat, v = .int .i64 (k : Int) ∧ k ≤ l.length ∧ l.length ≤ k + m ∧ Hid (∀ i (h : i < l.length), i < k → (l[i].name.toList == n.toList) = false) ∧ Below w.heap.size w wq ∧ Hid (Blk wq w.heap.size 26 #[.string { data := #[] }, .int .i64 0, .int .i64 0, .int .i64 0]))
  case atStart => exact ⟨0, rfl, Nat.zero_le _, by omega, Lib.hid (fun _ _ h => absurd h (by omega)), (Below.refl _ _).alloc (Nat.le_refl _) _, Lib.hid (Blk.new _ _ _)⟩
  case round =>
    obtain ⟨k, rfl, hk, hkm, hall, hbw, hblk⟩ := hrel
    have hrw := hr.below (B'' := wr.heap.size) hbw hB (Nat.le_trans hB hbw.size)
    have f0 := hblk.out.frozen 0
    have f1 := hblk.out.frozen 1
    have f2 := hblk.out.frozen 2
    have f3 := hblk.out.frozen 3
    have z0 := hblk.out.cellx 0 (v := .string { data := #[] }) rfl
    have z1 := hblk.out.cellx 1 (v := .int .i64 0) rfl
    have z2 := hblk.out.cellx 2 (v := .int .i64 0) rfl
    have z3 := hblk.out.cellx 3 (v := .int .i64 0) rfl
    have hzlt := hblk.out.lt
    by_cases hlt : k < l.length
    · obtain ⟨⟨nm, kd, u, h⟩, hx⟩ : ∃ x, l[k] = x := ⟨_, rfl⟩
      obtain ⟨b, off, rfl, hbl, hc0, hc1, hc2, hc3⟩ := res_cells hrw hlt hx
      have hbl2 : b < wr.heap.size := hbl
      clear hrw
      obtain ⟨q, hq⟩ : ∃ q, (nm.toList == n.toList) = q := ⟨_, rfl⟩
      have HX := Lib.hid hx
      have HQ := Lib.hid hq
      clear hx
      cases q with
      | true =>
        go_wp2
        have hW := Blk.alloc ((((hblk.out.set_ 0 (.string nm)).set_ 1 (.int .i64 kd)).set_ 2 (.int .i64 u)).set_ 3 (.int .i64 h)) (.cells #[.string nm, .int .i64 kd, .int .i64 u, .int .i64 h] 26)
        have c0 := hW.cellx 0 (v := .string nm) rfl
        have c1 := hW.cellx 1 (v := .int .i64 kd) rfl
        have c2 := hW.cellx 2 (v := .int .i64 u) rfl
        have c3 := hW.cellx 3 (v := .int .i64 h) rfl
        clear z0 z1 z2 z3 hc0 hc1 hc2 hc3 f0 f1 f2 f3 hW
        refine bodyPost_ret (v := .tuple #[.agg #[.string nm, .int .i64 kd, .int .i64 u, .int .i64 h], .bool true]) (by simp [results, Tryd.results28, go_sem, c0, c1, c2, c3]) rfl ⟨?_, ?_⟩
        · unfold findR
          rw [find_take hall.out hlt (by rw [HX.out]; exact HQ.out), HX.out]
          rfl
        · exact ((((hbw.setCell (Nat.le_refl _) _).setCell (Nat.le_refl _) _).setCell (Nat.le_refl _) _).setCell (Nat.le_refl _) _).alloc (by simpa [World.setCell] using hbw.size) _
      | false =>
        go_wp2
        go_roundg (gk - 1)
        case measure => omega
        case rel => exact ⟨k + 1, by go_num, by omega, by omega, Lib.hid (fun i hi h1 => by
          rcases Nat.lt_or_ge i k with h2 | h2
          · exact hall.out i hi h2
          · obtain rfl : i = k := by omega
            rw [HX.out]; exact HQ.out), hbw.alloc hbw.size _, Lib.hid (hblk.out.alloc _)⟩
    · have hno := Lib.hid (find_no (l := l) (p := fun r => r.name.toList == n.toList) fun i hi => hall.out i hi (by omega))
      go_wp2
      have hW := ((((hblk.out.set_ 0 (.string { data := #[] })).set_ 1 (.int .i64 0)).set_ 2 (.int .i64 0)).set_ 3 (.int .i64 0))
      have c0 := hW.cellx 0 (v := .string { data := #[] }) rfl
      have c1 := hW.cellx 1 (v := .int .i64 0) rfl
      have c2 := hW.cellx 2 (v := .int .i64 0) rfl
      have c3 := hW.cellx 3 (v := .int .i64 0) rfl
      clear z0 z1 z2 z3 f0 f1 f2 f3 hW
      refine bodyPost_ret (v := .tuple #[.agg #[.string { data := #[] }, .int .i64 0, .int .i64 0, .int .i64 0], .bool false]) (by simp [results, Tryd.results28, go_sem, c0, c1, c2, c3]) rfl ⟨?_, ?_⟩
      · unfold findR
        rw [hno.out]
        rfl
      · exact (((hbw.setCell (Nat.le_refl _) _).setCell (Nat.le_refl _) _).setCell (Nat.le_refl _) _).setCell (Nat.le_refl _) _
end Go.Proofs.YtfmbkkpdmpgmdaaDoor
