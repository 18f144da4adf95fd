/- The law CatalogResolves: the walk. -/
import Derived.Test.YtfmbkkpdmpgmdaaDoorbLaw2
import Derived.Deep.RegionHeld3
namespace Go.Proofs.YtfmbkkpdmpgmdaaDoor
open Go.RowKit

set_option maxHeartbeats 3200000 in
theorem CResolves_any (A : Option Addr) (B cap : Nat) (l : Ct) (n : ByteArray) (m u s : Int) (w : World) (hm : l.length ≤ maxLen) (hmb : l.length * 40 ≤ 140737488355328) (hB : B ≤ w.heap.size) (hr : RowsAt resE w (Lo B) A l) :
    Calls Tryd.prog 10 #[.slice A l.length cap, .agg #[.string n, .int .i64 m, .int .i64 u], .int .i64 s] w (Ret w (.bool true)) := by
  have H0 := Lib.hid (fun W => awake_any W)
  have H1 := Lib.hid (fun W (h : Below w.heap.size w W) => Resolve_any A B cap l n m u W hm (Nat.le_trans hB h.size) (hr.below h hB (Nat.le_refl _)))
  have H2 := Lib.hid (fun W (h : Below w.heap.size w W) => rResolve_any A B cap l n m u W hm (Nat.le_trans hB h.size) (hr.below h hB (Nat.le_refl _)))
  have H3 := Lib.hid (fun W (h : Below w.heap.size w W) => At_any A B cap l s W hm hmb (Nat.le_trans hB h.size) (hr.below h hB (Nat.le_refl _)))
  have H4 := Lib.hid (fun W (h : Below w.heap.size w W) => rAt_any A B cap l s W hm hmb (Nat.le_trans hB h.size) (hr.below h hB (Nat.le_refl _)))
  generalize resolveS l n m u = er at *
  generalize atL l s = x at *
  have ee : (er == er) = true := by simp
  clear hr
  go_enter Tryd.func10, Tryd.ntmps10
  go_wp2_with fail
  have hB1 : Below w.heap.size w (w.alloc (.cells #[.string n, .int .i64 m, .int .i64 u] 44)).drew := ((Below.refl w.heap.size w).alloc (Nat.le_refl _) _).drew
  have HB1 := Lib.hid hB1
  have HK1 : Hid (Blk (w.alloc (.cells #[.string n, .int .i64 m, .int .i64 u] 44)).drew w.heap.size 44 #[.string n, .int .i64 m, .int .i64 u]) := Lib.hid (Blk.new w _ _)
  clear hB1
  go_region_held3 (fun w' => w'.cell? ⟨w.heap.size, 0, none⟩ = some (.string n) ∧ w'.cell? ⟨w.heap.size, 1, none⟩ = some (.int .i64 m) ∧ w'.cell? ⟨w.heap.size, 2, none⟩ = some (.int .i64 u))
    (first
      | exact ⟨cellNewA w _ _ 0, cellNewA w _ _ 1, cellNewA w _ _ 2⟩
      | exact hC7 | exact hC6 | exact hC5 | exact hC4 | exact hC3 | exact hC2)
    ((first
      | (go_at_call 13; refine (H0.out _).mono ?_; rintro e w2 ⟨rfl, hb2⟩; have hB2 : Below w.heap.size w w2 := HB1.out.trans (hb2.mono HB1.out.size); have hK2 : Blk w2 w.heap.size 44 #[.string n, .int .i64 m, .int .i64 u] := HK1.out.below hb2 HK1.out.lt; have hC2 := And.intro (hK2.cellx 0 (v := .string n) rfl) (And.intro (hK2.cellx 1 (v := .int .i64 m) rfl) (hK2.cellx 2 (v := .int .i64 u) rfl)))
      | (go_at_call 31; refine (H2.out _ hB3).mono ?_; rintro e w4 ⟨rfl, hb4⟩; have hB4 : Below w.heap.size w w4 := hB3.trans (hb4.mono hB3.size); have hK4 := hK3.below hb4 hK3.lt; have hC4 := And.intro (hK4.cellx 0 (v := .string n) rfl) (And.intro (hK4.cellx 1 (v := .int .i64 m) rfl) (hK4.cellx 2 (v := .int .i64 u) rfl)))
      | (go_at_call 25; refine (H3.out _ hB4).mono ?_; rintro e w5 ⟨v5, rfl, hown5, hb5⟩; obtain ⟨A5, c5, rfl, hr5, hl5, hl5'⟩ := hown5.form; have hB5 : Below w.heap.size w w5 := hB4.trans (hb5.mono hB4.size); have hK5 := hK4.below hb5 hK4.lt; have hC5 := And.intro (hK5.cellx 0 (v := .string n) rfl) (And.intro (hK5.cellx 1 (v := .int .i64 m) rfl) (hK5.cellx 2 (v := .int .i64 u) rfl)))
      | (go_at_call 32; refine (H4.out _ hB5).mono ?_; rintro e w6 ⟨v6, rfl, hown6, hb6⟩; obtain ⟨A6, c6, rfl, hr6, _, _⟩ := hown6.form; have hr56 := hr5.below (B'' := w6.heap.size) hb6 (Nat.le_refl _) hb6.size; have hB6 : Below w.heap.size w w6 := hB5.trans (hb6.mono hB5.size); have hK6 := hK5.below hb6 hK5.lt; have hC6 := And.intro (hK6.cellx 0 (v := .string n) rfl) (And.intro (hK6.cellx 1 (v := .int .i64 m) rfl) (hK6.cellx 2 (v := .int .i64 u) rfl)))
      | (go_at_call 24; refine (Same_any A5 A6 w6.heap.size w6.heap.size c5 c6 x x w6 (Nat.le_trans hl5 hl5') (Nat.le_trans hl5 hl5') (Nat.le_refl _) (Nat.le_refl _) hr56 hr6).mono ?_; rintro e w7 ⟨b7, rfl, hq7, hb7⟩; obtain rfl : b7 = true := hq7.2 rfl; have hB7 : Below w.heap.size w w7 := hB6.trans (hb7.mono hB6.size); have hK7 := hK6.below hb7 hK6.lt; have hC7 := And.intro (hK7.cellx 0 (v := .string n) rfl) (And.intro (hK7.cellx 1 (v := .int .i64 m) rfl) (hK7.cellx 2 (v := .int .i64 u) rfl)))
      | (go_at_call 30; refine (H1.out _ hB2).mono ?_; rintro e w3 ⟨rfl, hb3⟩; have hB3 : Below w.heap.size w w3 := hB2.trans (hb3.mono hB2.size); have hK3 := hK2.below hb3 hK2.lt; have hC3 := And.intro (hK3.cellx 0 (v := .string n) rfl) (And.intro (hK3.cellx 1 (v := .int .i64 m) rfl) (hK3.cellx 2 (v := .int .i64 u) rfl)))))
  all_goals
    go_wp2
    go_ret
    exact ⟨rfl, hB7⟩
end Go.Proofs.YtfmbkkpdmpgmdaaDoor
