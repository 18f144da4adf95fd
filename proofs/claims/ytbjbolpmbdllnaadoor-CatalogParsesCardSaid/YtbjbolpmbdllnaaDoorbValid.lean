/- Valid of catalogs, the program's and the document's. -/
import Derived.Test.YtbjbolpmbdllnaaDoorbShape
import Derived.Test.YtbjbolpmbdllnaaDoorGrow
import Derived.Laws.Cover1
namespace Go.Proofs.YtbjbolpmbdllnaaDoor
open Go.RowKit

/-- The call returns a truth value of which P says the truth, and leaves alone what was there. -/
def RetB (w : World) (P : Prop) (e : Ending) (w' : World) : Prop := ∃ r : Bool, e = .returned (.bool r) ∧ (r = true ↔ P) ∧ Below w.heap.size w w'
theorem RetB.true_ {w w' : World} {P : Prop} {e : Ending} (he : e = .returned (.bool true)) (hP : P) (hb : Below w.heap.size w w') : RetB w P e w' := ⟨true, he, by simp [hP], hb⟩
theorem RetB.false_ {w w' : World} {P : Prop} {e : Ending} (he : e = .returned (.bool false)) (hP : ¬ P) (hb : Below w.heap.size w w') : RetB w P e w' := ⟨false, he, by simp [hP], hb⟩

/-- What the cells of a resource in a slice are. -/
theorem res_cells {w : World} {S : Nat → Prop} {A : Option Addr} {l : Ct} (h : RowsAt resE w S A l) {i : Nat} (hi : i < l.length) {nm : ByteArray} {k u hm : Int} (e : l[i] = ⟨nm, k, u, hm⟩) :
    ∃ b off, A = some ⟨b, off, none⟩ ∧ S b ∧ w.cell? ⟨b, off + i * 4, none⟩ = some (.string nm) ∧ w.cell? ⟨b, off + i * 4 + 1, none⟩ = some (.int .i64 k) ∧
      w.cell? ⟨b, off + i * 4 + 2, none⟩ = some (.int .i64 u) ∧ w.cell? ⟨b, off + i * 4 + 3, none⟩ = some (.int .i64 hm) := by
  obtain ⟨b, off, cs, hA, hb, hr, hc⟩ := h.getx hi e
  have hr' : cs = [.string nm, .int .i64 k, .int .i64 u, .int .i64 hm] := hr
  subst hr'
  exact ⟨b, off, hA, hb, hc 0 (by decide), hc 1 (by decide), hc 2 (by decide), hc 3 (by decide)⟩

set_option maxHeartbeats 1600000 in
theorem rCatValid_any (A : Option Addr) (B cap : Nat) (l : Ct) (w : World) (hm : l.length ≤ maxLen) (hB : B ≤ w.heap.size) (hr : RowsAt resE w (Lo B) A l) :
    Calls Tryd.prog 8 #[.slice A l.length cap] w (RetB w (VCat l)) := by
  unfold maxLen at hm
  by_cases h8 : l.length ≤ 8
  · go_enter Tryd.func8, Tryd.ntmps8
    go_wp2_with fail
    go_loopg [3] l.length (fun m v wq => ∃ k : Nat, v = .int .i64 (k : Int) ∧ k ≤ l.length ∧ l.length ≤ k + m ∧ Hid ((∀ i (h : i < l.length), i < k → resB l[i] = true) ∧ ∀ i (h : i + 1 < l.length), i + 1 < k → l[i].key < l[i + 1].key) ∧ Below w.heap.size w wq)
    case atStart => exact ⟨0, rfl, Nat.zero_le _, by omega, Lib.hid ⟨fun _ _ h => absurd h (by omega), fun _ _ h => absurd h (by omega)⟩, Below.refl _ _⟩
    case round =>
      obtain ⟨k, rfl, hk, hkm, hall, hbw⟩ := hrel
      by_cases hlt : k < l.length
      · have hrw := hr.below (B'' := wr.heap.size) hbw hB (Nat.le_trans hB hbw.size)
        obtain ⟨b1, hb1⟩ : ∃ b, resB l[k] = b := ⟨_, rfl⟩
        obtain ⟨⟨nm, kd, u, h⟩, hx⟩ : ∃ x, l[k] = x := ⟨_, rfl⟩
        obtain ⟨b, off, rfl, hbl, hc0, hc1, hc2, hc3⟩ := res_cells hrw hlt hx
        have hv := Lib.hid (fun w => rValidRes_any l[k] w)
        rw [hb1, hx] at hv
        unfold Rs.val at hv
        have HB := Lib.hid hb1
        have HX := Lib.hid hx
        have HRW := Lib.hid hrw
        have HBL : Hid (b < wr.heap.size) := Lib.hid hbl
        clear hb1 hx hrw hbl
        cases b1 with
        | false =>
          have g0 := Ext.cell hc0
          have g1 := Ext.cell hc1
          have g2 := Ext.cell hc2
          have g3 := Ext.cell hc3
          try have g4 := Ext.cell hp0
          first | (have hlti : (k : Int) < (l.length : Int) := by omega) | (have hlti : (0 : Int) < (l.length : Int) := by omega)
          go_wp2_with fail
          refine wp_region_grow (by kernel_rfl) (by kernel_rfl) ?_; (repeat (go_big_quiet_step ((go_at_call 19; exact Ext.call _ (hv.out _))))); refine wpQuiet_nil ?_; rintro w2 ⟨n2, rfl⟩; obtain ⟨w2, hb2⟩ := n2
          go_wp2
          go_ret
          exact .false_ rfl (fun hv => by have := hv.2.1 k hlt; rw [HB.out] at this; cases this) (hbw.trans (hb2.mono hbw.size))
        | true =>
          rcases Nat.eq_zero_or_pos k with hk0 | hk0
          · have hkz : (k : Int) ≤ 0 := by omega
            have hd : decide ((0 : Int) < (k : Int)) = false := decide_eq_false (by omega)
            have hd' : decide (0 < k) = false := decide_eq_false (by omega)
            clear hk0
            have g0 := Ext.cell hc0
            have g1 := Ext.cell hc1
            have g2 := Ext.cell hc2
            have g3 := Ext.cell hc3
            try have g4 := Ext.cell hp0
            first | (have hlti : (k : Int) < (l.length : Int) := by omega) | (have hlti : (0 : Int) < (l.length : Int) := by omega)
            go_wp2_with fail
            refine wp_region_grow (by kernel_rfl) (by kernel_rfl) ?_; (repeat (go_big_quiet_step ((go_at_call 19; exact Ext.call _ (hv.out _))))); refine wpQuiet_nil ?_; rintro w2 ⟨n2, rfl⟩; obtain ⟨w2, hb2⟩ := n2
            go_wp2
            go_roundg (gk - 1)
            case measure => omega
            case rel =>
              refine ⟨k + 1, by go_num, by omega, by omega, Lib.hid ⟨fun i hi h1 => ?_, fun i hi h1 => absurd h1 (by omega)⟩, (hbw.trans (hb2.mono hbw.size))⟩
              obtain rfl : i = k := by omega
              exact HB.out
          · obtain ⟨⟨nm', kd', u', h'⟩, hx'⟩ : ∃ x, l[k - 1]'(by omega) = x := ⟨_, rfl⟩
            obtain ⟨b', off', hA, _, hp0, _, _, _⟩ := res_cells HRW.out (show k - 1 < l.length by omega) hx'
            injection hA with hA
            injection hA with e1 e2
            subst e1
            subst e2
            obtain ⟨lt, hlt2⟩ : ∃ lt, Op.bytesLess nm'.toList nm.toList = lt := ⟨_, rfl⟩
            have HLT := Lib.hid hlt2
            have HX' := Lib.hid hx'
            clear hx' HRW
            cases lt with
            | false =>
              have g0 := Ext.cell hc0
              have g1 := Ext.cell hc1
              have g2 := Ext.cell hc2
              have g3 := Ext.cell hc3
              try have g4 := Ext.cell hp0
              first | (have hlti : (k : Int) < (l.length : Int) := by omega) | (have hlti : (0 : Int) < (l.length : Int) := by omega)
              go_wp2_with fail
              refine wp_region_grow (by kernel_rfl) (by kernel_rfl) ?_; (repeat (go_big_quiet_step ((go_at_call 19; exact Ext.call _ (hv.out _))))); refine wpQuiet_nil ?_; rintro w2 ⟨n2, rfl⟩; obtain ⟨w2, hb2⟩ := n2
              go_wp2
              go_ret
              refine .false_ rfl (fun hv => ?_) (hbw.trans (hb2.mono hbw.size))
              have h1 := hv.2.2 (k - 1) (by omega)
              have h2 : l[k - 1 + 1]'(by omega) = l[k] := by congr 1; omega
              have h3 := HLT.out
              rw [bytesLess_eq, decide_eq_false_iff_not] at h3
              rw [h2, HX.out, HX'.out] at h1
              exact h3 h1
            | true =>
              have g0 := Ext.cell hc0
              have g1 := Ext.cell hc1
              have g2 := Ext.cell hc2
              have g3 := Ext.cell hc3
              try have g4 := Ext.cell hp0
              first | (have hlti : (k : Int) < (l.length : Int) := by omega) | (have hlti : (0 : Int) < (l.length : Int) := by omega)
              go_wp2_with fail
              refine wp_region_grow (by kernel_rfl) (by kernel_rfl) ?_; (repeat (go_big_quiet_step ((go_at_call 19; exact Ext.call _ (hv.out _))))); refine wpQuiet_nil ?_; rintro w2 ⟨n2, rfl⟩; obtain ⟨w2, hb2⟩ := n2
              go_wp2
              go_roundg (gk - 1)
              case measure => omega
              case rel =>
                refine ⟨k + 1, by go_num, by omega, by omega, Lib.hid ⟨fun i hi h1 => ?_, fun i hi h1 => ?_⟩, (hbw.trans (hb2.mono hbw.size))⟩
                · rcases Nat.lt_or_ge i k with h2 | h2
                  · exact hall.out.1 i hi h2
                  · obtain rfl : i = k := by omega
                    exact HB.out
                · rcases Nat.lt_or_ge (i + 1) k with h2 | h2
                  · exact hall.out.2 i hi h2
                  · have e : i = k - 1 := by omega
                    subst e
                    have h2 : l[k - 1 + 1]'(by omega) = l[k] := by congr 1; omega
                    have h3 := HLT.out
                    rw [bytesLess_eq, decide_eq_true_eq] at h3
                    rw [h2, HX.out, HX'.out]
                    exact h3
      · go_wp2
        go_ret
        exact .true_ rfl ⟨h8, fun i hi => hall.out.1 i hi (by omega), fun i hi => hall.out.2 i hi (by omega)⟩ hbw
  · go_enter Tryd.func8, Tryd.ntmps8
    go_wp2
    go_ret
    exact .false_ rfl (fun h => h8 h.1) (Below.refl _ _)

set_option maxHeartbeats 1600000 in
theorem CatValid_any (A : Option Addr) (B cap : Nat) (l : Ct) (w : World) (hm : l.length ≤ maxLen) (hB : B ≤ w.heap.size) (hr : RowsAt resE w (Lo B) A l) :
    Calls Tryd.prog 12 #[.slice A l.length cap] w (RetB w (VCat l)) := by
  unfold maxLen at hm
  by_cases h8 : l.length ≤ 8
  · go_enter Tryd.func12, Tryd.ntmps12
    go_wp2_with fail
    go_loopg [10] l.length (fun m v wq => ∃ k : Nat, v = .int .i64 (k : Int) ∧ k ≤ l.length ∧ l.length ≤ k + m ∧ Hid ((∀ i (h : i < l.length), i < k → resB l[i] = true) ∧ ∀ i (h : i + 1 < l.length), i + 1 < k → l[i].key < l[i + 1].key) ∧ Below w.heap.size w wq)
    case atStart => exact ⟨0, rfl, Nat.zero_le _, by omega, Lib.hid ⟨fun _ _ h => absurd h (by omega), fun _ _ h => absurd h (by omega)⟩, Below.refl _ _⟩
    case round =>
      obtain ⟨k, rfl, hk, hkm, hall, hbw⟩ := hrel
      by_cases hlt : k < l.length
      · have hrw := hr.below (B'' := wr.heap.size) hbw hB (Nat.le_trans hB hbw.size)
        obtain ⟨b1, hb1⟩ : ∃ b, resB l[k] = b := ⟨_, rfl⟩
        obtain ⟨⟨nm, kd, u, h⟩, hx⟩ : ∃ x, l[k] = x := ⟨_, rfl⟩
        obtain ⟨b, off, rfl, hbl, hc0, hc1, hc2, hc3⟩ := res_cells hrw hlt hx
        have hv := Lib.hid (fun w => ValidRes_any l[k] w)
        rw [hb1, hx] at hv
        unfold Rs.val at hv
        have HB := Lib.hid hb1
        have HX := Lib.hid hx
        have HRW := Lib.hid hrw
        have HBL : Hid (b < wr.heap.size) := Lib.hid hbl
        clear hb1 hx hrw hbl
        cases b1 with
        | false =>
          have g0 := Ext.new (w0 := wr) #[.string nm, .int .i64 kd, .int .i64 u, .int .i64 h] 36 (j := 0) rfl
          have g1 := Ext.new (w0 := wr) #[.string nm, .int .i64 kd, .int .i64 u, .int .i64 h] 36 (j := 1) rfl
          have g2 := Ext.new (w0 := wr) #[.string nm, .int .i64 kd, .int .i64 u, .int .i64 h] 36 (j := 2) rfl
          have g3 := Ext.new (w0 := wr) #[.string nm, .int .i64 kd, .int .i64 u, .int .i64 h] 36 (j := 3) rfl
          try have g4 := Ext.old (w0 := wr) (.cells #[.string nm, .int .i64 kd, .int .i64 u, .int .i64 h] 36) hp0
          first | (have hlti : (k : Int) < (l.length : Int) := by omega) | (have hlti : (0 : Int) < (l.length : Int) := by omega)
          go_wp2_with fail
          refine wp_region_grow (by kernel_rfl) (by kernel_rfl) ?_; (repeat (go_big_quiet_step ((go_at_call 24; exact Ext.call _ (hv.out _))))); refine wpQuiet_nil ?_; rintro w2 ⟨n2, rfl⟩; obtain ⟨w2, hb2⟩ := n2
          go_wp2
          go_ret
          exact .false_ rfl (fun hv => by have := hv.2.1 k hlt; rw [HB.out] at this; cases this) ((hbw.alloc hbw.size _).trans (hb2.mono (by have := hbw.size; simp; omega)))
        | true =>
          rcases Nat.eq_zero_or_pos k with hk0 | hk0
          · have hkz : (k : Int) ≤ 0 := by omega
            have hd : decide ((0 : Int) < (k : Int)) = false := decide_eq_false (by omega)
            have hd' : decide (0 < k) = false := decide_eq_false (by omega)
            clear hk0
            have g0 := Ext.new (w0 := wr) #[.string nm, .int .i64 kd, .int .i64 u, .int .i64 h] 36 (j := 0) rfl
            have g1 := Ext.new (w0 := wr) #[.string nm, .int .i64 kd, .int .i64 u, .int .i64 h] 36 (j := 1) rfl
            have g2 := Ext.new (w0 := wr) #[.string nm, .int .i64 kd, .int .i64 u, .int .i64 h] 36 (j := 2) rfl
            have g3 := Ext.new (w0 := wr) #[.string nm, .int .i64 kd, .int .i64 u, .int .i64 h] 36 (j := 3) rfl
            try have g4 := Ext.old (w0 := wr) (.cells #[.string nm, .int .i64 kd, .int .i64 u, .int .i64 h] 36) hp0
            first | (have hlti : (k : Int) < (l.length : Int) := by omega) | (have hlti : (0 : Int) < (l.length : Int) := by omega)
            go_wp2_with fail
            refine wp_region_grow (by kernel_rfl) (by kernel_rfl) ?_; (repeat (go_big_quiet_step ((go_at_call 24; exact Ext.call _ (hv.out _))))); refine wpQuiet_nil ?_; rintro w2 ⟨n2, rfl⟩; obtain ⟨w2, hb2⟩ := n2
            go_wp2
            go_roundg (gk - 1)
            case measure => omega
            case rel =>
              refine ⟨k + 1, by go_num, by omega, by omega, Lib.hid ⟨fun i hi h1 => ?_, fun i hi h1 => absurd h1 (by omega)⟩, ((hbw.alloc hbw.size _).trans (hb2.mono (by have := hbw.size; simp; omega)))⟩
              obtain rfl : i = k := by omega
              exact HB.out
          · obtain ⟨⟨nm', kd', u', h'⟩, hx'⟩ : ∃ x, l[k - 1]'(by omega) = x := ⟨_, rfl⟩
            obtain ⟨b', off', hA, _, hp0, _, _, _⟩ := res_cells HRW.out (show k - 1 < l.length by omega) hx'
            injection hA with hA
            injection hA with e1 e2
            subst e1
            subst e2
            obtain ⟨lt, hlt2⟩ : ∃ lt, Op.bytesLess nm'.toList nm.toList = lt := ⟨_, rfl⟩
            have HLT := Lib.hid hlt2
            have HX' := Lib.hid hx'
            clear hx' HRW
            cases lt with
            | false =>
              have g0 := Ext.new (w0 := wr) #[.string nm, .int .i64 kd, .int .i64 u, .int .i64 h] 36 (j := 0) rfl
              have g1 := Ext.new (w0 := wr) #[.string nm, .int .i64 kd, .int .i64 u, .int .i64 h] 36 (j := 1) rfl
              have g2 := Ext.new (w0 := wr) #[.string nm, .int .i64 kd, .int .i64 u, .int .i64 h] 36 (j := 2) rfl
              have g3 := Ext.new (w0 := wr) #[.string nm, .int .i64 kd, .int .i64 u, .int .i64 h] 36 (j := 3) rfl
              try have g4 := Ext.old (w0 := wr) (.cells #[.string nm, .int .i64 kd, .int .i64 u, .int .i64 h] 36) hp0
              first | (have hlti : (k : Int) < (l.length : Int) := by omega) | (have hlti : (0 : Int) < (l.length : Int) := by omega)
              go_wp2_with fail
              refine wp_region_grow (by kernel_rfl) (by kernel_rfl) ?_; (repeat (go_big_quiet_step ((go_at_call 24; exact Ext.call _ (hv.out _))))); refine wpQuiet_nil ?_; rintro w2 ⟨n2, rfl⟩; obtain ⟨w2, hb2⟩ := n2
              go_wp2
              go_ret
              refine .false_ rfl (fun hv => ?_) ((hbw.alloc hbw.size _).trans (hb2.mono (by have := hbw.size; simp; omega)))
              have h1 := hv.2.2 (k - 1) (by omega)
              have h2 : l[k - 1 + 1]'(by omega) = l[k] := by congr 1; omega
              have h3 := HLT.out
              rw [bytesLess_eq, decide_eq_false_iff_not] at h3
              rw [h2, HX.out, HX'.out] at h1
              exact h3 h1
            | true =>
              have g0 := Ext.new (w0 := wr) #[.string nm, .int .i64 kd, .int .i64 u, .int .i64 h] 36 (j := 0) rfl
              have g1 := Ext.new (w0 := wr) #[.string nm, .int .i64 kd, .int .i64 u, .int .i64 h] 36 (j := 1) rfl
              have g2 := Ext.new (w0 := wr) #[.string nm, .int .i64 kd, .int .i64 u, .int .i64 h] 36 (j := 2) rfl
              have g3 := Ext.new (w0 := wr) #[.string nm, .int .i64 kd, .int .i64 u, .int .i64 h] 36 (j := 3) rfl
              try have g4 := Ext.old (w0 := wr) (.cells #[.string nm, .int .i64 kd, .int .i64 u, .int .i64 h] 36) hp0
              first | (have hlti : (k : Int) < (l.length : Int) := by omega) | (have hlti : (0 : Int) < (l.length : Int) := by omega)
              go_wp2_with fail
              refine wp_region_grow (by kernel_rfl) (by kernel_rfl) ?_; (repeat (go_big_quiet_step ((go_at_call 24; exact Ext.call _ (hv.out _))))); refine wpQuiet_nil ?_; rintro w2 ⟨n2, rfl⟩; obtain ⟨w2, hb2⟩ := n2
              go_wp2
              go_roundg (gk - 1)
              case measure => omega
              case rel =>
                refine ⟨k + 1, by go_num, by omega, by omega, Lib.hid ⟨fun i hi h1 => ?_, fun i hi h1 => ?_⟩, ((hbw.alloc hbw.size _).trans (hb2.mono (by have := hbw.size; simp; omega)))⟩
                · rcases Nat.lt_or_ge i k with h2 | h2
                  · exact hall.out.1 i hi h2
                  · obtain rfl : i = k := by omega
                    exact HB.out
                · rcases Nat.lt_or_ge (i + 1) k with h2 | h2
                  · exact hall.out.2 i hi h2
                  · have e : i = k - 1 := by omega
                    subst e
                    have h2 : l[k - 1 + 1]'(by omega) = l[k] := by congr 1; omega
                    have h3 := HLT.out
                    rw [bytesLess_eq, decide_eq_true_eq] at h3
                    rw [h2, HX.out, HX'.out]
                    exact h3
      · go_wp2
        go_ret
        exact .true_ rfl ⟨h8, fun i hi => hall.out.1 i hi (by omega), fun i hi => hall.out.2 i hi (by omega)⟩ hbw
  · go_enter Tryd.func12, Tryd.ntmps12
    go_wp2
    go_ret
    exact .false_ rfl (fun h => h8 h.1) (Below.refl _ _)
end Go.Proofs.YtbjbolpmbdllnaaDoor
