/- Which graphs are valid: the reference's answer. -/
import Derived.Test.YtgdeekghngpcfaaValid
namespace Go.Proofs.Ytgdeekghngpcfaa
open Go.RowKit

theorem okNext_step' {n : Nat} {l : List Int} {j : Nat} (hj : j < l.length) (h : OkNext n l j) (h0 : 0 ≤ l[j]) (h1 : l[j] < n) (h2 : 0 < j → l[j - 1] < l[j]) : OkNext n l (j + 1) := by
  intro i hi hij
  by_cases e : i = j
  · subst e; exact ⟨h0, h1, h2⟩
  · exact h i hi (by omega)

theorem okNext_in {n : Nat} {l : List Int} {j : Nat} (hj : j < l.length) (h : OkNext n l l.length) : 0 ≤ l[j] ∧ l[j] < n := ⟨(h j hj hj).1, (h j hj hj).2.1⟩
set_option maxHeartbeats 1600000 in
set_option maxRecDepth 100000 in
theorem rValid_any (A : Option Addr) (cap : Nat) (g : Gr) (w : World) (hf : FitsG g) (hr : GraphAt w w.heap.size A g) :
    Calls Try.prog 13 #[.slice A g.length cap] w (RetB w (ValidG g)) := by
  have HF := Lib.hid hf
  have hlen : g.length ≤ 40 := hf.1
  have hl2 : decide (160 < (g.length : Int)) = false := by simp; omega
  clear hf
  go_enter Try.func13, Try.ntmps13
  go_wp2
  clear hl2
  go_loopw [3] (fun i wr => ∃ k : Nat, k ≤ g.length ∧ i = .int .i64 k ∧ Hid (∀ j (h : j < g.length), j < k → OkNd g.length g[j]) ∧ ∃ n, wr = w.drewN n) (fun i _ => g.length - (intOf i).toNat)
  case atStart => exact ⟨0, Nat.zero_le _, rfl, fun j _ h => absurd h (by omega), 0, rfl⟩
  case round =>
    obtain ⟨k, hk, rfl, hno, n0, rfl⟩ := hrel
    by_cases hlt : k < g.length
    · obtain ⟨b, off, nA, ncap, rfl, hb, hc1, hc2, hN⟩ := hr k hlt
      obtain ⟨h1, h2, h3⟩ := HF.out.2 k hlt
      have H3 := Lib.hid h3
      clear h3
      have HN := Lib.hid hN
      clear hN
      by_cases hgood : 0 ≤ g[k].k ∧ g[k].k ≤ g[k].next.length ∧ (g[k].k = 0 → g[k].next.length = 0)
      · obtain ⟨hg1, hg2, hg3⟩ := hgood
        have HG3 := Lib.hid hg3
        clear hg3
        have hsp : (g[k].next.length ≤ 0 ∧ g[k].k ≤ 0) ∨ 1 ≤ g[k].k := by
          rcases Int.lt_or_le 0 g[k].k with h | h
          · exact .inr h
          · exact .inl ⟨by rw [HG3.out (by omega)]; omega, h⟩
        have d1 : decide (160 < (g[k].next.length : Int)) = false := by simp; omega
        have d2 : decide (g[k].k < 0) = false := by simp; omega
        have d3 : decide ((g[k].next.length : Int) < g[k].k) = false := by simp; omega
        rcases hsp with ⟨hz1, hz2⟩ | hz1
        · have d4 : (g[k].k == 0) = true := beq_iff_eq.2 (by omega)
          have d5 : decide (0 < g[k].next.length) = false := decide_eq_false (by omega)
          go_wp2
          go_quiet (fail)
          go_wp2
          go_loopw [4] (fun c wr => ∃ j : Nat, j ≤ g[k].next.length ∧ c = .int .i64 j ∧ Hid (OkNext g.length g[k].next j) ∧ ∃ n, wr = w.drewN n) (fun c _ => g[k].next.length - (intOf c).toNat)
          case atStart => exact ⟨0, Nat.zero_le _, rfl, fun j _ h => absurd h (by omega), n0 + nq, by simp⟩
          case round =>
            obtain ⟨j, hj, rfl, hinv, n1, rfl⟩ := hrel
            go_wp2
            go_roundw
            case rel => exact ⟨k+1, by omega, by go_num, fun i h hi => by
              by_cases e : i = k
              · subst e; exact ⟨hg1, hg2, HG3.out, fun j' h' _ => hinv.out j' h' (by omega)⟩
              · exact hno.out i h (by omega), _, rfl⟩
            case measure => simp [intOf]; omega
        · have d4 : (g[k].k == 0) = false := by simp; omega
          go_wp2
          go_quiet (fail)
          go_wp2
          go_loopw [4] (fun c wr => ∃ j : Nat, j ≤ g[k].next.length ∧ c = .int .i64 j ∧ Hid (OkNext g.length g[k].next j) ∧ ∃ n, wr = w.drewN n) (fun c _ => g[k].next.length - (intOf c).toNat)
          case atStart => exact ⟨0, Nat.zero_le _, rfl, fun j _ h => absurd h (by omega), n0 + nq, by simp⟩
          case round =>
            obtain ⟨j, hj, rfl, hinv, n1, rfl⟩ := hrel
            by_cases hlt2 : j < g[k].next.length
            · obtain ⟨b2, off2, rfl, hb2, hc3⟩ := HN.out j hlt2
              by_cases hj0 : j = 0
              · have HJ := Lib.hid hj0
                have d6 : decide (0 < j) = false := decide_eq_false (by omega)
                clear hj0
                by_cases hok : 0 ≤ g[k].next[j] ∧ g[k].next[j] < g.length
                · obtain ⟨ho1, ho2⟩ := hok
                  have e1 : decide (g[k].next[j] < 0) = false := decide_eq_false (by omega)
                  have e2 : decide ((g.length : Int) ≤ g[k].next[j]) = false := decide_eq_false (by omega)
                  go_wp2
                  go_quiet (fail)
                  go_wp2
                  go_roundw
                  case rel => exact ⟨j + 1, by omega, by go_num, okNext_step' hlt2 hinv.out ho1 ho2 (fun h => absurd h (by rw [HJ.out]; omega)), n1 + nq, by simp⟩
                  case measure => simp [intOf]; omega
                · have hbad := Lib.hid hok
                  have hsp : g[k].next[j] < 0 ∨ (0 ≤ g[k].next[j] ∧ (g.length : Int) ≤ g[k].next[j]) := by omega
                  clear hok
                  rcases hsp with ho | ⟨ho1, ho2⟩
                  · go_wp2
                    go_quiet (fail)
                    go_wp2
                    go_ret
                    exact .false_ rfl (fun hv => hbad.out (okNext_in hlt2 (hv.2 k hlt).2.2.2)) (by repeat first | exact Below.refl _ _ | assumption | refine below_drewN ?_ _ | refine Below.drew ?_)
                  · have e1 : decide (g[k].next[j] < 0) = false := decide_eq_false (by omega)
                    go_wp2
                    go_quiet (fail)
                    go_wp2
                    go_ret
                    exact .false_ rfl (fun hv => hbad.out (okNext_in hlt2 (hv.2 k hlt).2.2.2)) (by repeat first | exact Below.refl _ _ | assumption | refine below_drewN ?_ _ | refine Below.drew ?_)
              · have hj1 : 1 ≤ j := by omega
                have d6 : decide (0 < j) = true := decide_eq_true (by omega)
                obtain ⟨b3, off3, ho3, hb3, hc4⟩ := HN.out (j - 1) (by omega)
                obtain ⟨rfl, rfl⟩ : b2 = b3 ∧ off2 = off3 := by simpa using ho3
                clear hj0 ho3
                by_cases hok : 0 ≤ g[k].next[j] ∧ g[k].next[j] < g.length
                · obtain ⟨ho1, ho2⟩ := hok
                  have e1 : decide (g[k].next[j] < 0) = false := decide_eq_false (by omega)
                  have e2 : decide ((g.length : Int) ≤ g[k].next[j]) = false := decide_eq_false (by omega)
                  by_cases hasc : g[k].next[j - 1] < g[k].next[j]
                  · have e3 : decide (g[k].next[j] ≤ g[k].next[j - 1]) = false := decide_eq_false (by omega)
                    go_wp2
                    go_quiet (fail)
                    go_wp2
                    go_roundw
                    case rel => exact ⟨j + 1, by omega, by go_num, okNext_step' hlt2 hinv.out ho1 ho2 (fun _ => hasc), n1 + nq, by simp⟩
                    case measure => simp [intOf]; omega
                  · have e3 : g[k].next[j] ≤ g[k].next[j - 1] := by omega
                    have hbad := Lib.hid hasc
                    clear hasc
                    go_wp2
                    go_quiet (fail)
                    go_wp2
                    go_ret
                    exact .false_ rfl (fun hv => by have h1 := hbad.out; have h2 := (((hv.2 k hlt).2.2.2) j hlt2 hlt2).2.2 (by omega); omega) (by repeat first | exact Below.refl _ _ | assumption | refine below_drewN ?_ _ | refine Below.drew ?_)
                · have hbad := Lib.hid hok
                  have hsp : g[k].next[j] < 0 ∨ (0 ≤ g[k].next[j] ∧ (g.length : Int) ≤ g[k].next[j]) := by omega
                  clear hok
                  rcases hsp with ho | ⟨ho1, ho2⟩
                  · go_wp2
                    go_quiet (fail)
                    go_wp2
                    go_ret
                    exact .false_ rfl (fun hv => hbad.out (okNext_in hlt2 (hv.2 k hlt).2.2.2)) (by repeat first | exact Below.refl _ _ | assumption | refine below_drewN ?_ _ | refine Below.drew ?_)
                  · have e1 : decide (g[k].next[j] < 0) = false := decide_eq_false (by omega)
                    go_wp2
                    go_quiet (fail)
                    go_wp2
                    go_ret
                    exact .false_ rfl (fun hv => hbad.out (okNext_in hlt2 (hv.2 k hlt).2.2.2)) (by repeat first | exact Below.refl _ _ | assumption | refine below_drewN ?_ _ | refine Below.drew ?_)
            · go_wp2
              go_roundw
              case rel => exact ⟨k+1, by omega, by go_num, fun i h hi => by
                by_cases e : i = k
                · subst e; exact ⟨hg1, hg2, HG3.out, fun j' h' _ => hinv.out j' h' (by omega)⟩
                · exact hno.out i h (by omega), _, rfl⟩
              case measure => simp [intOf]; omega
      · have hbad := Lib.hid hgood
        have hsp : g[k].k < 0 ∨ (0 ≤ g[k].k ∧ g[k].next.length < g[k].k) ∨ (0 ≤ g[k].k ∧ g[k].k ≤ 0 ∧ 0 < g[k].next.length) := by
          by_cases h1 : g[k].k < 0
          · exact .inl h1
          · by_cases h2 : g[k].next.length < g[k].k
            · exact .inr (.inl ⟨by omega, h2⟩)
            · refine .inr (.inr ⟨by omega, ?_⟩)
              by_cases h3 : g[k].k = 0 ∧ 0 < g[k].next.length
              · omega
              · exact absurd ⟨by omega, by omega, fun h => by omega⟩ hgood
        clear hgood
        have d1 : decide (160 < (g[k].next.length : Int)) = false := by simp; omega
        rcases hsp with hz1 | ⟨hz1, hz2⟩ | ⟨hz1, hz2, hz3⟩
        · go_wp2
          go_quiet (fail)
          go_wp2
          go_ret
          exact .false_ rfl (fun hv => hbad.out ⟨(hv.2 k hlt).1, (hv.2 k hlt).2.1, (hv.2 k hlt).2.2.1⟩) (by repeat first | exact Below.refl _ _ | assumption | refine below_drewN ?_ _ | refine Below.drew ?_)
        · have d2 : decide (g[k].k < 0) = false := decide_eq_false (by omega)
          go_wp2
          go_quiet (fail)
          go_wp2
          go_ret
          exact .false_ rfl (fun hv => hbad.out ⟨(hv.2 k hlt).1, (hv.2 k hlt).2.1, (hv.2 k hlt).2.2.1⟩) (by repeat first | exact Below.refl _ _ | assumption | refine below_drewN ?_ _ | refine Below.drew ?_)
        · have d2 : decide (g[k].k < 0) = false := decide_eq_false (by omega)
          have d3 : decide ((g[k].next.length : Int) < g[k].k) = false := decide_eq_false (by omega)
          have d4 : (g[k].k == 0) = true := beq_iff_eq.2 (by omega)
          go_wp2
          go_quiet (fail)
          go_wp2
          go_ret
          exact .false_ rfl (fun hv => hbad.out ⟨(hv.2 k hlt).1, (hv.2 k hlt).2.1, (hv.2 k hlt).2.2.1⟩) (by repeat first | exact Below.refl _ _ | assumption | refine below_drewN ?_ _ | refine Below.drew ?_)
    · go_wp2
      go_ret
      exact .true_ rfl ⟨by omega, fun i h => hno.out i h (by omega)⟩ (by repeat first | exact Below.refl _ _ | assumption | refine below_drewN ?_ _ | refine Below.drew ?_)
end Go.Proofs.Ytgdeekghngpcfaa
