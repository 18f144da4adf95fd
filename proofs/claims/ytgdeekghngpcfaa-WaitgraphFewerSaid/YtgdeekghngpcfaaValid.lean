/- Which graphs are valid: the program's answer and the reference's. -/
import Derived.Test.YtgdeekghngpcfaaPure
namespace Go.Proofs.Ytgdeekghngpcfaa
open Go.RowKit

def OkNext (n : Nat) (l : List Int) (m : Nat) : Prop := ∀ j (h : j < l.length), j < m → 0 ≤ l[j] ∧ l[j] < n ∧ (0 < j → l[j - 1] < l[j])
def OkNd (n : Nat) (nd : Nd) : Prop := 0 ≤ nd.k ∧ nd.k ≤ nd.next.length ∧ (nd.k = 0 → nd.next.length = 0) ∧ OkNext n nd.next nd.next.length
def ValidG (g : Gr) : Prop := g.length ≤ 160 ∧ ∀ i (h : i < g.length), OkNd g.length g[i]

def LastOk (l : List Int) (j : Nat) (lst : Int) : Prop := (j = 0 ∧ lst = -1) ∨ ∃ h : j - 1 < l.length, 0 < j ∧ lst = l[j - 1]
theorem okNext_step {n : Nat} {l : List Int} {j : Nat} {lst : Int} (hj : j < l.length) (h : OkNext n l j ∧ LastOk l j lst) (h1 : lst < l[j]) (h2 : l[j] < n) : OkNext n l (j + 1) := by
  intro i hi hij
  by_cases e : i = j
  · subst e
    rcases h.2 with ⟨e0, e1⟩ | ⟨hl, h0, e1⟩
    · exact ⟨by omega, h2, fun h => by omega⟩
    · have := h.1 (i - 1) hl (by omega)
      exact ⟨by omega, h2, fun _ => by omega⟩
  · exact h.1 i hi (by omega)
theorem okNext_no {n : Nat} {l : List Int} {j : Nat} {lst : Int} (hj : j < l.length) (h : OkNext n l j ∧ LastOk l j lst) (h1 : OkNext n l l.length) : lst < l[j] ∧ l[j] < n := by
  obtain ⟨a, b, c⟩ := h1 j hj hj
  rcases h.2 with ⟨e0, e1⟩ | ⟨hl, h0, e1⟩
  · exact ⟨by omega, b⟩
  · exact ⟨by rw [e1]; exact c h0, b⟩

set_option maxHeartbeats 400000 in
theorem Valid_any (A : Option Addr) (cap : Nat) (g : Gr) (w : World) (hf : FitsG g) (hr : GraphAt w w.heap.size A g) :
    Calls Try.prog 12 #[.slice A g.length cap] w (RetB w (ValidG g)) := by
  have HF := Lib.hid hf
  have hlen : g.length ≤ 40 := hf.1
  have hl2 : decide (160 < (g.length : Int)) = false := by simp; omega
  clear hf
  go_enter Try.func12, Try.ntmps12
  go_wp2
  clear hl2
  go_loopw [13] (fun i wr => ∃ k : Nat, k ≤ g.length ∧ i = .int .i64 k ∧ Hid (∀ j (h : j < g.length), j < k → OkNd g.length g[j]) ∧ Below w.heap.size w wr) (fun i _ => g.length - (intOf i).toNat)
  case atStart => exact ⟨0, Nat.zero_le _, rfl, fun j _ h => absurd h (by omega), (by repeat first | exact Below.refl _ _ | assumption | refine below_drewN ?_ _ | refine Below.drew ?_)⟩
  case round =>
    obtain ⟨k, hk, rfl, hno, hbel⟩ := hrel
    obtain ⟨wo, rfl⟩ : ∃ wo : World, wo = wr := ⟨_, rfl⟩
    by_cases hlt : k < g.length
    · obtain ⟨b, off, nA, ncap, rfl, hb, hc1, hc2, hN⟩ := (hr.below hbel (Nat.le_refl _) hbel.size) k hlt
      obtain ⟨h1, h2, h3⟩ := HF.out.2 k hlt
      have H3 := Lib.hid h3
      clear h3
      have HN := Lib.hid hN
      clear hN
      by_cases hgood : 0 ≤ g[k].k ∧ g[k].k ≤ g[k].next.length ∧ (g[k].k = 0 → g[k].next.length = 0)
      · obtain ⟨hg1, hg2, hg3⟩ := hgood
        have HG3 := Lib.hid hg3
        clear hg3
        have hsp : (g[k].next.length ≤ 0 ∧ g[k].k ≤ 0) ∨ 1 ≤ g[k].k := by
          rcases Int.lt_or_le 0 g[k].k with h | h
          · exact .inr h
          · exact .inl ⟨by rw [HG3.out (by omega)]; omega, h⟩
        rcases hsp with ⟨hz1, hz2⟩ | hz1
        all_goals
          go_wp2
          go_loop [5, 42] (fun la c => ∃ j : Nat, ∃ lst : Int, j ≤ g[k].next.length ∧ c = .int .i64 j ∧ la = .int .i64 lst ∧ Hid (OkNext g.length g[k].next j ∧ LastOk g[k].next j lst)) (fun _ c => g[k].next.length - (intOf c).toNat)
          case atStart => exact ⟨0, -1, Nat.zero_le _, rfl, rfl, fun j _ h => absurd h (by omega), .inl ⟨rfl, rfl⟩⟩
          case round =>
            obtain ⟨j, lst, hj, rfl, rfl, hinv⟩ := hrel
            by_cases hlt2 : j < g[k].next.length
            · obtain ⟨b2, off2, rfl, hb2, hc3⟩ := HN.out j hlt2
              have hbt : b2 < wo.heap.size := hb2
              by_cases hok : lst < g[k].next[j] ∧ g[k].next[j] < g.length
              · obtain ⟨ho1, ho2⟩ := hok
                go_wp2
                all_goals
                  go_round
                  case rel => exact ⟨j + 1, g[k].next[j], by omega, by go_num, rfl, okNext_step hlt2 hinv.out ho1 ho2, .inr ⟨hlt2, by omega, rfl⟩⟩
                  case measure => simp [intOf]; omega
              · have hbad := Lib.hid hok
                have hsp : g[k].next[j] ≤ lst ∨ (lst < g[k].next[j] ∧ (g.length : Int) ≤ g[k].next[j]) := by omega
                clear hok
                rcases hsp with ho | ⟨ho1, ho2⟩
                all_goals
                  go_wp2
                  all_goals
                    go_ret
                    exact .false_ rfl (fun hv => hbad.out (okNext_no hlt2 hinv.out ((hv.2 k hlt).2.2.2))) (hbel.alloc hbel.size _)
            · go_wp2
              go_roundw
              case rel => exact ⟨k+1, by omega, by go_num, fun i h hi => by
                by_cases e : i = k
                · subst e; exact ⟨hg1, hg2, HG3.out, fun j' h' _ => hinv.out.1 j' h' (by omega)⟩
                · exact hno.out i h (by omega), hbel.alloc hbel.size _⟩
              case measure => simp [intOf]; omega
      · have hbad := Lib.hid hgood
        have hsp : g[k].k < 0 ∨ (0 ≤ g[k].k ∧ g[k].next.length < g[k].k) ∨ (0 ≤ g[k].k ∧ g[k].k ≤ 0 ∧ 0 < g[k].next.length) := by
          by_cases h1 : g[k].k < 0
          · exact .inl h1
          · by_cases h2 : g[k].next.length < g[k].k
            · exact .inr (.inl ⟨by omega, h2⟩)
            · refine .inr (.inr ⟨by omega, ?_⟩)
              by_cases h3 : g[k].k = 0 ∧ 0 < g[k].next.length
              · omega
              · exact absurd ⟨by omega, by omega, fun h => by omega⟩ hgood
        clear hgood
        rcases hsp with hz1 | ⟨hz1, hz2⟩ | ⟨hz1, hz2, hz3⟩
        all_goals
          go_wp2
          go_ret
          exact .false_ rfl (fun hv => hbad.out ⟨(hv.2 k hlt).1, (hv.2 k hlt).2.1, (hv.2 k hlt).2.2.1⟩) (hbel.alloc hbel.size _)
    · go_wp2
      go_ret
      exact .true_ rfl ⟨by omega, fun i h => hno.out i h (by omega)⟩ (by repeat first | exact Below.refl _ _ | assumption | refine below_drewN ?_ _ | refine Below.drew ?_)
end Go.Proofs.Ytgdeekghngpcfaa
