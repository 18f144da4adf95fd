import Derived.Test.YtgdeekghngpcfaaOwn
namespace Go.Proofs.Ytgdeekghngpcfaa
open Go.RowKit

theorem mem_take_succ (l : List Int) (x : Int) (k : Nat) (h : k < l.length) : x ∈ l.take (k+1) ↔ (x ∈ l.take k ∨ l[k] = x) := by
  rw [List.take_succ_eq_append_getElem h, List.mem_append, List.mem_singleton]
  exact or_congr Iff.rfl ⟨Eq.symm, Eq.symm⟩

set_option maxHeartbeats 400000 in
theorem has_q (A : Option Addr) (B cap : Nat) (l : List Int) (x : Int) (w : World) (hm : l.length ≤ 9223372036854775807)
   (hr : IntsAt w B A l) :
    Calls Try.prog 27 #[.slice A l.length cap, .int .i64 x] w (RetBQ w (x ∈ l)) := by
  go_enter Try.func27, Try.ntmps27
  go_wp2
  go_loop [5] (fun i => ∃ k : Nat, k ≤ l.length ∧ i = .int .i64 k ∧ Hid (¬ x ∈ l.take k)) (fun i => l.length - (intOf i).toNat)
  case atStart => exact ⟨0, Nat.zero_le _, rfl, by simp [Hid]⟩
  case round =>
    obtain ⟨k, hk, rfl, hno⟩ := hrel
    by_cases hlt : k < l.length
    · obtain ⟨b, off, rfl, hb, hc⟩ := hr k hlt
      have hs := Lib.hid (mem_take_succ l x k hlt)
      go_wp2
      · have ht : (l[k] == x) = true := by assumption
        go_ret
        exact .true_ rfl (by have := beq_iff_eq.1 ht; rw [← this]; exact List.getElem_mem _) ⟨0, rfl⟩
      · go_round
        case rel => exact ⟨k+1, by omega, by go_num, by unfold Hid; rw [hs.out]; rintro (h | h); exact hno.out h; simp_all⟩
        case measure => simp [intOf]; omega
    · go_wp2
      go_ret
      exact .false_ rfl (by have := hno.out; rw [List.take_of_length_le (by omega)] at this; exact this) ⟨0, rfl⟩

theorem has_any (A : Option Addr) (B cap : Nat) (l : List Int) (x : Int) (w : World) (hm : l.length ≤ 9223372036854775807) (hr : IntsAt w B A l) :
    Calls Try.prog 27 #[.slice A l.length cap, .int .i64 x] w (RetB w (x ∈ l)) := (has_q A B cap l x w hm hr).mono fun _ _ h => h.below

theorem beq_int_of_nat {a b : Nat} (h : a = b) : ((a : Int) == (b : Int)) = true := by simp [h]
theorem bne_int_of_nat {a b : Nat} (h : a = b) : ((a : Int) != (b : Int)) = false := by simp [h]
theorem bne_int_of_nat' {a b : Nat} (h : a ≠ b) : ((a : Int) != (b : Int)) = true := by simp; omega
theorem take_succ_eq {l l' : List Int} {k : Nat} (h : k < l.length) (h' : k < l'.length) (he : l.take k = l'.take k) (hk : l[k] = l'[k]) : l.take (k+1) = l'.take (k+1) := by
  rw [List.take_succ_eq_append_getElem h, List.take_succ_eq_append_getElem h', he, hk]
set_option maxHeartbeats 400000 in
theorem SameInts_q (A A' : Option Addr) (B B' cap cap' : Nat) (l l' : List Int) (w : World) (hm : l.length ≤ 9223372036854775807) 
   (hm' : l'.length ≤ 9223372036854775807) (hr : IntsAt w B A l) (hr' : IntsAt w B' A' l') :
    Calls Try.prog 14 #[.slice A l.length cap, .slice A' l'.length cap'] w (RetBQ w (l = l')) := by
  by_cases hl : l.length = l'.length
  · have hl2 := bne_int_of_nat hl
    have HL := Lib.hid hl
    clear hl
    go_enter Try.func14, Try.ntmps14
    go_wp2
    clear hl2
    go_loopw [5] (fun i w1 => ∃ k : Nat, k ≤ l.length ∧ i = .int .i64 k ∧ Hid (l.take k = l'.take k) ∧ ∃ n, w1 = w.drewN n) (fun i _ => l.length - (intOf i).toNat)
    case atStart => exact ⟨0, Nat.zero_le _, rfl, by simp [Hid], 0, rfl⟩
    case round =>
      obtain ⟨k, hk, rfl, hno, n, rfl⟩ := hrel
      by_cases hlt : k < l.length
      · obtain ⟨b, off, rfl, hb, hc⟩ := hr k hlt
        have hlt' : k < l'.length := by rw [← HL.out]; exact hlt
        obtain ⟨b', off', rfl, hb', hc'⟩ := hr' k hlt'
        go_wp2
        go_quiet (fail)
        go_wp2
        · have ht : (l[k] != l'[k]) = true := by assumption
          go_ret
          exact .false_ rfl (by rintro rfl; simp at ht) ⟨n + nq, by simp⟩
        · have ht : (l[k] != l'[k]) = false := by assumption
          go_roundw
          case rel => exact ⟨k+1, by omega, by go_num, take_succ_eq hlt hlt' hno.out (by simpa using ht), _, rfl⟩
          case measure => simp [intOf]; omega
      · go_wp2
        go_ret
        exact .true_ rfl (by have := hno.out; rwa [List.take_of_length_le (by omega), List.take_of_length_le (by rw [← HL.out]; omega)] at this) ⟨n, rfl⟩
  · have hl2 := bne_int_of_nat' hl
    have HL := Lib.hid hl
    clear hl
    go_enter Try.func14, Try.ntmps14
    go_wp2
    go_ret
    exact .false_ rfl (by rintro rfl; exact HL.out rfl) ⟨0, rfl⟩


theorem SameInts_any (A A' : Option Addr) (B B' cap cap' : Nat) (l l' : List Int) (w : World) (hm : l.length ≤ 9223372036854775807) 
   (hm' : l'.length ≤ 9223372036854775807) (hr : IntsAt w B A l) (hr' : IntsAt w B' A' l') :
    Calls Try.prog 14 #[.slice A l.length cap, .slice A' l'.length cap'] w (RetB w (l = l')) := (SameInts_q A A' B B' cap cap' l l' w hm hm' hr hr').mono fun _ _ h => h.below

def SmallG (g : Gr) : Prop := g.length ≤ 40 ∧ ∀ i (h : i < g.length), g[i].next.length ≤ 40

set_option maxHeartbeats 400000 in
theorem small_any (A : Option Addr) (B cap : Nat) (g : Gr) (w : World) (hm : g.length ≤ 9223372036854775807)
   (hn : ∀ i (h : i < g.length), g[i].next.length ≤ 9223372036854775807) (hr : GraphAt w B A g) :
    Calls Try.prog 10 #[.slice A g.length cap] w (RetB w (SmallG g)) := by
  have HN := Lib.hid hn
  clear hn
  by_cases hl : g.length ≤ 40
  · have hl2 : decide (40 < (g.length : Int)) = false := by simp; omega
    go_enter Try.func10, Try.ntmps10
    go_wp2
    clear hl2
    go_loop [3] (fun i => ∃ k : Nat, k ≤ g.length ∧ i = .int .i64 k ∧ Hid (∀ j (h : j < g.length), j < k → g[j].next.length ≤ 40)) (fun i => g.length - (intOf i).toNat)
    case atStart => exact ⟨0, Nat.zero_le _, rfl, fun j _ h => absurd h (by omega)⟩
    case round =>
      obtain ⟨k, hk, rfl, hno⟩ := hrel
      by_cases hlt : k < g.length
      · obtain ⟨b, off, nA, ncap, rfl, hb, hc1, hc2, _⟩ := hr k hlt
        have hnk := HN.out k hlt
        clear hc1
        go_wp2
        · have ht : 40 < g[k].next.length := by omega
          go_ret
          exact .false_ rfl (fun hs => by have := hs.2 k hlt; omega) (Below.refl _ _)
        · have ht : g[k].next.length ≤ 40 := by omega
          go_round
          case rel => exact ⟨k+1, by omega, by go_num, fun j h hj => by
            by_cases e : j = k
            · subst e; exact ht
            · exact hno.out j h (by omega)⟩
          case measure => simp [intOf]; omega
      · go_wp2
        go_ret
        exact .true_ rfl ⟨hl, fun i h => hno.out i h (by omega)⟩ (Below.refl _ _)
  · have hl2 : decide (40 < (g.length : Int)) = true := by simp; omega
    go_enter Try.func10, Try.ntmps10
    go_wp2
    go_ret
    exact .false_ rfl (fun hs => hl hs.1) (Below.refl _ _)
end Go.Proofs.Ytgdeekghngpcfaa
