/- slices.Index, Contains, Equal, IndexFunc, ContainsFunc at []int; the successors and predecessors of a node. -/
import Derived.Test.YtgdeekghngpcfaaMembers
import Derived.Test.YtgdeekghngpcfaaPlainS
namespace Go.Proofs.Ytgdeekghngpcfaa
open Go.RowKit

/-- The call returns a number that is not negative just where P holds. -/
def RetSign (w : World) (P : Prop) (e : Ending) (w' : World) : Prop := ∃ r : Int, e = .returned (.int .i64 r) ∧ (0 ≤ r ↔ P) ∧ Below w.heap.size w w'

set_option maxHeartbeats 400000 in
theorem Index_any (A : Option Addr) (B cap : Nat) (l : List Int) (x : Int) (w : World) (hm : l.length ≤ 9223372036854775807) (hr : IntsAt w B A l) :
    Calls Try.prog 40 #[.slice A l.length cap, .int .i64 x] w (RetSign w (x ∈ l)) := by
  go_enter Try.func40, Try.ntmps40
  go_wp2
  go_loopg [8] l.length (fun m i wr => ∃ k : Nat, k ≤ l.length ∧ i = .int .i64 k ∧ Hid (¬ x ∈ l.take k) ∧ wr = w ∧ l.length ≤ k + m)
  case atStart => exact ⟨0, Nat.zero_le _, rfl, by simp [Hid], rfl, by omega⟩
  case round =>
    obtain ⟨k, hk, rfl, hno, rfl, hm2⟩ := hrel
    by_cases hlt : k < l.length
    · obtain ⟨b, off, rfl, hb, hc⟩ := hr.get hlt rfl
      have hs := Lib.hid (mem_take_succ l x k hlt)
      by_cases ht : x = l[k]
      · have hd : (x == l[k]) = true := beq_iff_eq.2 ht
        have HT := Lib.hid ht
        clear ht
        go_wp2
        go_ret
        exact ⟨k, rfl, by have h : x ∈ l := by rw [HT.out]; exact List.getElem_mem _
                          simp [h], Below.refl _ _⟩
      · have hd : (x == l[k]) = false := by simpa using ht
        have HT := Lib.hid ht
        clear ht
        go_wp2
        go_roundg (gk - 1)
        case measure => omega
        case rel => exact ⟨k+1, by omega, by go_num, by unfold Hid; rw [hs.out]; rintro (h | h); exact hno.out h; exact HT.out h.symm, rfl, by omega⟩
    · go_wp2
      go_ret
      exact ⟨-1, rfl, by have := hno.out; rw [List.take_of_length_le (by omega)] at this; simp [this], Below.refl _ _⟩

set_option maxHeartbeats 400000 in
theorem Contains_any (A : Option Addr) (B cap : Nat) (l : List Int) (x : Int) (w : World) (hm : l.length ≤ 9223372036854775807) (hr : IntsAt w B A l) :
    Calls Try.prog 38 #[.slice A l.length cap, .int .i64 x] w (RetB w (x ∈ l)) := by
  go_enter Try.func38, Try.ntmps38
  go_wp2_with fail
  refine (Index_any A B cap l x w hm hr).mono ?_
  rintro e w1 ⟨r, rfl, hr2, hb⟩
  have HR := Lib.hid hr2
  clear hr2
  go_wp2
  go_ret
  exact ⟨decide (0 ≤ r), rfl, by rw [decide_eq_true_iff]; exact HR.out, hb⟩

set_option maxHeartbeats 400000 in
theorem Equal_q (A A' : Option Addr) (B B' cap cap' : Nat) (l l' : List Int) (w : World) (hm : l.length ≤ 9223372036854775807) 
   (_hm' : l'.length ≤ 9223372036854775807) (hr : IntsAt w B A l) (hr' : IntsAt w B' A' l') :
    Calls Try.prog 35 #[.slice A l.length cap, .slice A' l'.length cap'] w (RetBQ w (l = l')) := by
  by_cases hl : l.length = l'.length
  · have hl2 := bne_int_of_nat hl
    have HL := Lib.hid hl
    clear hl
    go_enter Try.func35, Try.ntmps35
    go_wp2
    clear hl2
    go_loopg [13] l.length (fun m i w1 => ∃ k : Nat, k ≤ l.length ∧ i = .int .i64 k ∧ Hid (l.take k = l'.take k) ∧ l.length ≤ k + m ∧ ∃ n, w1 = w.drewN n)
    case atStart => exact ⟨0, Nat.zero_le _, rfl, by simp [Hid], by omega, 0, rfl⟩
    case round =>
      obtain ⟨k, hk, rfl, hno, hkm, n, rfl⟩ := hrel
      by_cases hlt : k < l.length
      · obtain ⟨b, off, rfl, hb, hc⟩ := hr.get hlt rfl
        have hlt' : k < l'.length := by rw [← HL.out]; exact hlt
        obtain ⟨b', off', rfl, hb', hc'⟩ := hr'.get hlt' rfl
        go_wp2
        go_quiet (fail)
        go_wp2
        · have ht : (l[k] != l'[k]) = true := by assumption
          go_ret
          exact .false_ rfl (by intro h; simp [h] at ht) ⟨n + nq, by simp⟩
        · have ht : (l[k] != l'[k]) = false := by assumption
          go_roundg (gk - 1)
          case measure => omega
          case rel => exact ⟨k+1, by omega, by go_num, take_succ_eq hlt hlt' hno.out (by simpa using ht), by omega, n + nq, by simp⟩
      · go_wp2
        go_ret
        exact .true_ rfl (by have := hno.out; rwa [List.take_of_length_le (by omega), List.take_of_length_le (by rw [← HL.out]; omega)] at this) ⟨n, rfl⟩
  · have hl2 := bne_int_of_nat' hl
    have HL := Lib.hid hl
    clear hl
    go_enter Try.func35, Try.ntmps35
    go_wp2
    go_ret
    exact .false_ rfl (by intro h; exact HL.out (by rw [h])) ⟨0, rfl⟩

/-- The successors and the predecessors of a node. -/
def succs (g : Gr) (x : Int) : List Int := (g.getD x.toNat ⟨0, []⟩).next
def preds (g : Gr) (x : Int) : List Int := idxs (fun j => decide (x ∈ succs g j)) g.length

theorem succs_eq {g : Gr} {x : Int} (h : x.toNat < g.length) : succs g x = g[x.toNat].next := by unfold succs; rw [List.getD_eq_getElem?_getD, List.getElem?_eq_getElem h]; rfl

set_option maxHeartbeats 400000 in
theorem next_any (A : Option Addr) (cap B0 : Nat) (g : Gr) (x : Int) (w : World) (_hm : g.length ≤ 40) (hx : InR g.length x) (hB : B0 ≤ w.heap.size) (hr : GraphAt w B0 A g) :
    Calls Try.prog 30 #[.slice A g.length cap, .int .i64 x] w (RetIntsL w B0 (succs g x)) := by
  obtain ⟨hx1, hx2⟩ := hx
  have hlt : x.toNat < g.length := by omega
  obtain ⟨b, off, nA, ncap, rfl, hb, hc1, hc2, hN⟩ := hr x.toNat hlt
  have HE := Lib.hid (succs_eq hlt)
  have HN := Lib.hid hN
  clear hN
  go_enter Try.func30, Try.ntmps30
  go_wp2
  go_ret
  rw [HE.out]
  refine ⟨nA, ncap, rfl, HN.out.mono hB, fun h0 a ha => ?_, Below.refl _ _⟩
  obtain ⟨b2, off2, h, hb2, _⟩ := HN.out 0 h0
  rw [ha] at h
  injection h with h
  subst h
  exact .inl hb2

set_option maxHeartbeats 800000 in
theorem prev_any (A : Option Addr) (cap B0 : Nat) (g : Gr) (x : Int) (w : World) (hf : FitsG g) (hB : B0 ≤ w.heap.size) (hr : GraphAt w B0 A g) :
    Calls Try.prog 31 #[.slice A g.length cap, .int .i64 x] w (RetIntsL w B0 (preds g x)) := by
  have HF := Lib.hid hf
  have hlen : g.length ≤ 40 := hf.1
  clear hf
  go_enter Try.func31, Try.ntmps31
  go_wp2
  go_loopg [5, 10] g.length (fun m v5 i wr => ∃ k : Nat, k ≤ g.length ∧ i = .int .i64 k ∧ g.length ≤ k + m ∧ Below w.heap.size w wr ∧ OwnInts wr w.heap.size v5 (idxs (fun j => decide (x ∈ succs g j)) k))
  case atStart => exact ⟨0, Nat.zero_le _, rfl, by omega, Below.refl _ _, OwnInts.nil _ _ (Nat.le_refl _)⟩
  case round =>
    obtain ⟨k, hk, rfl, hkm, hbel, hown⟩ := hrel
    by_cases hlt : k < g.length
    · obtain ⟨b, off, nA, ncap, rfl, hb, hc1, hc2, hN⟩ := (hr.below (B'' := wr.heap.size) hbel hB (Nat.le_trans hB hbel.size)) k hlt
      have hn40 := (HF.out.2 k hlt).1
      have HN := Lib.hid hN
      have hst := Lib.hid (idxs_succ (fun j => decide (x ∈ succs g j)) k)
      have hle := idxs_length (fun j => decide (x ∈ succs g j)) k
      have hsk : succs g k = g[k].next := succs_eq (x := (k : Int)) (by simpa using hlt)
      have HSK := Lib.hid hsk
      clear hN hsk
      go_wp2_with fail
      refine (Contains_any nA wr.heap.size ncap g[k].next x _ (by omega) (HN.out.below ((Below.refl _ _).alloc (Nat.le_refl _) _) (Nat.le_refl _) (Nat.le_refl _))).mono ?_
      rintro e w1 ⟨r, rfl, hr2, hb1⟩
      have HR2 := Lib.hid hr2
      clear hr2 hc1 hc2
      have hbo := ((Below.refl wr.heap.size wr).alloc (Nat.le_refl _) (.cells #[.int .i64 g[k].k, .slice nA g[k].next.length ncap] 38)).trans (hb1.mono (by simp))
      have hown1 := hown.below hbo (Nat.le_refl _)
      have hbel1 := hbel.trans (hbo.mono hbel.size)
      cases r with
      | true =>
        go_wp2_with (at_builtin; refine pushInt rfl _ _ rfl _ _ _ _ _ rfl hown1 _ rfl rfl (by omega) ?_; intro v' w3 hown3 hb3 hsp3)
        go_roundg (gk - 1)
        case measure => omega
        case rel =>
          have e : idxs (fun j => decide (x ∈ succs g j)) (k + 1) = idxs (fun j => decide (x ∈ succs g j)) k ++ [(k : Int)] := by rw [hst.out, if_pos]; simp only [HSK.out]; exact decide_eq_true (HR2.out.1 (by simp))
          exact ⟨k + 1, by omega, by go_num, by omega, hbel1.trans hb3, by rw [e]; exact hown3⟩
      | false =>
        go_wp2
        go_roundg (gk - 1)
        case measure => omega
        case rel =>
          have e : idxs (fun j => decide (x ∈ succs g j)) (k + 1) = idxs (fun j => decide (x ∈ succs g j)) k := by rw [hst.out, if_neg]; simp only [HSK.out]; intro h; have h2 := HR2.out.2 (of_decide_eq_true h); cases h2
          exact ⟨k + 1, by omega, by go_num, by omega, hbel1, by rw [e]; exact hown1⟩
    · go_wp2
      go_ret
      obtain rfl : k = g.length := by omega
      obtain ⟨A', cap', e, h, _⟩ := hown.form
      refine ⟨A', cap', by show Ending.returned u5 = _; rw [e]; rfl, h, fun h0 a ha => .inr ?_, hbel⟩
      subst ha
      exact (hown.block_ge a.block (by rw [e]; rfl)).1
end Go.Proofs.Ytgdeekghngpcfaa
