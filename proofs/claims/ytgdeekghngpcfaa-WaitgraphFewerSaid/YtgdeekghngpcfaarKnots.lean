/- The knots of a graph: the reference's answer. -/
import Derived.Test.YtgdeekghngpcfaaLists
import Derived.Test.YtgdeekghngpcfaaReach
namespace Go.Proofs.Ytgdeekghngpcfaa
open Go.RowKit

/-- R i is a knot, and i is its least node. -/
def knotB (R : Nat → List Int) (i : Nat) : Bool := decide ((R i).head? = some (i : Int) ∧ ∀ y ∈ R i, R y.toNat = R i)
/-- The knots among the nodes below k. -/
def kn (R : Nat → List Int) (k : Nat) : List (List Int) := ((List.range k).filter (knotB R)).map R
def KnotsSpec (g : Gr) (ls : List (List Int)) : Prop :=
  (ValidG g → ∃ R : Nat → List Int, (∀ i, i < g.length → IsSet g.length (Reach1 (succs g) i) (R i)) ∧ ls = kn R g.length) ∧ (¬ ValidG g → ls = [])

/-- b says whether the first k members of R i have just R i in reach. -/
def AllTo (R : Nat → List Int) (i k : Nat) (b : Bool) : Prop := b = true ↔ ∀ j (h : j < (R i).length), j < k → R (R i)[j].toNat = R i
theorem kn_succ (R : Nat → List Int) (k : Nat) : kn R (k + 1) = if knotB R k then kn R k ++ [R k] else kn R k := by
  unfold kn
  rw [List.range_succ, List.filter_append, List.map_append]
  by_cases h : knotB R k = true <;> simp [h]
theorem kn_length (R : Nat → List Int) (k : Nat) : (kn R k).length ≤ k := by
  unfold kn
  have := List.length_filter_le (knotB R) (List.range k)
  simpa using this
theorem IsSet.range {n : Nat} {P : Int → Prop} {l : List Int} (h : IsSet n P l) : ∀ y ∈ l, InR n y ∧ P y := by
  obtain ⟨f, hf, rfl⟩ := h
  intro y hy
  obtain ⟨h1, h2⟩ := List.mem_map.1 hy
  obtain ⟨h3, rfl⟩ := h2
  obtain ⟨h4, h5⟩ := List.mem_filter.1 h3
  exact ⟨⟨Int.natCast_nonneg h1, Int.ofNat_lt.2 (List.mem_range.1 h4)⟩, (hf h1 (List.mem_range.1 h4)).1 h5⟩
theorem IsSet.length_le {n : Nat} {P : Int → Prop} {l : List Int} (h : IsSet n P l) : l.length ≤ n := by
  obtain ⟨f, _, rfl⟩ := h
  exact idxs_length f n
theorem KnotsSpec.unique {g : Gr} {a b : List (List Int)} (h : KnotsSpec g a) (h' : KnotsSpec g b) : a = b := by
  by_cases hv : ValidG g
  · obtain ⟨R, hR, rfl⟩ := h.1 hv
    obtain ⟨R', hR', rfl⟩ := h'.1 hv
    have e : ∀ i, i < g.length → R i = R' i := fun i hi => (hR i hi).unique (hR' i hi)
    unfold kn
    rw [List.filter_congr (q := knotB R') fun i hi => ?_]
    · exact List.map_congr_left fun i hi => e i (List.mem_range.1 (List.mem_filter.1 hi).1)
    · have hi2 := List.mem_range.1 hi
      have hr := (hR i hi2).range
      rw [Bool.eq_iff_iff]
      unfold knotB
      rw [decide_eq_true_iff, decide_eq_true_iff, e i hi2]
      rw [e i hi2] at hr
      refine and_congr Iff.rfl ⟨fun h y hy => ?_, fun h y hy => ?_⟩
      · rw [← e y.toNat (by have := (hr y hy).1; have h1 := this.1; have h2 := this.2; omega)]; exact h y hy
      · rw [e y.toNat (by have := (hr y hy).1; have h1 := this.1; have h2 := this.2; omega)]; exact h y hy
  · rw [h.2 hv, h'.2 hv]
theorem reach_sets (g : Gr) : ∃ R : Nat → List Int, ∀ i : Nat, IsSet g.length (Reach1 (succs g) i) (R i) :=
  ⟨fun i => idxs (fun j => @decide (Reach1 (succs g) i j) (Classical.propDecidable _)) g.length, fun i => ⟨_, fun j _ => by simp, rfl⟩⟩

set_option maxHeartbeats 1600000 in
theorem rKnots_any (A : Option Addr) (cap : Nat) (g : Gr) (w : World) (hf : FitsG g) (hr : GraphAt w w.heap.size A g) :
    Calls Try.prog 23 #[.slice A g.length cap] w (RetLists w (KnotsSpec g)) := by
  have hlen : g.length ≤ 40 := hf.1
  have HF := Lib.hid hf
  obtain ⟨R, hR⟩ := reach_sets g
  have HR := Lib.hid hR
  have hRl := fun i => (hR i).length_le
  have HRL := Lib.hid hRl
  go_enter Try.func23, Try.ntmps23
  go_wp2_with fail
  refine (rValid_any A cap g w hf hr).mono ?_
  rintro e w1 ⟨r, rfl, hv, hb⟩
  have HV := Lib.hid hv
  clear hv hf hR hRl
  cases r with
  | false =>
    go_wp2
    go_ret
    exact ⟨none, [], 0, rfl, ListsAt.nil _ _ _, ⟨fun h => absurd (HV.out.2 h) (by simp), fun _ => rfl⟩, by simp, fun i h => absurd h (by simp), hb⟩
  | true =>
    have hgr := hr.below hb (Nat.le_refl _) hb.size
    have hvg := Lib.hid (HV.out.1 rfl)
    clear hr
    go_wp2_with fail
    go_loopg [3, 4] g.length (fun m v3 c wr => ∃ i : Nat, i ≤ g.length ∧ c = .int .i64 (i : Int) ∧ g.length ≤ i + m ∧ Below w1.heap.size w1 wr ∧ OwnLists wr w1.heap.size v3 (kn R i))
    case atStart => exact ⟨0, Nat.zero_le _, rfl, by omega, Below.refl _ _, OwnLists.nil _ _ (Nat.le_refl _)⟩
    case round =>
      obtain ⟨i, hi, rfl, him, hbel, hown⟩ := hrel
      obtain ⟨G, hG⟩ : ∃ G, G = gk := ⟨_, rfl⟩
      subst hG
      by_cases hlt : i < g.length
      · go_wp2_with fail
        have hgr2 := hgr.below (B'' := wr.heap.size) hbel (Nat.le_refl _) hbel.size
        refine (rReach_any A cap g i wr HF.out hgr2).mono ?_
        rintro e w2 ⟨A2, l, c2, rfl, hl, hls, hll, hb2⟩
        have hir : InR g.length (i : Int) := ⟨by omega, by omega⟩
        obtain rfl : l = R i := (hls.1 ⟨hvg.out, hir⟩).unique (HR.out i)
        have hl40 := HRL.out i
        have hown2 := hown.below hb2
        have hbel2 := hbel.trans (hb2.mono hbel.size)
        have hks := Lib.hid (kn_succ R i)
        have hkl := kn_length R i
        have hapt : Hid (0 < (R i).length → ∀ a, A2 = some a → u3.ownBlock ≠ some a.block) := fun h0 a ha e => by
          have h1 := hl.2 h0 a ha
          have h2 := (hown.block a.block e).2
          omega
        have HI := Lib.hid hl.1
        clear hls hll hir hl hown
        by_cases hhd : (R i).head? = some (i : Int)
        · obtain ⟨rest, hrest⟩ : ∃ rest, R i = (i : Int) :: rest := by
            cases hRi : R i with
            | nil => rw [hRi] at hhd; cases hhd
            | cons a r => rw [hRi] at hhd; simp at hhd; exact ⟨r, by rw [hhd]⟩
          have hpos : 0 < (R i).length := by rw [hrest]; simp
          obtain ⟨b2, off2, rfl, hb2', hc2⟩ := HI.out.get hpos (x := (i : Int)) (by simp [hrest])
          have f0 : (((R i).length : Int) == 0) = false := by rw [beq_eq_false_iff_ne]; omega
          rw [Nat.add_zero] at hc2
          have HD := Lib.hid hhd
          clear hrest hhd
          go_wp2_with fail
          go_loopg [6, 7] (R i).length (fun m v6 v7 wq => ∃ (k : Nat) (b : Bool), v7 = .int .i64 (k : Int) ∧ v6 = .bool b ∧ k ≤ (R i).length ∧ (R i).length ≤ k + m ∧ AllTo R i k b ∧ Below w2.heap.size w2 wq)
          case atStart => exact ⟨0, true, rfl, rfl, Nat.zero_le _, by omega, ⟨fun _ j _ h => absurd h (by omega), fun _ => rfl⟩, Below.refl _ _⟩
          case round =>
            obtain ⟨k, b, rfl, rfl, hk, hkm, hall, hbq⟩ := hrel
            have HIq := HI.out.below (B'' := wr.heap.size) hbq (Nat.le_refl _) hbq.size
            by_cases hkl2 : k < (R i).length
            · obtain ⟨b3, off3, e3, hb3', hc3⟩ := HIq.get hkl2 rfl
              obtain ⟨rfl, rfl⟩ : b2 = b3 ∧ off2 = off3 := by simpa using e3
              have hyr := ((HR.out i).range _ (List.getElem_mem hkl2)).1
              have HYR := Lib.hid hyr
              obtain ⟨hy1, hy2⟩ := hyr
              clear e3
              cases b with
              | false =>
                have hnx : AllTo R i (k + 1) false := ⟨fun h => (by cases h), fun h => hall.2 fun j hj hjk => h j hj (by omega)⟩
                go_wp2
                go_roundg (gk - 1)
                case measure => omega
                case rel => exact ⟨k + 1, false, by go_num, rfl, by omega, by omega, hnx, hbq⟩
              | true =>
                go_wp2_with fail
                have hgr3 := hgr2.below (B'' := wr.heap.size) (hb2.trans (hbq.mono hb2.size)) (Nat.le_refl _) (Nat.le_trans hb2.size hbq.size)
                refine (rReach_any _ cap g _ wr HF.out hgr3).mono ?_
                rintro e w4 ⟨A4, l4, c4, rfl, hl4, hls4, hll4, hb4⟩
                obtain rfl : l4 = R (R i)[k].toNat := by
                  have h1 := HR.out (R i)[k].toNat
                  rw [show (((R i)[k].toNat : Nat) : Int) = (R i)[k] by omega] at h1
                  exact (hls4.1 ⟨hvg.out, HYR.out⟩).unique h1
                have hl440 := HRL.out (R i)[k].toNat
                have HL4 := Lib.hid hl4
                clear hls4 hll4 hl4
                go_wp2_with fail
                refine (SameInts_any A4 _ w4.heap.size w4.heap.size c4 c2 (R (R i)[k].toNat) (R i) w4 (by omega) (by omega) HL4.out.1 (HIq.below hb4 (Nat.le_refl _) hb4.size)).mono ?_
                rintro e w5 ⟨r, rfl, hr5, hb5⟩
                have HR5 := Lib.hid hr5
                clear hr5
                have hbq5 := hbq.trans ((hb4.trans (hb5.mono hb4.size)).mono hbq.size)
                have hnx : AllTo R i (k + 1) r := by
                  unfold AllTo
                  rw [HR5.out]
                  constructor
                  · intro e j hj hjk
                    by_cases ejk : j = k
                    · subst ejk; exact e
                    · exact hall.1 rfl j hj (by omega)
                  · intro h; exact h k hkl2 (by omega)
                cases r with
                | true =>
                  go_wp2
                  go_roundg (gk - 1)
                  case measure => omega
                  case rel => exact ⟨k + 1, true, by go_num, rfl, by omega, by omega, hnx, hbq5⟩
                | false =>
                  go_wp2
                  go_roundg (gk - 1)
                  case measure => omega
                  case rel => exact ⟨k + 1, false, by go_num, rfl, by omega, by omega, hnx, hbq5⟩
            · have hfin : Hid (b = knotB R i) := by
                show _ = _
                rw [Bool.eq_iff_iff, show (b = true ↔ _) from hall]
                unfold knotB
                rw [decide_eq_true_iff]
                constructor
                · intro h
                  refine ⟨HD.out, fun y hy => ?_⟩
                  obtain ⟨j, hj, rfl⟩ := List.getElem_of_mem hy
                  exact h j hj (by omega)
                · rintro ⟨_, h⟩ j hj _
                  exact h _ (List.getElem_mem hj)
              have hown5 := hown2.below hbq
              have hbel5 := hbel2.trans (hbq.mono hbel2.size)
              cases b with
              | true =>
                go_wp2_with (at_builtin; refine pushList rfl _ _ rfl _ _ u3 _ (R i) _ _ rfl hown5 HIq hapt.out _ rfl rfl (by omega) ?_; intro v' w6 hown6 hb6 _)
                go_roundg (G - 1)
                case measure => omega
                case rel => exact ⟨i + 1, by omega, by go_num, by omega, hbel5.trans hb6, by rw [hks.out, if_pos hfin.out.symm]; exact hown6⟩
              | false =>
                go_wp2
                go_roundg (G - 1)
                case measure => omega
                case rel => exact ⟨i + 1, by omega, by go_num, by omega, hbel5, by rw [hks.out, if_neg (by rw [← hfin.out]; simp)]; exact hown5⟩
        · have hno : Hid (¬ knotB R i = true) := fun h => by
            unfold knotB at h
            rw [decide_eq_true_iff] at h
            exact hhd h.1
          have hrel : ∃ i' : Nat, i' ≤ g.length ∧ (i' : Int) = i + 1 ∧ g.length ≤ i' + (G - 1) ∧ OwnLists w2 w1.heap.size u3 (kn R i') := ⟨i + 1, by omega, by omega, by omega, by rw [hks.out, if_neg hno.out]; exact hown2⟩
          obtain ⟨i', hi1, hi2, hi3, hown3⟩ := hrel
          have hcase : (R i).length ≤ 0 ∨ ∃ a : Int, 0 < (R i).length ∧ a ≠ i ∧ (R i)[0]? = some a := by
            cases hRi : R i with
            | nil => exact .inl (by simp)
            | cons a r => exact .inr ⟨a, by simp, fun e => hhd (by rw [hRi, e]; rfl), rfl⟩
          rcases hcase with hz | ⟨a, hpos, hne, ha⟩
          · have f0 : (((R i).length : Int) == 0) = true := beq_iff_eq.2 (by omega)
            clear hhd
            go_wp2
            go_roundg (G - 1)
            case measure => omega
            case rel => exact ⟨i', hi1, by rw [hi2], hi3, hbel2, hown3⟩
          · obtain ⟨b2, off2, rfl, hb2', hc2⟩ := HI.out.get hpos (x := a) (by rw [List.getElem?_eq_getElem hpos] at ha; injection ha)
            have f0 : (((R i).length : Int) == 0) = false := by rw [beq_eq_false_iff_ne]; omega
            have f1 : (a != (i : Int)) = true := by simp [hne]
            rw [Nat.add_zero] at hc2
            clear hhd ha hne
            go_wp2
            go_roundg (G - 1)
            case measure => omega
            case rel => exact ⟨i', hi1, by rw [hi2], hi3, hbel2, hown3⟩
      · obtain rfl : i = g.length := by omega
        obtain ⟨A', cap', e, h, h2, _⟩ := hown.form
        have hkl := kn_length R g.length
        go_wp2
        go_ret
        refine ⟨A', _, cap', by show Ending.returned u3 = _; rw [e], h, ⟨fun _ => ⟨R, fun i _ => HR.out i, rfl⟩, fun h => absurd hvg.out h⟩, by omega, fun i hi => ?_, hb.trans (hbel.mono hb.size)⟩
        obtain ⟨j, _, hj⟩ := List.mem_map.1 (List.getElem_mem hi)
        rw [← hj]
        have := HRL.out j
        omega
end Go.Proofs.Ytgdeekghngpcfaa
