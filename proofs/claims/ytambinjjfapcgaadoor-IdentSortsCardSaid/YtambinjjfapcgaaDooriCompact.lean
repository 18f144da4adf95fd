/- slices.Compact at processes. -/
import Derived.Test.YtambinjjfapcgaaDooriSort
import Derived.Test.YtambinjjfapcgaaDooriEq
import Derived.Test.YtambinjjfapcgaaDoorbCut
import Derived.Shelf.RegionOpenPlain
import Derived.Deep.LoopGhost
import Derived.Lib.SliceRun
namespace Go.Proofs.YtambinjjfapcgaaDoor
open Go.RowKit Go.Lib

theorem run_clear_cells {P : Program} (w : World) (t e : TypeId) (z : Value) (ht : P.underlying t = some (.slice e)) (hv : ∀ w, (zeroValue e).run P w = .ok z w) (h1 : ∀ u ∈ z.cells.toList, u.oneCell' = true) (h0 : 0 < z.cells.size) (b o n c : Nat) (hn : 0 < n)
    (hc : ∀ j, j < n * z.cells.size → (w.cell? ⟨b, o + j, none⟩).isSome = true ∧ w.frozen? ⟨b, o + j, none⟩ = false) :
    ∃ vs, ∀ ty, (Builtin.clear_ #[t] ty #[.slice (some ⟨b, o, none⟩) n c]).run P w = .ok (.tuple #[]) (w.setCells b o vs) := by
  have hl : (Builtin.zeroCells z.cells n).toList.length = n * z.cells.size := by simp [Builtin.zeroCells]
  have hm : ∀ v ∈ (Builtin.zeroCells z.cells n).toList, v.oneCell' = true := by
    intro v hv
    simp only [Builtin.zeroCells, Array.toList_map, List.mem_map] at hv
    obtain ⟨i, _, rfl⟩ := hv
    have hi : i % z.cells.size < z.cells.size := Nat.mod_lt _ h0
    rw [getElem!_pos z.cells _ hi]
    exact h1 _ (by simp)
  have hst := run_storeCells_cells (P := P) b o (Builtin.zeroCells z.cells n).toList 0 w (fun j hj => (hc j (by rw [← hl]; exact hj)).1) (fun j hj => (hc j (by rw [← hl]; exact hj)).2) hm
  simp only [Nat.add_zero] at hst
  obtain ⟨m, rfl⟩ : ∃ m, n = m + 1 := ⟨n - 1, by omega⟩
  exact ⟨_, fun ty => by simp [Builtin.clear_, run_underlying ht, hv, hst]; rfl⟩

theorem take_of_inv {d dk : List Pr} {k : Nat} (h : CompInv d.toArray d.length k dk.toArray) : dk.take k = compact d := by
  have hs : dk.length = d.length := by simpa using h.size
  apply List.ext_getElem?
  intro j
  unfold compact
  have hk := h.lt
  rcases Nat.lt_or_ge j k with hj | hj
  · rw [h.low j hj, List.getElem?_take, if_pos hj, List.getElem?_eq_getElem (by omega), getElem!_pos _ j (by simp; omega)]
    simp
  · rw [List.getElem?_eq_none (by rw [List.length_take]; omega), List.getElem?_eq_none (by rw [h.len]; exact hj)]

theorem keeps_of {d : List Pr} {j : Nat} (hj : j < d.length) (h0 : 0 < j) {x y : Pr} (hx : d[j] = x) (hy : d[j - 1] = y) : keeps d.toArray j = decide (x ≠ y) := by
  unfold keeps
  rw [getElem!_pos _ j (by simpa using hj), getElem!_pos _ (j - 1) (by simp; omega)]
  have : j ≠ 0 := by omega
  simp [this, hx, hy]

theorem inv_keeps {d dk : List Pr} {m k : Nat} (h : CompInv d.toArray m k dk.toArray) (hm : m < dk.length) {x y : Pr} (hx : dk[m] = x) (hy : dk[m - 1]'(by omega) = y) : keeps d.toArray m = decide (x ≠ y) := by
  have hs : dk.length = d.length := by simpa using h.size
  have hk := h.lt
  have e1 := h.high m (by omega)
  have e2 := h.high (m - 1) (by omega)
  rw [getElem!_pos _ m (by simpa using hm), getElem!_pos _ m (by simp; omega)] at e1
  rw [getElem!_pos _ (m - 1) (by simp; omega), getElem!_pos _ (m - 1) (by simp; omega)] at e2
  simp only [List.getElem_toArray] at e1 e2
  exact keeps_of (by omega) (by omega) (e1.symm.trans hx) (e2.symm.trans hy)

set_option maxHeartbeats 6400000 in
set_option maxRecDepth 100000 in
theorem Compact_own {w0 : World} {base : Nat} {v : Value} {l : List Pr} (w : World) (hown : OwnRows prE 24 w base v l) (hb : Below base w0 w) (hsz : l.length ≤ 281474976710656) :
    Calls Tryd.prog 15 #[v] w fun e w' => ∃ v', e = .returned v' ∧ OwnRows prE 24 w' base v' (compact l) ∧ Below base w0 w' := by
  rcases Nat.lt_or_ge l.length 2 with h2 | h2
  · have hc : compact l = l := compact_all l fun j hj => keeps_lt_one _ j (by omega)
    obtain ⟨A, cap, rfl, _, _, _, _⟩ := hown.form2
    rw [hc]
    have HOWN := Lib.hid hown
    have h2i : (l.length : Int) < 2 := by omega
    have HB := Lib.hid hb
    clear hown hc hb
    go_enter Tryd.func15, Tryd.ntmps15
    go_wp2_with fail
    go_ret
    exact ⟨_, rfl, HOWN.out, HB.out⟩
  · obtain ⟨g, cap, rfl, hg, hg2, hncap, hcm, hfz, hr⟩ := hown.addr (by omega)
    have HR := Lib.hid hr
    have HOWN := Lib.hid hown
    have HB := Lib.hid hb
    have HG := Lib.hid hg
    have h2i : ¬ (l.length : Int) < 2 := by omega
    clear hr hown hb hfz hg
    go_enter Tryd.func15, Tryd.ntmps15
    go_wp2_with fail
    go_loopg [3] l.length (fun m v wq => ∃ k q : Nat, 1 ≤ k ∧ k ≤ l.length ∧ l.length - k ≤ m ∧ v = .int .i64 (k : Int) ∧ wq = w.drewN q ∧ Hid (∀ j, j < k → keeps l.toArray j = true))
    case atStart => exact ⟨1, 0, Nat.le_refl _, by omega, by omega, rfl, rfl, Lib.hid (keeps_lt_one _)⟩
    case round =>
      obtain ⟨k, q, hk1, hk, hm, rfl, rfl, hall⟩ := hrel
      by_cases hlt : k < l.length
      · obtain ⟨⟨a, b, c⟩, hx⟩ : ∃ x, l[k] = x := ⟨_, rfl⟩
        obtain ⟨⟨x, y, z⟩, hy⟩ : ∃ x, l[k - 1] = x := ⟨_, rfl⟩
        obtain ⟨g', off, hA, _, hc0, hc1, hc2⟩ := pr_cells HR.out hlt hx
        injection hA with hA
        injection hA with e1 e2
        subst e1
        subst e2
        obtain ⟨g', off, hA, _, hd0, hd1, hd2⟩ := pr_cells HR.out (by omega) hy
        injection hA with hA
        injection hA with e1 e2
        subst e1
        subst e2
        simp only [Nat.zero_add] at hc0 hc1 hc2 hd0 hd1 hd2
        have HK := Lib.hid (keeps_of hlt (by omega) hx hy)
        clear hx hy
        have hlti : (k : Int) < (l.length : Int) := by omega
        have hw1 : IntKind.i64.wrap ((k : Int) - 1) = ((k - 1 : Nat) : Int) := by rw [IntWalk.i64_in _ (by omega)]; omega
        obtain ⟨_, k2, k3⟩ := cmpPr a b c x y z
        obtain ⟨qq, hq⟩ : ∃ q, decide ((⟨a, b, c⟩ : Pr) = ⟨x, y, z⟩) = q := ⟨_, rfl⟩
        rw [hq] at k2
        have HQ := Lib.hid hq
        clear hq
        cases qq with
        | false =>
          go_wp2_with fail
          go_quiet (fail)
          go_wp2_with fail
          go_roundg (l.length - (k + 1))
          case measure => omega
          case rel => exact ⟨k + 1, _, by omega, by omega, Nat.le_refl _, by go_num, rfl, Lib.hid (fun j hj => by
            rcases Nat.lt_or_ge j k with h | h
            · exact hall.out j h
            · obtain rfl : j = k := by omega
              rw [HK.out]
              exact decide_eq_true (of_decide_eq_false HQ.out))⟩
        | true =>
          have HEQ : (⟨a, b, c⟩ : Pr) = ⟨x, y, z⟩ := of_decide_eq_true HQ.out
          have HKF : Hid (keeps l.toArray k = false) := Lib.hid (by rw [HK.out]; exact decide_eq_false fun h => h HEQ)
          have hct := (cuts Tryd.underlying22 (e := 24) (z := .agg #[.int .i64 0, .int .i64 0, .int .i64 0]) (sz := 3) (by_ := 24) (by kernel_rfl) (some ⟨g, 0, none⟩) l.length cap k hk hncap).2
          rw [show cutA (some ⟨g, 0, none⟩) cap k 3 = some ⟨g, k * 3, none⟩ by unfold cutA; rw [if_neg (by omega), Option.map_some, addr_add, Nat.zero_add]] at hct
          go_wp2_with fail
          go_quiet (fail)
          go_wp2_with fail
          clear hc0 hc1 hc2 hd0 hd1 hd2 k2 k3 HEQ hw1
          go_loopg [3, 5] l.length (fun m v5 v6 wq => ∃ (kk k2 : Nat) (dk : List Pr), v5 = .int .i64 (kk : Int) ∧ v6 = .int .i64 (k2 : Int) ∧ 1 ≤ k2 ∧ k + k2 ≤ l.length ∧ l.length - (k + k2) ≤ m ∧ g < wq.heap.size ∧ dk.length = l.length ∧ Hid (OwnRows prE 24 wq base (.slice (some ⟨g, 0, none⟩) l.length cap) dk) ∧ Hid (Below base w0 wq) ∧ Hid (CompInv l.toArray (k + k2) kk dk.toArray))
          case atStart => exact ⟨k, 1, l, rfl, rfl, Nat.le_refl _, by omega, by omega, hg2, rfl, Lib.hid (HOWN.out.below (B := w.heap.size) (below_drewN (Below.refl _ _) _) (Nat.le_refl _)), Lib.hid (below_drewN HB.out _), Lib.hid (CompInv.start hall.out HKF.out)⟩
          case round =>
            obtain ⟨kk, k2, dk, rfl, rfl, h1, hle, hm2, hgw, hdk, HO, HBW, HI⟩ := hrel
            have hkk := HI.out.lt
            have HO' : OwnRows prE 24 wr base (.slice (some ⟨g, 0, none⟩) dk.length cap) dk := by rw [hdk]; exact HO.out
            obtain ⟨g', cap', hv, _, _, _, _, hfz, hr⟩ := HO'.addr (by omega)
            injection hv with hv _ hv3
            injection hv with hv
            injection hv with hv
            subst hv
            subst hv3
            by_cases hlt2 : k + k2 < l.length
            · obtain ⟨⟨a', b', c'⟩, hx⟩ : ∃ x, dk[k + k2] = x := ⟨_, rfl⟩
              obtain ⟨⟨x', y', z'⟩, hy⟩ : ∃ x, dk[k + k2 - 1] = x := ⟨_, rfl⟩
              obtain ⟨⟨s', t', u'⟩, hz⟩ : ∃ x, dk[kk] = x := ⟨_, rfl⟩
              obtain ⟨_, _, hA, _, hc0, hc1, hc2⟩ := pr_cells hr (by omega) hx
              injection hA with hA
              injection hA with e1 e2
              subst e1
              subst e2
              obtain ⟨_, _, hA, _, hd0, hd1, hd2⟩ := pr_cells hr (by omega) hy
              injection hA with hA
              injection hA with e1 e2
              subst e1
              subst e2
              obtain ⟨_, _, hA, _, he0, he1, he2⟩ := pr_cells hr (by omega) hz
              injection hA with hA
              injection hA with e1 e2
              subst e1
              subst e2
              rw [show 0 + (k + k2) * 3 = k * 3 + k2 * 3 by omega] at hc0 hc1 hc2
              rw [show 0 + (k + k2 - 1) * 3 = k * 3 + (k2 - 1) * 3 by omega] at hd0 hd1 hd2
              simp only [Nat.zero_add] at he0 he1 he2
              have hfz0 := hfz (kk * 3)
              have hfz1 := hfz (kk * 3 + 1)
              have hfz2 := hfz (kk * 3 + 2)
              have HX := Lib.hid (And.intro hx hy)
              clear hr hx hy hz hfz HO'
              have hlti2 : (k2 : Int) < ((l.length - k : Nat) : Int) := by omega
              have hw1 : IntKind.i64.wrap ((k2 : Int) - 1) = ((k2 - 1 : Nat) : Int) := by rw [IntWalk.i64_in _ (by omega)]; omega
              obtain ⟨k1, _, k3⟩ := cmpPr a' b' c' x' y' z'
              obtain ⟨qq, hq⟩ : ∃ q, decide ((⟨a', b', c'⟩ : Pr) = ⟨x', y', z'⟩) = q := ⟨_, rfl⟩
              rw [hq] at k1
              have HQ2 := Lib.hid hq
              clear hq
              cases qq with
              | true =>
                simp only [Bool.not_true] at k1
                go_wp2_with fail
                go_quiet (fail)
                go_wp2_with fail
                go_roundg (l.length - (k + (k2 + 1)))
                case measure => omega
                case rel =>
                  have HKF2 : Hid (keeps l.toArray (k + k2) = false) := Lib.hid (by
                    rw [inv_keeps HI.out (by omega) HX.out.1 HX.out.2]
                    exact decide_eq_false fun h => h (of_decide_eq_true HQ2.out))
                  exact ⟨kk, k2 + 1, dk, rfl, by go_num, by omega, by omega, Nat.le_refl _, by simpa using hgw, hdk, Lib.hid (HO.out.below (B := wr.heap.size) (below_drewN (Below.refl _ _) _) (Nat.le_refl _)), Lib.hid (below_drewN HBW.out _), Lib.hid (HI.out.skip HKF2.out)⟩
              | false =>
                simp only [Bool.not_false] at k1
                go_wp2_with fail
                go_quiet (fail)
                go_wp2_with fail
                go_roundg (l.length - (k + (k2 + 1)))
                case measure => omega
                case rel =>
                  have HKT : Hid (keeps l.toArray (k + k2) = true) := Lib.hid (by
                    rw [inv_keeps HI.out (by omega) HX.out.1 HX.out.2]
                    exact decide_eq_true (of_decide_eq_false HQ2.out))
                  have HO2 : Hid (OwnRows prE 24 ((wr.drewN nq).setCells g (kk * 3) [.int .i64 a', .int .i64 b', .int .i64 c']) base (.slice (some ⟨g, 0, none⟩) l.length cap) (dk.set kk ⟨a', b', c'⟩)) := Lib.hid (by
                    have h1 : OwnRows prE 24 (wr.drewN nq) base (.slice (some ⟨g, 0, none⟩) dk.length cap) dk := by
                      rw [hdk]
                      exact HO.out.below (B := wr.heap.size) (below_drewN (Below.refl _ _) _) (Nat.le_refl _)
                    rw [← hdk]
                    exact h1.setRow (by omega) rfl)
                  have HB2 : Hid (Below base w0 ((wr.drewN nq).setCells g (kk * 3) [.int .i64 a', .int .i64 b', .int .i64 c'])) := Lib.hid (setCells_below HG.out _ _ _ (below_drewN HBW.out _))
                  have HI2 : Hid (CompInv l.toArray (k + (k2 + 1)) (kk + 1) (dk.set kk ⟨a', b', c'⟩).toArray) := Lib.hid (by
                    have := HI.out.keep (by simp; omega) HKT.out
                    rw [← HI.out.high (k + k2) (by omega), getElem!_pos _ (k + k2) (by simp; omega), List.getElem_toArray, HX.out.1, List.setIfInBounds_toArray] at this
                    exact this)
                  exact ⟨kk + 1, k2 + 1, _, by go_num, by go_num, by omega, by omega, Nat.le_refl _, by simpa using hgw, by rw [List.length_set]; exact hdk, HO2, HB2, HI2⟩
            · have hend : k + k2 = l.length := by omega
              have hlti2 : ¬ (k2 : Int) < ((l.length - k : Nat) : Int) := by omega
              obtain ⟨vs, hcl⟩ := run_clear_cells (P := Tryd.prog) wr 22 24 (.agg #[.int .i64 0, .int .i64 0, .int .i64 0]) Tryd.underlying22 (fun w => by kernel_rfl) (by intro u hu; simp [Value.cells] at hu; rcases hu with rfl | rfl | rfl <;> rfl) (by decide) g (kk * 3) (l.length - kk) (cap - kk) (by omega) (fun j hj => by
                have hj' : j < (l.length - kk) * 3 := hj
                exact HO'.cellAt (by show kk * 3 + j < cap * 3; omega))
              have hct1 := (cuts Tryd.underlying22 (e := 24) (z := .agg #[.int .i64 0, .int .i64 0, .int .i64 0]) (sz := 3) (by_ := 24) (by kernel_rfl) (some ⟨g, 0, none⟩) l.length cap kk (by omega) hncap)
              obtain ⟨hct1, hct2⟩ := hct1
              rw [show cutA (some ⟨g, 0, none⟩) cap kk 3 = some ⟨g, kk * 3, none⟩ by unfold cutA; rw [if_neg (by omega), Option.map_some, addr_add, Nat.zero_add]] at hct2
              have HEND : Hid (OwnRows prE 24 (wr.setCells g (kk * 3) vs) base (.slice (some ⟨g, 0, none⟩) kk cap) (compact l)) := Lib.hid (by
                have h1 := HO'.cut (k := kk) (by omega)
                have h2 : (dk.take kk).length = kk := by rw [List.length_take]; omega
                have h3 := OwnRows.off (g := g) (cap := cap) (l := dk.take kk) (by rw [h2]; exact h1) vs (j := kk * 3) (by rw [h2]; exact Nat.le_refl _)
                rw [h2] at h3
                rw [← take_of_inv (by rw [← hend]; exact HI.out)]
                exact h3)
              have HBE : Hid (Below base w0 (wr.setCells g (kk * 3) vs)) := Lib.hid (setCells_below HG.out _ _ _ HBW.out)
              clear hfz hr HO'
              go_wp2_with fail
              go_ret
              exact ⟨_, rfl, HEND.out, HBE.out⟩
      · have hkl : k = l.length := by omega
        have HC : Hid (compact l = l) := Lib.hid (compact_all l fun j hj => hall.out j (by omega))
        have hlti : ¬ (k : Int) < (l.length : Int) := by omega
        have HOQ := Lib.hid (HOWN.out.below (B := w.heap.size) (below_drewN (Below.refl _ _) q) (Nat.le_refl _))
        have HBQ := Lib.hid (below_drewN HB.out q)
        go_wp2_with fail
        go_ret
        exact ⟨_, rfl, by rw [HC.out]; exact HOQ.out, HBQ.out⟩
end Go.Proofs.YtambinjjfapcgaaDoor
