/- The law WaitgraphPaths: the walk. -/
import Derived.Test.YtgdeekghngpcfaaLaw3
import Derived.Test.YtgdeekghngpcfaaPlainG
namespace Go.Proofs.Ytgdeekghngpcfaa
open Go.RowKit

theorem cyc_d1 {g : Gr} {i : Int} {m : Nat} {c : List Int} (hv : ValidG g) (hi : InR g.length i) (hm : D1 (succs g) i m i) (h : CycTo g i m m c) : ∀ k x, c[k]? = some x → InR g.length x ∧ D1 (succs g) i (m - k) x := by
  intro k
  induction k with
  | zero =>
    intro x hx
    have h0 := h.2.1 hm.1
    rw [h0] at hx
    injection hx with hx
    subst hx
    exact ⟨hi, hm⟩
  | succ k ih =>
    intro x hx
    have hlt : k + 1 < c.length := (List.getElem?_eq_some_iff.1 hx).1
    have h1 : c[k]? = some c[k] := List.getElem?_eq_getElem (by omega)
    obtain ⟨a, _⟩ := ih _ h1
    obtain ⟨t, ht, he, hd, _⟩ := h.2.2 k _ x h1 hx
    refine ⟨hv.range _ a _ (by rw [← he]; exact List.getElem_mem _), ?_⟩
    rwa [show m - (k + 1) = m - 1 - k by omega]
/-- Each node of a cycle has the next one among its successors, the last one the first. -/
theorem cyc_next {g : Gr} {i : Int} {m : Nat} {c : List Int} (hv : ValidG g) (hi : InR g.length i) (hm : D1 (succs g) i m i) (h : CycTo g i m m c) (k : Nat) (hk : k < c.length) (hq : (k + 1) % c.length < c.length) :
    InR g.length c[k] ∧ c[(k + 1) % c.length] ∈ succs g c[k] := by
  have hl := h.1
  have h1 : c[k]? = some c[k] := List.getElem?_eq_getElem hk
  obtain ⟨a, b⟩ := cyc_d1 hv hi hm h k _ h1
  refine ⟨a, ?_⟩
  by_cases e : k + 1 < c.length
  · have e2 : (k + 1) % c.length = k + 1 := Nat.mod_eq_of_lt e
    have h2 : c[k + 1]? = some c[k + 1] := List.getElem?_eq_getElem e
    obtain ⟨t, ht, he, _, _⟩ := h.2.2 k _ _ h1 h2
    have h3 : c[(k + 1) % c.length] = c[k + 1] := by simp only [e2]
    rw [h3, ← he]
    exact List.getElem_mem _
  · have e1 : k + 1 = c.length := by omega
    have e2 : (k + 1) % c.length = 0 := by rw [e1]; exact Nat.mod_self _
    have h0 := h.2.1 hm.1
    rw [List.getElem?_eq_getElem (by omega)] at h0
    have h3 : c[(k + 1) % c.length] = i := by simp only [e2]; injection h0
    rw [h3]
    rw [show m - k = 1 by omega] at b
    have hp := b.2.1
    cases hp with
    | cons hm2 hp2 => cases hp2; exact hm2

set_option maxHeartbeats 1600000 in
theorem WPaths_any (A : Option Addr) (cap : Nat) (l : List Int) (i : Int) (w : World) (hw : WideL l) (hi1 : -9223372036854775808 ≤ i) (hi2 : i ≤ 9223372036854775807) (hr : IntsAt w w.heap.size A l) :
    Calls Try.prog 6 #[.slice A l.length cap, .int .i64 i] w (Ret w (.bool true)) := by
  have HW := Lib.hid hw
  clear hw
  by_cases hl : l.length ≤ 300
  · have hd : decide (l.length ≤ 300) = true := decide_eq_true hl
    go_enter Try.func6, Try.ntmps6
    go_wp2_with fail
    refine (Light_any A l.length cap w HW.out.1).mono ?_
    rintro e w0 ⟨rfl, rfl⟩
    go_wp2_with fail
    refine (made_any false false A cap l w hl HW.out.2 hr).mono ?_
    rintro e w1 ⟨A1, g, cap1, rfl, hg, hg1, hg2, hok, hb1⟩
    have HF := Lib.hid (made_fits hg2 hok)
    have HV := Lib.hid (made_valid hg2 hok)
    clear hok hr
    go_wp2_with fail
    refine (Mod_any i g.length w1 hi1 hi2 (by omega)).mono ?_
    rintro e w1' ⟨rfl, hw'⟩
    obtain rfl := hw'.symm
    have hmo := modI_ok i g.length
    generalize modI i g.length = x at *
    have hxr : InR g.length x := ⟨hmo.1, hmo.2 (by omega)⟩
    have HX := Lib.hid hxr
    obtain ⟨hx1, hx2⟩ := hxr
    clear hmo
    go_wp2_with fail
    refine (Cycle_any A1 cap1 g x w1 HF.out hg).mono ?_
    rintro e w2 ⟨A2, c, c2, rfl, hc, hcs, hcl, hb2⟩
    have hg2' := hg.below (B'' := w2.heap.size) hb2 (Nat.le_refl _) hb2.size
    have hbel2 := hb1.trans (hb2.mono hb1.size)
    have HC := Lib.hid hc.1
    have HCS := Lib.hid hcs
    clear hb1 hb2 hg hc hcs
    by_cases hz : c.length ≤ 0
    · have hno : Hid (¬ Reach1 (succs g) x x) := fun h => by
        obtain ⟨m, hm, hc⟩ := HCS.out.1 ⟨HV.out, HX.out, h⟩
        have h1 := hc.1
        have h2 := hm.1
        omega
      have f0 : ((c.length : Int) == 0) = true := beq_iff_eq.2 (by omega)
      go_wp2_with fail
      refine (awake_any w2).mono ?_
      rintro e w3 ⟨rfl, hb3⟩
      have hg3 := hg2'.below (B'' := w3.heap.size) hb3 (Nat.le_refl _) hb3.size
      have hbel3 := hbel2.trans (hb3.mono hbel2.size)
      go_wp2_with fail
      refine (Reach_any A1 cap1 g x w3 HF.out hg3).mono ?_
      rintro e w4 ⟨A4, l4, c4, rfl, hl4, hs4, hn4, hb4⟩
      have hbel4 := hbel3.trans (hb4.mono hbel3.size)
      go_wp2_with fail
      refine (has_any A4 w4.heap.size c4 l4 x w4 (by omega) hl4.1).mono ?_
      rintro e w5 ⟨r5, rfl, hr5, hb5⟩
      obtain rfl : r5 = false := by
        cases r5 with
        | false => rfl
        | true => exact absurd ((hs4.1 ⟨HV.out, HX.out⟩).range x (hr5.1 rfl)).2 hno.out
      go_wp2
      go_ret
      exact ⟨rfl, hbel4.trans (hb5.mono hbel4.size)⟩
    · have hz1 : 1 ≤ c.length := by omega
      have f0 : ((c.length : Int) == 0) = false := by rw [beq_eq_false_iff_ne]; omega
      have hre : Reach1 (succs g) x x := by
        by_cases h : Reach1 (succs g) x x
        · exact h
        · have := HCS.out.2 (fun h2 => h h2.2.2)
          rw [this] at hz1
          simp at hz1
      obtain ⟨m, hm, hcy⟩ := HCS.out.1 ⟨HV.out, HX.out, hre⟩
      have HRE := Lib.hid hre
      have HM := Lib.hid hm
      have HCY := Lib.hid hcy
      have hc40 : c.length ≤ 40 := by have h1 := hcy.1; have h2 := hm.le HV.out HX.out; omega
      clear hz hre hm hcy
      go_wp2_with fail
      clear f0
      go_loopg [7] c.length (fun m v wq => ∃ k : Nat, v = .int .i64 (k : Int) ∧ k ≤ c.length ∧ c.length ≤ k + m ∧ Below w2.heap.size w2 wq)
      case atStart => exact ⟨0, rfl, Nat.zero_le _, by omega, Below.refl _ _⟩
      case round =>
        obtain ⟨k, rfl, hk, hkm, hbq⟩ := hrel
        have hcq := HC.out.below (B'' := wr.heap.size) hbq (Nat.le_refl _) hbq.size
        have hgq := hg2'.below (B'' := wr.heap.size) hbq (Nat.le_refl _) hbq.size
        have hbelq := hbel2.trans (hbq.mono hbel2.size)
        by_cases hlt : k < c.length
        · have hql : (k + 1) % c.length < c.length := Nat.mod_lt _ (by omega)
          obtain ⟨hyr, hnx⟩ := cyc_next HV.out HX.out HM.out HCY.out k hlt hql
          obtain ⟨y, hy⟩ : ∃ y, c[k] = y := ⟨_, rfl⟩
          obtain ⟨z, hz⟩ : ∃ z, c[(k + 1) % c.length] = z := ⟨_, rfl⟩
          rw [hy] at hyr hnx
          rw [hz] at hnx
          obtain ⟨b2, off2, rfl, hb2', hc3⟩ := hcq.get hlt hy
          obtain ⟨b4, off4, e4, hb4', hc4⟩ := hcq.get hql hz
          obtain ⟨rfl, rfl⟩ : b2 = b4 ∧ off2 = off4 := by simpa using e4
          have hq : ((k : Int) + 1) % (c.length : Int) = (((k + 1) % c.length : Nat) : Int) := by
            rw [Int.natCast_emod]; rfl
          clear e4 hy hz
          generalize (k + 1) % c.length = q at *
          have hcyn : y.toNat < g.length := by have h1 := hyr.1; have h2 := hyr.2; omega
          obtain ⟨b6, off6, nA, ncap, rfl, hb6, hd1, hd2, hN⟩ := hgq y.toNat hcyn
          have hn40 := (HF.out.2 _ hcyn).1
          rw [succs_eq hcyn] at hnx
          have HH := Lib.hid (fun n => has_q nA wr.heap.size ncap g[y.toNat].next z (wr.drewN n) (by omega) hN)
          have HNX := Lib.hid hnx
          obtain ⟨hy1, hy2⟩ := hyr
          have d1 : decide (y < 0) = false := decide_eq_false (by omega)
          have d2 : decide ((g.length : Int) ≤ y) = false := decide_eq_false (by omega)
          clear hnx hd1 hN
          go_wp2_with fail
          go_quiet ((go_at_call 27; exact Calls.quiet_of ((HH.out _).mono fun _ _ h => h.yes HNX.out)))
          go_wp2
          go_roundg (gk - 1)
          case measure => omega
          case rel => exact ⟨k + 1, by go_num, by omega, by omega, below_drewN hbq _⟩
        · have HRE2 := HRE
          obtain ⟨b2, off2, rfl, hb2', hc0⟩ := hcq.get (j := 0) (by omega) (x := x) (by have h0 := HCY.out.2.1 HM.out.1; rw [List.getElem?_eq_getElem (by omega)] at h0; injection h0)
          rw [Nat.add_zero] at hc0
          go_wp2_with fail
          refine (awake_any wr).mono ?_
          rintro e w3 ⟨rfl, hb3⟩
          have hg3 := hgq.below (B'' := w3.heap.size) hb3 (Nat.le_refl _) hb3.size
          have hbel3 := hbelq.trans (hb3.mono hbelq.size)
          have hc03 := (hb3.cell (p := ⟨b2, off2, none⟩) hb2').trans hc0
          have fx : (x == x) = true := by simp
          go_wp2_with fail
          refine (Reach_any A1 cap1 g x w3 HF.out hg3).mono ?_
          rintro e w4 ⟨A4, l4, c4, rfl, hl4, hs4, hn4, hb4⟩
          have hbel4 := hbel3.trans (hb4.mono hbel3.size)
          go_wp2_with fail
          refine (has_any A4 w4.heap.size c4 l4 x w4 (by omega) hl4.1).mono ?_
          rintro e w5 ⟨r5, rfl, hr5, hb5⟩
          obtain rfl : r5 = true := by
            refine hr5.2 ?_
            obtain ⟨f, hf, he⟩ := hs4.1 ⟨HV.out, HX.out⟩
            rw [he, mem_idxs]
            exact ⟨HX.out, (hf x.toNat (by omega)).2 (by rw [show ((x.toNat : Nat) : Int) = x by omega]; exact HRE2.out)⟩
          go_wp2
          go_ret
          exact ⟨rfl, hbel4.trans (hb5.mono hbel4.size)⟩
  · have hd : decide (l.length ≤ 300) = false := decide_eq_false hl
    go_enter Try.func6, Try.ntmps6
    go_wp2_with fail
    refine (Light_any A l.length cap w HW.out.1).mono ?_
    rintro e w0 ⟨rfl, rfl⟩
    go_wp2_with fail
    refine (awake_any w).mono ?_
    rintro e w2 ⟨rfl, hb2⟩
    go_wp2
    go_ret
    exact ⟨rfl, hb2⟩
end Go.Proofs.Ytgdeekghngpcfaa
