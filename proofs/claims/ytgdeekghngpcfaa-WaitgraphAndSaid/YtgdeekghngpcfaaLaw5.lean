/- The law WaitgraphAnd: the walk. -/
import Derived.Test.YtgdeekghngpcfaaLaw3
import Derived.Test.YtgdeekghngpcfaaPlainG
namespace Go.Proofs.Ytgdeekghngpcfaa
open Go.RowKit

theorem cyc_some {g : Gr} {x : Int} {c : List Int} (hv : ValidG g) (hx : InR g.length x) (h : CycleSpec g x c) : 0 < c.length ↔ Reach1 (succs g) x x := by
  constructor
  · intro h0
    by_cases hr : Reach1 (succs g) x x
    · exact hr
    · rw [h.2 (fun h2 => hr h2.2.2)] at h0
      simp at h0
  · intro hr
    obtain ⟨m, hm, hc⟩ := h.1 ⟨hv, hx, hr⟩
    have h1 := hc.1
    have h2 := hm.1
    omega
theorem k_all {g : Gr} (h : ∀ i (h : i < g.length), NOk g.length true false g[i].k g[i].next) : ∀ x, InR g.length x → kOf g x = (succs g x).length := fun x hx => by
  have hlt : x.toNat < g.length := by have h1 := hx.1; have h2 := hx.2; omega
  rw [kOf_eq hlt, succs_eq hlt]
  exact (h _ hlt).2.2.2.2.2.1 rfl
/-- What the law gathers at the node x: whether a cycle is at x or at one of the first k nodes of r. -/
def Cyc (g : Gr) (x : Int) (r : List Int) (k : Nat) (b : Bool) : Prop := b = true ↔ Reach1 (succs g) x x ∨ ∃ j, ∃ h : j < r.length, j < k ∧ Reach1 (succs g) r[j] r[j]
theorem Cyc.stay {g : Gr} {x : Int} {r : List Int} {k : Nat} (h : Cyc g x r k true) : Cyc g x r (k + 1) true :=
  ⟨fun _ => (h.1 rfl).imp id fun ⟨j, hj, hk, hr⟩ => ⟨j, hj, by omega, hr⟩, fun _ => rfl⟩
theorem Cyc.step {g : Gr} {x : Int} {r : List Int} {k : Nat} {b : Bool} (hk : k < r.length) (h : Cyc g x r k false) (hb : b = true ↔ Reach1 (succs g) r[k] r[k]) : Cyc g x r (k + 1) b := by
  refine ⟨fun e => .inr ⟨k, hk, by omega, hb.1 e⟩, ?_⟩
  rintro (h1 | ⟨j, hj, hjk, h1⟩)
  · have := h.2 (.inl h1)
    cases this
  · by_cases e : j = k
    · subst e; exact hb.2 h1
    · have := h.2 (.inr ⟨j, hj, by omega, h1⟩)
      cases this
theorem Cyc.done {g : Gr} {x : Int} {r l : List Int} {k : Nat} {b c : Bool} (hv : ValidG g) (hall : ∀ x, InR g.length x → kOf g x = (succs g x).length) (hx : InR g.length x) (hk : r.length ≤ k)
    (hr : ReachSpec g x r) (hl : StuckSpec g l) (h : Cyc g x r k b) (hc : c = true ↔ x ∈ l) : c = b := by
  rw [Bool.eq_iff_iff, hc, show (b = true ↔ _) from h]
  obtain ⟨f, hf, rfl⟩ := hr.1 ⟨hv, hx⟩
  obtain ⟨f', hf', rfl⟩ := hl.1 hv
  have ex : ((x.toNat : Nat) : Int) = x := by have := hx.1; omega
  have h1 : x ∈ idxs f' g.length ↔ IsStuck g x := by
    rw [mem_idxs]
    have h2 := hf' x.toNat (by have h1 := hx.1; have h2 := hx.2; omega)
    rw [ex] at h2
    rw [h2]
    exact ⟨fun h => h.2, fun h => ⟨hx, h⟩⟩
  rw [h1, stuck_and hv hall hx]
  have hm : ∀ y, InR g.length y → (y ∈ idxs f g.length ↔ Reach1 (succs g) x y) := fun y hy => by
    rw [mem_idxs]
    have h2 := hf y.toNat (by have h1 := hy.1; have h2 := hy.2; omega)
    rw [show ((y.toNat : Nat) : Int) = y by have := hy.1; omega] at h2
    rw [h2]
    exact ⟨fun h => h.2, fun h => ⟨hy, h⟩⟩
  constructor
  · rintro (h | ⟨y, ha, hb⟩)
    · exact .inl h
    · obtain ⟨j, hj, e⟩ := List.getElem_of_mem ((hm y (ha.range hv hx)).2 ha)
      exact .inr ⟨j, hj, by omega, by rw [e]; exact hb⟩
  · rintro (h | ⟨j, hj, _, hb⟩)
    · exact .inl h
    · have hmem := List.getElem_mem hj
      exact .inr ⟨_, (hm _ (mem_idxs.1 hmem).1).1 hmem, hb⟩

set_option maxHeartbeats 1600000 in
theorem WAnd_any (A : Option Addr) (cap : Nat) (l : List Int) (w : World) (hw : WideL l) (hr : IntsAt w w.heap.size A l) :
    Calls Try.prog 7 #[.slice A l.length cap] w (Ret w (.bool true)) := by
  have HW := Lib.hid hw
  clear hw
  by_cases hl : l.length ≤ 300
  · have hd : decide (l.length ≤ 300) = true := decide_eq_true hl
    go_enter Try.func7, Try.ntmps7
    go_wp2_with fail
    refine (Light_any A l.length cap w HW.out.1).mono ?_
    rintro e w0 ⟨rfl, rfl⟩
    go_wp2_with fail
    refine (made_any true false A cap l w hl HW.out.2 hr).mono ?_
    rintro e w1 ⟨A1, g, cap1, rfl, hg, hg1, hg2, hok, hb1⟩
    have HF := Lib.hid (made_fits hg2 hok)
    have HV := Lib.hid (made_valid hg2 hok)
    have HK := Lib.hid (k_all hok)
    clear hok hr
    go_wp2_with fail
    refine (Stuck_any A1 cap1 g w1 HF.out hg).mono ?_
    rintro e w2 ⟨A2, s, c2, rfl, hs, hss, hsl, hb2⟩
    have hg2' := hg.below (B'' := w2.heap.size) hb2 (Nat.le_refl _) hb2.size
    have hbel2 := hb1.trans (hb2.mono hb1.size)
    have HS := Lib.hid hs.1
    have HSS := Lib.hid hss
    clear hb1 hb2 hg hs hss
    go_wp2_with fail
    go_loopg [5] g.length (fun m v wq => ∃ i : Nat, v = .int .i64 (i : Int) ∧ i ≤ g.length ∧ g.length ≤ i + m ∧ Below w2.heap.size w2 wq)
    case atStart => exact ⟨0, rfl, Nat.zero_le _, by omega, Below.refl _ _⟩
    case round =>
      obtain ⟨i, rfl, hi, him, hbi⟩ := hrel
      obtain ⟨G, hG⟩ : ∃ G, G = gk := ⟨_, rfl⟩
      subst hG
      have hgi := hg2'.below (B'' := wr.heap.size) hbi (Nat.le_refl _) hbi.size
      have hbeli := hbel2.trans (hbi.mono hbel2.size)
      by_cases hlt : i < g.length
      · have HIR : Hid (InR g.length (i : Int)) := Lib.hid ⟨by omega, by omega⟩
        go_wp2_with fail
        refine (Cycle_any A1 cap1 g i wr HF.out hgi).mono ?_
        rintro e w3 ⟨A3, c3, cc3, rfl, hc3, hcs3, hcl3, hb3⟩
        have hc0 := cyc_some HV.out HIR.out hcs3
        have HC0 := Lib.hid hc0
        have hg3 := hgi.below (B'' := w3.heap.size) hb3 (Nat.le_refl _) hb3.size
        have hbi3 := hbi.trans (hb3.mono hbi.size)
        clear hc3 hcs3 hc0 hbi hgi hb3
        go_wp2_with fail
        refine (Reach_any A1 cap1 g i w3 HF.out hg3).mono ?_
        rintro e w4 ⟨A4, r, c4, rfl, hr4, hrs4, hrl4, hb4⟩
        have hg4 := hg3.below (B'' := w4.heap.size) hb4 (Nat.le_refl _) hb4.size
        have hbi4 := hbi3.trans (hb4.mono hbi3.size)
        have HR4 := Lib.hid hr4.1
        have HRS := Lib.hid hrs4
        clear hb4 hg3 hbi3 hr4 hrs4
        go_wp2_with fail
        go_loopg [6, 8] r.length (fun m v6 v8 wq => ∃ (k : Nat) (b : Bool), v8 = .int .i64 (k : Int) ∧ v6 = .bool b ∧ k ≤ r.length ∧ r.length ≤ k + m ∧ Hid (Cyc g i r k b) ∧ Below w4.heap.size w4 wq)
        case atStart =>
          refine ⟨0, decide (0 < c3.length), rfl, ?_, Nat.zero_le _, by omega, Lib.hid ?_, Below.refl _ _⟩
          · go_num
          · unfold Cyc
            rw [decide_eq_true_iff, HC0.out]
            exact ⟨.inl, fun h => h.elim id fun ⟨_, _, h, _⟩ => absurd h (Nat.not_lt_zero _)⟩
        case round =>
          obtain ⟨k, b, rfl, rfl, hk, hkm, hcy, hbq⟩ := hrel
          have hgq := hg4.below (B'' := wr.heap.size) hbq (Nat.le_refl _) hbq.size
          have hrq := HR4.out.below (B'' := wr.heap.size) hbq (Nat.le_refl _) hbq.size
          have hbiq := hbi4.trans (hbq.mono hbi4.size)
          by_cases hkl : k < r.length
          · obtain ⟨y, hy⟩ : ∃ y, r[k] = y := ⟨_, rfl⟩
            obtain ⟨b5, off5, rfl, hb5, hc5⟩ := hrq.get hkl hy
            have HYR : Hid (InR g.length y) := Lib.hid (by rw [← hy]; exact ((HRS.out.1 ⟨HV.out, HIR.out⟩).range _ (List.getElem_mem hkl)).1)
            have HY := Lib.hid hy
            clear hy
            cases b with
            | true =>
              have hst := Lib.hid hcy.out.stay
              go_wp2
              go_roundg (gk - 1)
              case measure => omega
              case rel => exact ⟨k + 1, true, by go_num, rfl, by omega, by omega, hst, hbq⟩
            | false =>
              go_wp2_with fail
              refine (Cycle_any A1 cap1 g y wr HF.out hgq).mono ?_
              rintro e w6 ⟨A6, c6, cc6, rfl, hc6, hcs6, hcl6, hb6⟩
              have hst : Hid (Cyc g i r (k + 1) (decide (0 < c6.length))) := Lib.hid (hcy.out.step hkl (by rw [decide_eq_true_iff, cyc_some HV.out HYR.out hcs6, HY.out]))
              have hbq6 := hbq.trans (hb6.mono hbq.size)
              clear hc6 hcs6
              go_wp2
              go_roundg (gk - 1)
              case measure => omega
              case rel => exact ⟨k + 1, _, by go_num, by go_num, by omega, by omega, hst, hbq6⟩
          · have hsq := HS.out.below (B'' := wr.heap.size) hbiq (Nat.le_refl _) hbiq.size
            go_wp2_with fail
            refine (has_any A2 wr.heap.size c2 s i wr (by omega) hsq).mono ?_
            rintro e w7 ⟨r7, rfl, hr7, hb7⟩
            have hbi7 := hbiq.trans (hb7.mono hbiq.size)
            obtain rfl : r7 = b := Cyc.done HV.out HK.out HIR.out (by omega) HRS.out HSS.out hcy.out hr7
            clear hr7
            cases r7 with
            | true =>
              go_wp2
              go_roundg (G - 1)
              case measure => omega
              case rel => exact ⟨i + 1, by go_num, by omega, by omega, hbi7⟩
            | false =>
              go_wp2
              go_roundg (G - 1)
              case measure => omega
              case rel => exact ⟨i + 1, by go_num, by omega, by omega, hbi7⟩
      · go_wp2_with fail
        refine (awake_any wr).mono ?_
        rintro e w8 ⟨rfl, hb8⟩
        go_wp2
        go_ret
        exact ⟨rfl, hbeli.trans (hb8.mono hbeli.size)⟩
  · have hd : decide (l.length ≤ 300) = false := decide_eq_false hl
    go_enter Try.func7, Try.ntmps7
    go_wp2_with fail
    refine (Light_any A l.length cap w HW.out.1).mono ?_
    rintro e w0 ⟨rfl, rfl⟩
    go_wp2_with fail
    refine (awake_any w).mono ?_
    rintro e w2 ⟨rfl, hb2⟩
    go_wp2
    go_ret
    exact ⟨rfl, hb2⟩
end Go.Proofs.Ytgdeekghngpcfaa
