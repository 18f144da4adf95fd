/- The law WaitgraphOr: the walk. -/
import Derived.Test.YtgdeekghngpcfaaLaw3
import Derived.Test.YtgdeekghngpcfaaPlainG
namespace Go.Proofs.Ytgdeekghngpcfaa
open Go.RowKit

theorem k_one {g : Gr} (h : ∀ i (h : i < g.length), NOk g.length false true g[i].k g[i].next) : ∀ x, InR g.length x → kOf g x = 1 ∨ (kOf g x = 0 ∧ succs g x = []) := fun x hx => by
  have hlt : x.toNat < g.length := by have h1 := hx.1; have h2 := hx.2; omega
  rw [kOf_eq hlt, succs_eq hlt]
  obtain ⟨_, _, h0, h1, _, _, h3⟩ := h _ hlt
  by_cases e : 0 < g[x.toNat].next.length
  · exact .inl (h3 rfl rfl e)
  · exact .inr ⟨by omega, List.eq_nil_of_length_eq_zero (by omega)⟩
theorem StuckSpec.mem {g : Gr} {l : List Int} (hv : ValidG g) (hl : StuckSpec g l) {x : Int} (hx : InR g.length x) : x ∈ l ↔ IsStuck g x := by
  obtain ⟨f', hf', rfl⟩ := hl.1 hv
  rw [mem_idxs]
  have h2 := hf' x.toNat (by have h1 := hx.1; have h2 := hx.2; omega)
  rw [show ((x.toNat : Nat) : Int) = x by have := hx.1; omega] at h2
  rw [h2]
  exact ⟨fun h => h.2, fun h => ⟨hx, h⟩⟩
theorem ReachSpec.mem {g : Gr} {x : Int} {l : List Int} (hv : ValidG g) (hx : InR g.length x) (hl : ReachSpec g x l) {y : Int} (hy : InR g.length y) : y ∈ l ↔ Reach1 (succs g) x y := by
  obtain ⟨f', hf', rfl⟩ := hl.1 ⟨hv, hx⟩
  rw [mem_idxs]
  have h2 := hf' y.toNat (by have h1 := hy.1; have h2 := hy.2; omega)
  rw [show ((y.toNat : Nat) : Int) = y by have := hy.1; omega] at h2
  rw [h2]
  exact ⟨fun h => h.2, fun h => ⟨hy, h⟩⟩
/-- What the law gathers at the node x: whether x and the first k nodes of r all wait. -/
def Wai (g : Gr) (x : Int) (r : List Int) (k : Nat) (b : Bool) : Prop := b = true ↔ 0 < kOf g x ∧ ∀ j (h : j < r.length), j < k → 0 < kOf g r[j]
theorem Wai.stay {g : Gr} {x : Int} {r : List Int} {k : Nat} (h : Wai g x r k false) : Wai g x r (k + 1) false :=
  ⟨fun e => (by cases e), fun ⟨h1, h2⟩ => h.2 ⟨h1, fun j hj hk => h2 j hj (by omega)⟩⟩
theorem Wai.step {g : Gr} {x : Int} {r : List Int} {k : Nat} {b : Bool} (hk : k < r.length) (h : Wai g x r k true) (hb : b = true ↔ 0 < kOf g r[k]) : Wai g x r (k + 1) b := by
  refine ⟨fun e => ⟨(h.1 rfl).1, fun j hj hjk => ?_⟩, fun h2 => hb.2 (h2.2 k hk (by omega))⟩
  by_cases e2 : j = k
  · subst e2; exact hb.1 e
  · exact (h.1 rfl).2 j hj (by omega)
theorem Wai.done {g : Gr} {x : Int} {r l : List Int} {k : Nat} {b c : Bool} (hv : ValidG g) (hone : ∀ x, InR g.length x → kOf g x = 1 ∨ (kOf g x = 0 ∧ succs g x = [])) (hx : InR g.length x) (hk : r.length ≤ k)
    (hr : ReachSpec g x r) (hl : StuckSpec g l) (h : Wai g x r k b) (hc : c = true ↔ x ∈ l) : c = b := by
  rw [Bool.eq_iff_iff, hc, show (b = true ↔ _) from h, hl.mem hv hx, stuck_or hv hone hx]
  refine ⟨fun ⟨h1, h2⟩ => ⟨h1, fun j hj _ => ?_⟩, fun ⟨h1, h2⟩ => ⟨h1, fun y hy => ?_⟩⟩
  · have hm := List.getElem_mem hj
    exact h2 _ ((hr.mem hv hx ((hr.1 ⟨hv, hx⟩).range _ hm).1).1 hm)
  · obtain ⟨j, hj, e⟩ := List.getElem_of_mem ((hr.mem hv hx (hy.range hv hx)).2 hy)
    rw [← e]
    exact h2 j hj (by omega)

set_option maxHeartbeats 1600000 in
theorem WOr_any (A : Option Addr) (cap : Nat) (l : List Int) (w : World) (hw : WideL l) (hr : IntsAt w w.heap.size A l) :
    Calls Try.prog 8 #[.slice A l.length cap] w (Ret w (.bool true)) := by
  have HW := Lib.hid hw
  clear hw
  by_cases hl : l.length ≤ 300
  · have hd : decide (l.length ≤ 300) = true := decide_eq_true hl
    go_enter Try.func8, Try.ntmps8
    go_wp2_with fail
    refine (Light_any A l.length cap w HW.out.1).mono ?_
    rintro e w0 ⟨rfl, rfl⟩
    go_wp2_with fail
    refine (made_any false true A cap l w hl HW.out.2 hr).mono ?_
    rintro e w1 ⟨A1, g, cap1, rfl, hg, hg1, hg2, hok, hb1⟩
    have HF := Lib.hid (made_fits hg2 hok)
    have HV := Lib.hid (made_valid hg2 hok)
    have HK := Lib.hid (k_one hok)
    clear hok hr
    go_wp2_with fail
    refine (Stuck_any A1 cap1 g w1 HF.out hg).mono ?_
    rintro e w2 ⟨A2, s, c2, rfl, hs, hss, hsl, hb2⟩
    have hg2' := hg.below (B'' := w2.heap.size) hb2 (Nat.le_refl _) hb2.size
    have hbel2 := hb1.trans (hb2.mono hb1.size)
    have HS := Lib.hid hs.1
    have HSS := Lib.hid hss
    clear hb1 hb2 hg hs hss
    go_wp2_with fail
    go_loopg [5] g.length (fun m v wq => ∃ i : Nat, v = .int .i64 (i : Int) ∧ i ≤ g.length ∧ g.length ≤ i + m ∧ Below w2.heap.size w2 wq)
    case atStart => exact ⟨0, rfl, Nat.zero_le _, by omega, Below.refl _ _⟩
    case round =>
      obtain ⟨i, rfl, hi, him, hbi⟩ := hrel
      obtain ⟨G, hG⟩ : ∃ G, G = gk := ⟨_, rfl⟩
      subst hG
      have hgi := hg2'.below (B'' := wr.heap.size) hbi (Nat.le_refl _) hbi.size
      have hbeli := hbel2.trans (hbi.mono hbel2.size)
      by_cases hlt : i < g.length
      · have HIR : Hid (InR g.length (i : Int)) := Lib.hid ⟨by omega, by omega⟩
        obtain ⟨b0, off0, n0, nc0, rfl, hb0, hd1, hd2, hN0⟩ := hgi i hlt
        have HKI : Hid (kOf g i = g[i].k) := Lib.hid (kOf_eq (x := (i : Int)) (by simpa using hlt))
        clear hd2 hN0
        go_wp2_with fail
        refine (Reach_any _ cap1 g i wr HF.out hgi).mono ?_
        rintro e w4 ⟨A4, r, c4, rfl, hr4, hrs4, hrl4, hb4⟩
        have hg4 := hgi.below (B'' := w4.heap.size) hb4 (Nat.le_refl _) hb4.size
        have hbi4 := hbi.trans (hb4.mono hbi.size)
        have HR4 := Lib.hid hr4.1
        have HRS := Lib.hid hrs4
        clear hb4 hgi hbi hr4 hrs4 hd1 hb0
        go_wp2_with fail
        go_loopg [6, 8] r.length (fun m v6 v8 wq => ∃ (k : Nat) (b : Bool), v8 = .int .i64 (k : Int) ∧ v6 = .bool b ∧ k ≤ r.length ∧ r.length ≤ k + m ∧ Hid (Wai g i r k b) ∧ Below w4.heap.size w4 wq)
        case atStart =>
          refine ⟨0, decide (0 < g[i].k), rfl, rfl, Nat.zero_le _, by omega, Lib.hid ?_, Below.refl _ _⟩
          unfold Wai
          rw [decide_eq_true_iff, HKI.out]
          exact ⟨fun h => ⟨h, fun _ _ h => absurd h (Nat.not_lt_zero _)⟩, fun h => h.1⟩
        case round =>
          obtain ⟨k, b, rfl, rfl, hk, hkm, hcy, hbq⟩ := hrel
          have hgq := hg4.below (B'' := wr.heap.size) hbq (Nat.le_refl _) hbq.size
          have hrq := HR4.out.below (B'' := wr.heap.size) hbq (Nat.le_refl _) hbq.size
          have hbiq := hbi4.trans (hbq.mono hbi4.size)
          by_cases hkl : k < r.length
          · obtain ⟨y, hy⟩ : ∃ y, r[k] = y := ⟨_, rfl⟩
            obtain ⟨b5, off5, rfl, hb5, hc5⟩ := hrq.get hkl hy
            have HYR : Hid (InR g.length y) := Lib.hid (by rw [← hy]; exact ((HRS.out.1 ⟨HV.out, HIR.out⟩).range _ (List.getElem_mem hkl)).1)
            have HY := Lib.hid hy
            clear hy
            cases b with
            | false =>
              have hst := Lib.hid hcy.out.stay
              go_wp2
              go_roundg (gk - 1)
              case measure => omega
              case rel => exact ⟨k + 1, false, by go_num, rfl, by omega, by omega, hst, hbq⟩
            | true =>
              have hy1 := HYR.out.1
              have hy2 := HYR.out.2
              have hyn : y.toNat < g.length := by omega
              obtain ⟨b6, off6, n6, nc6, e6, hb6, hd6, hd7, hN6⟩ := hgq y.toNat hyn
              obtain ⟨rfl, rfl⟩ : b0 = b6 ∧ off0 = off6 := by simpa using e6
              clear hd7 hN6 e6
              have d1 : decide (0 ≤ y) = true := decide_eq_true hy1
              have d2 : decide (y < (g.length : Int)) = true := decide_eq_true hy2
              have hst : Hid (Wai g i r (k + 1) (decide (0 < g[y.toNat].k))) := Lib.hid (hcy.out.step hkl (by rw [decide_eq_true_iff, HY.out, kOf_eq hyn]))
              go_wp2
              go_roundg (gk - 1)
              case measure => omega
              case rel => exact ⟨k + 1, _, by go_num, rfl, by omega, by omega, hst, hbq⟩
          · have hsq := HS.out.below (B'' := wr.heap.size) hbiq (Nat.le_refl _) hbiq.size
            go_wp2_with fail
            refine (has_any A2 wr.heap.size c2 s i wr (by omega) hsq).mono ?_
            rintro e w7 ⟨r7, rfl, hr7, hb7⟩
            have hbi7 := hbiq.trans (hb7.mono hbiq.size)
            obtain rfl : r7 = b := Wai.done HV.out HK.out HIR.out (by omega) HRS.out HSS.out hcy.out hr7
            clear hr7
            cases r7 with
            | true =>
              go_wp2
              go_roundg (G - 1)
              case measure => omega
              case rel => exact ⟨i + 1, by go_num, by omega, by omega, hbi7⟩
            | false =>
              go_wp2
              go_roundg (G - 1)
              case measure => omega
              case rel => exact ⟨i + 1, by go_num, by omega, by omega, hbi7⟩
      · have hsi := HS.out.below (B'' := wr.heap.size) hbi (Nat.le_refl _) hbi.size
        go_wp2_with fail
        refine (Knots_any A1 cap1 g wr HF.out hgi).mono ?_
        rintro e w3 ⟨A3, ls, c3, rfl, hls, hks, hlsl, hlsm, hb3⟩
        have hs3 := hsi.below (B'' := w3.heap.size) hb3 (Nat.le_refl _) hb3.size
        have hbel3 := hbeli.trans (hb3.mono hbeli.size)
        have HIN : Hid (∀ l ∈ ls, ∀ y ∈ l, y ∈ s) := Lib.hid fun l hl y hy => by
          obtain ⟨h1, h2⟩ := knot_stuck HV.out HK.out hks l hl y hy
          exact (HSS.out.mem HV.out h1).2 h2
        have HLM := Lib.hid hlsm
        clear hi hlt him hbi hgi hbeli hsi hb3 hks hlsm
        go_wp2_with fail
        go_loopg [10] ls.length (fun m v wq => ∃ i : Nat, v = .int .i64 (i : Int) ∧ i ≤ ls.length ∧ ls.length ≤ i + m ∧ Below w3.heap.size w3 wq)
        case atStart => exact ⟨0, rfl, Nat.zero_le _, by omega, Below.refl _ _⟩
        case round =>
          obtain ⟨i, rfl, hi, him, hbi⟩ := hrel
          obtain ⟨G2, hG2⟩ : ∃ G2, G2 = gk := ⟨_, rfl⟩
          subst hG2
          have hbeli := hbel3.trans (hbi.mono hbel3.size)
          by_cases hlt : i < ls.length
          · obtain ⟨bq, offq, nq, ncq, rfl, hbq0, hcq0, hIq0⟩ := hls i hlt
            obtain ⟨w5, hw5⟩ : ∃ w5, w5 = wr := ⟨_, rfl⟩
            subst hw5
            have hlm := HLM.out i hlt
            go_wp2_with fail
            go_loopg [11] ls[i].length (fun m v wq => ∃ k : Nat, v = .int .i64 (k : Int) ∧ k ≤ ls[i].length ∧ ls[i].length ≤ k + m ∧ Below w3.heap.size w3 wq)
            case atStart => exact ⟨0, rfl, Nat.zero_le _, by omega, hbi⟩
            case round =>
              obtain ⟨k, rfl, hk, hkm, hbk⟩ := hrel
              have hck := (hbk.cell (p := ⟨bq, offq + i, none⟩) hbq0).trans hcq0
              have hIk := hIq0.below (B'' := wr.heap.size) hbk (Nat.le_refl _) hbk.size
              have hsk := hs3.below (B'' := wr.heap.size) hbk (Nat.le_refl _) hbk.size
              by_cases hkl : k < ls[i].length
              · obtain ⟨y, hy⟩ : ∃ y, ls[i][k] = y := ⟨_, rfl⟩
                obtain ⟨b5, off5, rfl, hb5, hc5⟩ := hIk.get hkl hy
                have hys : Hid (y ∈ s) := Lib.hid (HIN.out _ (List.getElem_mem hlt) _ (by rw [← hy]; exact List.getElem_mem hkl))
                clear hy
                go_wp2_with fail
                refine (has_any A2 wr.heap.size c2 s y wr (by omega) hsk).mono ?_
                rintro e w7 ⟨r7, rfl, hr7, hb7⟩
                have hbk7 := hbk.trans (hb7.mono hbk.size)
                obtain rfl : r7 = true := hr7.2 hys.out
                clear hr7
                go_wp2
                go_roundg (gk - 1)
                case measure => omega
                case rel => exact ⟨k + 1, by go_num, by omega, by omega, hbk7⟩
              · go_wp2
                go_roundg (G2 - 1)
                case measure => omega
                case rel => exact ⟨i + 1, by go_num, by omega, by omega, hbk⟩
          · go_wp2_with fail
            refine (awake_any wr).mono ?_
            rintro e w8 ⟨rfl, hb8⟩
            go_wp2
            go_ret
            exact ⟨rfl, hbeli.trans (hb8.mono hbeli.size)⟩
  · have hd : decide (l.length ≤ 300) = false := decide_eq_false hl
    go_enter Try.func8, Try.ntmps8
    go_wp2_with fail
    refine (Light_any A l.length cap w HW.out.1).mono ?_
    rintro e w0 ⟨rfl, rfl⟩
    go_wp2_with fail
    refine (awake_any w).mono ?_
    rintro e w2 ⟨rfl, hb2⟩
    go_wp2
    go_ret
    exact ⟨rfl, hb2⟩
end Go.Proofs.Ytgdeekghngpcfaa
