/- Part 35 of 49 of the proof of waitgraphOf_holds (no condition). -/
import Derived.Test.YtogeihdfmnohnaaGreatDoorK34
import Derived.Test.YtogeihdfmnohnaaGreatDoorK32
set_option linter.unusedVariables false
set_option linter.unusedSimpArgs false
namespace Go.Proofs.YtogeihdfmnohnaaGreatDoor
open Go.RowKit
set_option maxRecDepth 100000 in
set_option maxHeartbeats 6400000 in
theorem rAgainst_any (r : Rs) (A : Option Addr) (B cap : Nat) (l : List Ho) (x y z m u : Int) (w : World) (hm : l.length ≤ maxLen) (hB : B ≤ w.heap.size) (hr : RowsAt hoE w (Lo B) A l) :
    Calls Tryz.prog 69 #[r.val, .slice A l.length cap, .agg #[.int .i64 x, .int .i64 y, .int .i64 z], .agg #[.int .i64 m, .int .i64 u]] w (RetRow prE 51 w (againstS r l ⟨x, y, z⟩ ⟨m, u⟩)) := by
  obtain ⟨nm, kd, un, h⟩ := r
  have H1 := Lib.hid (fun W (hb : Below w.heap.size w W) => rHValid_any ⟨nm, kd, un, h⟩ A B cap l W hm (Nat.le_trans hB hb.size) (hr.below hb hB (Nat.le_refl _)))
  have H4 := Lib.hid (fun W => rVProc_any ⟨x, y, z⟩ W)
  have H5 := Lib.hid (fun W => rFits_any ⟨nm, kd, un, h⟩ m u W)
  have H2 := Lib.hid (fun W (hb : Below w.heap.size w W) => rRoom_any ⟨nm, kd, un, h⟩ A B cap l x y z m u W hm (Nat.le_trans hB hb.size) (hr.below hb hB (Nat.le_refl _)))
  have H3 := Lib.hid (fun A B cap l W hm hB hr => rCompatible_any ⟨nm, kd, un, h⟩ A B cap l W hm hB hr)
  have HL8 : Hid (hvB ⟨nm, kd, un, h⟩ l = true → l.length ≤ 8) := Lib.hid hvB_len
  have HKD : Hid (hvB ⟨nm, kd, un, h⟩ l = true → kd = 1 ∨ kd = 2) := Lib.hid (fun hv => by unfold hvB at hv; simp only [Bool.and_eq_true] at hv; have := shaped_kinds hv.1.1.1; dsimp only at this; omega)
  have HR := Lib.hid hr
  clear hr
  unfold Rs.val Pr.val at *
  have HD : Hid (againstS ⟨nm, kd, un, h⟩ l ⟨x, y, z⟩ ⟨m, u⟩ = bif hvB ⟨nm, kd, un, h⟩ l && vpB ⟨x, y, z⟩ && fitsB ⟨nm, kd, un, h⟩ ⟨m, u⟩ && !roomB ⟨nm, kd, un, h⟩ l ⟨x, y, z⟩ ⟨m, u⟩ then agL ⟨nm, kd, un, h⟩ ⟨x, y, z⟩ ⟨m, u⟩ l else []) := Lib.hid rfl
  obtain ⟨q1, hq1⟩ : ∃ q, hvB ⟨nm, kd, un, h⟩ l = q := ⟨_, rfl⟩
  obtain ⟨q2, hq2⟩ : ∃ q, vpB ⟨x, y, z⟩ = q := ⟨_, rfl⟩
  obtain ⟨q3, hq3⟩ : ∃ q, fitsB ⟨nm, kd, un, h⟩ ⟨m, u⟩ = q := ⟨_, rfl⟩
  obtain ⟨q4, hq4⟩ : ∃ q, roomB ⟨nm, kd, un, h⟩ l ⟨x, y, z⟩ ⟨m, u⟩ = q := ⟨_, rfl⟩
  rw [hq1] at H1 HD HL8 HKD
  rw [hq2] at H4 HD
  rw [hq3] at H5 HD
  rw [hq4] at H2 HD
  clear hq1 hq2 hq3 hq4
  generalize againstS ⟨nm, kd, un, h⟩ l ⟨x, y, z⟩ ⟨m, u⟩ = R at *
  have HBX := Lib.hid (BoxR.made (w := w) (nm := nm) (kd := kd) (un := un) (h := h) (x := x) (y := y) (z := z) (m := m) (u := u))
  by_cases hgo : q1 = true ∧ q2 = true ∧ q3 = true ∧ q4 = false
  · obtain ⟨rfl, rfl, rfl, rfl⟩ := hgo
    have HR1 : Hid (R = agL ⟨nm, kd, un, h⟩ ⟨x, y, z⟩ ⟨m, u⟩ l) := Lib.hid HD.out
    have hl8 : l.length ≤ 8 := HL8.out rfl
    have hkk : kd = 1 ∨ kd = 2 := HKD.out rfl
    go_enter Tryz.func69, Tryz.ntmps69
    go_wp2_with fail
    refine (H1.out _ HBX.out.bel).mono ?_
    rintro e w1 ⟨rfl, hb1⟩
    have HX1 := Lib.hid (HBX.out.next hb1)
    obtain ⟨c0, c1, c2, c3, p0, p1, p2, a0, a1, l0, l1, l2⟩ := HX1.out.cel
    clear hb1
    go_wp2_with fail
    refine (H4.out _).mono ?_
    rintro e w3 ⟨rfl, hb3⟩
    have HX3 := Lib.hid (HX1.out.next hb3)
    clear hb3 c0 c1 c2 c3 p0 p1 p2 a0 a1 l0 l1 l2
    obtain ⟨c0, c1, c2, c3, p0, p1, p2, a0, a1, l0, l1, l2⟩ := HX3.out.cel
    go_wp2_with fail
    refine (H5.out _).mono ?_
    rintro e w4 ⟨rfl, hb4⟩
    have HX4 := Lib.hid (HX3.out.next hb4)
    clear hb4 c0 c1 c2 c3 p0 p1 p2 a0 a1 l0 l1 l2
    obtain ⟨c0, c1, c2, c3, p0, p1, p2, a0, a1, l0, l1, l2⟩ := HX4.out.cel
    go_wp2_with fail
    refine (H2.out _ HX4.out.bel).mono ?_
    rintro e w2 ⟨rfl, hb2⟩
    have HX2 := Lib.hid (HX4.out.next hb2)
    clear hb2 c0 c1 c2 c3 p0 p1 p2 a0 a1 l0 l1 l2
    go_wp2_with fail
    go_loopg [9, 10] l.length (fun m0 v9 v10 wq => ∃ k : Nat, v10 = .int .i64 (k : Int) ∧ k ≤ l.length ∧ l.length ≤ k + m0 ∧ Hid (OwnRows prE 51 wq w2.heap.size v9 (agL ⟨nm, kd, un, h⟩ ⟨x, y, z⟩ ⟨m, u⟩ (l.take k))) ∧ Hid (Below w2.heap.size w2 wq))
    case atStart => exact ⟨0, rfl, Nat.zero_le _, by omega, Lib.hid (OwnRows.nil _ _ _ _ (Nat.le_refl _)), Lib.hid (Below.refl _ _)⟩
    case round =>
      obtain ⟨k, rfl, hk, hkm, HO, HBL⟩ := hrel
      have HXR := Lib.hid (HX2.out.next HBL.out)
      have HBW : Hid (Below w.heap.size w wr) := Lib.hid HXR.out.bel
      by_cases hlt : k < l.length
      · obtain ⟨⟨⟨a, b, c⟩, ⟨m', u'⟩⟩, hx⟩ : ∃ x, l[k] = x := ⟨_, rfl⟩
        obtain ⟨g, off, rfl, hbl, d0, d1, d2, d3, d4⟩ := ho_cells (HR.out.below (B'' := w.heap.size) HBW.out hB hB) hlt hx
        have hbl2 : g < wr.heap.size := Nat.lt_of_lt_of_le hbl HBW.out.size
        have hlti : (k : Int) < (l.length : Int) := by omega
        obtain ⟨_, k1, k2⟩ := cmpPr a b c x y z
        obtain ⟨q, hq⟩ : ∃ q, decide ((⟨a, b, c⟩ : Pr) = ⟨x, y, z⟩) = q := ⟨_, rfl⟩
        obtain ⟨q3, hq3⟩ : ∃ q, compB ⟨nm, kd, un, h⟩ [⟨m', u'⟩, ⟨m, u⟩] = q := ⟨_, rfl⟩
        have HE : Hid (agL ⟨nm, kd, un, h⟩ ⟨x, y, z⟩ ⟨m, u⟩ (l.take (k + 1)) = bif !q && !(decide (kd = 1) && q3) then agL ⟨nm, kd, un, h⟩ ⟨x, y, z⟩ ⟨m, u⟩ (l.take k) ++ [⟨a, b, c⟩] else agL ⟨nm, kd, un, h⟩ ⟨x, y, z⟩ ⟨m, u⟩ (l.take k)) := Lib.hid (by
          rw [List.take_add_one, List.getElem?_eq_getElem hlt, hx, ← hq, ← hq3]
          exact agL_snoc _ _ _ _ _)
        have HL : Hid ((agL ⟨nm, kd, un, h⟩ ⟨x, y, z⟩ ⟨m, u⟩ (l.take k)).length ≤ k) := Lib.hid (by have := agL_len ⟨nm, kd, un, h⟩ ⟨x, y, z⟩ ⟨m, u⟩ (l.take k); rw [List.length_take] at this; omega)
        have H3' := Lib.hid (fun A B cap W hB hr => H3.out A B cap [⟨m', u'⟩, ⟨m, u⟩] W (by simp [maxLen]) hB hr)
        rw [hq3] at H3'
        rw [hq] at k1
        have HX := Lib.hid hx
        clear hq hq3 hx hbl
        generalize agL ⟨nm, kd, un, h⟩ ⟨x, y, z⟩ ⟨m, u⟩ (l.take k) = f at *
        have hfl := HL.out
        obtain ⟨c0, c1, c2, c3, p0, p1, p2, a0, a1, l0, l1, l2⟩ := HXR.out.cel
        have HLC : Hid (∀ W, Below w.heap.size w W → W.cell? ⟨g, off + k * 5, none⟩ = some (.int .i64 a) ∧ W.cell? ⟨g, off + k * 5 + 1, none⟩ = some (.int .i64 b) ∧ W.cell? ⟨g, off + k * 5 + 2, none⟩ = some (.int .i64 c) ∧ W.cell? ⟨g, off + k * 5 + 3, none⟩ = some (.int .i64 m') ∧ W.cell? ⟨g, off + k * 5 + 4, none⟩ = some (.int .i64 u')) := Lib.hid (fun W hb => by
          obtain ⟨_, _, hA, _, e0, e1, e2, e3, e4⟩ := ho_cells (HR.out.below (B'' := w.heap.size) hb hB hB) hlt HX.out
          injection hA with hA
          injection hA with ea eb
          subst ea
          subst eb
          exact ⟨e0, e1, e2, e3, e4⟩)
        cases q with
        | true =>
          have HE2 : Hid (agL ⟨nm, kd, un, h⟩ ⟨x, y, z⟩ ⟨m, u⟩ (l.take (k + 1)) = f) := Lib.hid HE.out
          go_wp2_with fail
          go_quiet (fail)
          go_wp2_with fail
          go_roundg (gk - 1)
          case measure => omega
          case rel => exact ⟨k + 1, by go_num, by omega, by omega, Lib.hid (by rw [HE2.out]; exact HO.out.drewN _), Lib.hid (below_drewN HBL.out _)⟩
        | false =>
          rcases hkk with rfl | rfl
          · have HE2 : Hid (agL ⟨nm, 1, un, h⟩ ⟨x, y, z⟩ ⟨m, u⟩ (l.take (k + 1)) = bif !q3 then f ++ [⟨a, b, c⟩] else f) := Lib.hid HE.out
            go_wp2_with fail
            go_quiet (fail)
            have HXq : Hid (BoxR w nm 1 un h x y z m u (World.drewN wr nq)) := Lib.hid (HXR.out.next (below_drewN (Below.refl _ _) nq))
            have HBLq : Hid (Below w2.heap.size w2 (World.drewN wr nq)) := Lib.hid (below_drewN HBL.out nq)
            have HOq := Lib.hid (HO.out.drewN nq)
            clear k1 k2 d0 d1 d2 d3 d4 c0 c1 c2 c3 p0 p1 p2 a0 a1 l0 l1 l2 hbl2 HO HBL HBW HXR
            generalize World.drewN wr nq = w9 at *
            have HBWq : Hid (Below w.heap.size w w9) := Lib.hid HXq.out.bel
            obtain ⟨c0, c1, c2, c3, p0, p1, p2, a0, a1, l0, l1, l2⟩ := HXq.out.cel
            obtain ⟨d0, d1, d2, d3, d4⟩ := HLC.out w9 HBWq.out
            clear d0 d1 d2 d3 d4 c0 c1 c2 c3 p0 p1 p2 a0 a1
            have HTW := Lib.hid (am_two w9.drew m' u' m u)
            have HCA : Hid (∀ W, Below w9.heap.size w9 W → W.cell? ⟨w.heap.size, 0, none⟩ = some (.string nm) ∧ W.cell? ⟨w.heap.size, 1, none⟩ = some (.int .i64 1) ∧ W.cell? ⟨w.heap.size, 2, none⟩ = some (.int .i64 un) ∧ W.cell? ⟨w.heap.size, 3, none⟩ = some (.int .i64 h) ∧ W.cell? ⟨w.heap.size + 1 + 1, 0, none⟩ = some (.int .i64 m) ∧ W.cell? ⟨w.heap.size + 1 + 1, 1, none⟩ = some (.int .i64 u) ∧ W.cell? ⟨g, off + k * 5 + 3, none⟩ = some (.int .i64 m') ∧ W.cell? ⟨g, off + k * 5 + 4, none⟩ = some (.int .i64 u')) := Lib.hid (fun W hb => by
              have hX := HXq.out.next hb
              obtain ⟨_, _, _, e3, e4⟩ := HLC.out W hX.bel
              exact ⟨hX.cel.c0, hX.cel.c1, hX.cel.c2, hX.cel.c3, hX.cel.a0, hX.cel.a1, e3, e4⟩)
            have HS0 := Lib.hid (HCA.out w9.drew (Below.refl _ _).drew)
            have HS1 := Lib.hid (HCA.out (w9.drew.alloc (.cells #[.int .i64 m', .int .i64 u', .int .i64 m, .int .i64 u] 53)) (Below.al (Below.refl _ _).drew _))
            go_wp2_with fail
            go_region_held3 (fun w' => w'.cell? ⟨w.heap.size, 0, none⟩ = some (.string nm) ∧ w'.cell? ⟨w.heap.size, 1, none⟩ = some (.int .i64 1) ∧ w'.cell? ⟨w.heap.size, 2, none⟩ = some (.int .i64 un) ∧ w'.cell? ⟨w.heap.size, 3, none⟩ = some (.int .i64 h) ∧ w'.cell? ⟨w.heap.size + 1 + 1, 0, none⟩ = some (.int .i64 m) ∧ w'.cell? ⟨w.heap.size + 1 + 1, 1, none⟩ = some (.int .i64 u) ∧ w'.cell? ⟨g, off + k * 5 + 3, none⟩ = some (.int .i64 m') ∧ w'.cell? ⟨g, off + k * 5 + 4, none⟩ = some (.int .i64 u'))
              (first | exact HS0.out | exact HS1.out | exact hC5)
              ((first
                | (go_at_call 70; refine (H3'.out _ (w9.drew.heap.size + 1) _ _ (by simp) HTW.out).mono ?_; rintro e w5 ⟨rfl, hb5⟩; have hC5 := HCA.out w5 (Below.tr (Below.al (Below.refl _ _).drew (.cells #[.int .i64 m', .int .i64 u', .int .i64 m, .int .i64 u] 53)) hb5))))
            have HBL5 : Hid (Below w2.heap.size w2 w5) := Lib.hid (Below.tr (Below.al HBLq.out.drew (.cells #[.int .i64 m', .int .i64 u', .int .i64 m, .int .i64 u] 53)) hb5)
            have HBW5 : Hid (Below w.heap.size w w5) := Lib.hid (Below.tr (Below.al HBWq.out.drew (.cells #[.int .i64 m', .int .i64 u', .int .i64 m, .int .i64 u] 53)) hb5)
            have HO5 := Lib.hid (((HOq.out.drewN 1).alloc (.cells #[.int .i64 m', .int .i64 u', .int .i64 m, .int .i64 u] 53)).below hb5 (Nat.le_refl _))
            obtain ⟨e0, e1, e2, e3, e4⟩ := HLC.out w5 HBW5.out
            have hgl5 : g < w5.heap.size := World.block_lt_of_cell? w5 _ e0
            clear hb5 l0 l1 l2
            cases q3 with
            | true =>
              have HE3 : Hid (agL ⟨nm, 1, un, h⟩ ⟨x, y, z⟩ ⟨m, u⟩ (l.take (k + 1)) = f) := Lib.hid HE2.out
              go_wp2_with fail
              go_roundg (gk - 1)
              case measure => omega
              case rel => exact ⟨k + 1, by go_num, by omega, by omega, Lib.hid (by rw [HE3.out]; exact HO5.out), HBL5⟩
            | false =>
              have HE3 : Hid (f ++ [⟨a, b, c⟩] = agL ⟨nm, 1, un, h⟩ ⟨x, y, z⟩ ⟨m, u⟩ (l.take (k + 1))) := Lib.hid HE2.out.symm
              go_wp2_with (at_builtin; refine pushOneB prTB rfl (.tmp 61) (.tmp 67) rfl w5 w2.heap.size u9 f ⟨a, b, c⟩ [.int .i64 a, .int .i64 b, .int .i64 c] _ rfl rfl HO5.out w5.heap.size rfl rfl rfl (by unfold maxLen; omega) (by omega) ?_; intro v7 w7 hown7 hb7 hsp7; have HB7 : Hid (Below w2.heap.size w2 w7) := Lib.hid (HBL5.out.trans hb7); have HO7 := Lib.hid hown7; clear hown7 hb7 hsp7)
              rw [HE3.out] at HO7
              go_roundg (gk - 1)
              case measure => omega
              case rel => exact ⟨k + 1, by go_num, by omega, by omega, HO7, HB7⟩
          · have HE3 : Hid (f ++ [⟨a, b, c⟩] = agL ⟨nm, 2, un, h⟩ ⟨x, y, z⟩ ⟨m, u⟩ (l.take (k + 1))) := Lib.hid (by have h1 := HE.out; simpa using h1.symm)
            go_wp2_with fail
            go_quiet (fail)
            have HXq : Hid (BoxR w nm 2 un h x y z m u (World.drewN wr nq)) := Lib.hid (HXR.out.next (below_drewN (Below.refl _ _) nq))
            have HBLq : Hid (Below w2.heap.size w2 (World.drewN wr nq)) := Lib.hid (below_drewN HBL.out nq)
            have HOq := Lib.hid (HO.out.drewN nq)
            clear k1 k2 d0 d1 d2 d3 d4 c0 c1 c2 c3 p0 p1 p2 a0 a1 l0 l1 l2 hbl2 HO HBL HBW HXR
            generalize World.drewN wr nq = w9 at *
            have HBWq : Hid (Below w.heap.size w w9) := Lib.hid HXq.out.bel
            obtain ⟨c0, c1, c2, c3, p0, p1, p2, a0, a1, l0, l1, l2⟩ := HXq.out.cel
            obtain ⟨d0, d1, d2, d3, d4⟩ := HLC.out w9 HBWq.out
            have g0 := Ext.cell (w0 := w9) c1
            clear c0 c1 c2 c3 p0 p1 p2 a0 a1 d0 d1 d2 d3 d4 l0 l1 l2
            go_wp2_with fail
            refine wp_region_grow (by kernel_rfl) (by kernel_rfl) ?_
            (repeat (go_big_quiet_step (fail)))
            refine wpQuiet_nil ?_
            rintro w5 ⟨n2, rfl⟩
            have hb5 := n2.below
            generalize n2.w = w5 at hb5 ⊢
            clear n2 g0
            have HBL5 : Hid (Below w2.heap.size w2 w5) := Lib.hid (Below.tr HBLq.out hb5)
            have HO5 : Hid (OwnRows prE 51 w5 w2.heap.size u9 f) := Lib.hid (HOq.out.below hb5 (Nat.le_refl _))
            obtain ⟨e0, e1, e2, e3, e4⟩ := HLC.out w5 (Below.tr HBWq.out hb5)
            have hgl5 : g < w5.heap.size := World.block_lt_of_cell? w5 _ e0
            clear hb5
            go_wp2_with (at_builtin; refine pushOneB prTB rfl (.tmp 61) (.tmp 67) rfl w5 w2.heap.size u9 f ⟨a, b, c⟩ [.int .i64 a, .int .i64 b, .int .i64 c] _ rfl rfl HO5.out w5.heap.size rfl rfl rfl (by unfold maxLen; omega) (by omega) ?_; intro v7 w7 hown7 hb7 hsp7; have HB7 : Hid (Below w2.heap.size w2 w7) := Lib.hid (HBL5.out.trans hb7); have HO7 := Lib.hid hown7; clear hown7 hb7 hsp7)
            rw [HE3.out] at HO7
            go_roundg (gk - 1)
            case measure => omega
            case rel => exact ⟨k + 1, by go_num, by omega, by omega, HO7, HB7⟩
      · have hlti : ¬ (k : Int) < (l.length : Int) := by omega
        have HE : Hid (agL ⟨nm, kd, un, h⟩ ⟨x, y, z⟩ ⟨m, u⟩ (l.take k) = R) := Lib.hid (by rw [List.take_of_length_le (by omega), HR1.out])
        rw [HE.out] at HO
        go_wp2_with fail
        go_ret
        exact ⟨_, rfl, HO.out.older HX2.out.bel.size, HBW.out⟩
  · have HR1 : Hid (R = []) := Lib.hid (by rw [HD.out]; cases q1 <;> cases q2 <;> cases q3 <;> cases q4 <;> first | rfl | exact absurd ⟨rfl, rfl, rfl, rfl⟩ hgo)
    have HN := Lib.hid hgo
    clear hgo
    go_enter Tryz.func69, Tryz.ntmps69
    go_wp2_with fail
    repeat' (first
      | (go_at_call 103; refine (H1.out _ (by (repeat (first | (with_reducible exact Below.refl _ _) | (with_reducible assumption) | (with_reducible refine below_drewN ?_ _) | (with_reducible refine Below.drew ?_) | (with_reducible refine Below.al ?_ _) | (with_reducible refine Below.st ?_ (by simp; try omega)) | (with_reducible refine Below.tr ?_ (Hid.out (by assumption))) | (with_reducible exact Hid.out (by assumption)))))).mono ?_; rintro e wa1 ⟨rfl, hb_wa1⟩; obtain ⟨hc_wa1, hf_wa1⟩ := bcell hb_wa1; have hs_wa1 := hb_wa1.size; (try simp at hs_wa1); have hz_wa1_w_0 : w.heap.size < wa1.heap.size := (by omega); have hz_wa1_w_1 : w.heap.size + 1 < wa1.heap.size := (by omega); have hz_wa1_w_2 : w.heap.size + 1 + 1 < wa1.heap.size := (by omega); clear hs_wa1; have HB_wa1 := Lib.hid hb_wa1; clear hb_wa1; go_wp2_with fail)
      | (go_at_call 58; refine (H4.out _).mono ?_; rintro e wa2 ⟨rfl, hb_wa2⟩; obtain ⟨hc_wa2, hf_wa2⟩ := bcell hb_wa2; have hs_wa2 := hb_wa2.size; (try simp at hs_wa2); have hz_wa2_w_0 : w.heap.size < wa2.heap.size := (by omega); have hz_wa2_w_1 : w.heap.size + 1 < wa2.heap.size := (by omega); have hz_wa2_w_2 : w.heap.size + 1 + 1 < wa2.heap.size := (by omega); clear hs_wa2; have HB_wa2 := Lib.hid hb_wa2; clear hb_wa2; go_wp2_with fail)
      | (go_at_call 104; refine (H5.out _).mono ?_; rintro e wa3 ⟨rfl, hb_wa3⟩; obtain ⟨hc_wa3, hf_wa3⟩ := bcell hb_wa3; have hs_wa3 := hb_wa3.size; (try simp at hs_wa3); have hz_wa3_w_0 : w.heap.size < wa3.heap.size := (by omega); have hz_wa3_w_1 : w.heap.size + 1 < wa3.heap.size := (by omega); have hz_wa3_w_2 : w.heap.size + 1 + 1 < wa3.heap.size := (by omega); clear hs_wa3; have HB_wa3 := Lib.hid hb_wa3; clear hb_wa3; go_wp2_with fail)
      | (go_at_call 105; refine (H2.out _ (by (repeat (first | (with_reducible exact Below.refl _ _) | (with_reducible assumption) | (with_reducible refine below_drewN ?_ _) | (with_reducible refine Below.drew ?_) | (with_reducible refine Below.al ?_ _) | (with_reducible refine Below.st ?_ (by simp; try omega)) | (with_reducible refine Below.tr ?_ (Hid.out (by assumption))) | (with_reducible exact Hid.out (by assumption)))))).mono ?_; rintro e wa4 ⟨rfl, hb_wa4⟩; obtain ⟨hc_wa4, hf_wa4⟩ := bcell hb_wa4; have hs_wa4 := hb_wa4.size; (try simp at hs_wa4); have hz_wa4_w_0 : w.heap.size < wa4.heap.size := (by omega); have hz_wa4_w_1 : w.heap.size + 1 < wa4.heap.size := (by omega); have hz_wa4_w_2 : w.heap.size + 1 + 1 < wa4.heap.size := (by omega); clear hs_wa4; have HB_wa4 := Lib.hid hb_wa4; clear hb_wa4; go_wp2_with fail)
      | (go_ret; exact ⟨_, rfl, by rw [HR1.out]; exact OwnRows.nil _ _ _ _ (Below.size (by (repeat (first | (with_reducible exact Below.refl _ _) | (with_reducible assumption) | (with_reducible refine below_drewN ?_ _) | (with_reducible refine Below.drew ?_) | (with_reducible refine Below.al ?_ _) | (with_reducible refine Below.st ?_ (by simp; try omega)) | (with_reducible refine Below.tr ?_ (Hid.out (by assumption))) | (with_reducible exact Hid.out (by assumption)))))), by (repeat (first | (with_reducible exact Below.refl _ _) | (with_reducible assumption) | (with_reducible refine below_drewN ?_ _) | (with_reducible refine Below.drew ?_) | (with_reducible refine Below.al ?_ _) | (with_reducible refine Below.st ?_ (by simp; try omega)) | (with_reducible refine Below.tr ?_ (Hid.out (by assumption))) | (with_reducible exact Hid.out (by assumption))))⟩)
      | (exact absurd (by simp_all) HN.out))
end Go.Proofs.YtogeihdfmnohnaaGreatDoor
namespace Go.Proofs.YtogeihdfmnohnaaGreatDoor
open Go.RowKit
def clA (PR : List Pr) : List Pr → List Int → List Int
  | [], nx => nx
  | h :: l, nx => clA PR l (addI nx (idxP h 0 PR))
theorem clA_cons (PR : List Pr) (h : Pr) (l : List Pr) (nx : List Int) : clA PR (h :: l) nx = clA PR l (addI nx (idxP h 0 PR)) := rfl
def aheadV (s : Ws) (PR : List Pr) (i : Nat) (q : Qu) (a : Am) (j : Nat) (p : Pr) : Int := bif compB q.res [a, amOf q p] then ((firstS s i + 2 * j : Nat) : Int) + 1 else idxP p 0 PR
def clB (V : Nat → Pr → Int) : Nat → List Pr → List Int → List Int
  | _, [], nx => nx
  | j, p :: l, nx => clB V (j + 1) l (addI nx (V j p))
theorem clB_cons (V : Nat → Pr → Int) (j : Nat) (p : Pr) (l : List Pr) (nx : List Int) : clB V j (p :: l) nx = clB V (j + 1) l (addI nx (V j p)) := rfl
def claimS (s : Ws) (PR : List Pr) (i : Nat) (q : Qu) (n : Nat) (p : Pr) : List Int := clB (aheadV s PR i q (amOf q p)) 0 ((ordL q).take n) (clA PR (againstS q.res q.holds p (amOf q p)) [])
theorem againstS_len (r : Rs) (l : List Ho) (p : Pr) (a : Am) : (againstS r l p a).length ≤ l.length := by
  unfold againstS
  cases propB r l p a && !roomB r l p a with
  | true => exact agL_len _ _ _ _
  | false => simp
theorem wrap_small (x : Int) (h0 : 0 ≤ x) (h1 : x ≤ 1000000) : IntKind.i64.wrap x = x := by
  simp [IntKind.wrap, IntKind.bits, IntKind.signed]
  omega
end Go.Proofs.YtogeihdfmnohnaaGreatDoor
namespace Go.Proofs.YtogeihdfmnohnaaGreatDoor
open Go.RowKit
theorem clA_eq (PR : List Pr) : ∀ (l : List Pr) (nx : List Int), clA PR l nx = addAll nx (l.map fun h => idxP h 0 PR)
  | [], _ => rfl
  | h :: l, nx => by rw [clA_cons, clA_eq PR l]; rfl
def aheadL (V : Nat → Pr → Int) : Nat → List Pr → List Int
  | _, [] => []
  | j, p :: l => V j p :: aheadL V (j + 1) l
theorem aheadL_cons (V : Nat → Pr → Int) (j : Nat) (p : Pr) (l : List Pr) : aheadL V j (p :: l) = V j p :: aheadL V (j + 1) l := rfl
theorem aheadL_len (V : Nat → Pr → Int) : ∀ (l : List Pr) (j : Nat), (aheadL V j l).length = l.length
  | [], _ => rfl
  | p :: l, j => by rw [aheadL_cons, List.length_cons, List.length_cons, aheadL_len V l]
theorem clB_eq (V : Nat → Pr → Int) : ∀ (l : List Pr) (j : Nat) (nx : List Int), clB V j l nx = addAll nx (aheadL V j l)
  | [], _, _ => rfl
  | p :: l, j, nx => by rw [clB_cons, clB_eq V l]; rfl
def rawC (s : Ws) (PR : List Pr) (i : Nat) (q : Qu) (n : Nat) (p : Pr) : List Int := (againstS q.res q.holds p (amOf q p)).map (fun h => idxP h 0 PR) ++ aheadL (aheadV s PR i q (amOf q p)) 0 ((ordL q).take n)
theorem claim_raw (s : Ws) (PR : List Pr) (i : Nat) (q : Qu) (n : Nat) (p : Pr) : claimS s PR i q n p = compI (rawC s PR i q n p) := by
  unfold claimS rawC
  rw [clA_eq, clB_eq, ← addAll_comp, addAll_app]
theorem kidHas_eq (a : Tm) : ∀ l : List Ex, kidHas a l = hasA a (l.map (·.atom))
  | [] => rfl
  | y :: l => by rw [kidHas_cons, List.map_cons, hasA_cons, kidHas_eq a l]
theorem leaf_kids {y : Ex} (h : shB y = true) (hk : y.k = 0) : y.kids = [] := by
  obtain ⟨k, a, l⟩ := y
  rw [shB_mk] at h
  unfold headB at h
  dsimp only [Ex.k, Ex.kids] at hk ⊢
  cases hE : l.isEmpty with
  | true => exact List.isEmpty_iff.1 hE
  | false => rw [hE] at h; simp at h; omega
theorem coll_leaf {y : Ex} (h : shB y = true) (hk : y.k = 0) (acc : List Tm) : coll y acc = addA acc y.atom := by
  have h1 := leaf_kids h hk
  obtain ⟨k, a, l⟩ := y
  dsimp only [Ex.kids] at h1
  subst h1
  rfl
theorem collL_len0 : ∀ (l : List Ex) (acc : List Tm), shL l = true → zeroK l = true → (collL l acc).length ≤ acc.length + l.length
  | [], acc, _, _ => Nat.le_refl _
  | y :: l, acc, h, hz => by
    rw [shL_cons] at h
    rw [zeroK_cons] at hz
    simp only [Bool.and_eq_true, decide_eq_true_eq] at h hz
    rw [collL_cons, coll_leaf h.1 hz.1]
    have h1 := collL_len0 l (addA acc y.atom) h.2 hz.2
    have h2 := addA_len acc y.atom
    simp only [List.length_cons]
    omega
theorem plainGo_eq : ∀ (l pre : List Ex), shL l = true → plainGo (pre ++ l) pre.length l = (zeroK l && decide ((collL l (pre.map (·.atom))).length = pre.length + l.length))
  | [], pre, _ => by simp [plainGo, zeroK, collL]
  | y :: l, pre, h => by
    have h' := h
    rw [shL_cons] at h
    simp only [Bool.and_eq_true] at h
    rw [plainGo_cons, zeroK_cons]
    have ht : (pre ++ y :: l).take pre.length = pre := by simp
    rw [ht, kidHas_eq]
    by_cases hk : y.k = 0
    · rw [decide_eq_true hk, collL_cons, coll_leaf h.1 hk]
      have ih := plainGo_eq l (pre ++ [y]) h.2
      have e1 : pre ++ [y] ++ l = pre ++ y :: l := by simp
      rw [e1, List.length_append, List.length_singleton] at ih
      rw [ih]
      unfold addA
      cases hh : hasA y.atom (pre.map (·.atom)) with
      | true =>
        simp only [Bool.not_true, Bool.and_false, Bool.false_and, cond_true, Bool.true_and]
        symm
        cases hz : zeroK l with
        | false => rfl
        | true =>
          have := collL_len0 l (pre.map (·.atom)) h.2 hz
          rw [List.length_map] at this
          rw [Bool.true_and, decide_eq_false_iff_not, List.length_cons]
          omega
      | false =>
        simp only [Bool.not_false, Bool.and_true, Bool.true_and, cond_false]
        rw [List.map_append, List.length_cons]
        congr 2
        rw [Nat.add_assoc, Nat.add_comm 1]
        rfl
    · rw [decide_eq_false hk]
      rfl
theorem plain_flat {x : Ex} (h : veB x = true) : plainS x = flatS x := by
  have h1 := veB_sh h
  have h2 := h1.1
  have h3 := h1.2.1
  unfold plainS flatS
  rw [h3]
  obtain ⟨k, a, l⟩ := x
  dsimp only [Ex.k, Ex.kids]
  rw [shB_mk] at h2
  rw [coll_mk]
  simp only [Bool.and_eq_true] at h2
  have h4 := plainGo_eq l [] h2.2
  rw [List.nil_append, List.length_nil, Nat.zero_add] at h4
  rw [h4]
  have h5 := h2.1
  unfold headB at h5
  cases hE : l.isEmpty with
  | true =>
    rw [hE] at h5
    obtain rfl := List.isEmpty_iff.1 hE
    simp at h5
    rw [h5.1]
    simp [zeroK, collL]
  | false =>
    rw [hE] at h5
    simp at h5
    have hk0 : decide (k = 0) = false := decide_eq_false (by omega)
    show _ = (decide (k = 0) || (zeroK l && decide ((collL l []).length = l.length)))
    rw [hk0, Bool.false_or]
    rfl
def poolQ : List Qu → Bool
  | [] => false
  | q :: l => bif decide (q.res.kind = 2) && decide (0 < (ordL q).length) then true else poolQ l
theorem poolQ_cons (q : Qu) (l : List Qu) : poolQ (q :: l) = bif decide (q.res.kind = 2) && decide (0 < (ordL q).length) then true else poolQ l := rfl
def allFl : List Nd → Bool
  | [] => true
  | x :: l => flatS x.expr && allFl l
theorem allFl_cons (x : Nd) (l : List Nd) : allFl (x :: l) = (flatS x.expr && allFl l) := rfl
theorem vn_all : ∀ (l : List Nd) (p : Option Pr), vnGo p l = true → ∀ x ∈ l, ndB x = true
  | [], _, _, x, hx => absurd hx (by simp)
  | y :: l, p, h, x, hx => by
    rw [vnGo_cons] at h
    simp only [Bool.and_eq_true] at h
    rcases List.mem_cons.1 hx with e | e
    · rw [e]; exact h.1.1
    · exact vn_all l _ h.2 x e
theorem needs_flat {s : Ws} (h : stateB s = true) : ∀ x ∈ s.needs, plainS x.expr = flatS x.expr := by
  intro x hx
  unfold stateB at h
  simp only [Bool.and_eq_true] at h
  have h1 := vn_all _ _ h.1.2 x hx
  unfold ndB at h1
  simp only [Bool.and_eq_true] at h1
  exact plain_flat h1.1.1.2
def errS (s : Ws) : Int := bif stateB s then (bif poolQ s.queues then 12 else bif allFl s.needs then 0 else 6) else 2
def clNodes (s : Ws) (PR : List Pr) (i : Nat) (q : Qu) : Nat → List Pr → List No
  | _, [] => []
  | n, p :: l => ⟨((claimS s PR i q n p).length : Int), claimS s PR i q n p⟩ :: ⟨1, [idxP p 0 PR, ((firstS s i + 2 * n : Nat) : Int)]⟩ :: clNodes s PR i q (n + 1) l
theorem clNodes_cons (s : Ws) (PR : List Pr) (i : Nat) (q : Qu) (n : Nat) (p : Pr) (l : List Pr) : clNodes s PR i q n (p :: l) = ⟨((claimS s PR i q n p).length : Int), claimS s PR i q n p⟩ :: ⟨1, [idxP p 0 PR, ((firstS s i + 2 * n : Nat) : Int)]⟩ :: clNodes s PR i q (n + 1) l := rfl
def allNodes (s : Ws) (PR : List Pr) : Nat → List Qu → List No
  | _, [] => []
  | i, q :: l => clNodes s PR i q 0 (ordL q) ++ allNodes s PR (i + 1) l
theorem allNodes_cons (s : Ws) (PR : List Pr) (i : Nat) (q : Qu) (l : List Qu) : allNodes s PR i (q :: l) = clNodes s PR i q 0 (ordL q) ++ allNodes s PR (i + 1) l := rfl
def graphS (s : Ws) : List No := (procsW s).map (nodeP s) ++ allNodes s (procsW s) 0 s.queues
theorem idxP_spec (p : Pr) : ∀ (l : List Pr) (k : Nat), idxP p k l = -1 ∨ ∃ j, j < l.length ∧ idxP p k l = ((k + j : Nat) : Int)
  | [], _ => .inl rfl
  | x :: l, k => by
    rw [idxP_cons]
    cases decide (x = p) with
    | true => exact .inr ⟨0, by simp, rfl⟩
    | false =>
      rcases idxP_spec p l (k + 1) with h | ⟨j, hj, h⟩
      · exact .inl h
      · exact .inr ⟨j + 1, by simp; omega, by rw [cond_false, h]; congr 1; omega⟩
theorem claim_two (s : Ws) (p : Pr) (i n : Nat) : addI [idxP p 0 (procsW s)] ((firstS s i + 2 * n : Nat) : Int) = [idxP p 0 (procsW s), ((firstS s i + 2 * n : Nat) : Int)] := by
  refine addI_two ?_
  unfold firstS
  rcases idxP_spec p (procsW s) 0 with h | ⟨j, hj, h⟩ <;> rw [h] <;> omega
theorem claimS_len (s : Ws) (PR : List Pr) (i n : Nat) (q : Qu) (p : Pr) (hq : shortQ q) : (claimS s PR i q n p).length ≤ 24 := by
  unfold claimS
  rw [clA_eq, clB_eq]
  have h1 := addAll_len (aheadL (aheadV s PR i q (amOf q p)) 0 ((ordL q).take n)) (addAll [] ((againstS q.res q.holds p (amOf q p)).map fun h => idxP h 0 PR))
  have h2 := addAll_len ((againstS q.res q.holds p (amOf q p)).map fun h => idxP h 0 PR) []
  have h3 := againstS_len q.res q.holds p (amOf q p)
  have h4 := ordL_len hq
  rw [aheadL_len, List.length_take] at h1
  rw [List.length_map, List.length_nil] at h2
  have := hq.1
  omega
end Go.Proofs.YtogeihdfmnohnaaGreatDoor
