/- Part 22 of 49 of the proof of waitgraphOf_holds (no condition). -/
import Derived.Test.YtogeihdfmnohnaaGreatDoorK21
set_option linter.unusedVariables false
set_option linter.unusedSimpArgs false
namespace Go.Proofs.YtogeihdfmnohnaaGreatDoor
open Go.RowKit
set_option maxHeartbeats 1600000 in
theorem Nodes_any (d : Nat) (x : Ex) (A : Option Addr) (cap B : Nat) (w : World) (hx : ExF w B d A x) :
    Calls Tryz.prog 143 #[x.val A cap] w (Ret w (.int .i64 ((if okB x then x.cnt else 0 : Nat) : Int))) := by
  have HZ := Lib.hid (fun W (hb : Below w.heap.size w W) => Size_any d x A cap B 1 W (hx.below hb) (by decide))
  have HE : Hid ((size7 x 1 = (x.cnt, x.dep) ∧ okB x = true ∧ x.cnt ≤ 24) ∨ (size7 x 1 = (25, 0) ∧ okB x = false)) := Lib.hid (by
    unfold okB
    rcases size7_eq x 1 with ⟨a1, a2, a3⟩ | ⟨a1, a3⟩
    · exact .inl ⟨a3, by simp; omega, a2⟩
    · exact .inr ⟨a3, by simp; omega⟩)
  clear hx
  obtain ⟨k, ⟨nm, ⟨m, u⟩⟩, l⟩ := x
  unfold Ex.val at *
  dsimp only [Ex.k, Ex.atom, Ex.kids] at HZ ⊢
  obtain ⟨c, hc⟩ : ∃ c, (Ex.mk k ⟨nm, ⟨m, u⟩⟩ l).cnt = c := ⟨_, rfl⟩
  obtain ⟨dp, hdp⟩ : ∃ c, (Ex.mk k ⟨nm, ⟨m, u⟩⟩ l).dep = c := ⟨_, rfl⟩
  rw [hc, hdp] at HE
  rw [hc]
  generalize size7 (.mk k ⟨nm, ⟨m, u⟩⟩ l) 1 = z at *
  generalize okB (.mk k ⟨nm, ⟨m, u⟩⟩ l) = q at *
  clear hc hdp
  rcases HE.out with ⟨rfl, rfl, h24⟩ | ⟨rfl, rfl⟩
  · have h24i : ¬ (24 : Int) < (c : Int) := by omega
    go_enter Tryz.func143, Tryz.ntmps143
    go_wp2_with fail
    refine (HZ.out _ (by (repeat (first | (with_reducible exact Below.refl _ _) | (with_reducible assumption) | (with_reducible refine below_drewN ?_ _) | (with_reducible refine Below.drew ?_) | (with_reducible refine Below.al ?_ _) | (with_reducible refine Below.st ?_ (by simp; try omega)) | (with_reducible refine Below.tr ?_ (Hid.out (by assumption))) | (with_reducible exact Hid.out (by assumption)))))).mono ?_
    rintro e w2 ⟨rfl, hb2⟩
    have HB2 := Lib.hid hb2
    clear hb2
    go_wp2_with fail
    go_ret
    exact ⟨rfl, by (repeat (first | (with_reducible exact Below.refl _ _) | (with_reducible assumption) | (with_reducible refine below_drewN ?_ _) | (with_reducible refine Below.drew ?_) | (with_reducible refine Below.al ?_ _) | (with_reducible refine Below.st ?_ (by simp; try omega)) | (with_reducible refine Below.tr ?_ (Hid.out (by assumption))) | (with_reducible exact Hid.out (by assumption))))⟩
  · go_enter Tryz.func143, Tryz.ntmps143
    go_wp2_with fail
    refine (HZ.out _ (by (repeat (first | (with_reducible exact Below.refl _ _) | (with_reducible assumption) | (with_reducible refine below_drewN ?_ _) | (with_reducible refine Below.drew ?_) | (with_reducible refine Below.al ?_ _) | (with_reducible refine Below.st ?_ (by simp; try omega)) | (with_reducible refine Below.tr ?_ (Hid.out (by assumption))) | (with_reducible exact Hid.out (by assumption)))))).mono ?_
    rintro e w2 ⟨rfl, hb2⟩
    have HB2 := Lib.hid hb2
    clear hb2
    go_wp2_with fail
    go_ret
    exact ⟨rfl, by (repeat (first | (with_reducible exact Below.refl _ _) | (with_reducible assumption) | (with_reducible refine below_drewN ?_ _) | (with_reducible refine Below.drew ?_) | (with_reducible refine Below.al ?_ _) | (with_reducible refine Below.st ?_ (by simp; try omega)) | (with_reducible refine Below.tr ?_ (Hid.out (by assumption))) | (with_reducible exact Hid.out (by assumption))))⟩
def RetA (w : World) (base : Nat) (v : Value) (r : Option (List Tm)) (e : Ending) (w' : World) : Prop := ∃ v', e = .returned (.tuple #[v', .bool r.isSome]) ∧ PS (fun _ => False) w w' v v' ∧ ∀ l', r = some l' → OwnRows tmE 55 w' base v' l'
theorem ownA {w w' : World} {base : Nat} {v : Value} {l : List Tm} (h : OwnRows tmE 55 w base v l) (hb : Below w.heap.size w w') : OwnRows tmE 55 w' base v l := h.below hb (Nat.le_refl _)
set_option maxHeartbeats 6400000 in
theorem Add_any : ∀ (d : Nat) (x : Ex) (A : Option Addr) (cap B base : Nat) (v : Value) (acc : List Tm) (w : World) (hx : ExF w B d A x) (hB : B ≤ base) (h8 : acc.length + x.cnt ≤ 1000) (hv : OwnRows tmE 55 w base v acc),
    Calls Tryz.prog 144 #[v, x.val A cap] w (RetA w base v (addS x acc)) := by
  intro d
  induction d using Nat.strongRecOn with
  | ind d ih =>
    intro x A cap B base v acc w hx hB h8 hv
    obtain ⟨k, ⟨nm, ⟨m, u⟩⟩, l⟩ := x
    obtain ⟨hm, hBw, hr⟩ := hx
    unfold Ex.val
    rw [addS_mk]
    rw [Ex.cnt_mk] at h8
    dsimp only [Ex.k, Ex.atom, Ex.kids] at hm hr ⊢
    have IH := Lib.hid ih
    have HR := Lib.hid hr
    have HV := Lib.hid hv
    clear hr ih hv
    cases hE : l.isEmpty with
    | true =>
      obtain rfl := List.isEmpty_iff.1 hE
      have HA := Lib.hid (fun W => rValidName_any nm W)
      have HU := Lib.hid (fun W => Usable_any m u W)
      have HS : Hid ((bif decide (k = 0) && (nameB nm.toList && usableB ⟨m, u⟩) then some (bif hasA ⟨nm, ⟨m, u⟩⟩ acc then acc else acc ++ [⟨nm, ⟨m, u⟩⟩]) else none) = leafA k ⟨nm, ⟨m, u⟩⟩ acc) := Lib.hid rfl
      simp only [cond_true]
      generalize leafA k ⟨nm, ⟨m, u⟩⟩ acc = r at *
      generalize nameB nm.toList = q1 at *
      generalize usableB ⟨m, u⟩ = q2 at *
      have HNO : Hid (∀ w', r = none → Below w.heap.size w w' → RetA w base v r (.returned (.tuple #[v, .bool false])) w') := Lib.hid fun w' hr hb => ⟨v, by rw [hr]; rfl, PS.of _ hb, fun l' hl' => by rw [hr] at hl'; cases hl'⟩
      obtain ⟨AV, cv, rfl, hrv, hcv1, hcv2⟩ := HV.out.form
      have HRV := Lib.hid hrv
      unfold maxLen at hcv2
      clear hrv
      by_cases hk : k = 0
      · subst hk
        go_enter Tryz.func144, Tryz.ntmps144
        go_wp2_with fail
        refine (HA.out _).mono ?_
        rintro e w2 ⟨rfl, hb2⟩
        obtain rfl := hb2.symm
        clear hb2
        cases q1 with
        | false =>
          go_wp2_with fail
          go_ret2
          exact HNO.out _ (by rw [← HS.out]; simp) (by (repeat (first | (with_reducible exact Below.refl _ _) | (with_reducible assumption) | (with_reducible refine below_drewN ?_ _) | (with_reducible refine Below.drew ?_) | (with_reducible refine Below.al ?_ _) | (with_reducible refine Below.st ?_ (by simp; try omega)) | (with_reducible refine Below.tr ?_ (Hid.out (by assumption))) | (with_reducible exact Hid.out (by assumption)))))
        | true =>
          go_wp2_with fail
          refine (HU.out _).mono ?_
          rintro e w2 ⟨rfl, hb2⟩
          have HB2 : Hid (Below w.heap.size w w2) := Lib.hid (Below.tr (Below.al (Below.refl _ _) _) hb2)
          obtain ⟨hc_w2, hf_w2⟩ := bcell hb2
          have hs_w2 := hb2.size
          (try simp at hs_w2)
          have hz_w2_0 : w.heap.size < w2.heap.size := (by omega)
          clear hs_w2
          clear hb2
          cases q2 with
          | false =>
            go_wp2_with fail
            go_ret2
            exact HNO.out _ (by rw [← HS.out]; simp) HB2.out
          | true =>
            have HS2 : Hid (some (bif hasA ⟨nm, ⟨m, u⟩⟩ (acc.drop 0) then acc else acc ++ [⟨nm, ⟨m, u⟩⟩]) = r) := Lib.hid (by rw [← HS.out]; simp)
            have y1 : w2.cell? ⟨w.heap.size, 1, none⟩ = some (.string nm) := (hc_w2 _ _ (by simp)).trans (cellNewA w _ _ 1)
            have y2 : w2.cell? ⟨w.heap.size, 2, none⟩ = some (.int .i64 m) := (hc_w2 _ _ (by simp)).trans (cellNewA w _ _ 2)
            have y3 : w2.cell? ⟨w.heap.size, 3, none⟩ = some (.int .i64 u) := (hc_w2 _ _ (by simp)).trans (cellNewA w _ _ 3)
            clear hc_w2 hf_w2
            go_wp2_with fail
            go_loopg [6] acc.length (fun m0 v6 wq => ∃ kk : Nat, v6 = .int .i64 (kk : Int) ∧ kk ≤ acc.length ∧ acc.length ≤ kk + m0 ∧ Hid (some (bif hasA ⟨nm, ⟨m, u⟩⟩ (acc.drop kk) then acc else acc ++ [⟨nm, ⟨m, u⟩⟩]) = r) ∧ Hid (Below w2.heap.size w2 wq))
            case atStart => exact ⟨0, rfl, Nat.zero_le _, by omega, HS2, Lib.hid (Below.refl _ _)⟩
            case round =>
              obtain ⟨kk, rfl, hk, hkm, HI, HB⟩ := hrel
              have z1 := (HB.out.cell (p := ⟨w.heap.size, 1, none⟩) hz_w2_0).trans y1
              have z2 := (HB.out.cell (p := ⟨w.heap.size, 2, none⟩) hz_w2_0).trans y2
              have z3 := (HB.out.cell (p := ⟨w.heap.size, 3, none⟩) hz_w2_0).trans y3
              have HBW : Hid (Below w.heap.size w wr) := Lib.hid (Below.tr HB2.out HB.out)
              have HOW : Hid (OwnRows tmE 55 wr base (.slice AV acc.length cv) acc) := Lib.hid (ownA HV.out HBW.out)
              have hsz : w.heap.size < wr.heap.size := Nat.lt_of_lt_of_le hz_w2_0 HB.out.size
              by_cases hlt : kk < acc.length
              · obtain ⟨⟨n1, ⟨m1, u1⟩⟩, hx⟩ : ∃ x, acc[kk] = x := ⟨_, rfl⟩
                obtain ⟨g1, off, rfl, hbl, c0, c1, c2⟩ := tm_cells (HRV.out.below (B'' := w.heap.size) HBW.out (Nat.le_refl _) (Nat.le_refl _)) hlt hx
                have hbl2 : g1 < wr.heap.size := Nat.lt_of_lt_of_le hbl HBW.out.size
                have hlti : (kk : Int) < (acc.length : Int) := by omega
                obtain ⟨_, k1, k2⟩ := cmpTm n1 m1 u1 nm m u
                obtain ⟨q, hq⟩ : ∃ q, decide ((⟨n1, ⟨m1, u1⟩⟩ : Tm) = ⟨nm, ⟨m, u⟩⟩) = q := ⟨_, rfl⟩
                have HS : Hid (some (bif (bif q then true else hasA ⟨nm, ⟨m, u⟩⟩ (acc.drop (kk + 1))) then acc else acc ++ [⟨nm, ⟨m, u⟩⟩]) = r) := Lib.hid (by have h := HI.out; rw [drop_step hlt hx, hasA_cons] at h; rw [← hq]; exact h)
                rw [hq] at k1
                clear hq hx hbl
                cases q with
                | true =>
                  have HE : Hid (some acc = r) := HS
                  go_wp2_with fail
                  go_quiet (fail)
                  go_wp2_with fail
                  go_ret2
                  exact ⟨_, by rw [← HE.out]; rfl, PS.of _ (by (repeat (first | (with_reducible exact Below.refl _ _) | (with_reducible assumption) | (with_reducible refine below_drewN ?_ _) | (with_reducible refine Below.drew ?_) | (with_reducible refine Below.al ?_ _) | (with_reducible refine Below.st ?_ (by simp; try omega)) | (with_reducible refine Below.tr ?_ (Hid.out (by assumption))) | (with_reducible exact Hid.out (by assumption))))), fun l' hl' => by have h := HE.out.trans hl'; injection h with h; rw [← h]; exact ownA HV.out (by (repeat (first | (with_reducible exact Below.refl _ _) | (with_reducible assumption) | (with_reducible refine below_drewN ?_ _) | (with_reducible refine Below.drew ?_) | (with_reducible refine Below.al ?_ _) | (with_reducible refine Below.st ?_ (by simp; try omega)) | (with_reducible refine Below.tr ?_ (Hid.out (by assumption))) | (with_reducible exact Hid.out (by assumption)))))⟩
                | false =>
                  have HE : Hid (some (bif hasA ⟨nm, ⟨m, u⟩⟩ (acc.drop (kk + 1)) then acc else acc ++ [⟨nm, ⟨m, u⟩⟩]) = r) := HS
                  go_wp2_with fail
                  go_quiet (fail)
                  go_wp2_with fail
                  go_roundg (gk - 1)
                  case measure => omega
                  case rel => exact ⟨kk + 1, by go_num, by omega, by omega, HE, Lib.hid (below_drewN HB.out _)⟩
              · have HE : Hid (some (acc ++ [⟨nm, ⟨m, u⟩⟩]) = r) := Lib.hid (by have h := HI.out; rw [drop_end hlt] at h; exact h)
                have hlti : ¬ (kk : Int) < (acc.length : Int) := by omega
                go_wp2_with (at_builtin; refine pushOneB tmTB rfl (.tmp 46) (.tmp 49) rfl wr base (.slice AV acc.length cv) acc ⟨nm, ⟨m, u⟩⟩ [.string nm, .int .i64 m, .int .i64 u] _ rfl rfl HOW.out wr.heap.size rfl rfl rfl (by unfold maxLen; omega) (by omega) ?_; intro v3 w3 hown3 hb3 hsp3; have HO3 := Lib.hid hown3; have HB3 := Lib.hid hb3; have HSP := Lib.hid hsp3; clear hown3 hb3 hsp3)
                go_ret2
                exact ⟨v3, by rw [← HE.out]; rfl, (PS.of _ HBW.out).trans (PS.push HB3.out HSP.out), fun l' hl' => by have h := HE.out.trans hl'; injection h with h; rw [← h]; exact HO3.out⟩
      · have hk1 : (k == 0) = false := by simpa using hk
        have HS2 : Hid (none = r) := Lib.hid (by have h := HS.out; rw [decide_eq_false hk] at h; exact h)
        go_enter Tryz.func144, Tryz.ntmps144
        go_wp2_with fail
        go_ret2
        exact HNO.out _ HS2.out.symm (by (repeat (first | (with_reducible exact Below.refl _ _) | (with_reducible assumption) | (with_reducible refine below_drewN ?_ _) | (with_reducible refine Below.drew ?_) | (with_reducible refine Below.al ?_ _) | (with_reducible refine Below.st ?_ (by simp; try omega)) | (with_reducible refine Below.tr ?_ (Hid.out (by assumption))) | (with_reducible exact Hid.out (by assumption)))))
    | false =>
      have hl0 : ¬ (l.length : Int) = 0 := by
        have : l ≠ [] := fun e => by rw [e] at hE; cases hE
        have := List.length_pos_iff.2 this
        omega
      simp only [cond_false]
      have hl0' : ((l.length : Int) == 0) = false := by simpa using hl0
      obtain ⟨q1, g1, g2⟩ := cmpA0 nm m u
      have HOB : Hid (v.ownBlock ≠ some w.heap.size) := Lib.hid fun e => by have := (HV.out.block _ e).2; omega
      have HOL : Hid (∀ k, v.ownBlock = some k → B ≤ k) := Lib.hid fun k hk => Nat.le_trans hB (HV.out.block k hk).1
      cases hG : grpB k ⟨nm, ⟨m, u⟩⟩ l with
      | false =>
        simp only [cond_false]
        have HFIN : Hid (∀ w', Below w.heap.size w w' → RetA w base v none (.returned (.tuple #[v, .bool false])) w') := Lib.hid fun w' hb => ⟨v, rfl, PS.of _ hb, fun l' hl' => by cases hl'⟩
        unfold grpB at hG
        by_cases h1 : k < 1
        · clear q1 g1 g2 hG
          go_enter Tryz.func144, Tryz.ntmps144
          go_wp2_with fail
          go_ret2
          exact HFIN.out _ (by (repeat (first | (with_reducible exact Below.refl _ _) | (with_reducible assumption) | (with_reducible refine below_drewN ?_ _) | (with_reducible refine Below.drew ?_) | (with_reducible refine Below.al ?_ _) | (with_reducible refine Below.st ?_ (by simp; try omega)) | (with_reducible refine Below.tr ?_ (Hid.out (by assumption))) | (with_reducible exact Hid.out (by assumption)))))
        · by_cases h2 : (l.length : Int) < k
          · clear q1 g1 g2 hG
            go_enter Tryz.func144, Tryz.ntmps144
            go_wp2_with fail
            go_ret2
            exact HFIN.out _ (by (repeat (first | (with_reducible exact Below.refl _ _) | (with_reducible assumption) | (with_reducible refine below_drewN ?_ _) | (with_reducible refine Below.drew ?_) | (with_reducible refine Below.al ?_ _) | (with_reducible refine Below.st ?_ (by simp; try omega)) | (with_reducible refine Below.tr ?_ (Hid.out (by assumption))) | (with_reducible exact Hid.out (by assumption)))))
          · have h3 : decide ((⟨nm, ⟨m, u⟩⟩ : Tm) = atom0) = false := by
              rw [decide_eq_true (show 1 ≤ k by omega), decide_eq_true (show k ≤ (l.length : Int) by omega)] at hG
              exact hG
            rw [h3] at q1
            clear hG h3
            go_enter Tryz.func144, Tryz.ntmps144
            go_wp2_with fail
            go_ret2
            exact HFIN.out _ (by (repeat (first | (with_reducible exact Below.refl _ _) | (with_reducible assumption) | (with_reducible refine below_drewN ?_ _) | (with_reducible refine Below.drew ?_) | (with_reducible refine Below.al ?_ _) | (with_reducible refine Below.st ?_ (by simp; try omega)) | (with_reducible refine Below.tr ?_ (Hid.out (by assumption))) | (with_reducible exact Hid.out (by assumption)))))
      | true =>
        simp only [cond_true]
        have hG2 : ¬ k < 1 ∧ ¬ (l.length : Int) < k ∧ decide ((⟨nm, ⟨m, u⟩⟩ : Tm) = atom0) = true := by
          unfold grpB at hG
          simp at hG
          exact ⟨by omega, by omega, decide_eq_true hG.2⟩
        obtain ⟨h1, h2, h3⟩ := hG2
        rw [h3] at q1
        clear hG h3
        obtain ⟨r, hr⟩ : ∃ r, addL l acc = r := ⟨_, rfl⟩
        rw [hr]
        have HS : Hid (addL (l.drop 0) acc = r) := Lib.hid hr
        clear hr
        have hm2 := hm
        unfold maxLen at hm2
        go_enter Tryz.func144, Tryz.ntmps144
        go_wp2_with fail
        go_loopg [0, 7] l.length (fun m0 v0 v7 wq => ∃ (kk : Nat) (ak : List Tm), v7 = .int .i64 (kk : Int) ∧ kk ≤ l.length ∧ l.length ≤ kk + m0 ∧ ak.length + cntL (l.drop kk) ≤ 1000 ∧ Hid (addL (l.drop kk) ak = r) ∧ Hid (PS (fun _ => False) (w.alloc (.cells #[.int .i64 k, .string nm, .int .i64 m, .int .i64 u, .slice A l.length cap] 58)) wq v v0) ∧ Hid (OwnRows tmE 55 wq base v0 ak))
        case atStart => exact ⟨0, acc, rfl, Nat.zero_le _, by omega, by rw [List.drop_zero]; omega, HS, Lib.hid (PS.refl _ _ _), Lib.hid (ownA HV.out (by (repeat (first | (with_reducible exact Below.refl _ _) | (with_reducible assumption) | (with_reducible refine below_drewN ?_ _) | (with_reducible refine Below.drew ?_) | (with_reducible refine Below.al ?_ _) | (with_reducible refine Below.st ?_ (by simp; try omega)) | (with_reducible refine Below.tr ?_ (Hid.out (by assumption))) | (with_reducible exact Hid.out (by assumption))))))⟩
        case round =>
          obtain ⟨kk, ak, rfl, hk, hkm, ha8, HI, HP, HAT⟩ := hrel
          have hsz := HP.out.size
          have hsz2 : w.heap.size < wr.heap.size := by simp at hsz; omega
          have HPW : Hid (PS (fun _ => False) w wr v u0) := Lib.hid ((PS.of v (Below.al (Below.refl _ _) _)).trans HP.out)
          have HBB : Hid (Below B w wr) := Lib.hid (HPW.out.below HOL.out (fun k hk => hk.elim) hBw)
          have hbx := HP.out.block w.heap.size (by simp) (fun h => h) HOB.out
          have x4 : wr.cell? ⟨w.heap.size, 4, none⟩ = some (.slice A l.length cap) := (World.cell?_of_block (a := ⟨w.heap.size, 4, none⟩) hbx.1).trans (cellNewA w _ _ 4)
          clear hsz hbx
          by_cases hlt : kk < l.length
          · obtain ⟨⟨k1, ⟨nm1, ⟨m1, u1⟩⟩, l1⟩, hx⟩ : ∃ x, l[kk] = x := ⟨_, rfl⟩
            obtain ⟨g1', off, A1, cap1, rfl, hbl, c0, c1, c2, c3, c4, hc1, hc2, d1, rfl, hr1⟩ := ex_cells (HR.out.below (B'' := B) HBB.out (Nat.le_refl _) (Nat.le_refl _)) hlt hx
            have hbl0 : g1' < B := hbl
            have hbl2 : g1' < wr.heap.size := by omega
            have hlti : (kk : Int) < (l.length : Int) := by omega
            have HX1 : Hid (ExF wr B d1 A1 (.mk k1 ⟨nm1, ⟨m1, u1⟩⟩ l1)) := Lib.hid ⟨Nat.le_trans hc1 hc2, by omega, hr1⟩
            have HS : Hid ((addS (.mk k1 ⟨nm1, ⟨m1, u1⟩⟩ l1) ak).bind (fun q => addL (l.drop (kk + 1)) q) = r) := Lib.hid (by have h := HI.out; rw [drop_step hlt hx] at h; exact h)
            rw [drop_step hlt hx, cntL_cons] at ha8
            have HC : Hid (∀ W, Below wr.heap.size wr W → Calls Tryz.prog 144 #[u0, .agg #[.int .i64 k1, .string nm1, .int .i64 m1, .int .i64 u1, .slice A1 l1.length cap1]] W (RetA W base u0 (addS (.mk k1 ⟨nm1, ⟨m1, u1⟩⟩ l1) ak))) := Lib.hid (fun W hb1 =>
              IH.out d1 (by omega) (.mk k1 ⟨nm1, ⟨m1, u1⟩⟩ l1) A1 cap1 B base u0 ak W (HX1.out.below hb1) hB (by omega) (ownA HAT.out hb1))
            have HLEN := Lib.hid (fun q => addS_len (.mk k1 ⟨nm1, ⟨m1, u1⟩⟩ l1) ak q)
            generalize addS (.mk k1 ⟨nm1, ⟨m1, u1⟩⟩ l1) ak = r1 at HS HC HLEN
            generalize (Ex.mk k1 ⟨nm1, ⟨m1, u1⟩⟩ l1).cnt = cn at *
            clear hx hbl hr1
            go_wp2_with fail
            refine (HC.out _ (by (repeat (first | (with_reducible exact Below.refl _ _) | (with_reducible assumption) | (with_reducible refine below_drewN ?_ _) | (with_reducible refine Below.drew ?_) | (with_reducible refine Below.al ?_ _) | (with_reducible refine Below.st ?_ (by simp; try omega)) | (with_reducible refine Below.tr ?_ (Hid.out (by assumption))) | (with_reducible exact Hid.out (by assumption)))))).mono ?_
            rintro e w2 ⟨v2, rfl, hp2, ho2⟩
            have HP2 := Lib.hid hp2
            have HO2 := Lib.hid ho2
            clear hp2 ho2
            cases r1 with
            | none =>
              have HE : Hid (none = r) := HS
              go_wp2_with fail
              go_ret2
              exact ⟨u0, by rw [← HE.out]; rfl, HPW.out.stay HP2.out, fun l' hl' => by rw [← HE.out] at hl'; cases hl'⟩
            | some a1 =>
              have HE : Hid (addL (l.drop (kk + 1)) a1 = r) := HS
              go_wp2_with fail
              go_roundg (gk - 1)
              case measure => omega
              case rel => exact ⟨kk + 1, a1, by go_num, by omega, by omega, by have := HLEN.out a1 rfl; omega, HE, Lib.hid (HP.out.trans HP2.out), Lib.hid (HO2.out a1 rfl)⟩
          · have HE : Hid (some ak = r) := Lib.hid (by have h := HI.out; rw [drop_end hlt] at h; exact h)
            have hlti : ¬ (kk : Int) < (l.length : Int) := by omega
            go_wp2_with fail
            go_ret2
            exact ⟨u0, by rw [← HE.out]; rfl, HPW.out, fun l' hl' => by have h := HE.out.trans hl'; injection h with h; rw [← h]; exact HAT.out⟩
end Go.Proofs.YtogeihdfmnohnaaGreatDoor
namespace Go.Proofs.YtogeihdfmnohnaaGreatDoor
open Go.RowKit
def Dist (l : List Tm) (i k : Nat) : Prop := ∀ (a b : Nat) (ha : a < l.length) (hb : b < a), a < i ∨ (a = i ∧ b < k) → l[a].name ≠ l[b].name
theorem Dist.start (l : List Tm) : Dist l 0 0 := fun a b ha hb h => by omega
theorem Dist.step {l : List Tm} {i k : Nat} (h : Dist l i k) (hi : i < l.length) (hk : k < i) (hne : l[i].name ≠ l[k].name) : Dist l i (k + 1) := fun a b ha hb hab => by
  by_cases h2 : a = i ∧ b = k
  · obtain ⟨rfl, rfl⟩ := h2
    exact hne
  · exact h a b ha hb (by omega)
theorem Dist.row {l : List Tm} {i k : Nat} (h : Dist l i k) (hk : ¬ k < i) : Dist l (i + 1) 0 := fun a b ha hb hab => h a b ha hb (by omega)
theorem Dist.all {l : List Tm} {i : Nat} (h : Dist l i 0) (hi : ¬ i < l.length) : l.Pairwise fun a b => a.name ≠ b.name := by
  rw [List.pairwise_iff_getElem]
  intro a b ha hb hab e
  exact h b a hb hab (by omega) e.symm
theorem Dist.not {l : List Tm} {i k : Nat} (hi : i < l.length) (hk : k < i) (he : l[i].name = l[k].name) : ¬ okL l := fun h => by
  have h2 := h.2
  rw [List.pairwise_iff_getElem] at h2
  exact h2 k i (by omega) hi hk he.symm
def RetL (w : World) (q : Bool) (l : List Tm) (e : Ending) (w' : World) : Prop := ∃ v, e = .returned (.tuple #[v, .bool q]) ∧ OwnRows tmE 55 w' w.heap.size v l ∧ Below w.heap.size w w'
set_option maxHeartbeats 6400000 in
theorem rAtoms_any (d : Nat) (x : Ex) (A : Option Addr) (cap B : Nat) (w : World) (hx : ExF w B d A x) :
    Calls Tryz.prog 96 #[x.val A cap] w (RetL w (veB x) (atS x)) := by
  have HN := Lib.hid (fun W (hb : Below w.heap.size w W) => Nodes_any d x A cap B W (hx.below hb))
  have HA := Lib.hid (fun (h : okB x = true) W (hb : Below w.heap.size w W) => Add_any d x A cap B w.heap.size (.slice none 0 0) [] W (hx.below hb) hx.hB (by unfold okB at h; simp at h; simp; omega) (OwnRows.nil _ _ _ _ hb.size))
  have HS : Hid (veB x = (okB x && (shB x && decide (okL (coll x []))))) := Lib.hid rfl
  have HT : Hid (atS x = bif veB x then coll x [] else []) := Lib.hid rfl
  have HE : Hid (okB x = true → 0 < x.cnt ∧ (coll x []).length ≤ 24) := Lib.hid fun h => ⟨x.cnt_pos, by
    have := coll_len x []
    unfold okB at h
    simp at h this
    omega⟩
  have HAS := Lib.hid (addS_eq x [])
  clear hx
  obtain ⟨k, ⟨nm, ⟨m, u⟩⟩, l⟩ := x
  unfold Ex.val at *
  dsimp only [Ex.k, Ex.atom, Ex.kids] at HN HA ⊢
  generalize addS (.mk k ⟨nm, ⟨m, u⟩⟩ l) [] = rA at *
  generalize atS (.mk k ⟨nm, ⟨m, u⟩⟩ l) = R at *
  generalize coll (.mk k ⟨nm, ⟨m, u⟩⟩ l) [] = L at *
  generalize veB (.mk k ⟨nm, ⟨m, u⟩⟩ l) = V at *
  generalize shB (.mk k ⟨nm, ⟨m, u⟩⟩ l) = s at *
  generalize (Ex.mk k ⟨nm, ⟨m, u⟩⟩ l).cnt = c at *
  obtain ⟨q, hq⟩ : ∃ q, okB (.mk k ⟨nm, ⟨m, u⟩⟩ l) = q := ⟨_, rfl⟩
  rw [hq] at HN HA HS HE
  clear hq
  have HNO : Hid (∀ w', V = false → Below w.heap.size w w' → RetL w V R (.returned (.tuple #[.slice none 0 0, .bool false])) w') := Lib.hid fun w' hV hb => ⟨_, by rw [hV], by rw [HT.out, hV]; exact OwnRows.nil _ _ _ _ hb.size, hb⟩
  cases q with
  | false =>
    go_enter Tryz.func96, Tryz.ntmps96
    go_wp2_with fail
    refine (HN.out _ (by (repeat (first | (with_reducible exact Below.refl _ _) | (with_reducible assumption) | (with_reducible refine below_drewN ?_ _) | (with_reducible refine Below.drew ?_) | (with_reducible refine Below.al ?_ _) | (with_reducible refine Below.st ?_ (by simp; try omega)) | (with_reducible refine Below.tr ?_ (Hid.out (by assumption))) | (with_reducible exact Hid.out (by assumption)))))).mono ?_
    rintro e w2 ⟨rfl, hb2⟩
    have HB2 : Hid (Below w.heap.size w w2) := Lib.hid (Below.tr (Below.al (Below.refl _ _) _) hb2)
    clear hb2
    go_wp2_with fail
    go_ret2
    exact HNO.out _ HS.out HB2.out
  | true =>
    obtain ⟨hc0, hL24⟩ := HE.out rfl
    have hc1 : ((c : Int) == 0) = false := by rw [beq_eq_false_iff_ne]; omega
    go_enter Tryz.func96, Tryz.ntmps96
    go_wp2_with fail
    refine (HN.out _ (by (repeat (first | (with_reducible exact Below.refl _ _) | (with_reducible assumption) | (with_reducible refine below_drewN ?_ _) | (with_reducible refine Below.drew ?_) | (with_reducible refine Below.al ?_ _) | (with_reducible refine Below.st ?_ (by simp; try omega)) | (with_reducible refine Below.tr ?_ (Hid.out (by assumption))) | (with_reducible exact Hid.out (by assumption)))))).mono ?_
    rintro e w2 ⟨rfl, hb2⟩
    have HB2 : Hid (Below w.heap.size w w2) := Lib.hid (Below.tr (Below.al (Below.refl _ _) _) hb2)
    obtain ⟨hc_w2, hf_w2⟩ := bcell hb2
    have hs_w2 := hb2.size
    (try simp at hs_w2)
    have hz_w2_0 : w.heap.size < w2.heap.size := (by omega)
    clear hs_w2
    clear hb2
    go_wp2_with fail
    refine (HA.out trivial _ HB2.out).mono ?_
    rintro e w3 ⟨v3, rfl, hp3, ho3⟩
    have HB3 : Hid (Below w.heap.size w w3) := Lib.hid (HB2.out.trans (hp3.below (fun k hk => by cases hk) (fun k hk => hk.elim) HB2.out.size))
    have HO3 := Lib.hid ho3
    clear hp3 ho3
    cases s with
    | false =>
      obtain rfl : rA = none := HAS.out
      go_wp2_with fail
      go_ret2
      exact HNO.out _ HS.out HB3.out
    | true =>
      obtain rfl : rA = some L := HAS.out
      have HO4 := Lib.hid (HO3.out L rfl)
      obtain ⟨AV, cv, rfl, hrv, hcv1, hcv2⟩ := HO4.out.form
      have HRV := Lib.hid hrv
      unfold maxLen at hcv2
      clear hrv HO3
      by_cases h8 : L.length ≤ 8
      · have h8i : ¬ (8 : Int) < (L.length : Int) := by omega
        have HV1 : Hid (L.Pairwise (fun a b => a.name ≠ b.name) → V = true ∧ R = L) := Lib.hid fun h => by
          have hV : V = true := by rw [HS.out, decide_eq_true (show okL L from ⟨h8, h⟩)]; rfl
          exact ⟨hV, by rw [HT.out, hV]; rfl⟩
        go_wp2_with fail
        go_loopg [6] L.length (fun m0 v6 wq => ∃ i : Nat, v6 = .int .i64 (i : Int) ∧ i ≤ L.length ∧ L.length ≤ i + m0 ∧ Hid (Dist L i 0) ∧ Hid (Below w3.heap.size w3 wq))
        case atStart => exact ⟨0, rfl, Nat.zero_le _, by omega, Lib.hid (Dist.start L), Lib.hid (Below.refl _ _)⟩
        case round =>
          obtain ⟨i, rfl, hi, him, HI, HB⟩ := hrel
          have HBW : Hid (Below w.heap.size w wr) := Lib.hid (Below.tr HB3.out HB.out)
          by_cases hlt : i < L.length
          · have hlti : (i : Int) < (L.length : Int) := by omega
            obtain ⟨⟨n1, ⟨m1, u1⟩⟩, hx⟩ : ∃ x, L[i] = x := ⟨_, rfl⟩
            have HX := Lib.hid hx
            clear hx
            obtain ⟨G, hG⟩ : ∃ G, G = gk := ⟨_, rfl⟩
            subst hG
            obtain ⟨wo, hwo⟩ : ∃ v, v = wr := ⟨_, rfl⟩
            subst hwo
            go_wp2_with fail
            go_loopg [7] i (fun m0 v7 wq => ∃ k : Nat, v7 = .int .i64 (k : Int) ∧ k ≤ i ∧ i ≤ k + m0 ∧ Hid (Dist L i k) ∧ Hid (Below w3.heap.size w3 wq))
            case atStart => exact ⟨0, rfl, Nat.zero_le _, by omega, HI, HB⟩
            case round =>
              obtain ⟨kk, rfl, hk, hkm, HJ, HC⟩ := hrel
              have HCW : Hid (Below w.heap.size w wr) := Lib.hid (Below.tr HB3.out HC.out)
              by_cases hkt : kk < i
              · have hkti : (kk : Int) < (i : Int) := by omega
                have hkl : kk < L.length := by omega
                have hkli : (kk : Int) < (L.length : Int) := by omega
                obtain ⟨⟨n2, ⟨m2, u2⟩⟩, hy⟩ : ∃ x, L[kk] = x := ⟨_, rfl⟩
                have hr2 := HRV.out.below (B'' := w3.heap.size) HC.out (Nat.le_refl _) (Nat.le_refl _)
                obtain ⟨g1, off, rfl, hbl, c0, c1, c2⟩ := tm_cells hr2 hlt HX.out
                obtain ⟨g2, off2, h2, _, e0, e1, e2⟩ := tm_cells hr2 hkl hy
                injection h2 with h2
                injection h2 with h3 h4
                subst h3
                subst h4
                have hbl2 : g1 < wr.heap.size := Nat.lt_of_lt_of_le hbl HC.out.size
                have HY := Lib.hid hy
                clear hr2 hbl hy
                by_cases hn : n1 = n2
                · have hn2 : (n1.toList == n2.toList) = true := by rw [hn]; exact beq_self_eq_true _
                  have HV2 : Hid (V = false) := Lib.hid (by
                    have hno : ¬ okL L := Dist.not hlt hkt (by rw [HX.out, HY.out]; exact hn)
                    rw [HS.out, decide_eq_false hno]; rfl)
                  clear hn
                  go_wp2_with fail
                  go_quiet (fail)
                  go_wp2_with fail
                  go_ret2
                  exact HNO.out _ HV2.out (by (repeat (first | (with_reducible exact Below.refl _ _) | (with_reducible assumption) | (with_reducible refine below_drewN ?_ _) | (with_reducible refine Below.drew ?_) | (with_reducible refine Below.al ?_ _) | (with_reducible refine Below.st ?_ (by simp; try omega)) | (with_reducible refine Below.tr ?_ (Hid.out (by assumption))) | (with_reducible exact Hid.out (by assumption)))))
                · have hn2 : (n1.toList == n2.toList) = false := by rw [beq_eq_false_iff_ne]; exact fun e => hn (toList_inj e)
                  have HJ2 : Hid (Dist L i (kk + 1)) := Lib.hid (HJ.out.step hlt hkt (by rw [HX.out, HY.out]; exact hn))
                  clear hn
                  go_wp2_with fail
                  go_quiet (fail)
                  go_wp2_with fail
                  go_roundg (gk - 1)
                  case measure => omega
                  case rel => exact ⟨kk + 1, by go_num, by omega, by omega, HJ2, Lib.hid (below_drewN HC.out _)⟩
              · have hkti : ¬ (kk : Int) < (i : Int) := by omega
                obtain rfl : kk = i := by omega
                have HJ2 : Hid (Dist L (kk + 1) 0) := Lib.hid (HJ.out.row hkt)
                go_wp2_with fail
                go_roundg (G - 1)
                case measure => omega
                case rel => exact ⟨kk + 1, by go_num, by omega, by omega, HJ2, HC⟩
          · have hlti : ¬ (i : Int) < (L.length : Int) := by omega
            have HD := Lib.hid (HV1.out (HI.out.all hlt))
            go_wp2_with fail
            go_ret2
            exact ⟨_, by rw [HD.out.1]; rfl, by rw [HD.out.2]; exact HO4.out.below HB.out (Nat.le_refl _), HBW.out⟩
      · have h8i : (8 : Int) < (L.length : Int) := by omega
        go_wp2_with fail
        go_ret2
        exact HNO.out _ (by rw [HS.out, decide_eq_false (fun h => h8 h.1)]; rfl) HB3.out
set_option maxHeartbeats 1600000 in
theorem rValidExpr_any (d : Nat) (x : Ex) (A : Option Addr) (cap B : Nat) (w : World) (hx : ExF w B d A x) :
    Calls Tryz.prog 59 #[x.val A cap] w (Ret w (.bool (veB x))) := by
  have HA := Lib.hid (fun W (hb : Below w.heap.size w W) => rAtoms_any d x A cap B W (hx.below hb))
  clear hx
  obtain ⟨k, ⟨nm, ⟨m, u⟩⟩, l⟩ := x
  unfold Ex.val at *
  dsimp only [Ex.k, Ex.atom, Ex.kids] at HA ⊢
  go_enter Tryz.func59, Tryz.ntmps59
  go_wp2_with fail
  refine (HA.out _ (by (repeat (first | (with_reducible exact Below.refl _ _) | (with_reducible assumption) | (with_reducible refine below_drewN ?_ _) | (with_reducible refine Below.drew ?_) | (with_reducible refine Below.al ?_ _) | (with_reducible refine Below.st ?_ (by simp; try omega)) | (with_reducible refine Below.tr ?_ (Hid.out (by assumption))) | (with_reducible exact Hid.out (by assumption)))))).mono ?_
  rintro e w2 ⟨v, rfl, _, hb2⟩
  have HB2 := Lib.hid hb2
  clear hb2
  go_wp2_with fail
  go_ret
  exact ⟨rfl, by (repeat (first | (with_reducible exact Below.refl _ _) | (with_reducible assumption) | (with_reducible refine below_drewN ?_ _) | (with_reducible refine Below.drew ?_) | (with_reducible refine Below.al ?_ _) | (with_reducible refine Below.st ?_ (by simp; try omega)) | (with_reducible refine Below.tr ?_ (Hid.out (by assumption))) | (with_reducible exact Hid.out (by assumption))))⟩
end Go.Proofs.YtogeihdfmnohnaaGreatDoor
