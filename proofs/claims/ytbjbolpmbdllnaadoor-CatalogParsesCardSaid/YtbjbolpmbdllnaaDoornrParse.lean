/- Parse, the document's. -/
import Derived.Test.YtbjbolpmbdllnaaDoornParse
namespace Go.Proofs.YtbjbolpmbdllnaaDoor
open Go.RowKit

theorem numV_parts (l : List UInt8) : ∃ (a : Int) (o : Bool), numV (numS l) = .tuple #[.int .i64 a, .bool o] ∧ numS l = (if o = true then some a else none) := by
  rcases h : numS l with _ | x
  · exact ⟨0, false, rfl, by simp⟩
  · exact ⟨x, true, rfl, by simp⟩

theorem refW_not {W : List (List UInt8)} (h1 : ¬ (W.length = 5 ∧ W.getD 0 [] = wPool)) (h2 : ¬ (W.length = 4 ∧ W.getD 0 [] = wLock)) : refW W = none := by
  unfold refW
  rw [if_neg h1, if_pos]
  rcases Classical.em (W.length = 4) with h | h
  · exact Or.inr fun e => h2 ⟨h, e⟩
  · exact Or.inl h
theorem refLs_step (x y : List UInt8) (l : List (List UInt8)) : refLs (x :: y :: l) = match refW (spl 32 x) with
    | none => none
    | some r => (refLs (y :: l)).map (r :: ·) := by
  conv => lhs; unfold refLs
  rfl
theorem refLs_end {l : List (List UInt8)} (h : l.length ≤ 1) : refLs l = some [] := by
  rcases l with _ | ⟨a, _ | ⟨b, r⟩⟩
  · rfl
  · rfl
  · simp at h

set_option maxHeartbeats 6400000 in
set_option maxRecDepth 100000 in
theorem rParse_any (s : ByteArray) (w : World) : Calls Tryd.prog 11 #[.string s] w (RetLE w (parseC s.data.toList)) := by
  have hsz : s.data.toList.length = s.size := by simp
  obtain ⟨p, hp⟩ : ∃ p, parseC s.data.toList = p := ⟨_, rfl⟩
  rw [hp]
  have HP := Lib.hid hp
  have HSZ := Lib.hid hsz
  clear hp hsz
  by_cases hlong : 1024 < s.size
  · have hi : (1024 : Int) < (s.size : Int) := by omega
    have HQ : Hid (p = (3, [])) := Lib.hid (by rw [← HP.out]; unfold parseC; rw [if_pos (by rw [HSZ.out]; exact hlong)])
    go_enter Tryd.func11, Tryd.ntmps11
    go_wp2_with fail
    go_ret2
    exact RetLE.no 3 HQ.out rfl (Below.refl _ _)
  · have hi : ¬ (1024 : Int) < (s.size : Int) := by omega
    have HQ : Hid (p = doneC s.data.toList (refS s.data.toList)) := Lib.hid (by rw [← HP.out, done_eq]; unfold parseC; rw [if_neg (by rw [HSZ.out]; exact hlong)])
    have HNO : Hid (refS s.data.toList = none → p = (6, [])) := Lib.hid (fun h => by rw [HQ.out, h]; rfl)
    have HS := Lib.hid (fun W => rSplit_any s 10 (by omega) W)
    go_enter Tryd.func11, Tryd.ntmps11
    go_wp2_with fail
    refine (HS.out _).mono ?_
    rintro e w1 ⟨v1, L, rfl, hown1, hdl, hszs, hlen, hb1⟩
    have HB1 := Lib.hid hb1
    obtain ⟨A1, cap1, rfl, _, hr1, hc1, hcm1⟩ := hown1.form2
    have HR1 := Lib.hid hr1
    have HDL := Lib.hid hdl
    have HSS := Lib.hid hszs
    clear hown1 hr1 hdl hszs hb1
    have HRF : Hid (refS s.data.toList = refLs (dL L)) := Lib.hid (by rw [HDL.out]; rfl)
    go_wp2_with fail
    go_loopg [4, 6] L.length (fun m v4 v6 wq => ∃ (k : Nat) (acc : Ct), v6 = .int .i64 (k : Int) ∧ k ≤ L.length ∧ L.length ≤ k + m ∧ acc.length ≤ k ∧ Hid (OwnRows resE 36 wq w1.heap.size v4 acc) ∧ Hid (Below w1.heap.size w1 wq) ∧ Hid (refS s.data.toList = (refLs ((dL L).drop k)).map (acc ++ ·)))
    case atStart => exact ⟨0, [], rfl, Nat.zero_le _, by omega, Nat.le_refl _, Lib.hid (OwnRows.nil _ _ _ _ (Nat.le_refl _)), Lib.hid (Below.refl _ _), Lib.hid (by rw [HRF.out, List.drop_zero]; cases refLs (dL L) <;> rfl)⟩
    case round =>
      obtain ⟨k, acc, rfl, hk, hkm, hacc, HO, HBW, HF⟩ := hrel
      have wk : IntKind.i64.wrap ((k : Int) + 1) = (k : Int) + 1 := IntWalk.i64_in _ (by omega)
      by_cases hlt : k + 1 < L.length
      · have hlti : (k : Int) + 1 < (L.length : Int) := by omega
        obtain ⟨x, hx⟩ : ∃ x, L[k] = x := ⟨_, rfl⟩
        have hxs : x.size ≤ s.size := HSS.out x (hx ▸ List.getElem_mem _)
        have hrw := HR1.out.below (B'' := w1.heap.size) HBW.out (Nat.le_refl _) (Nat.le_refl _)
        obtain ⟨g, off, rfl, hgl, hcell⟩ := str_cell hrw (by omega) hx
        have hgl2 : g < wr.heap.size := Nat.lt_of_lt_of_le hgl HBW.out.size
        have HSX := Lib.hid (fun W => rSplit_any x 32 (by omega) W)
        have HX := Lib.hid hx
        clear hrw hx
        go_wp2_with fail
        refine (HSX.out _).mono ?_
        rintro e w2 ⟨v2, M, rfl, hown2, hdm, hms, hml, hb2⟩
        have HB2 : Hid (Below w1.heap.size w1 w2) := Lib.hid (Below.tr HBW.out hb2)
        have HO2 := Lib.hid (HO.out.below (B := wr.heap.size) hb2 (Nat.le_refl _))
        have HSTEP : Hid (refLs ((dL L).drop k) = match refW (dL M) with
            | none => none
            | some r => (refLs ((dL L).drop (k + 1))).map (r :: ·)) := Lib.hid (by
          have hl : (dL L).length = L.length := by simp [dL]
          rw [List.drop_eq_getElem_cons (show k < (dL L).length by omega), List.drop_eq_getElem_cons (show k + 1 < (dL L).length by omega), refLs_step, hdm]
          have : (dL L)[k]'(by omega) = x.data.toList := by simp [dL, HX.out]
          rw [this])
        have hM1 : 0 < M.length := by
          have h1 := (spl_join 32 x.data.toList).1
          rw [← hdm] at h1
          have : (dL M).length = M.length := by simp [dL]
          have := List.length_pos_iff.2 h1
          omega
        obtain ⟨g3, cap3, rfl, hg3a, hg3b, _, _, _, hr3⟩ := hown2.addr hM1
        have HC3 : Hid (∀ i y, M[i]? = some y → w2.cell? ⟨g3, i, none⟩ = some (.string y)) := Lib.hid (fun i y hy => by
          obtain ⟨hi, hy⟩ := List.getElem?_eq_some_iff.1 hy
          obtain ⟨b', off', hA, _, hc⟩ := str_cell hr3 hi hy
          injection hA with hA
          injection hA with e1 e2
          subst e1
          subst e2
          rwa [Nat.zero_add] at hc)
        have DM : Hid ((dL M).length = M.length) := Lib.hid (by simp [dL])
        have GM : Hid (∀ i y, M[i]? = some y → (dL M).getD i [] = y.toList) := Lib.hid (fun i y h => by
          unfold dL
          rw [List.getD_eq_getElem?_getD, List.getElem?_map, h, ByteArray.toList_eq]
          rfl)
        clear hb2 hown2 hr3 hdm hms
        obtain ⟨m0, hm0⟩ : ∃ y, M[0]? = some y := ⟨_, List.getElem?_eq_getElem hM1⟩
        have c0 := HC3.out _ _ hm0
        have G0 := Lib.hid (GM.out _ _ hm0)
        have HBW2 : Hid (Below w.heap.size w w2) := Lib.hid (Below.tr HB1.out HB2.out)
        clear hm0
        by_cases h5 : M.length = 5 ∧ m0.toList = wPool
        · obtain ⟨hn, hl⟩ := h5
          obtain ⟨m1, hm1⟩ : ∃ y, M[1]? = some y := ⟨_, List.getElem?_eq_getElem (by omega)⟩
          obtain ⟨m2, hm2⟩ : ∃ y, M[2]? = some y := ⟨_, List.getElem?_eq_getElem (by omega)⟩
          obtain ⟨m3, hm3⟩ : ∃ y, M[3]? = some y := ⟨_, List.getElem?_eq_getElem (by omega)⟩
          obtain ⟨m4, hm4⟩ : ∃ y, M[4]? = some y := ⟨_, List.getElem?_eq_getElem (by omega)⟩
          have c1 := HC3.out _ _ hm1
          have c2 := HC3.out _ _ hm2
          have c3 := HC3.out _ _ hm3
          have c4 := HC3.out _ _ hm4
          have HRW : Hid (refW (dL M) = match numS m2.data.toList with
              | none => none
              | some u =>
                match numS m4.data.toList with
                | none => none
                | some h => if m3.toList = wAt then some (mkR 2 u m1.toList h) else none) := Lib.hid (by
            unfold refW
            rw [if_pos (by rw [DM.out, G0.out]; exact ⟨hn, hl⟩), GM.out _ _ hm1, GM.out _ _ hm2, GM.out _ _ hm3, GM.out _ _ hm4, ByteArray.toList_eq (bs := m2), ByteArray.toList_eq (bs := m4)]
            rfl)
          have HN2 := Lib.hid (fun W => Number_any m2 W)
          have HN4 := Lib.hid (fun W => Number_any m4 W)
          obtain ⟨n2, o2, hv2, hs2⟩ := numV_parts m2.data.toList
          obtain ⟨n4, o4, hv4, hs4⟩ := numV_parts m4.data.toList
          rw [hv2] at HN2
          rw [hv4] at HN4
          rw [hs2, hs4] at HRW
          have hi5 : ((M.length : Int) == 5) = true := beq_iff_eq.2 (by omega)
          have hi5' : (M.length : Int) = 5 := by omega
          have hp0 : (m0.toList == [112, 111, 111, 108]) = true := beq_iff_eq.2 hl
          clear hm1 hm2 hm3 hm4 hv2 hs2 hv4 hs4 hn hl
          go_wp2_with fail
          refine (HN2.out _).mono ?_
          rintro e w3 ⟨rfl, rfl⟩
          cases o2 with
          | false =>
            have HPN : Hid (p = (6, [])) := Lib.hid (HNO.out (by rw [HF.out, HSTEP.out, HRW.out]; rfl))
            go_wp2_with fail
            go_ret2
            exact RetLE.no 6 HPN.out rfl (by ((repeat (first | (with_reducible exact Below.refl _ _) | (with_reducible assumption) | (with_reducible refine below_drewN ?_ _) | (with_reducible refine Below.drew ?_) | (with_reducible refine Below.al ?_ _) | (with_reducible refine Below.st ?_ (by simp; try omega)) | (with_reducible refine Below.tr ?_ (by assumption))))); exact HBW2.out)
          | true =>
            go_wp2_with fail
            have d0 := Just.old (.cells #[.string { data := #[] }, .int .i64 2, .int .i64 n2, .int .i64 0] 36) c0
            have d1 := Just.old (.cells #[.string { data := #[] }, .int .i64 2, .int .i64 n2, .int .i64 0] 36) c1
            have d3 := Just.old (.cells #[.string { data := #[] }, .int .i64 2, .int .i64 n2, .int .i64 0] 36) c3
            have d4 := Just.old (.cells #[.string { data := #[] }, .int .i64 2, .int .i64 n2, .int .i64 0] 36) c4
            refine wp_region_tail 12 (by kernel_rfl) (by kernel_rfl) ?_; simp only [List.take_succ_cons, List.take_zero, List.drop_succ_cons, List.drop_zero]
            (repeat (go_big_quiet_step (fail))); refine wpQuiet_nil ?_
            go_wp2_with fail
            refine (HN4.out _).mono ?_
            rintro e w3 ⟨rfl, rfl⟩
            cases o4 with
            | false =>
              have HPN : Hid (p = (6, [])) := Lib.hid (HNO.out (by rw [HF.out, HSTEP.out, HRW.out]; rfl))
              go_wp2_with fail
              go_ret2
              exact RetLE.no 6 HPN.out rfl (by ((repeat (first | (with_reducible exact Below.refl _ _) | (with_reducible assumption) | (with_reducible refine below_drewN ?_ _) | (with_reducible refine Below.drew ?_) | (with_reducible refine Below.al ?_ _) | (with_reducible refine Below.st ?_ (by simp; try omega)) | (with_reducible refine Below.tr ?_ (by assumption))))); exact HBW2.out)
            | true =>
              by_cases hat : m3.toList = wAt
              · have hp2 : (m3.toList == [97, 116]) = true := beq_iff_eq.2 hat
                have HFN : Hid (refS s.data.toList = (refLs ((dL L).drop (k + 1))).map ((acc ++ [mkR 2 n2 m1.toList n4]) ++ ·)) := Lib.hid (by
                  rw [HF.out, HSTEP.out, HRW.out]
                  simp only [if_true, if_pos hat]
                  cases refLs ((dL L).drop (k + 1)) <;> simp)
                rw [show mkR 2 n2 m1.toList n4 = ⟨m1, 2, n2, n4⟩ by unfold mkR; rw [← str_of m1]] at HFN
                have hl : acc.length < maxLen ∧ (acc.length + 1) * 40 ≤ 140737488355328 := by unfold maxLen; omega
                clear hat
                go_wp2_with (at_builtin; refine pushOneB resTB rfl (.tmp 95) (.tmp 97) rfl ((w2.alloc (.cells #[.string m1, .int .i64 2, .int .i64 n2, .int .i64 n4] 36)).alloc (.cells #[.string m0, .string m1, .string m3, .string m4] 9)).drew w1.heap.size u4 acc ⟨m1, 2, n2, n4⟩ [.string m1, .int .i64 2, .int .i64 n2, .int .i64 n4] _ rfl rfl (((HO2.out.alloc _).alloc _).drewN 1) (w2.heap.size + 1 + 1) rfl (by simp) rfl hl.1 hl.2 ?_; intro v7 w7 hown7 hb7 hsp7; have HB7 : Hid (Below w1.heap.size w1 w7) := Lib.hid ((((HB2.out.alloc HB2.out.size _).alloc (by have := HB2.out.size; simp; omega) _).drew).trans hb7); have HO7 := Lib.hid hown7; clear hown7 hb7 hsp7)
                go_roundg (gk - 1)
                case measure => omega
                case rel => exact ⟨k + 1, _, by go_num, by omega, by omega, by rw [List.length_append]; simp; omega, HO7, HB7, HFN⟩
              · have hp2 : (m3.toList == [97, 116]) = false := beq_eq_false_iff_ne.2 hat
                have HPN : Hid (p = (6, [])) := Lib.hid (HNO.out (by rw [HF.out, HSTEP.out, HRW.out]; simp only [if_true, if_neg hat]; rfl))
                clear hat
                go_wp2_with fail
                go_ret2
                exact RetLE.no 6 HPN.out rfl (by ((repeat (first | (with_reducible exact Below.refl _ _) | (with_reducible assumption) | (with_reducible refine below_drewN ?_ _) | (with_reducible refine Below.drew ?_) | (with_reducible refine Below.al ?_ _) | (with_reducible refine Below.st ?_ (by simp; try omega)) | (with_reducible refine Below.tr ?_ (by assumption))))); exact HBW2.out)
        · by_cases h4 : M.length = 4 ∧ m0.toList = wLock
          · obtain ⟨hn, hl⟩ := h4
            obtain ⟨m1, hm1⟩ : ∃ y, M[1]? = some y := ⟨_, List.getElem?_eq_getElem (by omega)⟩
            obtain ⟨m2, hm2⟩ : ∃ y, M[2]? = some y := ⟨_, List.getElem?_eq_getElem (by omega)⟩
            obtain ⟨m3, hm3⟩ : ∃ y, M[3]? = some y := ⟨_, List.getElem?_eq_getElem (by omega)⟩
            have c1 := HC3.out _ _ hm1
            have c2 := HC3.out _ _ hm2
            have c3 := HC3.out _ _ hm3
            have HRW : Hid (refW (dL M) = match numS m3.data.toList with
                | none => none
                | some h => if m2.toList = wAt then some (mkR 1 1 m1.toList h) else none) := Lib.hid (by
              unfold refW
              rw [if_neg (by rw [DM.out, hn]; rintro ⟨h, _⟩; omega), if_neg (by rw [DM.out, G0.out]; rintro (h | h); exact h hn; exact h hl), GM.out _ _ hm1, GM.out _ _ hm2, GM.out _ _ hm3, ByteArray.toList_eq (bs := m3)]
              rfl)
            have HN3 := Lib.hid (fun W => Number_any m3 W)
            obtain ⟨n3, o3, hv3, hs3⟩ := numV_parts m3.data.toList
            rw [hv3] at HN3
            rw [hs3] at HRW
            have hi5 : ((M.length : Int) == 5) = false := beq_eq_false_iff_ne.2 (by omega)
            have hi4 : ((M.length : Int) == 4) = true := beq_iff_eq.2 (by omega)
            have hi4' : (M.length : Int) = 4 := by omega
            have hp0 : (m0.toList == [108, 111, 99, 107]) = true := beq_iff_eq.2 hl
            clear hm1 hm2 hm3 hv3 hs3 h5 hn hl
            go_wp2_with fail
            refine (HN3.out _).mono ?_
            rintro e w3 ⟨rfl, rfl⟩
            cases o3 with
            | false =>
              have HPN : Hid (p = (6, [])) := Lib.hid (HNO.out (by rw [HF.out, HSTEP.out, HRW.out]; rfl))
              go_wp2_with fail
              go_ret2
              exact RetLE.no 6 HPN.out rfl (by ((repeat (first | (with_reducible exact Below.refl _ _) | (with_reducible assumption) | (with_reducible refine below_drewN ?_ _) | (with_reducible refine Below.drew ?_) | (with_reducible refine Below.al ?_ _) | (with_reducible refine Below.st ?_ (by simp; try omega)) | (with_reducible refine Below.tr ?_ (by assumption))))); exact HBW2.out)
            | true =>
              by_cases hat : m2.toList = wAt
              · have hp2 : (m2.toList == [97, 116]) = true := beq_iff_eq.2 hat
                have HFN : Hid (refS s.data.toList = (refLs ((dL L).drop (k + 1))).map ((acc ++ [mkR 1 1 m1.toList n3]) ++ ·)) := Lib.hid (by
                  rw [HF.out, HSTEP.out, HRW.out]
                  simp only [if_true, if_pos hat]
                  cases refLs ((dL L).drop (k + 1)) <;> simp)
                rw [show mkR 1 1 m1.toList n3 = ⟨m1, 1, 1, n3⟩ by unfold mkR; rw [← str_of m1]] at HFN
                have hl : acc.length < maxLen ∧ (acc.length + 1) * 40 ≤ 140737488355328 := by unfold maxLen; omega
                clear hat
                go_wp2_with (at_builtin; refine pushOneB resTB rfl (.tmp 95) (.tmp 97) rfl (w2.alloc (.cells #[.string m1, .int .i64 1, .int .i64 1, .int .i64 n3] 36)) w1.heap.size u4 acc ⟨m1, 1, 1, n3⟩ [.string m1, .int .i64 1, .int .i64 1, .int .i64 n3] _ rfl rfl (HO2.out.alloc _) (w2.heap.size + 1) rfl (by simp) rfl hl.1 hl.2 ?_; intro v7 w7 hown7 hb7 hsp7; have HB7 : Hid (Below w1.heap.size w1 w7) := Lib.hid ((HB2.out.alloc HB2.out.size _).trans hb7); have HO7 := Lib.hid hown7; clear hown7 hb7 hsp7)
                go_roundg (gk - 1)
                case measure => omega
                case rel => exact ⟨k + 1, _, by go_num, by omega, by omega, by rw [List.length_append]; simp; omega, HO7, HB7, HFN⟩
              · have hp2 : (m2.toList == [97, 116]) = false := beq_eq_false_iff_ne.2 hat
                have HPN : Hid (p = (6, [])) := Lib.hid (HNO.out (by rw [HF.out, HSTEP.out, HRW.out]; simp only [if_true, if_neg hat]; rfl))
                clear hat
                go_wp2_with fail
                go_ret2
                exact RetLE.no 6 HPN.out rfl (by ((repeat (first | (with_reducible exact Below.refl _ _) | (with_reducible assumption) | (with_reducible refine below_drewN ?_ _) | (with_reducible refine Below.drew ?_) | (with_reducible refine Below.al ?_ _) | (with_reducible refine Below.st ?_ (by simp; try omega)) | (with_reducible refine Below.tr ?_ (by assumption))))); exact HBW2.out)
          · have HPN : Hid (p = (6, [])) := Lib.hid (HNO.out (by
              rw [HF.out, HSTEP.out, refW_not (by rw [DM.out, G0.out]; exact h5) (by rw [DM.out, G0.out]; exact h4)]
              rfl))
            rcases Classical.em (M.length = 5) with hn5 | hn5
            · have hi5 : ((M.length : Int) == 5) = true := beq_iff_eq.2 (by omega)
              have hi4 : ((M.length : Int) == 4) = false := beq_eq_false_iff_ne.2 (by omega)
              have hi4' : ¬ ((M.length : Int) = 4) := by omega
              have hp0 : (m0.toList == [112, 111, 111, 108]) = false := beq_eq_false_iff_ne.2 fun e => h5 ⟨hn5, e⟩
              clear h5 h4
              go_wp2_with fail
              go_ret2
              exact RetLE.no 6 HPN.out rfl (by ((repeat (first | (with_reducible exact Below.refl _ _) | (with_reducible assumption) | (with_reducible refine below_drewN ?_ _) | (with_reducible refine Below.drew ?_) | (with_reducible refine Below.al ?_ _) | (with_reducible refine Below.st ?_ (by simp; try omega)) | (with_reducible refine Below.tr ?_ (by assumption))))); exact HBW2.out)
            · have hi5 : ((M.length : Int) == 5) = false := beq_eq_false_iff_ne.2 (by omega)
              rcases Classical.em (M.length = 4) with hn4 | hn4
              · have hi4 : ((M.length : Int) == 4) = true := beq_iff_eq.2 (by omega)
                have hp0 : (m0.toList == [108, 111, 99, 107]) = false := beq_eq_false_iff_ne.2 fun e => h4 ⟨hn4, e⟩
                clear h5 h4
                go_wp2_with fail
                go_ret2
                exact RetLE.no 6 HPN.out rfl (by ((repeat (first | (with_reducible exact Below.refl _ _) | (with_reducible assumption) | (with_reducible refine below_drewN ?_ _) | (with_reducible refine Below.drew ?_) | (with_reducible refine Below.al ?_ _) | (with_reducible refine Below.st ?_ (by simp; try omega)) | (with_reducible refine Below.tr ?_ (by assumption))))); exact HBW2.out)
              · have hi4 : ((M.length : Int) == 4) = false := beq_eq_false_iff_ne.2 (by omega)
                clear h5 h4
                go_wp2_with fail
                go_ret2
                exact RetLE.no 6 HPN.out rfl (by ((repeat (first | (with_reducible exact Below.refl _ _) | (with_reducible assumption) | (with_reducible refine below_drewN ?_ _) | (with_reducible refine Below.drew ?_) | (with_reducible refine Below.al ?_ _) | (with_reducible refine Below.st ?_ (by simp; try omega)) | (with_reducible refine Below.tr ?_ (by assumption))))); exact HBW2.out)
      · have hlti : ¬ ((k : Int) + 1 < (L.length : Int)) := by omega
        have HBWW : Hid (Below w.heap.size w wr) := Lib.hid (Below.tr HB1.out HBW.out)
        have HDN : Hid (p = doneC s.data.toList (some acc)) := Lib.hid (by
          rw [HQ.out, HF.out, refLs_end (by rw [List.length_drop]; simp [dL]; omega)]
          simp)
        obtain ⟨A9, cap9, rfl, _, hr9, hc9, hcm9⟩ := HO.out.form2
        have hml : acc.length ≤ maxLen := by unfold maxLen; omega
        have HV := Lib.hid (rCatValid_any A9 wr.heap.size cap9 acc wr hml (Nat.le_refl _) hr9)
        have HFM : Hid (∀ W, Below wr.heap.size wr W → Calls Tryd.prog 7 #[.slice A9 acc.length cap9] W (RetS W (fmtL acc))) := Lib.hid (fun W hb => rFormat_any A9 wr.heap.size cap9 acc W hml hb.size (hr9.below hb (Nat.le_refl _) (Nat.le_refl _)))
        clear hr9
        go_wp2_with fail
        refine HV.out.mono ?_
        rintro e u1 ⟨q, rfl, hq, hd1⟩
        have HC1 : Hid (Below wr.heap.size wr u1) := Lib.hid hd1
        have HD1 : Hid (Below w.heap.size w u1) := Lib.hid (Below.tr HBWW.out hd1)
        have HV1 := Lib.hid hq
        clear hd1 hq
        cases q with
        | false =>
          have HPN : Hid (p = (6, [])) := Lib.hid (by
            rw [HDN.out]
            unfold doneC
            exact if_neg (fun h => by have := HV1.out.2 h.1; cases this))
          go_wp2_with fail
          go_ret2
          exact RetLE.no 6 HPN.out rfl HD1.out
        | true =>
          go_wp2_with fail
          refine (HFM.out _ HC1.out).mono ?_
          rintro e w2 ⟨rfl, hb2⟩
          have HBW2 : Hid (Below w.heap.size w w2) := Lib.hid (Below.tr HD1.out hb2)
          have HO2 := Lib.hid (HO.out.below (B := wr.heap.size) (Below.tr HC1.out hb2) (Nat.le_refl _))
          clear hb2
          by_cases hs : fmtL acc = s.data.toList
          · have hsb : ((⟨(fmtL acc).toArray⟩ : ByteArray).toList == s.toList) = true := by rw [toList_lit, ByteArray.toList_eq, beq_iff_eq]; exact hs
            have HPN : Hid (p = (0, acc)) := Lib.hid (by
              rw [HDN.out]
              unfold doneC
              have hv : VCat acc := by simpa using HV1.out
              unfold fmtL at hs
              rw [if_pos hv] at hs
              exact if_pos ⟨hv, hs⟩)
            clear hs
            generalize (⟨(fmtL acc).toArray⟩ : ByteArray) = t at *
            go_wp2_with fail
            go_ret2
            rw [HPN.out]
            exact ⟨_, rfl, HO2.out.older HB1.out.size, HBW2.out⟩
          · have hsb : ((⟨(fmtL acc).toArray⟩ : ByteArray).toList == s.toList) = false := by rw [toList_lit, ByteArray.toList_eq, beq_eq_false_iff_ne]; exact hs
            have HPN : Hid (p = (6, [])) := Lib.hid (by
              rw [HDN.out]
              unfold doneC
              refine if_neg (fun h => hs ?_)
              unfold fmtL
              rw [if_pos h.1]
              exact h.2)
            clear hs
            generalize (⟨(fmtL acc).toArray⟩ : ByteArray) = t at *
            go_wp2_with fail
            go_ret2
            exact RetLE.no 6 HPN.out rfl HBW2.out
end Go.Proofs.YtbjbolpmbdllnaaDoor
