/- Split and Cut in plain words; a line, the program's. -/
import Derived.Test.YtbjbolpmbdllnaaDoornLay
import Derived.Test.YtbjbolpmbdllnaaDoornSplit
import Derived.Test.YtbjbolpmbdllnaaDoorbInsert
import Derived.Test.YtbjbolpmbdllnaaDoorRows2
namespace Go.Proofs.YtbjbolpmbdllnaaDoor
open Go.RowKit

theorem piece_size (sep : ByteArray) : ∀ (k : Nat) (s : ByteArray), ∀ x ∈ Lib.splitB sep 0 k s, x.size ≤ s.size
  | 0, s, x, hx => by rw [List.mem_singleton.1 hx]; exact Nat.le_refl _
  | k + 1, s, x, hx => by
    unfold Lib.splitB at hx
    split at hx
    · rw [List.mem_singleton.1 hx]; exact Nat.le_refl _
    · rcases List.mem_cons.1 hx with rfl | hx
      · rw [ByteArray.size_extract]; omega
      · have := piece_size sep k _ x hx
        rw [ByteArray.size_extract] at this
        omega
/-- strings.Split at one byte. -/
theorem SSplit_any (s : ByteArray) (c : UInt8) (hs : s.size ≤ 100000) (w : World) (hL : Lay w) : Calls Tryd.prog 33 #[.string s, .string ⟨#[c]⟩] w fun e w' =>
    ∃ L : List ByteArray, e = .returned (.slice (some ⟨w.heap.size, 0, none⟩) L.length L.length) ∧ dL L = Lib.split s.data.toList [c] ∧ (∀ x ∈ L, x.size ≤ s.size) ∧ w' = w.alloc (.cells (L.map Value.string).toArray 9) := by
  obtain ⟨m, hm⟩ := hL.mx
  refine (Tryd.strings_Split s ⟨#[c]⟩ m w (by omega) hm (Nat.le_refl _)).mono ?_
  rintro e w' ⟨rfl, rfl⟩
  refine ⟨Lib.splitB ⟨#[c]⟩ 0 (Lib.countB s ⟨#[c]⟩) s, ?_, ?_, fun x hx => piece_size _ _ s x hx, rfl⟩
  · rw [Lib.splitB_all ⟨#[c]⟩ (Nat.le_refl _) 0 _ s rfl]
  · unfold dL
    rw [Lib.splitB_data]
    rfl

theorem splitK_len (sep : List UInt8) : ∀ (k : Nat) (s : List UInt8), (Lib.splitK sep 0 k s).length ≤ k + 1
  | 0, _ => Nat.le_refl _
  | k + 1, s => by
    unfold Lib.splitK
    split
    · simp
    · have := splitK_len sep k (s.drop ((Lib.index s sep).toNat + sep.length))
      simp
      omega
/-- What a line returns. -/
def RetLine (w : World) (o : Option Rs) (e : Ending) (w' : World) : Prop := Below w.heap.size w w' ∧ match o with
  | some r => e = .returned (.tuple #[r.val, .bool true])
  | none => ∃ q : Rs, e = .returned (.tuple #[q.val, .bool false])

set_option maxHeartbeats 1600000 in
set_option maxRecDepth 100000 in
theorem parseLine_any (s : ByteArray) (hs : s.size ≤ 100000) (w : World) (hL : Lay w) : Calls Tryd.prog 21 #[.string s] w (RetLine w (progW (Lib.split s.data.toList [32]))) := by
  have HS := Lib.hid (fun W h => SSplit_any s 32 hs W h)
  have LH := Lib.hid hL
  obtain ⟨o, ho⟩ : ∃ o, progW (Lib.split s.data.toList [32]) = o := ⟨_, rfl⟩
  rw [ho]
  have HO := Lib.hid ho
  clear hL ho
  go_enter Tryd.func21, Tryd.ntmps21
  go_wp2_with fail
  refine (HS.out _ (LH.out.below (Below.al (Below.refl _ _) _))).mono ?_
  rintro e w1 ⟨L, rfl, hL, hz, rfl⟩
  rw [← hL] at HO
  have HZ := Lib.hid hz
  have hn : L.length ≤ 100001 := by
    have h1 : (dL L).length = L.length := by simp [dL]
    rw [← h1, hL]
    have h2 := splitK_len [32] (Lib.count s.data.toList [32]) s.data.toList
    have h3 : Lib.count s.data.toList [32] ≤ s.data.toList.length := by rw [Lib.count_one]; exact List.count_le_length
    have h4 : s.data.toList.length = s.size := by simp
    unfold Lib.split
    omega
  clear hL hz HS
  have CW : Hid (∀ i x, L[i]? = some x → (L.map Value.string).toArray[i]? = some (Value.string x)) := Lib.hid (fun i x h => by rw [List.getElem?_toArray, List.getElem?_map, h]; rfl)
  generalize (L.map Value.string).toArray = C at CW ⊢
  have GW : Hid (∀ i x, L[i]? = some x → (dL L).getD i [] = x.toList) := Lib.hid (fun i x h => by
    unfold dL
    rw [List.getD_eq_getElem?_getD, List.getElem?_map, h, ByteArray.toList_eq]
    rfl)
  have DL : Hid ((dL L).length = L.length) := Lib.hid (by simp [dL])
  by_cases h4 : L.length < 4
  · have HP : Hid (o = none) := Lib.hid (by rw [← HO.out]; unfold progW; rw [if_pos (Or.inl (by rw [DL.out]; exact h4))])
    have h4i : (L.length : Int) < 4 := by omega
    go_wp2_with fail
    refine bodyPost_ret_by (v := .tuple #[Rs.zero.val, .bool false]) ?_ rfl ⟨?_, ?_⟩
    · rw [results_cell_tmp rfl]
      go_simp
      rfl
    · exact (by ((repeat (first | (with_reducible exact Below.refl _ _) | (with_reducible assumption) | (with_reducible refine below_drewN ?_ _) | (with_reducible refine Below.drew ?_) | (with_reducible refine Below.al ?_ _) | (with_reducible refine Below.st ?_ (by simp; try omega)) | (with_reducible refine Below.tr ?_ (by assumption))))))
    · rw [HP.out]
      exact ⟨_, rfl⟩
  · have h4i : ¬ (L.length : Int) < 4 := by omega
    have w2 : IntKind.i64.wrap ((L.length : Int) - 2) = ((L.length - 2 : Nat) : Int) := by rw [IntWalk.i64_in _ (by omega)]; omega
    have w1 : IntKind.i64.wrap ((L.length : Int) - 1) = ((L.length - 1 : Nat) : Int) := by rw [IntWalk.i64_in _ (by omega)]; omega
    obtain ⟨y, hy⟩ : ∃ y, L[L.length - 2]? = some y := ⟨_, List.getElem?_eq_getElem (by omega)⟩
    obtain ⟨z, hz⟩ : ∃ y, L[L.length - 1]? = some y := ⟨_, List.getElem?_eq_getElem (by omega)⟩
    have cy := CW.out _ _ hy
    have cz := CW.out _ _ hz
    obtain ⟨b, hb⟩ : ∃ b : Bool, (y.toList == [97, 116]) = b := ⟨_, rfl⟩
    have HY := Lib.hid (And.intro hy hz)
    clear hy hz
    cases b with
    | false =>
      have HP : Hid (o = none) := Lib.hid (by
        rw [← HO.out]
        unfold progW
        rw [if_pos (Or.inr (by rw [DL.out, GW.out _ _ HY.out.1]; exact beq_eq_false_iff_ne.1 hb))])
      go_wp2_with fail
      refine bodyPost_ret_by (v := .tuple #[Rs.zero.val, .bool false]) ?_ rfl ⟨?_, ?_⟩
      · rw [results_cell_tmp rfl]
        go_simp
        rfl
      · exact (by ((repeat (first | (with_reducible exact Below.refl _ _) | (with_reducible assumption) | (with_reducible refine below_drewN ?_ _) | (with_reducible refine Below.drew ?_) | (with_reducible refine Below.al ?_ _) | (with_reducible refine Below.st ?_ (by simp; try omega)) | (with_reducible refine Below.tr ?_ (by assumption))))))
      · rw [HP.out]
        exact ⟨_, rfl⟩
    | true =>
      have HAT : Hid (¬ ((dL L).length < 4 ∨ (dL L).getD ((dL L).length - 2) [] ≠ wAt)) := Lib.hid (by
        rw [DL.out, GW.out _ _ HY.out.1]
        intro h
        rcases h with h | h
        · exact h4 h
        · exact h (beq_iff_eq.1 hb))
      have HA := Lib.hid (fun W h => Atoi_any z (by have := HZ.out z (List.mem_of_getElem? HY.out.2); omega) W h)
      go_wp2_with fail
      refine (HA.out _ (LH.out.below (by ((repeat (first | (with_reducible exact Below.refl _ _) | (with_reducible assumption) | (with_reducible refine below_drewN ?_ _) | (with_reducible refine Below.drew ?_) | (with_reducible refine Below.al ?_ _) | (with_reducible refine Below.st ?_ (by simp; try omega)) | (with_reducible refine Below.tr ?_ (by assumption)))))))).mono ?_
      rintro e w2 ⟨hb2, he⟩
      have HB2 : Hid (Below w.heap.size w w2) := Lib.hid (Below.tr (Below.al (Below.al (Below.refl _ _) _) _) hb2)
      have HK2 : Hid (Blk w2 w.heap.size 36 #[.string ⟨#[]⟩, .int .i64 0, .int .i64 0, .int .i64 0]) := Lib.hid ((Blk.new w 36 #[.string ⟨#[]⟩, .int .i64 0, .int .i64 0, .int .i64 0]).below (Below.tr (Below.al (Below.refl _ _) _) hb2) (by simp))
      have z0 := HK2.out.cellx 0 (v := .string ⟨#[]⟩) rfl
      have z1 := HK2.out.cellx 1 (v := .int .i64 0) rfl
      have z2 := HK2.out.cellx 2 (v := .int .i64 0) rfl
      have z3 := HK2.out.cellx 3 (v := .int .i64 0) rfl
      rcases h0 : okI (Lib.atoiAll z.data.toList) with _ | v0
      · rw [h0] at he
        obtain ⟨q, t, pp, rfl⟩ := he
        have HP : Hid (o = none) := Lib.hid (by
          rw [← HO.out]
          unfold progW
          rw [if_neg HAT.out, DL.out, GW.out _ _ HY.out.2, ByteArray.toList_eq, h0])
        obtain ⟨hc_w2, hf_w2⟩ := bcell hb2
        have hs_w2 := hb2.size
        (try simp at hs_w2)
        have hz_w2_0 : w.heap.size < w2.heap.size := by omega
        have hz_w2_1 : w.heap.size + 1 < w2.heap.size := by omega
        clear hs_w2
        clear hb2 h0
        go_wp2_with fail
        refine bodyPost_ret_by (v := .tuple #[Rs.zero.val, .bool false]) ?_ rfl ⟨?_, ?_⟩
        · rw [results_cell_tmp rfl]
          go_simp
          rfl
        · exact (by ((repeat (first | (with_reducible exact Below.refl _ _) | (with_reducible assumption) | (with_reducible refine below_drewN ?_ _) | (with_reducible refine Below.drew ?_) | (with_reducible refine Below.al ?_ _) | (with_reducible refine Below.st ?_ (by simp; try omega)) | (with_reducible refine Below.tr ?_ (by assumption))))); exact HB2.out)
        · rw [HP.out]
          exact ⟨_, rfl⟩
      · rw [h0] at he
        subst he
        obtain ⟨x0, hx0⟩ : ∃ y, L[0]? = some y := ⟨_, List.getElem?_eq_getElem (by omega)⟩
        obtain ⟨x1, hx1⟩ : ∃ y, L[1]? = some y := ⟨_, List.getElem?_eq_getElem (by omega)⟩
        obtain ⟨x2, hx2⟩ : ∃ y, L[2]? = some y := ⟨_, List.getElem?_eq_getElem (by omega)⟩
        have c0 := CW.out _ _ hx0
        have c1 := CW.out _ _ hx1
        have c2 := CW.out _ _ hx2
        have HX := Lib.hid (And.intro hx0 (And.intro hx1 hx2))
        have HZ0 : Hid (okI (Lib.atoiAll ((dL L).getD ((dL L).length - 1) [])) = some v0) := Lib.hid (by rw [DL.out, GW.out _ _ HY.out.2, ByteArray.toList_eq, h0])
        have HP : Hid (o = if (dL L).getD 0 [] = wLock ∧ (dL L).length = 4 then some (mkR 1 1 ((dL L).getD 1 []) v0)
            else if (dL L).getD 0 [] = wPool ∧ (dL L).length = 5 then
              match okI (Lib.atoiAll ((dL L).getD 2 [])) with
              | none => none
              | some u => some (mkR 2 u ((dL L).getD 1 []) v0)
            else none) := Lib.hid (by
          rw [← HO.out]
          unfold progW
          rw [if_neg HAT.out, HZ0.out]
          rfl)
        rw [DL.out, GW.out _ _ hx0, GW.out _ _ hx1, GW.out _ _ hx2] at HP
        have HA2 := Lib.hid (fun W h => Atoi_any x2 (by have := HZ.out x2 (List.mem_of_getElem? hx2); omega) W h)
        clear hx0 hx1 hx2 h0
        obtain ⟨hc_w2, hf_w2⟩ := bcell hb2
        have hs_w2 := hb2.size
        (try simp at hs_w2)
        have hz_w2_0 : w.heap.size < w2.heap.size := by omega
        have hz_w2_1 : w.heap.size + 1 < w2.heap.size := by omega
        clear hs_w2
        clear hb2
        have HM1 : Hid (∀ k u, (mkR k u x1.toList v0).val = .agg #[.string x1, .int .i64 k, .int .i64 u, .int .i64 v0]) := Lib.hid (fun k u => by
          unfold mkR Rs.val
          rw [← str_of x1])
        by_cases hl : x0.toList = wLock
        · have hbl : (x0.toList == [108, 111, 99, 107]) = true := beq_iff_eq.2 hl
          have hbp : (x0.toList == [112, 111, 111, 108]) = false := beq_eq_false_iff_ne.2 (by rw [hl]; decide)
          by_cases hn4 : L.length = 4
          · have he4 : ((L.length : Int) == 4) = true := beq_iff_eq.2 (by omega)
            rw [if_pos ⟨hl, hn4⟩] at HP
            clear hl hn4
            go_wp2_with fail
            refine bodyPost_ret_by (v := .tuple #[.agg #[.string x1, .int .i64 1, .int .i64 1, .int .i64 v0], .bool true]) ?_ rfl ⟨?_, ?_⟩
            · rw [results_cell_tmp rfl]
              go_simp
            · exact (by ((repeat (first | (with_reducible exact Below.refl _ _) | (with_reducible assumption) | (with_reducible refine below_drewN ?_ _) | (with_reducible refine Below.drew ?_) | (with_reducible refine Below.al ?_ _) | (with_reducible refine Below.st ?_ (by simp; try omega)) | (with_reducible refine Below.tr ?_ (by assumption))))); exact HB2.out)
            · rw [HP.out]
              dsimp only
              rw [HM1.out]
          · have he4 : ((L.length : Int) == 4) = false := beq_eq_false_iff_ne.2 (by omega)
            rw [if_neg (fun h => hn4 h.2), if_neg (fun h => by rw [hl] at h; exact absurd h.1 (by decide))] at HP
            clear hl hn4
            go_wp2_with fail
            refine bodyPost_ret_by (v := .tuple #[Rs.zero.val, .bool false]) ?_ rfl ⟨?_, ?_⟩
            · rw [results_cell_tmp rfl]
              go_simp
              rfl
            · exact (by ((repeat (first | (with_reducible exact Below.refl _ _) | (with_reducible assumption) | (with_reducible refine below_drewN ?_ _) | (with_reducible refine Below.drew ?_) | (with_reducible refine Below.al ?_ _) | (with_reducible refine Below.st ?_ (by simp; try omega)) | (with_reducible refine Below.tr ?_ (by assumption))))); exact HB2.out)
            · rw [HP.out]
              exact ⟨_, rfl⟩
        · have hbl : (x0.toList == [108, 111, 99, 107]) = false := beq_eq_false_iff_ne.2 hl
          rw [if_neg (fun h => hl h.1)] at HP
          clear hl
          by_cases hp : x0.toList = wPool ∧ L.length = 5
          · have hbp : (x0.toList == [112, 111, 111, 108]) = true := beq_iff_eq.2 hp.1
            have he5 : ((L.length : Int) == 5) = true := beq_iff_eq.2 (by omega)
            rw [if_pos hp, ByteArray.toList_eq (bs := x2)] at HP
            clear hp
            go_wp2_with fail
            refine (HA2.out _ (LH.out.below (by ((repeat (first | (with_reducible exact Below.refl _ _) | (with_reducible assumption) | (with_reducible refine below_drewN ?_ _) | (with_reducible refine Below.drew ?_) | (with_reducible refine Below.al ?_ _) | (with_reducible refine Below.st ?_ (by simp; try omega)) | (with_reducible refine Below.tr ?_ (by assumption))))); exact HB2.out))).mono ?_
            rintro e w3 ⟨hb3, he⟩
            have HB3 : Hid (Below w.heap.size w w3) := Lib.hid (Below.tr (Below.al HB2.out _) hb3)
            have HK3 : Hid (Blk w3 w.heap.size 36 #[.string ⟨#[]⟩, .int .i64 0, .int .i64 0, .int .i64 0]) := Lib.hid (HK2.out.below (Below.tr (Below.al (Below.refl _ _) _) hb3) HK2.out.lt)
            have HK4 : Hid (Blk w3 w2.heap.size 36 #[.string x1, .int .i64 0, .int .i64 0, .int .i64 v0]) := Lib.hid ((Blk.new w2 36 #[.string x1, .int .i64 0, .int .i64 0, .int .i64 v0]).below hb3 (by simp))
            clear z0 z1 z2 z3
            have z0 := HK3.out.cellx 0 (v := .string ⟨#[]⟩) rfl
            have z1 := HK3.out.cellx 1 (v := .int .i64 0) rfl
            have z2 := HK3.out.cellx 2 (v := .int .i64 0) rfl
            have z3 := HK3.out.cellx 3 (v := .int .i64 0) rfl
            have n0 := HK4.out.cellx 0 (v := .string x1) rfl
            have n1 := HK4.out.cellx 1 (v := .int .i64 0) rfl
            have n2 := HK4.out.cellx 2 (v := .int .i64 0) rfl
            have n3 := HK4.out.cellx 3 (v := .int .i64 v0) rfl
            have fn0 := HK4.out.frozen 0
            have fn1 := HK4.out.frozen 1
            have fn2 := HK4.out.frozen 2
            have fn3 := HK4.out.frozen 3
            have fz0 := HK3.out.frozen 0
            have fz1 := HK3.out.frozen 1
            have fz2 := HK3.out.frozen 2
            have fz3 := HK3.out.frozen 3
            have hne : w.heap.size ≠ w2.heap.size := by omega
            have hne2 : w2.heap.size ≠ w.heap.size := by omega
            clear hb3
            rcases h0 : okI (Lib.atoiAll x2.data.toList) with _ | v2
            · rw [h0] at he HP
              obtain ⟨q, t, pp, rfl⟩ := he
              clear h0
              go_wp2_with fail
              go_region
              all_goals go_wp2_with fail
              all_goals refine bodyPost_ret_by (v := .tuple #[.agg #[.string x1, .int .i64 2, .int .i64 q, .int .i64 v0], .bool false]) ?_ rfl ⟨?_, ?_⟩
              · rw [results_cell_tmp rfl]
                go_simp
              · exact (by ((repeat (first | (with_reducible exact Below.refl _ _) | (with_reducible assumption) | (with_reducible refine below_drewN ?_ _) | (with_reducible refine Below.drew ?_) | (with_reducible refine Below.al ?_ _) | (with_reducible refine Below.st ?_ (by simp; try omega)) | (with_reducible refine Below.tr ?_ (by assumption))))); exact HB3.out)
              · rw [HP.out]
                exact ⟨⟨x1, 2, q, v0⟩, rfl⟩
            · rw [h0] at he HP
              subst he
              clear h0
              go_wp2_with fail
              go_region
              all_goals go_wp2_with fail
              all_goals refine bodyPost_ret_by (v := .tuple #[.agg #[.string x1, .int .i64 2, .int .i64 v2, .int .i64 v0], .bool true]) ?_ rfl ⟨?_, ?_⟩
              · rw [results_cell_tmp rfl]
                go_simp
              · exact (by ((repeat (first | (with_reducible exact Below.refl _ _) | (with_reducible assumption) | (with_reducible refine below_drewN ?_ _) | (with_reducible refine Below.drew ?_) | (with_reducible refine Below.al ?_ _) | (with_reducible refine Below.st ?_ (by simp; try omega)) | (with_reducible refine Below.tr ?_ (by assumption))))); exact HB3.out)
              · rw [HP.out]
                dsimp only
                rw [HM1.out]
          · have hbp2 : (x0.toList == [112, 111, 111, 108]) = false ∨ ((L.length : Int) == 5) = false := by
              rcases Classical.em (x0.toList = wPool) with h | h
              · exact Or.inr (beq_eq_false_iff_ne.2 fun e => hp ⟨h, by omega⟩)
              · exact Or.inl (beq_eq_false_iff_ne.2 h)
            rw [if_neg hp] at HP
            clear hp
            rcases hbp2 with hbp | he5
            · go_wp2_with fail
              refine bodyPost_ret_by (v := .tuple #[Rs.zero.val, .bool false]) ?_ rfl ⟨?_, ?_⟩
              · rw [results_cell_tmp rfl]
                go_simp
                rfl
              · exact (by ((repeat (first | (with_reducible exact Below.refl _ _) | (with_reducible assumption) | (with_reducible refine below_drewN ?_ _) | (with_reducible refine Below.drew ?_) | (with_reducible refine Below.al ?_ _) | (with_reducible refine Below.st ?_ (by simp; try omega)) | (with_reducible refine Below.tr ?_ (by assumption))))); exact HB2.out)
              · rw [HP.out]
                exact ⟨_, rfl⟩
            · go_wp2_with fail
              all_goals
                refine bodyPost_ret_by (v := .tuple #[Rs.zero.val, .bool false]) ?_ rfl ⟨?_, ?_⟩
                · rw [results_cell_tmp rfl]
                  go_simp
                  rfl
                · exact (by ((repeat (first | (with_reducible exact Below.refl _ _) | (with_reducible assumption) | (with_reducible refine below_drewN ?_ _) | (with_reducible refine Below.drew ?_) | (with_reducible refine Below.al ?_ _) | (with_reducible refine Below.st ?_ (by simp; try omega)) | (with_reducible refine Below.tr ?_ (by assumption))))); exact HB2.out)
                · rw [HP.out]
                  exact ⟨_, rfl⟩
end Go.Proofs.YtbjbolpmbdllnaaDoor
