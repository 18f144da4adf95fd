/- ParseProc, the program's. -/
import Derived.Test.YtambinjjfapcgaaDooriBoxes
import Derived.Test.YtambinjjfapcgaaDooriSplitN
import Derived.Laws.ResultCell
import Derived.LoopN
namespace Go.Proofs.YtambinjjfapcgaaDoor
open Go.RowKit

/-- What a parser hands back. -/
def parseV : Option Pr → Value
  | some p => .tuple #[p.val, .bool true]
  | none => .tuple #[.agg #[.int .i64 0, .int .i64 0, .int .i64 0], .bool false]

theorem splitB_size (sep : ByteArray) : ∀ (k : Nat) (s : ByteArray), ∀ x ∈ Lib.splitB sep 0 k s, x.size ≤ s.size
  | 0, s, x, h => by
    rw [Lib.splitB_zero, List.mem_singleton] at h
    rw [h]
    exact Nat.le_refl _
  | k + 1, s, x, h => by
    unfold Lib.splitB at h
    split at h
    · rw [List.mem_singleton.1 h]
      exact Nat.le_refl _
    · rcases List.mem_cons.1 h with rfl | h
      · rw [ByteArray.size_extract]; omega
      · have := splitB_size sep k _ x h
        rw [ByteArray.size_extract] at this
        omega
theorem progP_not3 {s : List UInt8} {W : List (List UInt8)} (h : W.length ≠ 3) : progP s W = none := by
  unfold progP
  split
  · exact absurd rfl h
  · rfl
set_option maxHeartbeats 2000000 in
set_option maxRecDepth 100000 in
theorem PProc_any (s : ByteArray) (hs : s.size ≤ 281474976710656) (w : World) (hL : Lay w) : Calls Tryd.prog 9 #[.string s] w (Ret w (parseV (parseS s.data.toList))) := by
  obtain ⟨m, hm⟩ := hL.mx
  have HS := Lib.hid (fun W hW => SplitN_any s hs m W hW)
  have LH := Lib.hid hL
  have HM := Lib.hid hm
  obtain ⟨v, hv⟩ : ∃ v, parseV (parseS s.data.toList) = v := ⟨_, rfl⟩
  rw [hv]
  have HV := Lib.hid hv
  clear hv hL hm
  obtain ⟨WB, hW⟩ : ∃ l, Lib.splitB ⟨#[46]⟩ 0 (min 4 (s.size + 1) - 1) s = l := ⟨_, rfl⟩
  have hP : progP s.data.toList (WB.map (·.data.toList)) = parseS s.data.toList := by
    rw [← hW, Lib.splitB_data, Lib.size_eq]
    exact progP_eq _
  have hN : WB.length ≤ min 4 (s.size + 1) := by
    rw [← hW]
    have := Lib.splitB_length_le ⟨#[46]⟩ 0 (min 4 (s.size + 1) - 1) s
    omega
  have hZ : ∀ x ∈ WB, x.size ≤ 281474976710656 := fun x hx => by
    have := splitB_size ⟨#[46]⟩ _ s x (hW ▸ hx)
    omega
  unfold SplitsTo at HS
  rw [hW] at HS
  generalize min 4 (s.size + 1) = N at HS hN
  clear hW
  have HP := Lib.hid hP
  have HN := Lib.hid hN
  have HZ := Lib.hid hZ
  clear hP hN hZ
  go_enter Tryd.func9, Tryd.ntmps9
  go_wp2_with fail
  refine (HS.out _ ((World.cell?_alloc_lt w _ _ (World.block_lt_of_cell? w _ HM.out)).trans HM.out)).mono ?_
  rintro e w1 ⟨rfl, rfl⟩
  by_cases h3 : WB.length = 3
  · obtain ⟨x, y, z, rfl⟩ : ∃ x y z, WB = [x, y, z] := by
      match WB, h3 with
      | [a, b, c], _ => exact ⟨a, b, c, rfl⟩
    clear h3
    have hN3 : 3 ≤ N := HN.out
    have cw : ∀ k (hk : k < 3), (Lib.cellsOf [x, y, z] N)[k]? = some (.string ([x, y, z][k]'hk)) := by
      intro k hk
      unfold Lib.cellsOf
      rw [List.getElem?_toArray, List.getElem?_append_left (by simpa using hk), List.getElem?_map, List.getElem?_eq_getElem hk]
      rfl
    have cw0 : (Lib.cellsOf [x, y, z] N)[0]? = some (.string x) := cw 0 (by decide)
    have cw1 : (Lib.cellsOf [x, y, z] N)[1]? = some (.string y) := cw 1 (by decide)
    have cw2 : (Lib.cellsOf [x, y, z] N)[2]? = some (.string z) := cw 2 (by decide)
    clear cw
    simp only [List.length_cons, List.length_nil]
    go_wp2_with fail
    have X0 := Lib.hid (fun W hL => Atoi_any x (HZ.out x (by simp)) W hL)
    have X1 := Lib.hid (fun W hL => Atoi_any y (HZ.out y (by simp)) W hL)
    have X2 := Lib.hid (fun W hL => Atoi_any z (HZ.out z (by simp)) W hL)
    have PM := Lib.hid (PB.made w (Lib.cellsOf [x, y, z] N))
    refine wp_loop_rounds 4 ?_
    rw [rounds_succ]
    go_wp2_with fail
    refine (X0.out _ (LH.out.below PM.out.below)).mono ?_
    rintro e w1 ⟨hb, he⟩
    have P1 := Lib.hid (PM.out.next hb)
    clear hb PM X0
    rcases h0 : okI (Lib.atoiAll x.data.toList) with _ | v0
    · rw [h0] at he
      obtain ⟨q, t, pp, rfl⟩ := he
      have HQ : Hid (parseS s.data.toList = none) := Lib.hid (by rw [← HP.out]; simp only [List.map_cons, List.map_nil, progP, h0])
      obtain ⟨z0, z1, z2, fz0, fz1, fz2, c1, n0, n1, n2, fn0, fn1, fn2⟩ := P1.out.facts
      clear h0
      go_wp2_with fail
      (try simp only [Exit.inBlock, Exit.then])
      have hv := HV.out
      rw [HQ.out] at hv
      refine bodyPost_ret_by (v := v) ?_ rfl ⟨rfl, ?_⟩
      · rw [results_cell_tmp rfl, ← hv]
        unfold parseV
        go_simp
      · first | exact P1.out.below | exact ((P1.out.below.setCell (Nat.le_refl _) _).setCell (Nat.le_refl _) _).setCell (Nat.le_refl _) _
    · rw [h0] at he
      subst he
      have H0 := Lib.hid h0
      obtain ⟨z0, z1, z2, fz0, fz1, fz2, c1, n0, n1, n2, fn0, fn1, fn2⟩ := P1.out.facts
      clear h0
      go_wp2_with fail
      clear z0 z1 z2 fz0 fz1 fz2 c1 n0 n1 n2 fn0 fn1 fn2
      have Q1 := Lib.hid (P1.out.set0 v0)
      clear P1
      generalize w1.setCell ⟨w.heap.size + 1 + 1, 0, none⟩ (.int .i64 v0) = w1' at *
      obtain ⟨z0, z1, z2, fz0, fz1, fz2, c1, n0, n1, n2, fn0, fn1, fn2⟩ := Q1.out.facts
      rw [rounds_succ]
      go_wp2_with fail
      refine (X1.out _ (LH.out.below Q1.out.below)).mono ?_
      rintro e w2 ⟨hb, he⟩
      have P2 := Lib.hid (Q1.out.next hb)
      clear hb Q1 X1 z0 z1 z2 fz0 fz1 fz2 c1 n0 n1 n2 fn0 fn1 fn2
      rcases h0 : okI (Lib.atoiAll y.data.toList) with _ | v1
      · rw [h0] at he
        obtain ⟨q, t, pp, rfl⟩ := he
        have HQ : Hid (parseS s.data.toList = none) := Lib.hid (by rw [← HP.out]; simp only [List.map_cons, List.map_nil, progP, h0, H0.out])
        obtain ⟨z0, z1, z2, fz0, fz1, fz2, c1, n0, n1, n2, fn0, fn1, fn2⟩ := P2.out.facts
        clear h0
        go_wp2_with fail
        (try simp only [Exit.inBlock, Exit.then])
        have hv := HV.out
        rw [HQ.out] at hv
        refine bodyPost_ret_by (v := v) ?_ rfl ⟨rfl, ?_⟩
        · rw [results_cell_tmp rfl, ← hv]
          unfold parseV
          go_simp
        · first | exact P2.out.below | exact ((P2.out.below.setCell (Nat.le_refl _) _).setCell (Nat.le_refl _) _).setCell (Nat.le_refl _) _
      · rw [h0] at he
        subst he
        have H1 := Lib.hid h0
        obtain ⟨z0, z1, z2, fz0, fz1, fz2, c1, n0, n1, n2, fn0, fn1, fn2⟩ := P2.out.facts
        clear h0
        go_wp2_with fail
        clear z0 z1 z2 fz0 fz1 fz2 c1 n0 n1 n2 fn0 fn1 fn2
        have Q2 := Lib.hid (P2.out.set1 v1)
        clear P2
        generalize w2.setCell ⟨w.heap.size + 1 + 1, 1, none⟩ (.int .i64 v1) = w2' at *
        obtain ⟨z0, z1, z2, fz0, fz1, fz2, c1, n0, n1, n2, fn0, fn1, fn2⟩ := Q2.out.facts
        rw [rounds_succ]
        go_wp2_with fail
        refine (X2.out _ (LH.out.below Q2.out.below)).mono ?_
        rintro e w3 ⟨hb, he⟩
        have P3 := Lib.hid (Q2.out.next hb)
        clear hb Q2 X2 z0 z1 z2 fz0 fz1 fz2 c1 n0 n1 n2 fn0 fn1 fn2
        rcases h0 : okI (Lib.atoiAll z.data.toList) with _ | v2
        · rw [h0] at he
          obtain ⟨q, t, pp, rfl⟩ := he
          have HQ : Hid (parseS s.data.toList = none) := Lib.hid (by rw [← HP.out]; simp only [List.map_cons, List.map_nil, progP, h0, H0.out, H1.out])
          obtain ⟨z0, z1, z2, fz0, fz1, fz2, c1, n0, n1, n2, fn0, fn1, fn2⟩ := P3.out.facts
          clear h0
          go_wp2_with fail
          (try simp only [Exit.inBlock, Exit.then])
          have hv := HV.out
          rw [HQ.out] at hv
          refine bodyPost_ret_by (v := v) ?_ rfl ⟨rfl, ?_⟩
          · rw [results_cell_tmp rfl, ← hv]
            unfold parseV
            go_simp
          · first | exact P3.out.below | exact ((P3.out.below.setCell (Nat.le_refl _) _).setCell (Nat.le_refl _) _).setCell (Nat.le_refl _) _
        · rw [h0] at he
          subst he
          have H2 := Lib.hid h0
          obtain ⟨z0, z1, z2, fz0, fz1, fz2, c1, n0, n1, n2, fn0, fn1, fn2⟩ := P3.out.facts
          clear h0
          go_wp2_with fail
          clear z0 z1 z2 fz0 fz1 fz2 c1 n0 n1 n2 fn0 fn1 fn2
          have Q3 := Lib.hid (P3.out.set2 v2)
          clear P3
          generalize w3.setCell ⟨w.heap.size + 1 + 1, 2, none⟩ (.int .i64 v2) = w3' at *
          obtain ⟨z0, z1, z2, fz0, fz1, fz2, c1, n0, n1, n2, fn0, fn1, fn2⟩ := Q3.out.facts
          rw [rounds_succ]
          go_wp2_with fail
          have Q4 := Lib.hid (Q3.out.next ((Below.refl w3'.heap.size w3').alloc (Nat.le_refl _) (.cells #[.int .i64 v0, .int .i64 v1, .int .i64 v2] 24)))
          refine (VProc_any ⟨v0, v1, v2⟩ _).mono ?_
          rintro e w4 ⟨rfl, hb⟩
          have Q5 := Lib.hid (Q4.out.next hb)
          have B5 := Lib.hid (Blk.below (Blk.new w3' 24 #[.int .i64 v0, .int .i64 v1, .int .i64 v2]) hb (by simp))
          clear hb Q3 Q4 z0 z1 z2 fz0 fz1 fz2 c1 n0 n1 n2 fn0 fn1 fn2
          by_cases hvp : vpB ⟨v0, v1, v2⟩ = true
          · have HVP := Lib.hid hvp
            have HT : Hid (fmtP ⟨v0, v1, v2⟩ = ptext ⟨v0, v1, v2⟩) := Lib.hid (by unfold fmtP; rw [if_pos hvp])
            rw [hvp]
            clear hvp
            have p0 := B5.out.cellx 0 (v := .int .i64 v0) rfl
            have p1 := B5.out.cellx 1 (v := .int .i64 v1) rfl
            have p2 := B5.out.cellx 2 (v := .int .i64 v2) rfl
            go_wp2_with fail
            refine (FProc_any ⟨v0, v1, v2⟩ _ (LH.out.below Q5.out.below)).mono ?_
            rintro e w5 ⟨rfl, hb⟩
            have Q6 := Lib.hid (Q5.out.next hb)
            have B6 := Lib.hid (B5.out.below hb B5.out.lt)
            clear hb Q5 B5 p0 p1 p2
            rw [HT.out]
            have HU : Hid ((⟨(ptext ⟨v0, v1, v2⟩).toArray⟩ : ByteArray).data.toList = ptext ⟨v0, v1, v2⟩) := Lib.hid (by simp)
            generalize (⟨(ptext ⟨v0, v1, v2⟩).toArray⟩ : ByteArray) = t at *
            have p0 := B6.out.cellx 0 (v := .int .i64 v0) rfl
            have p1 := B6.out.cellx 1 (v := .int .i64 v1) rfl
            have p2 := B6.out.cellx 2 (v := .int .i64 v2) rfl
            obtain ⟨z0, z1, z2, fz0, fz1, fz2, c1, n0, n1, n2, fn0, fn1, fn2⟩ := Q6.out.facts
            by_cases hts : t = s
            · subst hts
              have HQ : Hid (parseS t.data.toList = some ⟨v0, v1, v2⟩) := Lib.hid (by rw [← HP.out]; simp only [List.map_cons, List.map_nil, progP, H0.out, H1.out, H2.out]; rw [if_pos ⟨HVP.out, HU.out.symm⟩])
              go_wp2_with fail
              (try simp only [Exit.inBlock, Exit.then])
              have hv := HV.out
              rw [HQ.out] at hv
              refine bodyPost_ret_by (v := v) ?_ rfl ⟨rfl, ?_⟩
              · rw [results_cell_tmp rfl, ← hv]
                unfold parseV
                go_simp
                rfl
              · first | exact Q6.out.below | exact ((Q6.out.below.setCell (Nat.le_refl _) _).setCell (Nat.le_refl _) _).setCell (Nat.le_refl _) _
            · have hne : (t.toList == s.toList) = false := by
                rw [ByteArray.toList_eq, ByteArray.toList_eq, beq_eq_false_iff_ne]
                intro h
                exact hts (by obtain ⟨⟨t⟩⟩ := t; obtain ⟨⟨s⟩⟩ := s; simp_all)
              have HQ : Hid (parseS s.data.toList = none) := Lib.hid (by
                rw [← HP.out]
                simp only [List.map_cons, List.map_nil, progP, H0.out, H1.out, H2.out]
                rw [if_neg]
                rintro ⟨_, h⟩
                exact hts (by rw [← HU.out] at h; obtain ⟨⟨t⟩⟩ := t; obtain ⟨⟨s⟩⟩ := s; simp_all))
              clear hts
              go_wp2_with fail
              (try simp only [Exit.inBlock, Exit.then])
              have hv := HV.out
              rw [HQ.out] at hv
              refine bodyPost_ret_by (v := v) ?_ rfl ⟨rfl, ?_⟩
              · rw [results_cell_tmp rfl, ← hv]
                unfold parseV
                go_simp
              · first | exact Q6.out.below | exact ((Q6.out.below.setCell (Nat.le_refl _) _).setCell (Nat.le_refl _) _).setCell (Nat.le_refl _) _
          · have hvf : vpB ⟨v0, v1, v2⟩ = false := by simpa using hvp
            have HQ : Hid (parseS s.data.toList = none) := Lib.hid (by rw [← HP.out]; simp only [List.map_cons, List.map_nil, progP, H0.out, H1.out, H2.out]; rw [if_neg (fun h => hvp h.1)])
            rw [hvf]
            clear hvp hvf
            obtain ⟨z0, z1, z2, fz0, fz1, fz2, c1, n0, n1, n2, fn0, fn1, fn2⟩ := Q5.out.facts
            go_wp2_with fail
            (try simp only [Exit.inBlock, Exit.then])
            have hv := HV.out
            rw [HQ.out] at hv
            refine bodyPost_ret_by (v := v) ?_ rfl ⟨rfl, ?_⟩
            · rw [results_cell_tmp rfl, ← hv]
              unfold parseV
              go_simp
            · first | exact Q5.out.below | exact ((Q5.out.below.setCell (Nat.le_refl _) _).setCell (Nat.le_refl _) _).setCell (Nat.le_refl _) _
  · have h3' : ((WB.length : Int) = 3) = False := by simp; omega
    go_wp2_with fail
    (try simp only [Exit.inBlock, Exit.then])
    have hn : parseS s.data.toList = none := by rw [← HP.out]; exact progP_not3 (by simpa using h3)
    have hv := HV.out
    rw [hn] at hv
    refine bodyPost_ret_by (v := v) ?_ rfl ⟨rfl, ?_⟩
    · rw [results_cell_tmp rfl, ← hv]
      unfold parseV
      go_simp
    · exact ((Below.refl _ _).alloc (Nat.le_refl _) _).alloc (by simp) _
end Go.Proofs.YtambinjjfapcgaaDoor
