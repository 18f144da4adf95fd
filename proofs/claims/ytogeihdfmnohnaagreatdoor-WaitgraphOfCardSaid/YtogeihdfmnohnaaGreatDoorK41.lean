/- Part 41 of 49 of the proof of waitgraphOf_holds (no condition). -/
import Derived.Test.YtogeihdfmnohnaaGreatDoorK35
import Derived.Deep.DeepCutAuto
set_option linter.unusedVariables false
set_option linter.unusedSimpArgs false
namespace Go.Proofs.YtogeihdfmnohnaaGreatDoor
open Go.RowKit
structure ClB (w v : World) (vs qc : Array Value) : Prop where
  bel : Below w.heap.size w v
  st : Blk v w.heap.size 25 vs
  nd : Blk v (w.heap.size + 1) 37 #[.int .i64 0, .slice none 0 0]
  qu : Blk v (w.heap.size + 1 + 1) 48 qc
theorem ClB.made (w : World) (vs qc : Array Value) : ClB w (((w.alloc (.cells vs 25)).alloc (.cells #[.int .i64 0, .slice none 0 0] 37)).alloc (.cells qc 48)) vs qc where
  bel := Below.al (Below.al (Below.al (Below.refl _ _) _) _) _
  st := ((Blk.new w _ _).alloc _).alloc _
  nd := by
    have := (Blk.new (w.alloc (.cells vs 25)) 37 #[.int .i64 0, .slice none 0 0]).alloc (.cells qc 48)
    rwa [size_alloc_1] at this
  qu := by
    have := Blk.new ((w.alloc (.cells vs 25)).alloc (.cells #[.int .i64 0, .slice none 0 0] 37)) 48 qc
    rwa [size_alloc_1, size_alloc_1] at this
theorem ClB.next {w v v' : World} {vs qc : Array Value} (h : ClB w v vs qc) (hb : Below v.heap.size v v') : ClB w v' vs qc := ⟨Below.tr h.bel hb, h.st.below hb h.st.lt, h.nd.below hb h.nd.lt, h.qu.below hb h.qu.lt⟩
theorem ClB.but {w v v' : World} {vs qc : Array Value} {g : Nat} (h : ClB w v vs qc) (hb : But g v v') (hg : w.heap.size + 1 + 1 < g) : ClB w v' vs qc :=
  ⟨h.bel.trans (hb.below (by omega) h.bel.size), (hb.block _ h.st.lt (by omega)).trans h.st, (hb.block _ h.nd.lt (by omega)).trans h.nd, (hb.block _ h.qu.lt (by omega)).trans h.qu⟩
set_option maxRecDepth 100000 in
set_option maxHeartbeats 16000000 in
theorem rclaim_any (s : Ws) (d : Nat) (A1 A2 A3 : Option Addr) (c1 c2 c3 B i n : Nat) (PR : List Pr) (q : Qu) (p : Pr) (w : World) (hw : WF w B d A1 A2 s) (hv : stateB s = true) (hP : RowsAt prE w (Lo w.heap.size) A3 PR) (hPl : PR.length ≤ 1000)
    (hi : i < s.queues.length) (hq : s.queues[i] = q) (hn : n < (ordL q).length) (hp : (ordL q)[n] = p) :
    Calls Tryz.prog 25 #[s.val A1 A2 c1 c2, .slice A3 PR.length c3, .int .i64 (i : Int), .int .i64 (n : Int)] w (RetNo w ⟨((claimS s PR i q n p).length : Int), claimS s PR i q n p⟩) := by
  have hsh := stateB_short hv
  have hsq : shortQ q := hq ▸ hsh.2.1 _ (List.getElem_mem hi)
  obtain ⟨F, hF⟩ : ∃ f : Nat, firstS s i = f := ⟨_, rfl⟩
  obtain ⟨am, ham⟩ : ∃ f, amOf q = f := ⟨_, rfl⟩
  obtain ⟨cm, hcm⟩ : ∃ f : Am → Bool, (fun b => compB q.res [am p, b]) = f := ⟨_, rfl⟩
  obtain ⟨L, hL⟩ : ∃ f, againstS q.res q.holds p (am p) = f := ⟨_, rfl⟩
  obtain ⟨V, hV⟩ : ∃ f, aheadV s PR i q (am p) = f := ⟨_, rfl⟩
  have HPL : Hid (∀ (n : Nat) W, Below w.heap.size w W → n ≤ 1000 → Calls Tryz.prog 28 #[s.val A1 A2 c1 c2, .int .i64 (i : Int), .int .i64 (n : Int)] W (Ret W (.int .i64 ((F + 2 * n : Nat) : Int)))) := Lib.hid (fun n W hb hn => by rw [← hF]; exact gplace_any s d A1 A2 c1 c2 B i n W (hw.below hb) hsh.1 hsh.2.2 hsh.2.1 (Nat.le_of_lt hi) hn)
  have HAT := Lib.hid (fun x y z W (hb : Below w.heap.size w W) => at_any A3 w.heap.size c3 PR x y z W (by unfold maxLen; omega) hb.size (hP.below hb (Nat.le_refl _) (Nat.le_refl _)))
  obtain ⟨gq, offq, B1, B2, B3, r1, r2, r3, hAq, hgq, d0, d1, d2, d3, d4, d5, d6, d7, hqf⟩ := qu_cells hw.r1 hw.hB hi hq
  have hgq2 : gq < w.heap.size := Nat.lt_of_lt_of_le hgq hw.hB
  have HOD := Lib.hid (fun W (hb : Below w.heap.size w W) => rQOrder_any q B1 B2 B3 r1 r2 r3 W B (hqf.below hb) hsq.2.1 hsq.2.2)
  have HWA : Hid (∀ x y z, ∃ b, ∀ W, Below w.heap.size w W → Calls Tryz.prog 68 #[q.val B1 B2 B3 r1 r2 r3, .agg #[.int .i64 x, .int .i64 y, .int .i64 z]] W (Ret W (.tuple #[.agg #[.int .i64 (am ⟨x, y, z⟩).mode, .int .i64 (am ⟨x, y, z⟩).units], .bool b]))) := Lib.hid (fun x y z => by
    obtain ⟨b, hb⟩ := wantV_eq q ⟨x, y, z⟩
    rw [ham] at hb
    exact ⟨b, fun W hb2 => by rw [← hb]; exact rQWanted_any q B1 B2 B3 r1 r2 r3 x y z W B (hqf.below hb2)⟩)
  have HAG : Hid (∀ W, Below w.heap.size w W → Calls Tryz.prog 69 #[q.res.val, .slice B1 q.holds.length r1, .agg #[.int .i64 p.site, .int .i64 p.inc, .int .i64 p.num], .agg #[.int .i64 (am p).mode, .int .i64 (am p).units]] W (RetRow prE 51 W L)) := Lib.hid (fun W hb => by
    rw [← hL]
    exact rAgainst_any q.res B1 B r1 q.holds p.site p.inc p.num (am p).mode (am p).units W (by have := hsq.1; unfold maxLen; omega) (Nat.le_trans hw.hB hb.size) (hqf.r1.below hb hw.hB (Nat.le_refl _)))
  have HCO : Hid (∀ A B m u W, B ≤ W.heap.size → RowsAt amE W (Lo B) A [am p, ⟨m, u⟩] → Calls Tryz.prog 70 #[q.res.val, .slice A 2 2] W (Ret W (.bool (cm ⟨m, u⟩)))) := Lib.hid (fun A B m u W hB hr => by
    rw [← hcm]
    exact rCompatible_any q.res A B 2 [am p, ⟨m, u⟩] W (by simp [maxLen]) hB hr)
  have hL8 : L.length ≤ 8 := by rw [← hL]; exact Nat.le_trans (againstS_len _ _ _ _) hsq.1
  have hol := ordL_len hsq
  have HV : Hid (∀ j p', V j p' = bif cm (am p') then ((F + 2 * j : Nat) : Int) + 1 else idxP p' 0 PR) := Lib.hid (fun j p' => by rw [← hV, ← hcm, ← hF, ← ham]; rfl)
  obtain ⟨R, hR⟩ : ∃ r, claimS s PR i q n p = r := ⟨_, rfl⟩
  have HFB : Hid (F ≤ 1000) := Lib.hid (by
    rw [← hF]
    unfold firstS
    have h1 := sumO_len (s.queues.take i) fun q hq => hsh.2.1 q (List.mem_of_mem_take hq)
    rw [List.length_take] at h1
    have h2 : (procsW s).length ≤ 8 := by unfold stateB at hv; simp only [Bool.and_eq_true, decide_eq_true_eq] at hv; exact hv.2
    have := hsh.1
    omega)
  have HCL : Hid (R = clB V 0 ((ordL q).take n) (clA PR L [])) := Lib.hid (by rw [← hR, ← hV, ← hL, ← ham]; rfl)
  rw [hR]
  obtain ⟨O, hO⟩ : ∃ o, ordL q = o := ⟨_, rfl⟩
  have hp2 : (ordL q)[n]? = some p := by rw [List.getElem?_eq_getElem hn, hp]
  clear hp
  rw [hO] at HOD HCL hol hn hp2
  clear hw hv hsh hsq hP hgq hq hqf hF ham hcm hL hV hR hO
  have hp : O[n] = p := (List.getElem?_eq_some_iff.1 hp2).2
  clear hp2
  obtain ⟨⟨m, u⟩, ha⟩ : ∃ t, am p = t := ⟨_, rfl⟩
  rw [ha] at HAG HCO
  obtain ⟨x, y, z⟩ := p
  obtain ⟨⟨qnm, kd, un, qh⟩, qhs, qcs, qws, qgen⟩ := q
  obtain ⟨qs, ns⟩ := s
  unfold Qu.val Rs.val at *
  unfold Ws.val at *
  dsimp only at d0 d1 d2 d3 d4 d5 d6 d7 HOD HWA HAG HCO HPL hi ⊢
  subst hAq
  have hii : (i : Int) < (qs.length : Int) := by omega
  have hni : (n : Int) < (O.length : Int) := by omega
  have HHA := Lib.hid ha
  have HHP := Lib.hid hp
  have HK3 : Hid (ClB w (((w.alloc (.cells #[.slice (some ⟨gq, offq, none⟩) qs.length c1, .slice A2 ns.length c2] 25)).alloc (.cells #[.int .i64 0, .slice none 0 0] 37)).alloc (.cells #[.string qnm, .int .i64 kd, .int .i64 un, .int .i64 qh, .slice B1 qhs.length r1, .slice B2 qcs.length r2, .slice B3 qws.length r3, .int .i64 qgen] 48)) #[.slice (some ⟨gq, offq, none⟩) qs.length c1, .slice A2 ns.length c2] #[.string qnm, .int .i64 kd, .int .i64 un, .int .i64 qh, .slice B1 qhs.length r1, .slice B2 qcs.length r2, .slice B3 qws.length r3, .int .i64 qgen]) := Lib.hid (ClB.made w _ _)
  have HKW : Hid (∀ b W, Sem.run Tryz.prog (callFunc 68 b) W = .ok (.enter 68 b) W) := Lib.hid (fun b W => by kernel_rfl)
  have HKG : Hid (∀ b W, Sem.run Tryz.prog (callFunc 69 b) W = .ok (.enter 69 b) W) := Lib.hid (fun b W => by kernel_rfl)
  have HKA : Hid (∀ b W, Sem.run Tryz.prog (callFunc 27 b) W = .ok (.enter 27 b) W) := Lib.hid (fun b W => by kernel_rfl)
  have HKP : Hid (∀ b W, Sem.run Tryz.prog (callFunc 28 b) W = .ok (.enter 28 b) W) := Lib.hid (fun b W => by kernel_rfl)
  have HKU : Hid (∀ b W, Sem.run Tryz.prog (callFunc 26 b) W = .ok (.enter 26 b) W) := Lib.hid (fun b W => by kernel_rfl)
  clear ha hp
  go_enter Tryz.func25, Tryz.ntmps25
  go_wp2_with fail
  generalize ((w.alloc (.cells #[.slice (some ⟨gq, offq, none⟩) qs.length c1, .slice A2 ns.length c2] 25)).alloc (.cells #[.int .i64 0, .slice none 0 0] 37)).alloc (.cells #[.string qnm, .int .i64 kd, .int .i64 un, .int .i64 qh, .slice B1 qhs.length r1, .slice B2 qcs.length r2, .slice B3 qws.length r3, .int .i64 qgen] 48) = w3 at *
  refine (HOD.out _ HK3.out.bel).mono ?_
  rintro e w4 ⟨v4, rfl, ho4, hb4⟩
  obtain ⟨AO, cO, rfl, hrO, hlO, hmO⟩ := ho4.form
  have HRO := Lib.hid hrO
  have HLO := Lib.hid (Nat.le_trans hlO hmO)
  have HK4 := Lib.hid (HK3.out.next hb4)
  clear d0 d1 d2 d3 d4 d5 d6 d7 hgq2 hrO ho4 hb4
  have e0 := HK4.out.qu.cellx 0 (v := .string qnm) rfl
  have e1 := HK4.out.qu.cellx 1 (v := .int .i64 kd) rfl
  have e2 := HK4.out.qu.cellx 2 (v := .int .i64 un) rfl
  have e3 := HK4.out.qu.cellx 3 (v := .int .i64 qh) rfl
  have e4 := HK4.out.qu.cellx 4 (v := .slice B1 qhs.length r1) rfl
  have e5 := HK4.out.qu.cellx 5 (v := .slice B2 qcs.length r2) rfl
  have e6 := HK4.out.qu.cellx 6 (v := .slice B3 qws.length r3) rfl
  have e7 := HK4.out.qu.cellx 7 (v := .int .i64 qgen) rfl
  have hz4 := HK4.out.qu.lt
  have hz4' := HK4.out.st.lt
  have HBW4 : Hid (Below w.heap.size w w4) := Lib.hid HK4.out.bel
  obtain ⟨gO, offO, rfl, hgO, f0, f1, f2⟩ := pr_cells HRO.out hn HHP.out
  have hgO2 : gO < w4.heap.size := hgO
  obtain ⟨bw, hwa⟩ := HWA.out x y z
  rw [HHA.out] at hwa
  have HW1 : Hid (∀ W, Below w4.heap.size w4 W → _) := Lib.hid (fun W hb => hwa W (Below.tr HBW4.out hb))
  clear hwa hgO
  go_upto_region 3 with fail
  go_cut [11] (fun v11 wx => ∃ g5, v11 = .pointer (some ⟨g5, 0, none⟩) ∧ w4.heap.size ≤ g5 ∧ Hid (Blk wx g5 53 #[.int .i64 m, .int .i64 u]) ∧ Hid (Below w4.heap.size w4 wx))
  case first =>
    go_wp2_with fail
    go_region_law (refine stepCall rfl 68 #[.tmp 27, .tmp 31] _ rfl #[.agg #[.string qnm, .int .i64 kd, .int .i64 un, .int .i64 qh, .slice B1 qhs.length r1, .slice B2 qcs.length r2, .slice B3 qws.length r3, .int .i64 qgen], .agg #[.int .i64 x, .int .i64 y, .int .i64 z]] rfl HKW.out (HW1.out _ (by (repeat (first | (with_reducible exact Below.refl _ _) | (with_reducible assumption) | (with_reducible refine below_drewN ?_ _) | (with_reducible refine Below.drew ?_) | (with_reducible refine Below.al ?_ _) | (with_reducible refine Below.st ?_ (by simp; try omega)) | (with_reducible refine Below.tr ?_ (Hid.out (by assumption))) | (with_reducible exact Hid.out (by assumption)))))) ?_; rintro e w5 ⟨rfl, hb5⟩; refine ⟨_, rfl, ?_⟩; have HB5 : Hid (Below w4.heap.size w4 w5) := Lib.hid (Below.tr (by (repeat (first | (with_reducible exact Below.refl _ _) | (with_reducible assumption) | (with_reducible refine below_drewN ?_ _) | (with_reducible refine Below.drew ?_) | (with_reducible refine Below.al ?_ _) | (with_reducible refine Below.st ?_ (by simp; try omega)) | (with_reducible refine Below.tr ?_ (Hid.out (by assumption))) | (with_reducible exact Hid.out (by assumption))))) hb5); obtain ⟨hc5, hf5⟩ := bcell HB5.out; have hs5 := HB5.out.size; (try (have hQ : Blk w5 w4.heap.size 53 #[.int .i64 0, .int .i64 0] := (Blk.new w4.drew 53 #[.int .i64 0, .int .i64 0]).below hb5 (by simp); have q0 := hQ.cellx 0 (v := .int .i64 0) rfl; have q1 := hQ.cellx 1 (v := .int .i64 0) rfl; have q2 := hQ.frozen 0; have q3 := hQ.frozen 1; have q4 := hQ.lt; have HQ := Lib.hid hQ; clear hQ)); clear hb5)
    all_goals (go_wp2_with fail; go_meet; first
      | exact ⟨_, rfl, hs5, Lib.hid (Blk.new _ _ _), Lib.hid (Below.al HB5.out _)⟩
      | exact ⟨_, rfl, Nat.le_refl _, Lib.hid ((HQ.out.set_ 0 (.int .i64 m)).set_ 1 (.int .i64 u)), Lib.hid (Below.st (Below.st HB5.out (by simp)) (by simp))⟩)
  case rest =>
  obtain ⟨g5, rfl, hg5, HM5, HB5⟩ := hcut
  obtain ⟨w5, hw5⟩ : ∃ v, v = wc := ⟨_, rfl⟩
  subst hw5
  clear e0 e1 e2 e3 e4 e5 e6 e7 hz4 hz4' f0 f1 f2 hgO2
  have HK5 := Lib.hid (HK4.out.next HB5.out)
  have HRO5 := Lib.hid (HRO.out.below (B'' := w4.heap.size) HB5.out (Nat.le_refl _) (Nat.le_refl _))
  have HK6 : Hid (ClB w (w5.alloc (.cells #[.int .i64 0, .slice none 0 0] 37)) #[.slice (some ⟨gq, offq, none⟩) qs.length c1, .slice A2 ns.length c2] #[.string qnm, .int .i64 kd, .int .i64 un, .int .i64 qh, .slice B1 qhs.length r1, .slice B2 qcs.length r2, .slice B3 qws.length r3, .int .i64 qgen]) := Lib.hid (HK5.out.next (Below.al (Below.refl _ _) _))
  have HM6 : Hid (Blk (w5.alloc (.cells #[.int .i64 0, .slice none 0 0] 37)) g5 53 #[.int .i64 m, .int .i64 u]) := Lib.hid (HM5.out.alloc _)
  have HX6 : Hid (Blk (w5.alloc (.cells #[.int .i64 0, .slice none 0 0] 37)) w5.heap.size 37 #[.int .i64 0, .slice none 0 0]) := Lib.hid (Blk.new _ _ _)
  have HB6 : Hid (Below w4.heap.size w4 (w5.alloc (.cells #[.int .i64 0, .slice none 0 0] 37))) := Lib.hid (Below.al HB5.out _)
  have HX0 : Hid (g5 < w5.heap.size) := Lib.hid HM5.out.lt
  go_upto_region 5 with fail
  generalize hw6 : w5.alloc (.cells #[.int .i64 0, .slice none 0 0] 37) = w6 at *
  obtain ⟨gx, hgx⟩ : ∃ g, g = w5.heap.size := ⟨_, rfl⟩
  rw [← hgx] at HX6 HX0 ⊢
  have HGX : Hid (w.heap.size + 1 + 1 < gx) := Lib.hid (by rw [hgx]; exact HK5.out.qu.lt)
  have HG4 : Hid (w4.heap.size ≤ gx) := Lib.hid (by rw [hgx]; exact HB5.out.size)
  have HG6 : Hid (w6.heap.size = gx + 1) := Lib.hid (by rw [hgx, ← hw6]; simp)
  clear hw6 hgx HB5 HK5 HM5
  have HRO6 := Lib.hid (HRO.out.below (B'' := w4.heap.size) HB6.out (Nat.le_refl _) (Nat.le_refl _))
  have HBW6 : Hid (Below w.heap.size w w6) := Lib.hid HK6.out.bel
  have HAG6 : Hid (∀ W, Below w6.heap.size w6 W → _) := Lib.hid (fun W hb => HAG.out W (Below.tr HBW6.out hb))
  have e0 := HK6.out.qu.cellx 0 (v := .string qnm) rfl
  have e1 := HK6.out.qu.cellx 1 (v := .int .i64 kd) rfl
  have e2 := HK6.out.qu.cellx 2 (v := .int .i64 un) rfl
  have e3 := HK6.out.qu.cellx 3 (v := .int .i64 qh) rfl
  have e4 := HK6.out.qu.cellx 4 (v := .slice B1 qhs.length r1) rfl
  have e5 := HK6.out.qu.cellx 5 (v := .slice B2 qcs.length r2) rfl
  have e6 := HK6.out.qu.cellx 6 (v := .slice B3 qws.length r3) rfl
  have e7 := HK6.out.qu.cellx 7 (v := .int .i64 qgen) rfl
  have a0 := HM6.out.cellx 0 (v := .int .i64 m) rfl
  have a1 := HM6.out.cellx 1 (v := .int .i64 u) rfl
  have hzq := HK6.out.qu.lt
  have hza := HM6.out.lt
  have hzx := HX6.out.lt
  obtain ⟨gO', offO', hAO, hgO, f0, f1, f2⟩ := pr_cells HRO6.out hn HHP.out
  injection hAO with hAO
  injection hAO with hA1 hA2
  subst hA1
  subst hA2
  have hgO2 : gO < w6.heap.size := Nat.lt_of_lt_of_le hgO HB6.out.size
  go_cut [14] (fun v14 wx => ∃ A7 c7, v14 = .slice A7 L.length c7 ∧ Hid (RowsAt prE wx (New w6.heap.size wx) A7 L) ∧ Hid (Below w6.heap.size w6 wx))
  case first =>
    go_wp2_with fail
    go_region_law (refine stepCall rfl 69 #[.tmp 36, .tmp 38, .tmp 42, .tmp 43] _ rfl #[.agg #[.string qnm, .int .i64 kd, .int .i64 un, .int .i64 qh], .slice B1 qhs.length r1, .agg #[.int .i64 x, .int .i64 y, .int .i64 z], .agg #[.int .i64 m, .int .i64 u]] rfl HKG.out (HAG6.out _ (by (repeat (first | (with_reducible exact Below.refl _ _) | (with_reducible assumption) | (with_reducible refine below_drewN ?_ _) | (with_reducible refine Below.drew ?_) | (with_reducible refine Below.al ?_ _) | (with_reducible refine Below.st ?_ (by simp; try omega)) | (with_reducible refine Below.tr ?_ (Hid.out (by assumption))) | (with_reducible exact Hid.out (by assumption)))))) ?_; rintro e w7 ⟨v7, rfl, ho7, hb7⟩; refine ⟨_, rfl, ?_⟩; obtain ⟨A7, c7, rfl, hr7, _⟩ := OwnRows.newP ho7; have HR7 := Lib.hid (New.older hr7 (show w6.heap.size ≤ _ from Nat.le_refl _)); have HB7 : Hid (Below w6.heap.size w6 w7) := Lib.hid (Below.tr (by (repeat (first | (with_reducible exact Below.refl _ _) | (with_reducible assumption) | (with_reducible refine below_drewN ?_ _) | (with_reducible refine Below.drew ?_) | (with_reducible refine Below.al ?_ _) | (with_reducible refine Below.st ?_ (by simp; try omega)) | (with_reducible refine Below.tr ?_ (Hid.out (by assumption))) | (with_reducible exact Hid.out (by assumption))))) hb7); clear hr7 ho7 hb7)
    all_goals (go_wp2_with fail; go_meet; exact ⟨_, _, rfl, HR7, HB7⟩)
  case rest =>
  obtain ⟨A7, c7, rfl, HR7, HB7⟩ := hcut
  obtain ⟨w7, hw7⟩ : ∃ v, v = wc := ⟨_, rfl⟩
  subst hw7
  clear e0 e1 e2 e3 e4 e5 e6 e7 a0 a1 hzq hza hzx f0 f1 f2 hgO2 hgO
  have HK7 := Lib.hid (HK6.out.next HB7.out)
  have HM7 := Lib.hid (HM6.out.below HB7.out HM6.out.lt)
  have HX7 := Lib.hid (HX6.out.below HB7.out HX6.out.lt)
  have HRO7 := Lib.hid (HRO6.out.below (B'' := w4.heap.size) HB7.out HB6.out.size (Nat.le_refl _))
  have hg6 := HG6.out
  go_wp2_with fail
  go_loopg [15] L.length (fun m0 v15 wq => ∃ (k : Nat) (nx : List Int) (AX : Option Addr) (cx : Nat), v15 = .int .i64 (k : Int) ∧ k ≤ L.length ∧ L.length ≤ k + m0 ∧ nx.length ≤ k ∧ Hid (R = clB V 0 (O.take n) (clA PR (L.drop k) nx)) ∧ Hid (Blk wq gx 37 #[.int .i64 0, .slice AX nx.length cx]) ∧ Hid (RowsAt intE wq (New (gx + 1) wq) AX nx) ∧ Hid (But gx w7 wq))
  case atStart => exact ⟨0, [], none, 0, rfl, Nat.zero_le _, by omega, by simp, HCL, HX7, Lib.hid (RowsAt.nil _ _ _ _), Lib.hid (But.refl _ _)⟩
  case round =>
    obtain ⟨k, nx, AX, cx, rfl, hk, hkm, hnl, HI, HX, HN, HB⟩ := hrel
    have hszr := HB.out.size
    have HK := Lib.hid (HK7.out.but HB.out HGX.out)
    have HM := Lib.hid (show Blk wr g5 53 #[.int .i64 m, .int .i64 u] from (HB.out.block _ HM7.out.lt (by have := HX0.out; omega)).trans HM7.out)
    have HBW : Hid (Below w.heap.size w wr) := Lib.hid HK.out.bel
    have hzx := HX.out.lt
    have m1' := HX.out.cellx 1 (v := .slice AX nx.length cx) rfl
    have fm1 := HX.out.frozen 1
    by_cases hlt : k < L.length
    · have hlti : (k : Int) < (L.length : Int) := by omega
      have hltb := decide_eq_true hlti
      have hltn := decide_eq_true hlt
      obtain ⟨⟨a, b, c⟩, hx⟩ : ∃ x, L[k] = x := ⟨_, rfl⟩
      obtain ⟨g1, off1, rfl, hg1, d0, d1, d2⟩ := pr_cells (S := Lo wr.heap.size) (HR7.out.same (fun b hb => HB.out.block b hb.2 (by have h1 := hb.1; omega)) (fun b hb => Nat.lt_of_lt_of_le hb.2 hszr)) hlt hx
      have hg12 : g1 < wr.heap.size := hg1
      have HE2 : Hid (R = clB V 0 (O.take n) (clA PR (L.drop (k + 1)) (addI nx (idxP ⟨a, b, c⟩ 0 PR)))) := Lib.hid (by have h := HI.out; rw [drop_step hlt hx, clA_cons] at h; exact h)
      have HATr := Lib.hid (fun W (hb : Below wr.heap.size wr W) => HAT.out a b c W (Below.tr HBW.out hb))
      have HADL := Lib.hid (addI_len nx (idxP ⟨a, b, c⟩ 0 PR))
      generalize idxP ⟨a, b, c⟩ 0 PR = ix at *
      have HPU := Lib.hid (fun W (hb : Below wr.heap.size wr W) => put_any AX cx (gx + 1) nx ix W (by omega) (Nat.le_trans hzx hb.size) (New.grow hb (Nat.le_refl _) HN.out))
      generalize addI nx ix = nx2 at *
      clear hx hg1
      go_wp2_with fail
      go_region_law (first
        | (refine stepCall rfl 27 #[.tmp 53, .tmp 57] _ rfl #[.slice A3 PR.length c3, .agg #[.int .i64 a, .int .i64 b, .int .i64 c]] rfl HKA.out (HATr.out _ (by (repeat (first | (with_reducible exact Below.refl _ _) | (with_reducible assumption) | (with_reducible refine below_drewN ?_ _) | (with_reducible refine Below.drew ?_) | (with_reducible refine Below.al ?_ _) | (with_reducible refine Below.st ?_ (by simp; try omega)) | (with_reducible refine Below.tr ?_ (Hid.out (by assumption))) | (with_reducible exact Hid.out (by assumption)))))) ?_; rintro e w12 ⟨rfl, hb12⟩; refine ⟨_, rfl, ?_⟩; have HB12 : Hid (Below wr.heap.size wr w12) := Lib.hid (Below.tr (by (repeat (first | (with_reducible exact Below.refl _ _) | (with_reducible assumption) | (with_reducible refine below_drewN ?_ _) | (with_reducible refine Below.drew ?_) | (with_reducible refine Below.al ?_ _) | (with_reducible refine Below.st ?_ (by simp; try omega)) | (with_reducible refine Below.tr ?_ (Hid.out (by assumption))) | (with_reducible exact Hid.out (by assumption))))) hb12); obtain ⟨hc12, hf12⟩ := bcell HB12.out; have hs12 := HB12.out.size; clear hb12)
        | (refine stepCall rfl 26 #[.tmp 52, .tmp 58] _ rfl #[.slice AX nx.length cx, .int .i64 ix] rfl HKU.out (HPU.out _ HB12.out) ?_; rintro e w14 ⟨v14, rfl, hrow14, hb14⟩; refine ⟨_, rfl, ?_⟩; obtain ⟨A14, c14, rfl, hr14⟩ := hrow14; have HR14 := Lib.hid hr14; have HB14 : Hid (Below wr.heap.size wr w14) := Lib.hid (Below.tr HB12.out hb14); have hm14 := (HB14.out.cell (p := ⟨gx, 1, none⟩) hzx).trans m1'; have hmf14 := (HB14.out.frozen (p := ⟨gx, 1, none⟩) hzx).trans fm1; have hs14 := HB14.out.size; clear hb14 hr14 hc12 hf12))
      all_goals (
        go_wp2_with fail
        have HX14 := Lib.hid (HX.out.below HB14.out HX.out.lt)
        go_roundg (gk - 1)
        case measure => omega
        case rel => exact ⟨k + 1, nx2, A14, c14, by go_num, by omega, by omega, by have := HADL.out; omega, HE2, Lib.hid (HX14.out.set_ 1 (.slice A14 nx2.length c14)), Lib.hid (HR14.out.same (fun b hb => Below.heap_setCell _ _ _ _ (by have h1 := hb.1; show b ≠ gx; omega)) (fun b hb => ⟨hb.1, by have h2 := hb.2; simpa using h2⟩)), Lib.hid (But.st (HB.out.grow HB14.out) (.inl rfl))⟩)
    · have hlti : ¬ (k : Int) < (L.length : Int) := by omega
      have hltb := decide_eq_false hlti
      have hltn := decide_eq_false hlt
      have HQ0 : Hid (R = clB V 0 ((O.take n).drop 0) nx) := Lib.hid (by have h := HI.out; rw [drop_end hlt] at h; exact h)
      have hn8 : nx.length ≤ 8 := by omega
      obtain ⟨w8, hw8⟩ : ∃ v, v = wr := ⟨_, rfl⟩
      subst hw8
      clear HI hlti hlt hk hkm hnl
      go_wp2_with fail
      have HK8 := HK
      have HM8 := HM
      have HX8 := HX
      have HN8 := HN
      have HRO8 := Lib.hid (HRO7.out.but (B' := w4.heap.size) HB.out (Nat.le_trans HB6.out.size HB7.out.size) HG4.out (Nat.le_refl _))
      have HS8 : Hid (w4.heap.size ≤ w8.heap.size) := Lib.hid (Nat.le_trans HB6.out.size (Nat.le_trans HB7.out.size hszr))
      clear HK HM HX HN HB HBW hzx m1' fm1 hszr
      go_loopg [16] n (fun m0 v16 wq => ∃ (k : Nat) (nx : List Int) (AX : Option Addr) (cx : Nat), v16 = .int .i64 (k : Int) ∧ k ≤ n ∧ n ≤ k + m0 ∧ nx.length ≤ 8 + k ∧ Hid (R = clB V k ((O.take n).drop k) nx) ∧ Hid (Blk wq gx 37 #[.int .i64 0, .slice AX nx.length cx]) ∧ Hid (RowsAt intE wq (New (gx + 1) wq) AX nx) ∧ Hid (But gx w8 wq))
      case atStart => exact ⟨0, nx, AX, cx, rfl, Nat.zero_le _, by omega, by omega, HQ0, HX8, HN8, Lib.hid (But.refl _ _)⟩
      case round =>
        clear HQ0 HN8 hn8
        obtain ⟨k, nx, AX, cx, rfl, hk, hkm, hnl, HI, HX, HN, HB⟩ := hrel
        have hszr := HB.out.size
        have HK := Lib.hid (HK8.out.but HB.out HGX.out)
        have HM := Lib.hid (show Blk wr g5 53 #[.int .i64 m, .int .i64 u] from (HB.out.block _ HM8.out.lt (by have := HX0.out; omega)).trans HM8.out)
        have HBW : Hid (Below w.heap.size w wr) := Lib.hid HK.out.bel
        by_cases hlt : k < n
        · have hlti : (k : Int) < (n : Int) := by omega
          have hltb := decide_eq_true hlti
          have hltn := decide_eq_true hlt
          have hkO : k < O.length := by omega
          have hkOi : (k : Int) < (O.length : Int) := by omega
          obtain ⟨⟨a, b, c⟩, hx⟩ : ∃ x, O[k] = x := ⟨_, rfl⟩
          have hkt : k < (O.take n).length := by rw [List.length_take]; omega
          have hxt : (O.take n)[k] = ⟨a, b, c⟩ := by rw [List.getElem_take, hx]
          have HROr := Lib.hid (HRO8.out.but (B' := w4.heap.size) HB.out HS8.out HG4.out (Nat.le_refl _))
          obtain ⟨gO', offO', hAO, hg1, d0, d1, d2⟩ := pr_cells HROr.out hkO hx
          injection hAO with hAO
          injection hAO with hA1 hA2
          subst hA1
          subst hA2
          have hg12 : gO < wr.heap.size := Nat.lt_of_lt_of_le hg1 (Nat.le_trans HS8.out hszr)
          have HG12 : Hid (gO < w4.heap.size) := Lib.hid hg1
          obtain ⟨bw2, hwa⟩ := HWA.out a b c
          obtain ⟨⟨m2, u2⟩, ha2⟩ : ∃ t, am ⟨a, b, c⟩ = t := ⟨_, rfl⟩
          rw [ha2] at hwa
          have HVk : Hid (V k ⟨a, b, c⟩ = bif cm ⟨m2, u2⟩ then ((F + 2 * k : Nat) : Int) + 1 else idxP ⟨a, b, c⟩ 0 PR) := Lib.hid (by rw [HV.out, ha2])
          have HE : Hid (R = clB V (k + 1) ((O.take n).drop (k + 1)) (addI nx (V k ⟨a, b, c⟩))) := Lib.hid (by have h := HI.out; rw [drop_step hkt hxt, clB_cons] at h; exact h)
          have HXX := Lib.hid hx
          have HW2 : Hid (∀ W, Below wr.heap.size wr W → _) := Lib.hid (fun W hb => hwa W (Below.tr HBW.out hb))
          clear hwa ha2 hx hxt hkt hg1
          have e0 := HK.out.qu.cellx 0 (v := .string qnm) rfl
          have e1 := HK.out.qu.cellx 1 (v := .int .i64 kd) rfl
          have e2 := HK.out.qu.cellx 2 (v := .int .i64 un) rfl
          have e3 := HK.out.qu.cellx 3 (v := .int .i64 qh) rfl
          have e4 := HK.out.qu.cellx 4 (v := .slice B1 qhs.length r1) rfl
          have e5 := HK.out.qu.cellx 5 (v := .slice B2 qcs.length r2) rfl
          have e6 := HK.out.qu.cellx 6 (v := .slice B3 qws.length r3) rfl
          have e7 := HK.out.qu.cellx 7 (v := .int .i64 qgen) rfl
          have hzq := HK.out.qu.lt
          go_upto_region 13 with fail
          go_cut [17] (fun v17 wx => ∃ g6, v17 = .pointer (some ⟨g6, 0, none⟩) ∧ wr.heap.size ≤ g6 ∧ Hid (Blk wx g6 53 #[.int .i64 m2, .int .i64 u2]) ∧ Hid (Below wr.heap.size wr wx))
          case first =>
            go_wp2_with fail
            go_region_law (refine stepCall rfl 68 #[.tmp 67, .tmp 71] _ rfl #[.agg #[.string qnm, .int .i64 kd, .int .i64 un, .int .i64 qh, .slice B1 qhs.length r1, .slice B2 qcs.length r2, .slice B3 qws.length r3, .int .i64 qgen], .agg #[.int .i64 a, .int .i64 b, .int .i64 c]] rfl HKW.out (HW2.out _ (by (repeat (first | (with_reducible exact Below.refl _ _) | (with_reducible assumption) | (with_reducible refine below_drewN ?_ _) | (with_reducible refine Below.drew ?_) | (with_reducible refine Below.al ?_ _) | (with_reducible refine Below.st ?_ (by simp; try omega)) | (with_reducible refine Below.tr ?_ (Hid.out (by assumption))) | (with_reducible exact Hid.out (by assumption)))))) ?_; rintro e w5' ⟨rfl, hb5⟩; refine ⟨_, rfl, ?_⟩; have HB5 : Hid (Below wr.heap.size wr w5') := Lib.hid (Below.tr (by (repeat (first | (with_reducible exact Below.refl _ _) | (with_reducible assumption) | (with_reducible refine below_drewN ?_ _) | (with_reducible refine Below.drew ?_) | (with_reducible refine Below.al ?_ _) | (with_reducible refine Below.st ?_ (by simp; try omega)) | (with_reducible refine Below.tr ?_ (Hid.out (by assumption))) | (with_reducible exact Hid.out (by assumption))))) hb5); obtain ⟨hc5, hf5⟩ := bcell HB5.out; have hs5 := HB5.out.size; (try (have hQ : Blk w5' wr.heap.size 53 #[.int .i64 0, .int .i64 0] := (Blk.new wr.drew 53 #[.int .i64 0, .int .i64 0]).below hb5 (by simp); have q0 := hQ.cellx 0 (v := .int .i64 0) rfl; have q1 := hQ.cellx 1 (v := .int .i64 0) rfl; have q2 := hQ.frozen 0; have q3 := hQ.frozen 1; have q4 := hQ.lt; have HQ := Lib.hid hQ; clear hQ)); clear hb5)
            all_goals (go_wp2_with fail; go_meet; first
              | exact ⟨_, rfl, hs5, Lib.hid (Blk.new _ _ _), Lib.hid (Below.al HB5.out _)⟩
              | exact ⟨_, rfl, Nat.le_refl _, Lib.hid ((HQ.out.set_ 0 (.int .i64 m2)).set_ 1 (.int .i64 u2)), Lib.hid (Below.st (Below.st HB5.out (by simp)) (by simp))⟩)
          case rest =>
          obtain ⟨g6, rfl, hg6', HM10, HB10⟩ := hcut
          obtain ⟨w10, hw10⟩ : ∃ v, v = wc := ⟨_, rfl⟩
          subst hw10
          clear e0 e1 e2 e3 e4 e5 e6 e7 hzq d0 d1 d2 hg12
          have HK10 := Lib.hid (HK.out.next HB10.out)
          have HMa := Lib.hid (HM.out.below HB10.out HM.out.lt)
          have HX10 := Lib.hid (HX.out.below HB10.out HX.out.lt)
          have e0 := HK10.out.qu.cellx 0 (v := .string qnm) rfl
          have e1 := HK10.out.qu.cellx 1 (v := .int .i64 kd) rfl
          have e2 := HK10.out.qu.cellx 2 (v := .int .i64 un) rfl
          have e3 := HK10.out.qu.cellx 3 (v := .int .i64 qh) rfl
          have a0 := HMa.out.cellx 0 (v := .int .i64 m) rfl
          have a1 := HMa.out.cellx 1 (v := .int .i64 u) rfl
          have q0 := HM10.out.cellx 0 (v := .int .i64 m2) rfl
          have q1 := HM10.out.cellx 1 (v := .int .i64 u2) rfl
          have hzq := HK10.out.qu.lt
          have hza := HMa.out.lt
          have hzb := HM10.out.lt
          have HTW := Lib.hid (am_two w10 m u m2 u2)
          go_wp2_with fail
          refine (HCO.out (some ⟨w10.heap.size, 0, none⟩) (w10.heap.size + 1) m2 u2 _ (by simp) HTW.out).mono ?_
          rintro e w11 ⟨rfl, hb11⟩
          have HB11 : Hid (Below w10.heap.size w10 w11) := Lib.hid (Below.tr (Below.al (Below.refl _ _) _) hb11)
          have HBr11 : Hid (Below wr.heap.size wr w11) := Lib.hid (Below.tr HB10.out HB11.out)
          clear hb11 e0 e1 e2 e3 a0 a1 q0 q1 hzq hza hzb
          have HX11 := Lib.hid (HX10.out.below HB11.out HX10.out.lt)
          have HN11 := Lib.hid (New.grow HBr11.out (Nat.le_refl _) HN.out)
          have HK11 := Lib.hid (HK10.out.next HB11.out)
          have HBW11 : Hid (Below w.heap.size w w11) := Lib.hid HK11.out.bel
          have HRO11 := Lib.hid (HROr.out.below (B'' := w4.heap.size) HBr11.out (Nat.le_trans HS8.out hszr) (Nat.le_refl _))
          have hzx := HX11.out.lt
          have m1' := HX11.out.cellx 1 (v := .slice AX nx.length cx) rfl
          have fm1 := HX11.out.frozen 1
          have HADL := Lib.hid (addI_len nx (V k ⟨a, b, c⟩))
          cases hcm : cm ⟨m2, u2⟩ with
          | true =>
            have hVk : V k ⟨a, b, c⟩ = ((F + 2 * k : Nat) : Int) + 1 := by have h := HVk.out; rw [hcm] at h; exact h
            rw [hVk] at HE HADL
            have HPLr := Lib.hid (fun W (hb : Below w11.heap.size w11 W) => HPL.out k W (Below.tr HBW11.out hb) (by omega))
            have hfb := HFB.out
            have hwr : IntKind.i64.wrap ((F : Int) + 2 * (k : Int) + 1) = ((F + 2 * k : Nat) : Int) + 1 := by
              rw [wrap_small _ (by omega) (by omega)]
              omega
            have HPU := Lib.hid (fun W (hb : Below w11.heap.size w11 W) => put_any AX cx (gx + 1) nx (IntKind.i64.wrap ((F : Int) + 2 * (k : Int) + 1)) W (by omega) (Nat.le_trans hzx hb.size) (New.grow hb (Nat.le_refl _) HN11.out))
            have s0 := HK11.out.st.cellx 0 (v := .slice (some ⟨gq, offq, none⟩) qs.length c1) rfl
            have s1 := HK11.out.st.cellx 1 (v := .slice A2 ns.length c2) rfl
            have hzs := HK11.out.st.lt
            have hnx : addI nx (IntKind.i64.wrap ((F : Int) + 2 * (k : Int) + 1)) = addI nx (((F + 2 * k : Nat) : Int) + 1) := by rw [hwr]
            rw [hnx] at HPU
            generalize addI nx (((F + 2 * k : Nat) : Int) + 1) = nx2 at *
            have HE2 := HE
            clear hVk hcm hwr hnx
            go_wp2_with fail
            go_region_law (first
              | (refine stepCall rfl 28 #[.tmp 83, .tmp 84, .tmp 85] _ rfl #[.agg #[.slice (some ⟨gq, offq, none⟩) qs.length c1, .slice A2 ns.length c2], .int .i64 (i : Int), .int .i64 (k : Int)] rfl HKP.out (HPLr.out _ (by (repeat (first | (with_reducible exact Below.refl _ _) | (with_reducible assumption) | (with_reducible refine below_drewN ?_ _) | (with_reducible refine Below.drew ?_) | (with_reducible refine Below.al ?_ _) | (with_reducible refine Below.st ?_ (by simp; try omega)) | (with_reducible refine Below.tr ?_ (Hid.out (by assumption))) | (with_reducible exact Hid.out (by assumption)))))) ?_; rintro e w12 ⟨rfl, hb12⟩; refine ⟨_, rfl, ?_⟩; have HB12 : Hid (Below w11.heap.size w11 w12) := Lib.hid (Below.tr (by (repeat (first | (with_reducible exact Below.refl _ _) | (with_reducible assumption) | (with_reducible refine below_drewN ?_ _) | (with_reducible refine Below.drew ?_) | (with_reducible refine Below.al ?_ _) | (with_reducible refine Below.st ?_ (by simp; try omega)) | (with_reducible refine Below.tr ?_ (Hid.out (by assumption))) | (with_reducible exact Hid.out (by assumption))))) hb12); obtain ⟨hc12, hf12⟩ := bcell HB12.out; have hs12 := HB12.out.size; clear hb12)
              | (refine stepCall rfl 26 #[.tmp 82, .tmp 87] _ rfl #[.slice AX nx.length cx, .int .i64 (IntKind.i64.wrap ((F : Int) + 2 * (k : Int) + 1))] rfl HKU.out (HPU.out _ HB12.out) ?_; rintro e w14 ⟨v14, rfl, hrow14, hb14⟩; refine ⟨_, rfl, ?_⟩; obtain ⟨A14, c14, rfl, hr14⟩ := hrow14; have HR14 := Lib.hid hr14; have HB14 : Hid (Below w11.heap.size w11 w14) := Lib.hid (Below.tr HB12.out hb14); have hm14 := (HB14.out.cell (p := ⟨gx, 1, none⟩) hzx).trans m1'; have hmf14 := (HB14.out.frozen (p := ⟨gx, 1, none⟩) hzx).trans fm1; have hs14 := HB14.out.size; clear hb14 hr14 hc12 hf12))
            all_goals (
              go_wp2_with fail
              have HX14 := Lib.hid (HX11.out.below HB14.out HX11.out.lt)
              go_roundg (gk - 1)
              case measure => omega
              case rel => exact ⟨k + 1, nx2, A14, c14, by go_num, by omega, by omega, by have := HADL.out; omega, HE2, Lib.hid (HX14.out.set_ 1 (.slice A14 nx2.length c14)), Lib.hid (HR14.out.same (fun b hb => Below.heap_setCell _ _ _ _ (by have h1 := hb.1; show b ≠ gx; omega)) (fun b hb => ⟨hb.1, by have h2 := hb.2; simpa using h2⟩)), Lib.hid (But.st (HB.out.grow (HB10.out.trans (Below.mono (Below.trans (HB11.out) (HB14.out.mono HB11.out.size)) HB10.out.size))) (.inl rfl))⟩)
          | false =>
            have hVk : V k ⟨a, b, c⟩ = idxP ⟨a, b, c⟩ 0 PR := by have h := HVk.out; rw [hcm] at h; exact h
            rw [hVk] at HE HADL
            have HATr := Lib.hid (fun W (hb : Below w11.heap.size w11 W) => HAT.out a b c W (Below.tr HBW11.out hb))
            generalize idxP ⟨a, b, c⟩ 0 PR = ix at *
            have HPU := Lib.hid (fun W (hb : Below w11.heap.size w11 W) => put_any AX cx (gx + 1) nx ix W (by omega) (Nat.le_trans hzx hb.size) (New.grow hb (Nat.le_refl _) HN11.out))
            obtain ⟨gO', offO', hAO, hg1, d0, d1, d2⟩ := pr_cells HRO11.out hkO HXX.out
            injection hAO with hAO
            injection hAO with hA1 hA2
            subst hA1
            subst hA2
            have hg12 : gO < w11.heap.size := Nat.lt_of_lt_of_le hg1 (Nat.le_trans (Nat.le_trans HS8.out hszr) HBr11.out.size)
            generalize addI nx ix = nx2 at *
            have HE2 := HE
            clear hVk hcm hg1
            go_wp2_with fail
            go_region_law (first
              | (refine stepCall rfl 27 #[.tmp 92, .tmp 96] _ rfl #[.slice A3 PR.length c3, .agg #[.int .i64 a, .int .i64 b, .int .i64 c]] rfl HKA.out (HATr.out _ (by (repeat (first | (with_reducible exact Below.refl _ _) | (with_reducible assumption) | (with_reducible refine below_drewN ?_ _) | (with_reducible refine Below.drew ?_) | (with_reducible refine Below.al ?_ _) | (with_reducible refine Below.st ?_ (by simp; try omega)) | (with_reducible refine Below.tr ?_ (Hid.out (by assumption))) | (with_reducible exact Hid.out (by assumption)))))) ?_; rintro e w12 ⟨rfl, hb12⟩; refine ⟨_, rfl, ?_⟩; have HB12 : Hid (Below w11.heap.size w11 w12) := Lib.hid (Below.tr (by (repeat (first | (with_reducible exact Below.refl _ _) | (with_reducible assumption) | (with_reducible refine below_drewN ?_ _) | (with_reducible refine Below.drew ?_) | (with_reducible refine Below.al ?_ _) | (with_reducible refine Below.st ?_ (by simp; try omega)) | (with_reducible refine Below.tr ?_ (Hid.out (by assumption))) | (with_reducible exact Hid.out (by assumption))))) hb12); obtain ⟨hc12, hf12⟩ := bcell HB12.out; have hs12 := HB12.out.size; clear hb12)
              | (refine stepCall rfl 26 #[.tmp 91, .tmp 97] _ rfl #[.slice AX nx.length cx, .int .i64 ix] rfl HKU.out (HPU.out _ HB12.out) ?_; rintro e w14 ⟨v14, rfl, hrow14, hb14⟩; refine ⟨_, rfl, ?_⟩; obtain ⟨A14, c14, rfl, hr14⟩ := hrow14; have HR14 := Lib.hid hr14; have HB14 : Hid (Below w11.heap.size w11 w14) := Lib.hid (Below.tr HB12.out hb14); have hm14 := (HB14.out.cell (p := ⟨gx, 1, none⟩) hzx).trans m1'; have hmf14 := (HB14.out.frozen (p := ⟨gx, 1, none⟩) hzx).trans fm1; have hs14 := HB14.out.size; clear hb14 hr14 hc12 hf12))
            all_goals (
              go_wp2_with fail
              have HX14 := Lib.hid (HX11.out.below HB14.out HX11.out.lt)
              go_roundg (gk - 1)
              case measure => omega
              case rel => exact ⟨k + 1, nx2, A14, c14, by go_num, by omega, by omega, by have := HADL.out; omega, HE2, Lib.hid (HX14.out.set_ 1 (.slice A14 nx2.length c14)), Lib.hid (HR14.out.same (fun b hb => Below.heap_setCell _ _ _ _ (by have h1 := hb.1; show b ≠ gx; omega)) (fun b hb => ⟨hb.1, by have h2 := hb.2; simpa using h2⟩)), Lib.hid (But.st (HB.out.grow (HB10.out.trans (Below.mono (Below.trans (HB11.out) (HB14.out.mono HB11.out.size)) HB10.out.size))) (.inl rfl))⟩)
        · have hlti : ¬ (k : Int) < (n : Int) := by omega
          have hltb := decide_eq_false hlti
          have hltn := decide_eq_false hlt
          have HE : Hid (R = nx) := Lib.hid (by have h := HI.out; rw [drop_end (by rw [List.length_take]; omega)] at h; exact h)
          have x0 := HX.out.cellx 0 (v := .int .i64 0) rfl
          have x1 := HX.out.cellx 1 (v := .slice AX nx.length cx) rfl
          have fx0 := HX.out.frozen 0
          have hzx := HX.out.lt
          have HXS : Hid (Blk (wr.setCell ⟨gx, 0, none⟩ (.int .i64 (nx.length : Int))) gx 37 #[.int .i64 (nx.length : Int), .slice AX nx.length cx]) := Lib.hid (HX.out.set_ 0 (.int .i64 (nx.length : Int)))
          have HZS : Hid (Blk (wr.setCell ⟨gx, 0, none⟩ (.int .i64 (nx.length : Int))) (w.heap.size + 1) 37 #[.int .i64 0, .slice none 0 0]) := Lib.hid (HK.out.nd.far (by have := HGX.out; show w.heap.size + 1 ≠ gx; omega) _)
          go_wp2_with (first
            | (refine loadBox rfl 37 (.tmp 13) rfl gx 0 37 #[.int .i64 (nx.length : Int), .slice AX nx.length cx] [.int .i64 (nx.length : Int), .slice AX nx.length cx] _ rfl HXS.out (by simp) Tryz.underlying37 rfl sizeNo ?_)
            | (refine storeBox rfl 37 (.tmp 8) (.tmp 104) rfl (w.heap.size + 1) 0 37 #[.int .i64 0, .slice none 0 0] #[.int .i64 (nx.length : Int), .slice AX nx.length cx] #[.int .i64 (nx.length : Int), .slice AX nx.length cx] rfl rfl HZS.out sizeNo (by simp) (by simp [Value.oneCell']) rfl ?_; intro w12 hk12 hb12; have HF12 := Lib.hid hk12; have HB12 := Lib.hid hb12; clear hk12 hb12))
          rw [HE.out]
          have hgx := HGX.out
          exact bodyPost_ret_by (v := .agg #[.int .i64 (nx.length : Int), .slice AX nx.length cx]) (results_cell_row rfl _ _ (w.heap.size + 1) 37 #[.int .i64 (nx.length : Int), .slice AX nx.length cx] (0, 0) _ rfl HF12.out Tryz.underlying37 rfl sizeNo) rfl ⟨AX, cx, rfl, HN.out.same (fun b hb => (HB12.out.block b (by simpa using hb.2) (by have h1 := hb.1; omega)).trans (Below.heap_setCell _ _ _ _ (by have h1 := hb.1; show b ≠ gx; omega))) (fun b hb => ⟨by have h1 := hb.1; omega, Nat.lt_of_lt_of_le hb.2 (by have := HB12.out.size; simpa using this)⟩), (Below.st HBW.out (by show w.heap.size ≤ gx; omega)).trans (HB12.out.below (by omega) (by have := HBW.out.size; simpa using this))⟩
end Go.Proofs.YtogeihdfmnohnaaGreatDoor
