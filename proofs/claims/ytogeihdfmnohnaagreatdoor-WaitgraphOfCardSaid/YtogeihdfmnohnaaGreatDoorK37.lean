/- Part 37 of 49 of the proof of waitgraphOf_holds (no condition). -/
import Derived.Test.YtogeihdfmnohnaaGreatDoorK36
set_option linter.unusedVariables false
set_option linter.unusedSimpArgs false
namespace Go.Proofs.YtogeihdfmnohnaaGreatDoor
open Go.RowKit
set_option maxRecDepth 100000 in
set_option maxHeartbeats 16000000 in
theorem queueP_any (s : Ws) (d : Nat) (A1 A2 A3 A4 : Option Addr) (c1 c2 c3 c4 B gb i : Nat) (cl : Int) (v5 : Value) (fs : List Int) (PR : List Pr) (q : Qu) (L : List No) (w0 w : World) (hT : Tog w0) (hw : WF w0 B d A1 A2 s) (hv : stateB s = true)
    (h0 : Below w0.heap.size w0 w) (hgb : w0.heap.size ≤ gb) (hP : RowsAt prE w (Lo gb) A3 PR) (hPl : PR.length ≤ 1000) (hL : L.length ≤ 1000) (hi : i < s.queues.length) (hq : s.queues[i] = q)
    (hb : Bd w gb (fun v => #[.slice A1 s.queues.length c1, .slice A2 s.needs.length c2, .slice A3 PR.length c3, .slice A4 fs.length c4, .int .i64 cl, v]) fs A4 v5 L) (hfl : fs.length = s.queues.length) (hfv : ∀ j (h : j < fs.length), fs[j] = ((firstS s j : Nat) : Int)) :
    Calls Tryz.prog 19 #[.pointer (some ⟨gb, 0, none⟩), .int .i64 (i : Int)] w (fun e w' => e = .returned (.tuple #[]) ∧ ∃ v6, PS (fun b => b = gb) w w' v5 v6 ∧ Bd w' gb (fun v => #[.slice A1 s.queues.length c1, .slice A2 s.needs.length c2, .slice A3 PR.length c3, .slice A4 fs.length c4, .int .i64 cl, v]) fs A4 v6 (L ++ clNodes s PR i q 0 (ordL q))) := by
  have hsh := stateB_short hv
  have hsq : shortQ q := hq ▸ hsh.2.1 _ (List.getElem_mem hi)
  obtain ⟨F, hF⟩ : ∃ f : Nat, firstS s i = f := ⟨_, rfl⟩
  have HFB : Hid (F ≤ 1000) := Lib.hid (by
    rw [← hF]
    unfold firstS
    have h1 := sumO_len (s.queues.take i) fun q hq => hsh.2.1 q (List.mem_of_mem_take hq)
    rw [List.length_take] at h1
    have h2 : (procsW s).length ≤ 8 := by unfold stateB at hv; simp only [Bool.and_eq_true, decide_eq_true_eq] at hv; exact hv.2
    have := hsh.1
    omega)
  obtain ⟨am, ham⟩ : ∃ f, amOf q = f := ⟨_, rfl⟩
  have hgbw : gb < w.heap.size := hb.blk.lt
  have h0g : ∀ {W : World}, Below gb w W → Below w0.heap.size w0 W := fun hb => h0.trans (hb.mono hgb)
  have HIX : Hid (∀ x y z W, Below gb w W → Calls Tryz.prog 51 #[.slice A3 PR.length c3, .agg #[.int .i64 x, .int .i64 y, .int .i64 z]] W (Ret W (.int .i64 (idxP ⟨x, y, z⟩ 0 PR)))) := Lib.hid (fun x y z W hb2 => IndexProc_any A3 gb c3 PR x y z W (by unfold maxLen; omega) (Nat.le_trans (Nat.le_of_lt hgbw) hb2.size) (hP.below hb2 (Nat.le_refl _) (Nat.le_refl _)))
  obtain ⟨gq, offq, B1, B2, B3, r1, r2, r3, hAq, hgq, d0, d1, d2, d3, d4, d5, d6, d7, hqf0⟩ := qu_cells (hw.r1.below (B'' := B) h0 hw.hB (Nat.le_refl _)) (Nat.le_trans hw.hB h0.size) hi hq
  have hgq2 : gq < w.heap.size := Nat.lt_of_lt_of_le hgq (Nat.le_trans hw.hB h0.size)
  have hBg : B ≤ gb := Nat.le_trans hw.hB hgb
  have hqf : ∀ {W : World}, Below gb w W → QF W B B1 B2 B3 q := fun hb2 => ⟨hqf0.r1.below hb2 hBg (Nat.le_refl _), hqf0.r2.below hb2 hBg (Nat.le_refl _), hqf0.r3.below hb2 hBg (Nat.le_refl _), hqf0.m1, hqf0.m2, hqf0.m3, Nat.le_trans hqf0.hB hb2.size⟩
  have HOD := Lib.hid (fun W (hb2 : Below gb w W) => QOrder_any q B1 B2 B3 r1 r2 r3 W B (hqf hb2) hsq.2.1 hsq.2.2)
  have HWA : Hid (∀ x y z, ∃ b, ∀ W, Below gb w W → Calls Tryz.prog 53 #[q.val B1 B2 B3 r1 r2 r3, .agg #[.int .i64 x, .int .i64 y, .int .i64 z]] W (Ret W (.tuple #[.agg #[.int .i64 (am ⟨x, y, z⟩).mode, .int .i64 (am ⟨x, y, z⟩).units], .bool b]))) := Lib.hid (fun x y z => by
    obtain ⟨b, hb2⟩ := wantV_eq q ⟨x, y, z⟩
    rw [ham] at hb2
    exact ⟨b, fun W hb3 => by rw [← hb2]; exact QWanted_any q B1 B2 B3 r1 r2 r3 x y z W B (hqf hb3) hsq.2.1 hsq.2.2⟩)
  have HAG : Hid (∀ x y z m u W, Below gb w W → Calls Tryz.prog 54 #[q.res.val, .slice B1 q.holds.length r1, .agg #[.int .i64 x, .int .i64 y, .int .i64 z], .agg #[.int .i64 m, .int .i64 u]] W (RetRow prE 51 W (againstS q.res q.holds ⟨x, y, z⟩ ⟨m, u⟩))) := Lib.hid (fun x y z m u W hb2 =>
    Against_any q.res B1 B r1 q.holds x y z m u W (hT.below (h0g hb2)) (by have := hsq.1; unfold maxLen; omega) (Nat.le_trans hqf0.hB hb2.size) ((hqf hb2).r1))
  have HAL : Hid (∀ p a, (againstS q.res q.holds p a).length ≤ 8) := Lib.hid (fun p a => Nat.le_trans (againstS_len _ _ _ _) hsq.1)
  have HCO : Hid (∀ A B' m u m2 u2 W, Below gb w W → B' ≤ W.heap.size → RowsAt amE W (Lo B') A [⟨m, u⟩, ⟨m2, u2⟩] → Calls Tryz.prog 55 #[q.res.val, .slice A 2 2] W (Ret W (.bool (compB q.res [⟨m, u⟩, ⟨m2, u2⟩])))) := Lib.hid (fun A B' m u m2 u2 W hb2 hB hr => Compatible_any q.res A B' 2 [⟨m, u⟩, ⟨m2, u2⟩] W (hT.below (h0g hb2)) (by simp [maxLen]) hB hr)
  have hol := ordL_len hsq
  have HV : Hid (∀ a j p', aheadV s PR i q a j p' = bif compB q.res [a, am p'] then ((F + 2 * j : Nat) : Int) + 1 else idxP p' 0 PR) := Lib.hid (fun a j p' => by rw [← hF, ← ham]; rfl)
  have HCR : Hid (∀ n p, claimS s PR i q n p = compI ((againstS q.res q.holds p (am p)).map (fun h => idxP h 0 PR) ++ aheadL (aheadV s PR i q (am p)) 0 ((ordL q).take n))) := Lib.hid (fun n p => by rw [claim_raw]; unfold rawC; rw [ham])
  have HCN : Hid (∀ n p l, clNodes s PR i q n (p :: l) = ⟨((claimS s PR i q n p).length : Int), claimS s PR i q n p⟩ :: ⟨1, [idxP p 0 PR, ((F + 2 * n : Nat) : Int)]⟩ :: clNodes s PR i q (n + 1) l) := Lib.hid (fun n p l => by rw [← hF]; rfl)
  have HCE : Hid (∀ n, clNodes s PR i q n [] = []) := Lib.hid (fun n => rfl)
  have HCL := Lib.hid (fun n p => claimS_len s PR i n q p hsq)
  have hif : i < fs.length := by omega
  have HFV : Hid (fs[i] = (F : Int)) := Lib.hid (by rw [hfv i hif, hF])
  have HBD := Lib.hid hb
  have HGW := Lib.hid hgbw
  have HFI := Lib.hid hif
  obtain ⟨AG, hAG⟩ : ∃ f, (fun p a => againstS q.res q.holds p a) = f := ⟨_, rfl⟩
  obtain ⟨AV, hAV⟩ : ∃ f, aheadV s PR i q = f := ⟨_, rfl⟩
  obtain ⟨CS, hCS⟩ : ∃ f, claimS s PR i q = f := ⟨_, rfl⟩
  obtain ⟨CN, hCN⟩ : ∃ f, clNodes s PR i q = f := ⟨_, rfl⟩
  obtain ⟨CM, hCM⟩ : ∃ f, (fun a b => compB q.res [a, b]) = f := ⟨_, rfl⟩
  have HAG2 : Hid (∀ x y z m u W, Below gb w W → Calls Tryz.prog 54 #[q.res.val, .slice B1 q.holds.length r1, .agg #[.int .i64 x, .int .i64 y, .int .i64 z], .agg #[.int .i64 m, .int .i64 u]] W (RetRow prE 51 W (AG ⟨x, y, z⟩ ⟨m, u⟩))) := Lib.hid (by rw [← hAG]; exact HAG.out)
  have HAL2 : Hid (∀ p a, (AG p a).length ≤ 8) := Lib.hid (by rw [← hAG]; exact HAL.out)
  have HCO2 : Hid (∀ A B' m u m2 u2 W, Below gb w W → B' ≤ W.heap.size → RowsAt amE W (Lo B') A [⟨m, u⟩, ⟨m2, u2⟩] → Calls Tryz.prog 55 #[q.res.val, .slice A 2 2] W (Ret W (.bool (CM ⟨m, u⟩ ⟨m2, u2⟩)))) := Lib.hid (by rw [← hCM]; exact HCO.out)
  have HV2 : Hid (∀ a j p', AV a j p' = bif CM a (am p') then ((F + 2 * j : Nat) : Int) + 1 else idxP p' 0 PR) := Lib.hid (by rw [← hCM, ← hAV]; exact HV.out)
  have HCR2 : Hid (∀ n p, CS n p = compI ((AG p (am p)).map (fun h => idxP h 0 PR) ++ aheadL (AV (am p)) 0 ((ordL q).take n))) := Lib.hid (by rw [← hAG, ← hAV, ← hCS]; exact HCR.out)
  rw [hCS, hCN] at HCN
  rw [hCN] at HCE
  rw [hCS] at HCL
  rw [hCN]
  clear HAG HAL HCO HV HCR hAG hAV hCS hCN hCM
  obtain ⟨O, hO⟩ : ∃ o, ordL q = o := ⟨_, rfl⟩
  rw [hO] at HOD HCR2 hol ⊢
  clear hO hT hw hv h0 hP hb hfv hF ham hsq hsh h0g hqf hqf0 hgq hq
  obtain ⟨⟨qnm, kd, un, qh⟩, qhs, qcs, qws, qgen⟩ := q
  obtain ⟨qs, ns⟩ := s
  unfold Qu.val Rs.val at *
  dsimp only at d0 d1 d2 d3 d4 d5 d6 d7 HOD HWA HAG2 HCO2 HBD hi hfl ⊢
  subst hAq
  have hii : (i : Int) < (qs.length : Int) := by omega
  have b0 := HBD.out.blk.cellx 0 (v := .slice (some ⟨gq, offq, none⟩) qs.length c1) rfl
  have HQ1 : Hid (Blk (w.alloc (.cells #[.string qnm, .int .i64 kd, .int .i64 un, .int .i64 qh, .slice B1 qhs.length r1, .slice B2 qcs.length r2, .slice B3 qws.length r3, .int .i64 qgen] 48)) w.heap.size 48 #[.string qnm, .int .i64 kd, .int .i64 un, .int .i64 qh, .slice B1 qhs.length r1, .slice B2 qcs.length r2, .slice B3 qws.length r3, .int .i64 qgen]) := Lib.hid (Blk.new _ _ _)
  have HB1 : Hid (Below w.heap.size w (w.alloc (.cells #[.string qnm, .int .i64 kd, .int .i64 un, .int .i64 qh, .slice B1 qhs.length r1, .slice B2 qcs.length r2, .slice B3 qws.length r3, .int .i64 qgen] 48))) := Lib.hid (Below.al (Below.refl _ _) _)
  clear hfl
  obtain ⟨GG, hGG⟩ : ∃ g, L ++ CN 0 O = g := ⟨_, rfl⟩
  rw [hGG]
  have HG0 : Hid (L ++ CN 0 (O.drop 0) = GG) := Lib.hid hGG
  clear hGG
  have HKI : Hid (∀ b W, Sem.run Tryz.prog (callFunc 51 b) W = .ok (.enter 51 b) W) := Lib.hid (fun b W => by kernel_rfl)
  go_enter Tryz.func19, Tryz.ntmps19
  go_wp2_with fail
  generalize w.alloc (.cells #[.string qnm, .int .i64 kd, .int .i64 un, .int .i64 qh, .slice B1 qhs.length r1, .slice B2 qcs.length r2, .slice B3 qws.length r3, .int .i64 qgen] 48) = w1 at *
  refine (HOD.out _ (HB1.out.mono (Nat.le_of_lt HGW.out))).mono ?_
  rintro e w4 ⟨v4, rfl, ho4, hb4⟩
  obtain ⟨AO, cO, rfl, hrO, hlO⟩ := OwnRows.newP ho4
  have HRO : Hid (RowsAt prE w4 (New w.heap.size w4) AO O) := Lib.hid (New.older hrO HB1.out.size)
  have HB4 : Hid (Below w.heap.size w w4) := Lib.hid (Below.tr HB1.out hb4)
  have hmO : cO ≤ maxLen := by
    obtain ⟨_, _, hA', _, _, hm⟩ := ho4.form
    cases hA'
    exact hm
  unfold maxLen at hmO
  have HQ4 := Lib.hid (HQ1.out.below hb4 HQ1.out.lt)
  have HBD4 := Lib.hid (HBD.out.next HB4.out)
  have HOW := Lib.hid (fun k hk => (HBD.out.nds.block k hk).2)
  clear b0 d0 d1 d2 d3 d4 d5 d6 d7 hgq2 hrO ho4 hb4 HQ1 HB1 HOD
  go_wp2_with fail
  go_loopg [30] O.length (fun m0 v30 wq => ∃ (n : Nat) (acc : List No) (vN : Value), v30 = .int .i64 (n : Int) ∧ n ≤ O.length ∧ O.length ≤ n + m0 ∧ acc.length ≤ 1000 + 2 * n ∧ Hid (acc ++ CN n (O.drop n) = GG) ∧ Hid (Bd wq gb (fun v => #[.slice (some ⟨gq, offq, none⟩) qs.length c1, .slice A2 ns.length c2, .slice A3 PR.length c3, .slice A4 fs.length c4, .int .i64 cl, v]) fs A4 vN acc) ∧ Hid (PS (fun b => b = gb) w4 wq v5 vN))
  case atStart => exact ⟨0, L, v5, rfl, Nat.zero_le _, by omega, by omega, HG0, HBD4, Lib.hid (PS.refl _ _ _)⟩
  case round =>
    obtain ⟨n, acc, vN, rfl, hn, hnm, hal, HI, HD, HP⟩ := hrel
    have HQr : Hid (Blk wr w.heap.size 48 #[.string qnm, .int .i64 kd, .int .i64 un, .int .i64 qh, .slice B1 qhs.length r1, .slice B2 qcs.length r2, .slice B3 qws.length r3, .int .i64 qgen]) := Lib.hid ((HP.out.block _ HQ4.out.lt (fun e => by have := HGW.out; omega) (fun e => by have := HOW.out _ e; omega)).1.trans HQ4.out)
    have HBG : Hid (Below gb w wr) := Lib.hid ((HB4.out.mono (Nat.le_of_lt HGW.out)).trans (HP.out.below (fun k hk => by have := (HBD.out.nds.block k hk).1; omega) (fun k hk => by rw [hk]; exact Nat.le_refl _) (Nat.le_trans (Nat.le_of_lt HGW.out) HB4.out.size)))
    have HSZ : Hid (w4.heap.size ≤ wr.heap.size) := Lib.hid HP.out.size
    by_cases hlt : n < O.length
    · have hlti : (n : Int) < (O.length : Int) := by omega
      have HROr : Hid (RowsAt prE wr (Lo wr.heap.size) AO O) := Lib.hid (HRO.out.same (fun b hb => (HP.out.block b hb.2 (fun e => by have h1 := hb.1; have h2 := HGW.out; have h3 : b = gb := e; omega) (fun e => by have h1 := HOW.out b e; have h2 := hb.1; omega)).1) (fun b hb => Nat.lt_of_lt_of_le hb.2 HSZ.out))
      obtain ⟨⟨x, y, z⟩, hx⟩ : ∃ x, O[n] = x := ⟨_, rfl⟩
      obtain ⟨g1, off1, hAO, hg1, f0, f1, f2⟩ := pr_cells (S := Lo wr.heap.size) (HRO.out.same (fun b hb => (HP.out.block b hb.2 (fun e => by have h1 := hb.1; have h2 := HGW.out; have h3 : b = gb := e; omega) (fun e => by have h1 := HOW.out b e; have h2 := hb.1; omega)).1) (fun b hb => Nat.lt_of_lt_of_le hb.2 HSZ.out)) hlt hx
      have hg12 : g1 < wr.heap.size := hg1
      have HE : Hid (acc ++ (⟨((CS n ⟨x, y, z⟩).length : Int), CS n ⟨x, y, z⟩⟩ :: ⟨1, [idxP ⟨x, y, z⟩ 0 PR, ((F + 2 * n : Nat) : Int)]⟩ :: CN (n + 1) (O.drop (n + 1))) = GG) := Lib.hid (by have h := HI.out; rw [drop_step hlt hx, HCN.out] at h; exact h)
      obtain ⟨bw, hwa⟩ := HWA.out x y z
      obtain ⟨⟨m, u⟩, ha⟩ : ∃ t, am ⟨x, y, z⟩ = t := ⟨_, rfl⟩
      rw [ha] at hwa
      have HW := Lib.hid hwa
      have HCS := Lib.hid (HCR2.out n ⟨x, y, z⟩)
      rw [ha] at HCS
      subst hAO
      clear hx hg1 ha hwa
      obtain ⟨wo, hwo⟩ : ∃ v, v = wr := ⟨_, rfl⟩
      obtain ⟨go, hgo⟩ : ∃ v, v = gk := ⟨_, rfl⟩
      subst hwo hgo
      have q0 := HQr.out.cellx 0 (v := .string qnm) rfl
      have q1 := HQr.out.cellx 1 (v := .int .i64 kd) rfl
      have q2 := HQr.out.cellx 2 (v := .int .i64 un) rfl
      have q3 := HQr.out.cellx 3 (v := .int .i64 qh) rfl
      have q4 := HQr.out.cellx 4 (v := .slice B1 qhs.length r1) rfl
      have q5 := HQr.out.cellx 5 (v := .slice B2 qcs.length r2) rfl
      have q6 := HQr.out.cellx 6 (v := .slice B3 qws.length r3) rfl
      have q7 := HQr.out.cellx 7 (v := .int .i64 qgen) rfl
      have hzq := HQr.out.lt
      have HPB5 : Hid (Blk (wo.alloc (.cells #[.int .i64 x, .int .i64 y, .int .i64 z] 51)) wo.heap.size 51 #[.int .i64 x, .int .i64 y, .int .i64 z]) := Lib.hid (Blk.new _ _ _)
      have HQ5 := Lib.hid (HQr.out.alloc (.cells #[.int .i64 x, .int .i64 y, .int .i64 z] 51))
      have HB5 : Hid (Below wo.heap.size wo (wo.alloc (.cells #[.int .i64 x, .int .i64 y, .int .i64 z] 51))) := Lib.hid (Below.al (Below.refl _ _) _)
      have HGO : Hid (gb ≤ wo.heap.size) := Lib.hid (Nat.le_of_lt HD.out.blk.lt)
      go_wp2_with fail
      generalize wo.alloc (.cells #[.int .i64 x, .int .i64 y, .int .i64 z] 51) = w5 at *
      have HBG5 : Hid (Below gb w w5) := Lib.hid (HBG.out.trans (HB5.out.mono HGO.out))
      refine (HW.out _ HBG5.out).mono ?_
      rintro e w6 ⟨rfl, hb6⟩
      have HQ6 := Lib.hid (HQ5.out.below hb6 HQ5.out.lt)
      have HPB6 := Lib.hid (HPB5.out.below hb6 HPB5.out.lt)
      have HB6 : Hid (Below wo.heap.size wo w6) := Lib.hid (Below.tr HB5.out hb6)
      clear q0 q1 q2 q3 q4 q5 q6 q7 hzq f0 f1 f2 hg12 hb6
      have q0 := HQ6.out.cellx 0 (v := .string qnm) rfl
      have q1 := HQ6.out.cellx 1 (v := .int .i64 kd) rfl
      have q2 := HQ6.out.cellx 2 (v := .int .i64 un) rfl
      have q3 := HQ6.out.cellx 3 (v := .int .i64 qh) rfl
      have q4 := HQ6.out.cellx 4 (v := .slice B1 qhs.length r1) rfl
      have p0 := HPB6.out.cellx 0 (v := .int .i64 x) rfl
      have p1 := HPB6.out.cellx 1 (v := .int .i64 y) rfl
      have p2 := HPB6.out.cellx 2 (v := .int .i64 z) rfl
      have hzq := HQ6.out.lt
      have hzp := HPB6.out.lt
      have HAM7 : Hid (Blk (w6.alloc (.cells #[.int .i64 m, .int .i64 u] 53)) w6.heap.size 53 #[.int .i64 m, .int .i64 u]) := Lib.hid (Blk.new _ _ _)
      have HB7 : Hid (Below wo.heap.size wo (w6.alloc (.cells #[.int .i64 m, .int .i64 u] 53))) := Lib.hid (Below.al HB6.out _)
      have HQ7 := Lib.hid (HQ6.out.alloc (.cells #[.int .i64 m, .int .i64 u] 53))
      have HPB7 := Lib.hid (HPB6.out.alloc (.cells #[.int .i64 m, .int .i64 u] 53))
      go_wp2_with fail
      generalize w6.alloc (.cells #[.int .i64 m, .int .i64 u] 53) = w7 at *
      have HBG7 : Hid (Below gb w w7) := Lib.hid (HBG.out.trans (HB7.out.mono HGO.out))
      refine (HAG2.out x y z m u _ HBG7.out).mono ?_
      rintro e w8 ⟨v8, rfl, ho8, hb8⟩
      obtain ⟨A8, c8, rfl, hr8, _⟩ := OwnRows.newP ho8
      have HR8 := Lib.hid hr8
      have HB8 : Hid (Below wo.heap.size wo w8) := Lib.hid (Below.tr HB7.out hb8)
      have HQ8 := Lib.hid (HQ7.out.below hb8 HQ7.out.lt)
      have HPB8 := Lib.hid (HPB7.out.below hb8 HPB7.out.lt)
      have HAM8 := Lib.hid (HAM7.out.below hb8 HAM7.out.lt)
      have HD8 := Lib.hid (HD.out.next HB8.out)
      have HBG8 : Hid (Below gb w w8) := Lib.hid (HBG.out.trans (HB8.out.mono HGO.out))
      have hl8 := HAL2.out ⟨x, y, z⟩ ⟨m, u⟩
      generalize AG ⟨x, y, z⟩ ⟨m, u⟩ = L8 at *
      obtain ⟨TL, hTL⟩ : ∃ l, aheadL (AV ⟨m, u⟩) 0 (O.take n) = l := ⟨_, rfl⟩
      rw [hTL] at HCS
      have HTL := Lib.hid hTL
      obtain ⟨RAW, hRAW⟩ : ∃ l, L8.map (fun h => idxP h 0 PR) ++ TL = l := ⟨_, rfl⟩
      rw [hRAW] at HCS
      have HRW0 : Hid (RAW = [] ++ ((L8.drop 0).map (fun h => idxP h 0 PR) ++ TL)) := Lib.hid (by rw [← hRAW]; rfl)
      clear q0 q1 q2 q3 q4 p0 p1 p2 hzq hzp hr8 ho8 hb8 hTL hRAW HQ7 HPB7 HAM7 HQ6 HPB6 HQ5 HPB5 HBG5 HBG7
      go_wp2_with fail
      go_loopg [10, 49] L8.length (fun mm v10 v49 wq => ∃ (k : Nat) (ac : List Int), v49 = .int .i64 (k : Int) ∧ k ≤ L8.length ∧ L8.length ≤ k + mm ∧ ac.length ≤ k ∧ Hid (RAW = ac ++ ((L8.drop k).map (fun h => idxP h 0 PR) ++ TL)) ∧ Hid (OwnRows intE 3 wq w8.heap.size v10 ac) ∧ Hid (Below w8.heap.size w8 wq))
      case atStart => exact ⟨0, [], rfl, Nat.zero_le _, by omega, by simp, HRW0, Lib.hid (OwnRows.nil _ _ _ _ (Nat.le_refl _)), Lib.hid (Below.refl _ _)⟩
      case round =>
        obtain ⟨k, ac, rfl, hk, hkm, hacl, HI2, HO, HB⟩ := hrel
        have HDr := Lib.hid (HD8.out.next HB.out)
        have HBGr : Hid (Below gb w wr) := Lib.hid (HBG8.out.trans (HB.out.mono (Nat.le_trans HGO.out HB8.out.size)))
        by_cases hlt2 : k < L8.length
        · have hlti2 : (k : Int) < (L8.length : Int) := by omega
          obtain ⟨⟨a, b, c⟩, hx⟩ : ∃ x, L8[k] = x := ⟨_, rfl⟩
          obtain ⟨g2, off2, hA8, hg2, d0, d1, d2⟩ := pr_cells (S := Lo wr.heap.size) (HR8.out.same (fun b hb => HB.out.block b hb.2) (fun b hb => Nat.lt_of_lt_of_le hb.2 HB.out.size)) hlt2 hx
          have hg22 : g2 < wr.heap.size := hg2
          have HE2 : Hid (RAW = (ac ++ [idxP ⟨a, b, c⟩ 0 PR]) ++ ((L8.drop (k + 1)).map (fun h => idxP h 0 PR) ++ TL)) := Lib.hid (by have h := HI2.out; rw [drop_step hlt2 hx, List.map_cons] at h; rw [h, List.append_assoc]; rfl)
          have HIXr := Lib.hid (fun W (hb : Below wr.heap.size wr W) => HIX.out a b c W (HBGr.out.trans (hb.mono (Nat.le_trans HGO.out (Nat.le_trans HB8.out.size HB.out.size)))))
          generalize idxP ⟨a, b, c⟩ 0 PR = ix at *
          have b2 := HDr.out.blk.cellx 2 (v := .slice A3 PR.length c3) rfl
          have hzb := HDr.out.blk.lt
          subst hA8
          clear hx hg2
          go_wp2_with fail
          go_region_law (first
            | (refine stepCall rfl 51 #[.tmp 57, .tmp 58] _ rfl #[.slice A3 PR.length c3, .agg #[.int .i64 a, .int .i64 b, .int .i64 c]] rfl HKI.out (HIXr.out _ (by (repeat (first | (with_reducible exact Below.refl _ _) | (with_reducible assumption) | (with_reducible refine below_drewN ?_ _) | (with_reducible refine Below.drew ?_) | (with_reducible refine Below.al ?_ _) | (with_reducible refine Below.st ?_ (by simp; try omega)) | (with_reducible refine Below.tr ?_ (Hid.out (by assumption))) | (with_reducible exact Hid.out (by assumption)))))) ?_; rintro e w12 ⟨rfl, hb12⟩; refine ⟨_, rfl, ?_⟩; have HB12 : Hid (Below wr.heap.size wr w12) := Lib.hid (Below.tr (by (repeat (first | (with_reducible exact Below.refl _ _) | (with_reducible assumption) | (with_reducible refine below_drewN ?_ _) | (with_reducible refine Below.drew ?_) | (with_reducible refine Below.al ?_ _) | (with_reducible refine Below.st ?_ (by simp; try omega)) | (with_reducible refine Below.tr ?_ (Hid.out (by assumption))) | (with_reducible exact Hid.out (by assumption))))) hb12); have HO12 := Lib.hid (HO.out.below HB12.out (Nat.le_refl _)); clear hb12)
            | (refine stepPushOneB inTB rfl (.tmp 53) (.tmp 60) rfl w8.heap.size u10 ac ix [.int .i64 ix] _ rfl rfl HO12.out w12.heap.size rfl rfl rfl (by unfold maxLen; omega) (by omega) ?_; intro v15 w15 hown15 hb15 hsp15; have HO15 := Lib.hid hown15; have HB15 : Hid (Below w8.heap.size w8 w15) := Lib.hid ((HB.out.trans (HB12.out.mono HB.out.size)).trans hb15); clear hown15 hb15 hsp15))
          all_goals (
            go_wp2_with fail
            go_roundg (gk - 1)
            case measure => omega
            case rel => exact ⟨k + 1, ac ++ [ix], by go_num, by omega, by omega, by rw [List.length_append]; simp; omega, HE2, HO15, HB15⟩)
        · have hlti2 : ¬ (k : Int) < (L8.length : Int) := by omega
          have HRW1 : Hid (RAW = ac ++ aheadL (AV ⟨m, u⟩) 0 ((O.take n).drop 0)) := Lib.hid (by have h := HI2.out; rw [drop_end hlt2, List.map_nil, List.nil_append, ← HTL.out] at h; exact h)
          have ha8 : ac.length ≤ 8 := by omega
          have hnO : (n : Int) ≤ (cO : Int) := by omega
          have hnO2 : n ≤ cO := by omega
          clear HI2 HDr HBGr
          go_wp2_with fail
          clear hlti2 hlt2 hk hkm hacl
          obtain ⟨w9, hw9⟩ : ∃ v, v = wr := ⟨_, rfl⟩
          subst hw9
          have HO9 := HO
          have HB9 := HB
          clear HO HB
          go_loopg [10, 67] n (fun mm v10 v67 wq => ∃ (k : Nat) (ac : List Int), v67 = .int .i64 (k : Int) ∧ k ≤ n ∧ n ≤ k + mm ∧ ac.length ≤ 8 + k ∧ Hid (RAW = ac ++ aheadL (AV ⟨m, u⟩) k ((O.take n).drop k)) ∧ Hid (OwnRows intE 3 wq w8.heap.size v10 ac) ∧ Hid (Below w8.heap.size w8 wq))
          case atStart => exact ⟨0, ac, rfl, Nat.zero_le _, by omega, by omega, HRW1, HO9, HB9⟩
          case round =>
            obtain ⟨k, ac, rfl, hk, hkm, hacl, HI2, HO, HB⟩ := hrel
            have HDr := Lib.hid (HD8.out.next HB.out)
            have HBor : Hid (Below wo.heap.size wo wr) := Lib.hid (Below.tr HB8.out HB.out)
            have HBGr : Hid (Below gb w wr) := Lib.hid (HBG8.out.trans (HB.out.mono (Nat.le_trans HGO.out HB8.out.size)))
            by_cases hlt2 : k < n
            · have hlti2 : (k : Int) < (n : Int) := by omega
              have hkO : k < O.length := by omega
              have hkt : k < (O.take n).length := by rw [List.length_take]; omega
              obtain ⟨⟨a, b, c⟩, hx⟩ : ∃ x, O[k] = x := ⟨_, rfl⟩
              have hxt : (O.take n)[k] = ⟨a, b, c⟩ := by rw [List.getElem_take, hx]
              obtain ⟨g1', off1', hAO', hg1', d0, d1, d2⟩ := pr_cells (HROr.out.below (B'' := wo.heap.size) HBor.out (Nat.le_refl _) (Nat.le_refl _)) hkO hx
              injection hAO' with hAO'
              injection hAO' with hA1 hA2
              subst hA1
              subst hA2
              have hg12 : g1 < wr.heap.size := Nat.lt_of_lt_of_le hg1' HBor.out.size
              obtain ⟨bw2, hwa⟩ := HWA.out a b c
              obtain ⟨⟨m2, u2⟩, ha2⟩ : ∃ t, am ⟨a, b, c⟩ = t := ⟨_, rfl⟩
              rw [ha2] at hwa
              have HW2 := Lib.hid hwa
              have HVk : Hid (AV ⟨m, u⟩ k ⟨a, b, c⟩ = bif CM ⟨m, u⟩ ⟨m2, u2⟩ then ((F + 2 * k : Nat) : Int) + 1 else idxP ⟨a, b, c⟩ 0 PR) := Lib.hid (by rw [HV2.out, ha2])
              have HE2 : Hid (RAW = (ac ++ [AV ⟨m, u⟩ k ⟨a, b, c⟩]) ++ aheadL (AV ⟨m, u⟩) (k + 1) ((O.take n).drop (k + 1))) := Lib.hid (by have h := HI2.out; rw [drop_step hkt hxt, aheadL_cons] at h; rw [h, List.append_assoc]; rfl)
              have HQr2 := Lib.hid (HQ8.out.below HB.out HQ8.out.lt)
              have HAMr := Lib.hid (HAM8.out.below HB.out HAM8.out.lt)
              have q0 := HQr2.out.cellx 0 (v := .string qnm) rfl
              have q1 := HQr2.out.cellx 1 (v := .int .i64 kd) rfl
              have q2 := HQr2.out.cellx 2 (v := .int .i64 un) rfl
              have q3 := HQr2.out.cellx 3 (v := .int .i64 qh) rfl
              have q4 := HQr2.out.cellx 4 (v := .slice B1 qhs.length r1) rfl
              have q5 := HQr2.out.cellx 5 (v := .slice B2 qcs.length r2) rfl
              have q6 := HQr2.out.cellx 6 (v := .slice B3 qws.length r3) rfl
              have q7 := HQr2.out.cellx 7 (v := .int .i64 qgen) rfl
              have hzq := HQr2.out.lt
              have HPB10 : Hid (Blk (wr.alloc (.cells #[.int .i64 a, .int .i64 b, .int .i64 c] 51)) wr.heap.size 51 #[.int .i64 a, .int .i64 b, .int .i64 c]) := Lib.hid (Blk.new _ _ _)
              have HB10 : Hid (Below wr.heap.size wr (wr.alloc (.cells #[.int .i64 a, .int .i64 b, .int .i64 c] 51))) := Lib.hid (Below.al (Below.refl _ _) _)
              have HGr : Hid (gb ≤ wr.heap.size) := Lib.hid (Nat.le_trans HGO.out HBor.out.size)
              clear hx hxt hkt hg1' ha2 hwa HI2
              go_wp2_with fail
              generalize wr.alloc (.cells #[.int .i64 a, .int .i64 b, .int .i64 c] 51) = w10 at *
              refine (HW2.out _ (HBGr.out.trans (HB10.out.mono HGr.out))).mono ?_
              rintro e w11 ⟨rfl, hb11⟩
              have HB11 : Hid (Below wr.heap.size wr w11) := Lib.hid (Below.tr HB10.out hb11)
              have HPB11 := Lib.hid (HPB10.out.below hb11 HPB10.out.lt)
              have HQ11 := Lib.hid (HQr2.out.below HB11.out HQr2.out.lt)
              have HAM11 := Lib.hid (HAMr.out.below HB11.out HAMr.out.lt)
              clear q0 q1 q2 q3 q4 q5 q6 q7 hzq d0 d1 d2 hg12 hb11
              have q0 := HQ11.out.cellx 0 (v := .string qnm) rfl
              have q1 := HQ11.out.cellx 1 (v := .int .i64 kd) rfl
              have q2 := HQ11.out.cellx 2 (v := .int .i64 un) rfl
              have q3 := HQ11.out.cellx 3 (v := .int .i64 qh) rfl
              have a0 := HAM11.out.cellx 0 (v := .int .i64 m) rfl
              have a1 := HAM11.out.cellx 1 (v := .int .i64 u) rfl
              have hzq := HQ11.out.lt
              have hza := HAM11.out.lt
              have HTW := Lib.hid (am_two (w11.alloc (.cells #[.int .i64 m2, .int .i64 u2] 53)) m u m2 u2)
              have HB12 : Hid (Below wr.heap.size wr ((w11.alloc (.cells #[.int .i64 m2, .int .i64 u2] 53)).alloc (.cells #[.int .i64 m, .int .i64 u, .int .i64 m2, .int .i64 u2] 53))) := Lib.hid (Below.al (Below.al HB11.out _) _)
              go_wp2_with fail
              have HAN12 : Hid (Blk (w11.alloc (.cells #[.int .i64 m2, .int .i64 u2] 53)) w11.heap.size 53 #[.int .i64 m2, .int .i64 u2]) := Lib.hid (Blk.new _ _ _)
              have hs12 : w11.heap.size + 1 = (w11.alloc (.cells #[.int .i64 m2, .int .i64 u2] 53)).heap.size := by simp
              rw [hs12]
              have HB1112 : Hid (Below w11.heap.size w11 (w11.alloc (.cells #[.int .i64 m2, .int .i64 u2] 53))) := Lib.hid (Below.al (Below.refl _ _) _)
              generalize w11.alloc (.cells #[.int .i64 m2, .int .i64 u2] 53) = w12 at *
              clear hs12
              refine (HCO2.out (some ⟨w12.heap.size, 0, none⟩) (w12.heap.size + 1) m u m2 u2 _ (HBGr.out.trans (HB12.out.mono HGr.out)) (by simp) HTW.out).mono ?_
              rintro e w13 ⟨rfl, hb13⟩
              have HB13 : Hid (Below wr.heap.size wr w13) := Lib.hid (Below.tr HB12.out hb13)
              have HB1213 : Hid (Below w12.heap.size w12 w13) := Lib.hid (Below.tr (Below.al (Below.refl _ _) _) hb13)
              have HB1113 : Hid (Below w11.heap.size w11 w13) := Lib.hid (Below.tr HB1112.out HB1213.out)
              have HD13 := Lib.hid (HDr.out.next HB13.out)
              have HO13 := Lib.hid (HO.out.below HB13.out (Nat.le_refl _))
              have HB813 : Hid (Below w8.heap.size w8 w13) := Lib.hid (HB.out.trans (HB13.out.mono HB.out.size))
              have HPB13 := Lib.hid (HPB11.out.below HB1113.out HPB11.out.lt)
              clear hb13 q0 q1 q2 q3 a0 a1 hzq hza
              cases hcm : CM ⟨m, u⟩ ⟨m2, u2⟩ with
              | true =>
                have hVk : AV ⟨m, u⟩ k ⟨a, b, c⟩ = ((F + 2 * k : Nat) : Int) + 1 := by have h := HVk.out; rw [hcm] at h; exact h
                rw [hVk] at HE2
                have hif := HFI.out
                have hifi : (i : Int) < (fs.length : Int) := by omega
                obtain ⟨gF, offF, hA4, hgF, f0⟩ := in_cell HD13.out.fst hif HFV.out
                have hgF2 : gF < w13.heap.size := hgF.1.1
                have b3 := HD13.out.blk.cellx 3 (v := .slice A4 fs.length c4) rfl
                rw [hA4] at b3
                have hzb := HD13.out.blk.lt
                have hfb := HFB.out
                clear hVk hcm hgF hA4
                go_wp2_with (at_builtin; refine pushOneB inTB rfl (.tmp 84) (.tmp 96) rfl w13 w8.heap.size u10 ac _ [.int .i64 _] _ rfl rfl HO13.out w13.heap.size rfl rfl rfl (by unfold maxLen; omega) (by omega) ?_; intro v15 w15 hown15 hb15 hsp15; have HO15 := Lib.hid hown15; have HB15 : Hid (Below w8.heap.size w8 w15) := Lib.hid (HB813.out.trans hb15); clear hown15 hb15 hsp15)
                have hc : ((F + 2 * k : Nat) : Int) + 1 = (F : Int) + 2 * (k : Int) + 1 := by omega
                rw [hc] at HE2
                go_roundg (gk - 1)
                case measure => omega
                case rel => exact ⟨k + 1, ac ++ [(F : Int) + 2 * (k : Int) + 1], by go_num, by omega, by omega, by rw [List.length_append]; simp; omega, HE2, HO15, HB15⟩
              | false =>
                have hVk : AV ⟨m, u⟩ k ⟨a, b, c⟩ = idxP ⟨a, b, c⟩ 0 PR := by have h := HVk.out; rw [hcm] at h; exact h
                rw [hVk] at HE2
                have HBG13 : Hid (Below gb w w13) := Lib.hid (HBGr.out.trans (HB13.out.mono HGr.out))
                have HGr13 : Hid (gb ≤ w13.heap.size) := Lib.hid (Nat.le_trans HGr.out HB13.out.size)
                have HIXr := Lib.hid (fun W (hb : Below w13.heap.size w13 W) => HIX.out a b c W (HBG13.out.trans (hb.mono HGr13.out)))
                generalize idxP ⟨a, b, c⟩ 0 PR = ix at *
                have b2 := HD13.out.blk.cellx 2 (v := .slice A3 PR.length c3) rfl
                have hzb := HD13.out.blk.lt
                have p0 := HPB13.out.cellx 0 (v := .int .i64 a) rfl
                have p1 := HPB13.out.cellx 1 (v := .int .i64 b) rfl
                have p2 := HPB13.out.cellx 2 (v := .int .i64 c) rfl
                have hzp := HPB13.out.lt
                clear hVk hcm
                go_wp2_with fail
                go_region_law (first
                  | (refine stepCall rfl 51 #[.tmp 102, .tmp 103] _ rfl #[.slice A3 PR.length c3, .agg #[.int .i64 a, .int .i64 b, .int .i64 c]] rfl HKI.out (HIXr.out _ (by (repeat (first | (with_reducible exact Below.refl _ _) | (with_reducible assumption) | (with_reducible refine below_drewN ?_ _) | (with_reducible refine Below.drew ?_) | (with_reducible refine Below.al ?_ _) | (with_reducible refine Below.st ?_ (by simp; try omega)) | (with_reducible refine Below.tr ?_ (Hid.out (by assumption))) | (with_reducible exact Hid.out (by assumption)))))) ?_; rintro e w14 ⟨rfl, hb14⟩; refine ⟨_, rfl, ?_⟩; have HB14 : Hid (Below w13.heap.size w13 w14) := Lib.hid (Below.tr (by (repeat (first | (with_reducible exact Below.refl _ _) | (with_reducible assumption) | (with_reducible refine below_drewN ?_ _) | (with_reducible refine Below.drew ?_) | (with_reducible refine Below.al ?_ _) | (with_reducible refine Below.st ?_ (by simp; try omega)) | (with_reducible refine Below.tr ?_ (Hid.out (by assumption))) | (with_reducible exact Hid.out (by assumption))))) hb14); have HO14 := Lib.hid (HO13.out.below HB14.out (Nat.le_refl _)); clear hb14)
                  | (refine stepPushOneB inTB rfl (.tmp 98) (.tmp 105) rfl w8.heap.size u10 ac ix [.int .i64 ix] _ rfl rfl HO14.out w14.heap.size rfl rfl rfl (by unfold maxLen; omega) (by omega) ?_; intro v15 w15 hown15 hb15 hsp15; have HO15 := Lib.hid hown15; have HB15 : Hid (Below w8.heap.size w8 w15) := Lib.hid ((HB813.out.trans (HB14.out.mono HB813.out.size)).trans hb15); clear hown15 hb15 hsp15))
                all_goals (
                  go_wp2_with fail
                  go_roundg (gk - 1)
                  case measure => omega
                  case rel => exact ⟨k + 1, ac ++ [ix], by go_num, by omega, by omega, by rw [List.length_append]; simp; omega, HE2, HO15, HB15⟩)
            · have HRA : Hid (CS n ⟨x, y, z⟩ = Go.Lib.compact (sortI ac)) := Lib.hid (by
                have h := HI2.out
                rw [drop_end (by rw [List.length_take]; omega)] at h
                have h2 : RAW = ac := by rw [h]; exact List.append_nil ac
                have h3 := HCS.out
                rw [h2] at h3
                exact h3)
              have hlti2 : ¬ (k : Int) < (n : Int) := by omega
              have hac : ac.length ≤ 100000 := by omega
              have hcl := HCL.out n ⟨x, y, z⟩
              clear HI2 HCS HRW1 HTL HDr hkm hk hacl
              go_wp2_with fail
              refine (SortInt_own wr HO.out (w0 := wr) (Below.refl w8.heap.size wr) (by omega)).mono ?_
              rintro e w10 ⟨rfl, ho10, hb10⟩
              have HO10 := Lib.hid ho10
              have HB10 : Hid (Below w8.heap.size w8 w10) := Lib.hid (HB.out.trans hb10)
              have hsl : (sortI ac).length ≤ 100000 := by rw [(sortI_perm ac).length_eq]; exact hac
              clear ho10 hb10
              go_wp2_with fail
              refine (CompactInt_own w10 HO10.out (w0 := w10) (Below.refl w8.heap.size w10) (by omega)).mono ?_
              rintro e w11 ⟨v11, rfl, ho11, hb11⟩
              rw [← HRA.out] at ho11
              have HB11 : Hid (Below w8.heap.size w8 w11) := Lib.hid (HB10.out.trans hb11)
              generalize CS n ⟨x, y, z⟩ = cs at *
              obtain ⟨A11, c11, rfl, hr11, _⟩ := OwnRows.newP ho11
              have HR11 := Lib.hid hr11
              have HD11 := Lib.hid (HD8.out.next HB11.out)
              have HPB11 := Lib.hid (HPB8.out.below HB11.out HPB8.out.lt)
              have HBo11 : Hid (Below wo.heap.size wo w11) := Lib.hid (HB8.out.trans (HB11.out.mono HB8.out.size))
              have HGO8 : Hid (gb + 1 ≤ w8.heap.size) := Lib.hid (Nat.le_trans HD.out.blk.lt HB8.out.size)
              have HOB : Hid (∀ k, vN.ownBlock = some k → k < wo.heap.size) := Lib.hid (fun k hk => (HD.out.nds.block k hk).2)
              have HO8 : Hid (wo.heap.size ≤ w8.heap.size) := Lib.hid HB8.out.size
              have hif := HFI.out
              have hifi : (i : Int) < (fs.length : Int) := by omega
              obtain ⟨gF, offF, hA4, hgF, f0⟩ := in_cell HD11.out.fst hif HFV.out
              have hgF2 : gF < w11.heap.size := hgF.1.1
              have b3 := HD11.out.blk.cellx 3 (v := .slice A4 fs.length c4) rfl
              rw [hA4] at b3
              have b5 := HD11.out.blk.cellx 5 (v := vN) rfl
              have fb5 := HD11.out.blk.frozen 5
              have hzb := HD11.out.blk.lt
              have hfb := HFB.out
              have hn16 : n ≤ 16 := by omega
              clear ho11 hr11 hb11 hgF hA4 HO10 HB10 hsl HO HB HD8 HPB8 HR8 HAM8 HQ8 HO9 HB9 HRO
              go_upto_region 24 with (at_builtin; refine pushOneB (noTB.from (gb + 1)) rfl (.tmp 126) (.tmp 131) rfl w11 (gb + 1) vN acc ⟨(cs.length : Int), cs⟩ [.int .i64 (cs.length : Int), .slice A11 cs.length c11] _ rfl rfl HD11.out.nds w11.heap.size rfl rfl (one_node HR11.out (by omega) HGO8.out (fun k hk => Nat.lt_of_lt_of_le (HOB.out k hk) HO8.out)) (by unfold maxLen; omega) (by omega) ?_; intro v12 w12 hown12 hb12 hsp12; have HO12 := Lib.hid hown12; obtain ⟨A12, c12, rfl, _, _, _⟩ := HO12.out.form; have HB12 := Lib.hid hb12; have HS12 := Lib.hid hsp12; have n5 := (hb12.cell (p := ⟨gb, 5, none⟩) (Nat.lt_succ_self gb)).trans b5; have nf5 := (hb12.frozen (p := ⟨gb, 5, none⟩) (Nat.lt_succ_self gb)).trans fb5; have hz12 := Nat.lt_of_lt_of_le hzb hb12.size; clear hown12 hb12 hsp12)
              have HO13 : Hid (OwnRows (noE.from (gb + 1)) 37 w12 (gb + 1) (.slice A12 (acc.length + 1) c12) (acc ++ [⟨(cs.length : Int), cs⟩])) := Lib.hid (by have h := HO12.out; rw [List.length_append] at h; exact h)
              have HS13 : Hid (Spares w11 w12 vN (.slice A12 (acc.length + 1) c12)) := Lib.hid (by have h := HS12.out; rw [List.length_append] at h; exact h)
              have HD13 := Lib.hid (HD11.out.push (o := 5) HO13.out HB12.out HS13.out rfl)
              have HP12 : Hid (PS (fun b => b = gb) w11 (w12.setCell ⟨gb, 5, none⟩ (.slice A12 (acc.length + 1) c12)) vN (.slice A12 (acc.length + 1) c12)) := Lib.hid (PS.st (PS.push HB12.out HS13.out) rfl)
              have hwg : gb < wo.heap.size := by have := HD.out.blk.lt; omega
              have HPB13 : Hid (Blk (w12.setCell ⟨gb, 5, none⟩ (.slice A12 (acc.length + 1) c12)) wo.heap.size 51 #[.int .i64 x, .int .i64 y, .int .i64 z]) := Lib.hid ((HP12.out.block _ HPB11.out.lt (fun e => by have h : wo.heap.size = gb := e; omega) (fun e => by have := HOB.out _ e; omega)).1.trans HPB11.out)
              have HP13 := Lib.hid ((HP.out.grow HBo11.out).trans HP12.out)
              clear f0 hgF2 b3 b5 fb5 hzb n5 nf5 hz12 HO12 HS12 HB12 HO13 HS13 HP12 HR11 HD11 HPB11
              generalize w12.setCell ⟨gb, 5, none⟩ (.slice A12 (acc.length + 1) c12) = w13 at *
              have HBG13 : Hid (Below gb w w13) := Lib.hid ((HB4.out.mono (Nat.le_of_lt HGW.out)).trans (HP13.out.below (fun k hk => by have := (HBD.out.nds.block k hk).1; omega) (fun k hk => by rw [hk]; exact Nat.le_refl _) (Nat.le_trans (Nat.le_of_lt HGW.out) HB4.out.size)))
              have HGR13 : Hid (gb ≤ w13.heap.size) := Lib.hid (Nat.le_of_lt HD13.out.blk.lt)
              have HIX13 := Lib.hid (fun W (hb : Below w13.heap.size w13 W) => HIX.out x y z W (HBG13.out.trans (hb.mono HGR13.out)))
              generalize idxP ⟨x, y, z⟩ 0 PR = ix at *
              have b2 := HD13.out.blk.cellx 2 (v := .slice A3 PR.length c3) rfl
              have b5 := HD13.out.blk.cellx 5 (v := .slice A12 (acc.length + 1) c12) rfl
              have fb5 := HD13.out.blk.frozen 5
              have hzb := HD13.out.blk.lt
              have p0 := HPB13.out.cellx 0 (v := .int .i64 x) rfl
              have p1 := HPB13.out.cellx 1 (v := .int .i64 y) rfl
              have p2 := HPB13.out.cellx 2 (v := .int .i64 z) rfl
              have hzp := HPB13.out.lt
              have hal2 : (acc ++ [(⟨(cs.length : Int), cs⟩ : No)]).length = acc.length + 1 := by rw [List.length_append]; rfl
              have HAC := Lib.hid (show acc ++ (⟨(cs.length : Int), cs⟩ :: ⟨1, [ix, ((F + 2 * n : Nat) : Int)]⟩ :: CN (n + 1) (O.drop (n + 1))) = (acc ++ [⟨(cs.length : Int), cs⟩]) ++ ⟨1, [ix, ((F + 2 * n : Nat) : Int)]⟩ :: CN (n + 1) (O.drop (n + 1)) by rw [List.append_assoc]; rfl)
              have hc : ((F + 2 * n : Nat) : Int) = (F : Int) + 2 * (n : Int) := by omega
              rw [hc] at HE HAC
              rw [HAC.out] at HE
              generalize acc ++ [(⟨(cs.length : Int), cs⟩ : No)] = ac2 at *
              have hal3 : ac2.length ≤ 1001 + 2 * n := by omega
              have HAL2' := Lib.hid hal2
              clear hal2
              clear hc HAC HP HD HI
              have HGB13 : Hid (gb + 1 ≤ w13.heap.size) := Lib.hid (Nat.succ_le_of_lt hzb)
              have HOB13 : Hid (∀ k, (Value.slice A12 (acc.length + 1) c12).ownBlock = some k → k < w13.heap.size) := Lib.hid (fun k hk => (HD13.out.nds.block k hk).2)
              go_wp2_with fail
              go_region_law (first
                | (refine stepCall rfl 51 #[.tmp 143, .tmp 144] _ rfl #[.slice A3 PR.length c3, .agg #[.int .i64 x, .int .i64 y, .int .i64 z]] rfl HKI.out (HIX13.out _ (by (repeat (first | (with_reducible exact Below.refl _ _) | (with_reducible assumption) | (with_reducible refine below_drewN ?_ _) | (with_reducible refine Below.drew ?_) | (with_reducible refine Below.al ?_ _) | (with_reducible refine Below.st ?_ (by simp; try omega)) | (with_reducible refine Below.tr ?_ (Hid.out (by assumption))) | (with_reducible exact Hid.out (by assumption)))))) ?_; rintro e w14 ⟨rfl, hb14⟩; refine ⟨_, rfl, ?_⟩; have HB14 : Hid (Below w13.heap.size w13 w14) := Lib.hid (Below.tr (by (repeat (first | (with_reducible exact Below.refl _ _) | (with_reducible assumption) | (with_reducible refine below_drewN ?_ _) | (with_reducible refine Below.drew ?_) | (with_reducible refine Below.al ?_ _) | (with_reducible refine Below.st ?_ (by simp; try omega)) | (with_reducible refine Below.tr ?_ (Hid.out (by assumption))) | (with_reducible exact Hid.out (by assumption))))) hb14); have HD14 := Lib.hid (HD13.out.next HB14.out); obtain ⟨hc14, hf14⟩ := bcell HB14.out; have hs14 := HB14.out.size; have hz14 : gb < w14.heap.size := Nat.lt_of_lt_of_le hzb hs14; have m5 := (HB14.out.cell (p := ⟨gb, 5, none⟩) hzb).trans b5; have mf5 := (HB14.out.frozen (p := ⟨gb, 5, none⟩) hzb).trans fb5; have HD15 := Lib.hid (HD14.out.next (Below.al (Below.refl _ _) (.cells #[.int .i64 ix, .int .i64 ((F : Int) + 2 * (n : Int))] 3))); have k5 := HD15.out.blk.cellx 5 (v := .slice A12 (acc.length + 1) c12) rfl; have kf5 := HD15.out.blk.frozen 5; have kz5 := HD15.out.blk.lt; clear hb14)
                | (refine stepPushOneB (noTB.from (gb + 1)) rfl (.tmp 139) (.tmp 149) rfl (gb + 1) (.slice A12 (acc.length + 1) c12) ac2 ⟨1, [ix, (F : Int) + 2 * (n : Int)]⟩ [.int .i64 1, .slice (some ⟨w14.heap.size, 0, none⟩) 2 2] _ rfl rfl HD15.out.nds _ rfl (by simp) (one_node (lit2 w14 w13.heap.size ix ((F : Int) + 2 * (n : Int)) hs14) (by simp) HGB13.out HOB13.out) (by unfold maxLen; omega) (by omega) ?_; intro v15 w15 hown15 hb15 hsp15; have HO15 := Lib.hid hown15; obtain ⟨A15, c15, rfl, _, _, _⟩ := HO15.out.form; have HB15 := Lib.hid hb15; have HS15 := Lib.hid hsp15; have n5 := (hb15.cell (p := ⟨gb, 5, none⟩) (Nat.lt_succ_self gb)).trans k5; have nf5 := (hb15.frozen (p := ⟨gb, 5, none⟩) (Nat.lt_succ_self gb)).trans kf5; have hz15 : gb < w15.heap.size := Nat.lt_of_lt_of_le kz5 hb15.size; clear hown15 hb15 hsp15))
              all_goals (
                have HO16 : Hid (OwnRows (noE.from (gb + 1)) 37 w15 (gb + 1) (.slice A15 (ac2.length + 1) c15) (ac2 ++ [⟨1, [ix, (F : Int) + 2 * (n : Int)]⟩])) := Lib.hid (by have h := HO15.out; rw [List.length_append] at h; exact h)
                have HS16 : Hid (Spares _ w15 (.slice A12 (acc.length + 1) c12) (.slice A15 (ac2.length + 1) c15)) := Lib.hid (by have h := HS15.out; rw [List.length_append] at h; exact h)
                have HD16 := Lib.hid (HD15.out.push (o := 5) HO16.out HB15.out HS16.out rfl)
                have HP16 : Hid (PS (fun b => b = gb) w13 (w15.setCell ⟨gb, 5, none⟩ (.slice A15 (ac2.length + 1) c15)) (.slice A12 (acc.length + 1) c12) (.slice A15 (ac2.length + 1) c15)) := Lib.hid (PS.st ((((PS.refl _ w13 _).grow HB14.out).grow (Below.al (Below.refl _ _) _)).trans (PS.push HB15.out HS16.out)) rfl)
                go_wp2_with fail
                go_roundg (go - 1)
                case measure => omega
                case rel => exact ⟨n + 1, ac2 ++ [⟨1, [ix, (F : Int) + 2 * (n : Int)]⟩], .slice A15 (ac2.length + 1) c15, by go_num, by omega, by omega, by rw [List.length_append]; simp; omega, Lib.hid (by rw [List.append_assoc]; exact HE.out), HD16, Lib.hid (HP13.out.trans HP16.out)⟩)
    · have hlti : ¬ (n : Int) < (O.length : Int) := by omega
      have HEQ : Hid (acc = GG) := Lib.hid (by have h := HI.out; rw [drop_end hlt, HCE.out, List.append_nil] at h; exact h)
      have HDE : Hid (Bd wr gb (fun v => #[.slice (some ⟨gq, offq, none⟩) qs.length c1, .slice A2 ns.length c2, .slice A3 PR.length c3, .slice A4 fs.length c4, .int .i64 cl, v]) fs A4 vN GG) := Lib.hid (by rw [← HEQ.out]; exact HD.out)
      go_wp2_with fail
      exact bodyPost_end (results_none rfl _ _ _) rfl ⟨rfl, vN, (PS.of v5 HB4.out).trans HP.out, HDE.out⟩
end Go.Proofs.YtogeihdfmnohnaaGreatDoor
