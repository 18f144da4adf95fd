/- Part 42 of 49 of the proof of waitgraphOf_holds (no condition). -/
import Derived.Test.YtogeihdfmnohnaaGreatDoorK36
import Derived.Test.YtogeihdfmnohnaaGreatDoorK41
set_option linter.unusedVariables false
set_option linter.unusedSimpArgs false
namespace Go.Proofs.YtogeihdfmnohnaaGreatDoor
open Go.RowKit
set_option maxRecDepth 100000 in
set_option maxHeartbeats 16000000 in
theorem rOf_any (s : Ws) (d : Nat) (A1 A2 : Option Addr) (c1 c2 B : Nat) (w : World) (hw : WF w B d A1 A2 s) :
    Calls Tryz.prog 6 #[s.val A1 A2 c1 c2] w (RetOf w (okG s) (okP s) (errS s)) := by
  have HVA := Lib.hid (fun W (hb : Below w.heap.size w W) => rWValidS_any s d A1 A2 c1 c2 B W (hw.below hb))
  have HER : Hid (errS s = bif stateB s then (bif poolQ s.queues then 12 else bif allFl s.needs then 0 else 6) else 2) := Lib.hid rfl
  have HG0 : Hid (errS s ≠ 0 → okG s = [] ∧ okP s = []) := Lib.hid (fun h => by unfold okG okP; rw [decide_eq_false h]; exact ⟨rfl, rfl⟩)
  have HG1 : Hid (errS s = 0 → okG s = (procsW s).map (nodeP s) ++ allNodes s (procsW s) 0 s.queues ∧ okP s = procsW s) := Lib.hid (fun h => by unfold okG okP graphS; rw [decide_eq_true h]; exact ⟨rfl, rfl⟩)
  have HSH := Lib.hid (stateB_short (s := s))
  have HOD := Lib.hid (fun q A1 A2 A3 c1 c2 c3 W (hq : QF W B A1 A2 A3 q) (h : shortQ q) => rQOrder_any q A1 A2 A3 c1 c2 c3 W B hq h.2.1 h.2.2)
  have HFL := Lib.hid (fun x A cap W (hx : ExF W B d A x) => flat_any d x A cap B W hx)
  have HPR := Lib.hid (fun (h : stateB s = true) W (hb : Below w.heap.size w W) => rWProcs_any s d A1 A2 c1 c2 B W (hw.below hb) (by have := (stateB_short h).1; omega) (by have := (stateB_short h).2.2; omega) (stateB_short h).2.1)
  have HPN := Lib.hid (fun (h : stateB s = true) x y z W (hb : Below w.heap.size w W) => rprocess_any s d A1 A2 c1 c2 B x y z W (hw.below hb) h)
  have HNL := Lib.hid (nodeP_len s)
  have HCN := Lib.hid (fun (h : stateB s = true) A3 c3 i n PR q p W (hb : Below w.heap.size w W) hP hPl hi hq hn hp => rclaim_any s d A1 A2 A3 c1 c2 c3 B i n PR q p W (hw.below hb) h hP hPl hi hq hn hp)
  have HCL := Lib.hid (fun PR i n q p (h : shortQ q) => claimS_len s PR i n q p h)
  have HPL := Lib.hid (fun (h : stateB s = true) i n W (hb : Below w.heap.size w W) hi hn => gplace_any s d A1 A2 c1 c2 B i n W (hw.below hb) (stateB_short h).1 (stateB_short h).2.2 (stateB_short h).2.1 hi hn)
  have HP8 : Hid (stateB s = true → (procsW s).length ≤ 8) := Lib.hid (fun hv => by unfold stateB at hv; simp only [Bool.and_eq_true, decide_eq_true_eq] at hv; exact hv.2)
  have HTW := Lib.hid (claim_two s)
  have HR1 := Lib.hid hw.r1
  have HR2 := Lib.hid hw.r2
  have HBw := Lib.hid hw.hB
  clear hw
  obtain ⟨E, hE⟩ : ∃ e, errS s = e := ⟨_, rfl⟩
  obtain ⟨G, hG⟩ : ∃ e, okG s = e := ⟨_, rfl⟩
  obtain ⟨P, hP⟩ : ∃ e, okP s = e := ⟨_, rfl⟩
  obtain ⟨V, hV⟩ : ∃ e, stateB s = e := ⟨_, rfl⟩
  obtain ⟨PR, hPR⟩ : ∃ e, procsW s = e := ⟨_, rfl⟩
  rw [hE] at HER HG0 HG1
  rw [hG, hP] at HG0 HG1
  rw [hPR] at HG1 HPR HP8 HTW
  rw [hV] at HER HVA HSH HPR HPN HCN HPL HP8
  rw [hE, hG, hP]
  clear hE hG hP hPR hV
  obtain ⟨PV, hPV⟩ : ∃ e, poolQ s.queues = e := ⟨_, rfl⟩
  obtain ⟨FV, hFV⟩ : ∃ e, allFl s.needs = e := ⟨_, rfl⟩
  rw [hPV, hFV] at HER
  have HPV : Hid (poolQ (s.queues.drop 0) = PV) := Lib.hid hPV
  have HFV : Hid (allFl (s.needs.drop 0) = FV) := Lib.hid hFV
  clear hPV hFV
  obtain ⟨S, hS⟩ : ∃ t, t = s := ⟨_, rfl⟩
  have HGS : Hid (E = 0 → G = PR.map (nodeP S) ++ allNodes S PR 0 s.queues ∧ P = PR) := Lib.hid (by rw [hS]; exact HG1.out)
  rw [← hS] at HNL HCL HTW
  have HPN2 : Hid (V = true → ∀ x y z W, Below w.heap.size w W → Calls Tryz.prog 24 #[s.val A1 A2 c1 c2, .agg #[.int .i64 x, .int .i64 y, .int .i64 z]] W (RetNo W (nodeP S ⟨x, y, z⟩))) := Lib.hid (by rw [hS]; exact HPN.out)
  have HCN2 := HCN
  have HPL2 := HPL
  rw [← hS] at HCN2 HPL2
  have hSq : S.queues = s.queues := by rw [hS]
  have hSn : S.needs = s.needs := by rw [hS]
  clear HCN HPL HPN HG1
  obtain ⟨qs, ns⟩ := s
  unfold Ws.val at *
  dsimp only at HVA HPV HFV HGS HPN2 HSH HPR HPL2 HR1 HR2 hSq hSn ⊢
  rw [hSq] at HCN2 HPL2
  rw [hSn] at HCN2 HPL2
  clear hS hSq hSn
  have HSB : Hid (Blk (w.alloc (.cells #[.slice A1 qs.length c1, .slice A2 ns.length c2] 25)) w.heap.size 25 #[.slice A1 qs.length c1, .slice A2 ns.length c2]) := Lib.hid (Blk.new w _ _)
  have HBW1 : Hid (Below w.heap.size w (w.alloc (.cells #[.slice A1 qs.length c1, .slice A2 ns.length c2] 25))) := Lib.hid (Below.al (Below.refl _ _) _)
  have HKC : Hid (∀ b W, Sem.run Tryz.prog (callFunc 25 b) W = .ok (.enter 25 b) W) := Lib.hid (fun b W => by kernel_rfl)
  have HKA : Hid (∀ b W, Sem.run Tryz.prog (callFunc 27 b) W = .ok (.enter 27 b) W) := Lib.hid (fun b W => by kernel_rfl)
  have HKP : Hid (∀ b W, Sem.run Tryz.prog (callFunc 28 b) W = .ok (.enter 28 b) W) := Lib.hid (fun b W => by kernel_rfl)
  have HKU : Hid (∀ b W, Sem.run Tryz.prog (callFunc 26 b) W = .ok (.enter 26 b) W) := Lib.hid (fun b W => by kernel_rfl)
  have HKR : Hid (∀ b W, Sem.run Tryz.prog (callFunc 24 b) W = .ok (.enter 24 b) W) := Lib.hid (fun b W => by kernel_rfl)
  go_enter Tryz.func6, Tryz.ntmps6
  go_wp2_with fail
  generalize w.alloc (.cells #[.slice A1 qs.length c1, .slice A2 ns.length c2] 25) = w1 at *
  refine (HVA.out _ HBW1.out).mono ?_
  rintro e w2 ⟨rfl, hb2⟩
  have HB2 : Hid (Below w.heap.size w w2) := Lib.hid (Below.tr HBW1.out hb2)
  have HSB2 := Lib.hid (HSB.out.below hb2 HSB.out.lt)
  clear hb2 HSB HVA
  cases V with
  | false =>
    have HE : Hid (E = 2) := HER
    go_wp2_with fail
    go_ret3
    obtain ⟨h1, h2⟩ := HG0.out (by rw [HE.out]; decide)
    rw [h1, h2, HE.out]
    exact RetOf.err HB2.out
  | true =>
    have HS := Lib.hid (HSH.out rfl)
    have HPRt := Lib.hid (HPR.out rfl)
    have HPNt := Lib.hid (HPN2.out rfl)
    have HCNt := Lib.hid (HCN2.out rfl)
    have HPLt := Lib.hid (HPL2.out rfl)
    clear HPR HPN2 HCN2 HPL2
    have hq8 := HS.out.1
    have hn8 := HS.out.2.2
    have hp8 := HP8.out rfl
    have s0 := HSB2.out.cellx 0 (v := .slice A1 qs.length c1) rfl
    have hz2 := HSB2.out.lt
    go_wp2_with fail
    clear s0 hz2
    go_loopg [5] qs.length (fun m0 v5 wq => ∃ k : Nat, v5 = .int .i64 (k : Int) ∧ k ≤ qs.length ∧ qs.length ≤ k + m0 ∧ Hid (poolQ (qs.drop k) = PV) ∧ Hid (Below w2.heap.size w2 wq))
    case atStart => exact ⟨0, rfl, Nat.zero_le _, by omega, HPV, Lib.hid (Below.refl _ _)⟩
    case round =>
      obtain ⟨k, rfl, hk, hkm, HI, HB⟩ := hrel
      have HBW : Hid (Below w.heap.size w wr) := Lib.hid (Below.tr HB2.out HB.out)
      have HSBr := Lib.hid (HSB2.out.below HB.out HSB2.out.lt)
      have HBR : Hid (B ≤ wr.heap.size) := Lib.hid (Nat.le_trans HBw.out HBW.out.size)
      have s0 := HSBr.out.cellx 0 (v := .slice A1 qs.length c1) rfl
      have s1 := HSBr.out.cellx 1 (v := .slice A2 ns.length c2) rfl
      have hzr := HSBr.out.lt
      by_cases hlt : k < qs.length
      · skip
        have hlti : (k : Int) < (qs.length : Int) := by omega
        obtain ⟨q, hx⟩ : ∃ x, qs[k] = x := ⟨_, rfl⟩
        have HSQ : Hid (shortQ q) := Lib.hid (hx ▸ HS.out.2.1 _ (List.getElem_mem hlt))
        obtain ⟨gq, offq, B1, B2, B3, r1, r2, r3, hAq, hgq, d0, d1, d2, d3, d4, d5, d6, d7, hqf⟩ := qu_cells (HR1.out.below (B'' := B) HBW.out HBw.out (Nat.le_refl _)) HBR.out hlt hx
        have hgq2 : gq < wr.heap.size := Nat.lt_of_lt_of_le hgq HBR.out
        have HC := Lib.hid (HOD.out q B1 B2 B3 r1 r2 r3 wr hqf HSQ.out)
        have HE : Hid ((bif decide (q.res.kind = 2) && decide (0 < (ordL q).length) then true else poolQ (qs.drop (k + 1))) = PV) := Lib.hid (by have h := HI.out; rw [drop_step hlt hx, poolQ_cons] at h; exact h)
        obtain ⟨⟨qnm, kd, un, qh⟩, qhs, qcs, qws, qgen⟩ := q
        unfold Qu.val at HC
        dsimp only at d0 d1 d2 d3 d4 d5 d6 d7 HC HE
        generalize ordL ⟨⟨qnm, kd, un, qh⟩, qhs, qcs, qws, qgen⟩ = O at *
        subst hAq
        clear hx hgq hqf
        by_cases hkd : kd = 2
        · subst hkd
          go_wp2_with fail
          refine HC.out.mono ?_
          rintro e w3 ⟨v3, rfl, ho3, hb3⟩
          obtain ⟨AO, cO, rfl, _, _, _⟩ := ho3.form
          have HB3 : Hid (Below w2.heap.size w2 w3) := Lib.hid (Below.tr HB.out hb3)
          have HBW3 : Hid (Below w.heap.size w w3) := Lib.hid (Below.tr HB2.out HB3.out)
          clear ho3 hb3
          by_cases ho : O.length = 0
          · have HE2 : Hid (poolQ (qs.drop (k + 1)) = PV) := Lib.hid (by have h := HE.out; rw [ho] at h; exact h)
            have ho2 : ¬ (0 : Int) < (O.length : Int) := by omega
            have ho3 : ¬ (O.length : Int) > (0 : Int) := by omega
            have ho4 : ¬ 0 < O.length := by omega
            go_wp2_with fail
            go_roundg (gk - 1)
            case measure => omega
            case rel => exact ⟨k + 1, by go_num, by omega, by omega, HE2, HB3⟩
          · have ho2 : (0 : Int) < (O.length : Int) := by omega
            have ho4 : 0 < O.length := by omega
            have HE2 : Hid (E = 12) := Lib.hid (by have h := HE.out; rw [decide_eq_true ho4] at h; have h2 := HER.out; rw [← h] at h2; exact h2)
            go_wp2_with fail
            go_ret3
            obtain ⟨h1, h2⟩ := HG0.out (by rw [HE2.out]; decide)
            rw [h1, h2, HE2.out]
            exact RetOf.err HBW3.out
        · have hkd2 : (kd == 2) = false := by simpa using hkd
          have HE2 : Hid (poolQ (qs.drop (k + 1)) = PV) := Lib.hid (by have h := HE.out; rw [decide_eq_false hkd] at h; exact h)
          go_wp2_with fail
          go_roundg (gk - 1)
          case measure => omega
          case rel => exact ⟨k + 1, by go_num, by omega, by omega, HE2, HB⟩
      · have hlti : ¬ (k : Int) < (qs.length : Int) := by omega
        have hltb := decide_eq_false hlti
        have hltn := decide_eq_false hlt
        have HE : Hid (E = bif FV then 0 else 6) := Lib.hid (by have h := HI.out; rw [drop_end hlt] at h; have h2 := HER.out; rw [← h] at h2; exact h2)
        obtain ⟨w3, hw3⟩ : ∃ v, v = wr := ⟨_, rfl⟩
        subst hw3
        have HB3 := HBW
        have HSB3 := HSBr
        clear HI HER HB HBW HSBr HBR HSB2 HB2 HPV
        go_wp2_with fail
        clear s0 s1 hzr hlti hltb hltn hlt hk hkm
        go_loopg [6] ns.length (fun m0 v6 wq => ∃ k : Nat, v6 = .int .i64 (k : Int) ∧ k ≤ ns.length ∧ ns.length ≤ k + m0 ∧ Hid (allFl (ns.drop k) = FV) ∧ Hid (Below w3.heap.size w3 wq))
        case atStart => exact ⟨0, rfl, Nat.zero_le _, by omega, HFV, Lib.hid (Below.refl _ _)⟩
        case round =>
          obtain ⟨k, rfl, hk, hkm, HI, HB⟩ := hrel
          have HBW : Hid (Below w.heap.size w wr) := Lib.hid (Below.tr HB3.out HB.out)
          have HSBr := Lib.hid (HSB3.out.below HB.out HSB3.out.lt)
          have HBR : Hid (B ≤ wr.heap.size) := Lib.hid (Nat.le_trans HBw.out HBW.out.size)
          have s0 := HSBr.out.cellx 0 (v := .slice A1 qs.length c1) rfl
          have s1 := HSBr.out.cellx 1 (v := .slice A2 ns.length c2) rfl
          have hzr := HSBr.out.lt
          by_cases hlt : k < ns.length
          · skip
            have hlti : (k : Int) < (ns.length : Int) := by omega
            obtain ⟨⟨⟨a, b, c⟩, ⟨kk, ⟨nm, ⟨m, u⟩⟩, l⟩, gen⟩, hx⟩ : ∃ x, ns[k] = x := ⟨_, rfl⟩
            obtain ⟨g, off, A3, c3, hAn, hbl, d0, d1, d2, d3, d4, d5, d6, d7, d8, hxf⟩ := nd_cells (HR2.out.below (B'' := B) HBW.out HBw.out (Nat.le_refl _)) HBR.out hlt hx
            have hbl2 : g < wr.heap.size := Nat.lt_of_lt_of_le hbl HBR.out
            have HC := Lib.hid (HFL.out (.mk kk ⟨nm, ⟨m, u⟩⟩ l) A3 c3 wr hxf)
            have HE2 : Hid ((flatS (.mk kk ⟨nm, ⟨m, u⟩⟩ l) && allFl (ns.drop (k + 1))) = FV) := Lib.hid (by have h := HI.out; rw [drop_step hlt hx, allFl_cons] at h; exact h)
            unfold Ex.val at HC
            dsimp only [Ex.k, Ex.atom, Ex.kids] at HC
            generalize flatS (.mk kk ⟨nm, ⟨m, u⟩⟩ l) = fl at *
            subst hAn
            clear hx hbl hxf
            go_wp2_with fail
            refine HC.out.mono ?_
            rintro e w4 ⟨rfl, hb4⟩
            have HB4 : Hid (Below w3.heap.size w3 w4) := Lib.hid (Below.tr HB.out hb4)
            have HBW4 : Hid (Below w.heap.size w w4) := Lib.hid (Below.tr HB3.out HB4.out)
            clear hb4
            cases fl with
            | true =>
              have HE3 : Hid (allFl (ns.drop (k + 1)) = FV) := HE2
              go_wp2_with fail
              go_roundg (gk - 1)
              case measure => omega
              case rel => exact ⟨k + 1, by go_num, by omega, by omega, HE3, HB4⟩
            | false =>
              have HE3 : Hid (E = 6) := Lib.hid (by have h := HE2.out; have h2 := HE.out; rw [← h] at h2; exact h2)
              go_wp2_with fail
              go_ret3
              obtain ⟨h1, h2⟩ := HG0.out (by rw [HE3.out]; decide)
              rw [h1, h2, HE3.out]
              exact RetOf.err HBW4.out
          · have hlti : ¬ (k : Int) < (ns.length : Int) := by omega
            have hltb := decide_eq_false hlti
            have hltn := decide_eq_false hlt
            have HE2 : Hid (E = 0) := Lib.hid (by have h := HI.out; rw [drop_end hlt] at h; have h2 := HE.out; rw [← h] at h2; exact h2)
            obtain ⟨hG, hP⟩ := HGS.out HE2.out
            have HGG := Lib.hid hG
            have HPP := Lib.hid hP
            clear hG hP HGS HI HE
            go_wp2_with fail
            clear hlti hltb hltn hlt hk hkm
            refine (HPRt.out _ HBW.out).mono ?_
            rintro e w5 ⟨v5, rfl, ho5, hb5⟩
            obtain ⟨A7, c7, rfl, hr7, _⟩ := OwnRows.newP ho5
            have HRP : Hid (RowsAt prE w5 (New w.heap.size w5) A7 PR) := Lib.hid (New.older hr7 HBW.out.size)
            have HB5 : Hid (Below w.heap.size w w5) := Lib.hid (Below.tr HBW.out hb5)
            have HSB5 := Lib.hid (HSBr.out.below hb5 HSBr.out.lt)
            clear hr7 ho5 hb5 HB HBW HSBr HBR s0 s1 hzr HB3 HSB3 HFV
            have HBz : Hid (w.heap.size ≤ w5.heap.size) := Lib.hid HB5.out.size
            have HZs : Hid (w.heap.size < w5.heap.size) := Lib.hid HSB5.out.lt
            go_wp2_with fail
            go_loopg [8, 9] PR.length (fun m0 v8 v9 wq => ∃ k : Nat, v9 = .int .i64 (k : Int) ∧ k ≤ PR.length ∧ PR.length ≤ k + m0 ∧ Hid (OwnRows (noE.from w5.heap.size) 37 wq w5.heap.size v8 ((PR.take k).map (nodeP S))) ∧ Hid (Below w5.heap.size w5 wq))
            case atStart => exact ⟨0, rfl, Nat.zero_le _, by omega, Lib.hid (OwnRows.nil _ _ _ _ (Nat.le_refl _)), Lib.hid (Below.refl _ _)⟩
            case round =>
              obtain ⟨k, rfl, hk, hkm, HO, HB⟩ := hrel
              have HBW : Hid (Below w.heap.size w wr) := Lib.hid (HB5.out.trans (HB.out.mono HBz.out))
              have HSBr := Lib.hid (HSB5.out.below HB.out HSB5.out.lt)
              by_cases hlt : k < PR.length
              · skip
                have hlti : (k : Int) < (PR.length : Int) := by omega
                have s0 := HSBr.out.cellx 0 (v := .slice A1 qs.length c1) rfl
                have s1 := HSBr.out.cellx 1 (v := .slice A2 ns.length c2) rfl
                have hzr := HSBr.out.lt
                obtain ⟨⟨a, b, c⟩, hx⟩ : ∃ x, PR[k] = x := ⟨_, rfl⟩
                obtain ⟨g1, off1, hA7, hg1, d0, d1, d2⟩ := pr_cells (S := Lo wr.heap.size) (HRP.out.same (fun b hb => HB.out.block b hb.2) (fun b hb => Nat.lt_of_lt_of_le hb.2 HB.out.size)) hlt hx
                have hg12 : g1 < wr.heap.size := hg1
                have HC : Hid (∀ W, Below wr.heap.size wr W → Calls Tryz.prog 24 #[.agg #[.slice A1 qs.length c1, .slice A2 ns.length c2], .agg #[.int .i64 a, .int .i64 b, .int .i64 c]] W (RetNo W (nodeP S ⟨a, b, c⟩))) := Lib.hid (fun W hb => HPNt.out a b c W (Below.tr HBW.out hb))
                have HN8 := Lib.hid (HNL.out ⟨a, b, c⟩)
                have HE : Hid ((PR.take k).map (nodeP S) ++ [nodeP S ⟨a, b, c⟩] = (PR.take (k + 1)).map (nodeP S)) := Lib.hid (by rw [List.take_add_one, List.map_append, List.getElem?_eq_getElem hlt, hx]; rfl)
                have hlk : ((PR.take k).map (nodeP S)).length ≤ 8 := by rw [List.length_map, List.length_take]; omega
                have HOB := Lib.hid (fun k hk => (HO.out.block k hk).2)
                generalize (PR.take k).map (nodeP S) = lk at *
                generalize nodeP S ⟨a, b, c⟩ = nd at *
                obtain ⟨kk, nx⟩ := nd
                subst hA7
                clear hx hg1
                go_wp2_with fail
                go_region_law (first
                  | (refine stepCall rfl 24 #[.tmp 65, .tmp 69] _ rfl #[.agg #[.slice A1 qs.length c1, .slice A2 ns.length c2], .agg #[.int .i64 a, .int .i64 b, .int .i64 c]] rfl HKR.out (HC.out _ (by (repeat (first | (with_reducible exact Below.refl _ _) | (with_reducible assumption) | (with_reducible refine below_drewN ?_ _) | (with_reducible refine Below.drew ?_) | (with_reducible refine Below.al ?_ _) | (with_reducible refine Below.st ?_ (by simp; try omega)) | (with_reducible refine Below.tr ?_ (Hid.out (by assumption))) | (with_reducible exact Hid.out (by assumption)))))) ?_; rintro e w6 ⟨A6, c6, rfl, hr6, hb6⟩; refine ⟨_, rfl, ?_⟩; have HR6 : Hid (RowsAt intE w6 (New wr.heap.size w6) A6 nx) := Lib.hid (New.older hr6 (Nat.le_refl _)); have HB6 : Hid (Below wr.heap.size wr w6) := Lib.hid (Below.tr (by (repeat (first | (with_reducible exact Below.refl _ _) | (with_reducible assumption) | (with_reducible refine below_drewN ?_ _) | (with_reducible refine Below.drew ?_) | (with_reducible refine Below.al ?_ _) | (with_reducible refine Below.st ?_ (by simp; try omega)) | (with_reducible refine Below.tr ?_ (Hid.out (by assumption))) | (with_reducible exact Hid.out (by assumption))))) hb6); have HO6 := Lib.hid (HO.out.below HB6.out (Nat.le_refl _)); clear hr6 hb6)
                  | (refine stepPushOneB (noTB.from w5.heap.size) rfl (.tmp 64) (.tmp 71) rfl w5.heap.size u8 lk ⟨kk, nx⟩ [.int .i64 kk, .slice A6 nx.length c6] _ rfl rfl HO6.out w6.heap.size rfl rfl (one_node HR6.out (by have := HN8.out; omega) HB.out.size HOB.out) (by unfold maxLen; omega) (by omega) ?_; intro v7 w7 hown7 hb7 hsp7; have HB7 : Hid (Below w5.heap.size w5 w7) := Lib.hid ((HB.out.trans (HB6.out.mono HB.out.size)).trans hb7); have HO7 := Lib.hid hown7; clear hown7 hb7 hsp7))
                all_goals (
                  rw [HE.out] at HO7
                  go_wp2_with fail
                  go_roundg (gk - 1)
                  case measure => omega
                  case rel => exact ⟨k + 1, by go_num, by omega, by omega, HO7, HB7⟩)
              · have hlti : ¬ (k : Int) < (PR.length : Int) := by omega
                have hkP : k = PR.length := by omega
                have HO2 : Hid (OwnRows (noE.from w5.heap.size) 37 wr w5.heap.size u8 (PR.map (nodeP S))) := Lib.hid (by have h := HO.out; rw [List.take_of_length_le (by omega)] at h; exact h)
                have HBr := HB
                have HGG2 : Hid (G = PR.map (nodeP S) ++ allNodes S PR 0 (qs.drop 0)) := HGG
                have HPL8 : Hid ((PR.map (nodeP S)).length ≤ 8) := Lib.hid (by rw [List.length_map]; omega)
                generalize PR.map (nodeP S) = N0 at *
                have hpl8 := HPL8.out
                clear HO HGG HB
                go_wp2_with fail
                obtain ⟨w6, hw6⟩ : ∃ v, v = wr := ⟨_, rfl⟩
                obtain ⟨g6, hg6⟩ : ∃ v, v = gk := ⟨_, rfl⟩
                subst hw6 hg6
                clear hlti hlt hk hkm HBW HSBr
                go_loopg [8, 10] qs.length (fun m0 v8 v10 wq => ∃ (i : Nat) (acc : List No), v10 = .int .i64 (i : Int) ∧ i ≤ qs.length ∧ qs.length ≤ i + m0 ∧ acc.length ≤ 8 + i * 32 ∧ Hid (G = acc ++ allNodes S PR i (qs.drop i)) ∧ Hid (OwnRows (noE.from w5.heap.size) 37 wq w5.heap.size v8 acc) ∧ Hid (Below w5.heap.size w5 wq))
                case atStart => exact ⟨0, N0, rfl, Nat.zero_le _, by omega, by omega, HGG2, HO2, HBr⟩
                case round =>
                  obtain ⟨i, acc, rfl, hi, him, hal, HI, HO, HB⟩ := hrel
                  have HBW : Hid (Below w.heap.size w wr) := Lib.hid (HB5.out.trans (HB.out.mono HBz.out))
                  have HSBr := Lib.hid (HSB5.out.below HB.out HSB5.out.lt)
                  have HBR : Hid (B ≤ wr.heap.size) := Lib.hid (Nat.le_trans HBw.out HBW.out.size)
                  by_cases hlt : i < qs.length
                  · have hlti : (i : Int) < (qs.length : Int) := by omega
                    have s0 := HSBr.out.cellx 0 (v := .slice A1 qs.length c1) rfl
                    have hzr := HSBr.out.lt
                    obtain ⟨q, hx⟩ : ∃ x, qs[i] = x := ⟨_, rfl⟩
                    have HSQ : Hid (shortQ q) := Lib.hid (hx ▸ HS.out.2.1 _ (List.getElem_mem hlt))
                    obtain ⟨gq, offq, B1, B2, B3, r1, r2, r3, hAq, hgq, d0, d1, d2, d3, d4, d5, d6, d7, hqf⟩ := qu_cells (HR1.out.below (B'' := B) HBW.out HBw.out (Nat.le_refl _)) HBR.out hlt hx
                    have hgq2 : gq < wr.heap.size := Nat.lt_of_lt_of_le hgq HBR.out
                    have HC := Lib.hid (HOD.out q B1 B2 B3 r1 r2 r3 wr hqf HSQ.out)
                    have HOL : Hid ((ordL q).length ≤ 16) := Lib.hid (ordL_len HSQ.out)
                    have HE : Hid (G = acc ++ (clNodes S PR i q 0 (ordL q) ++ allNodes S PR (i + 1) (qs.drop (i + 1)))) := Lib.hid (by have h := HI.out; rw [drop_step hlt hx, allNodes_cons] at h; exact h)
                    have HCNi := Lib.hid (fun n p W (hb : Below w.heap.size w W) hP hn hp => HCNt.out A7 c7 i n PR q p W hb hP (by omega) hlt hx hn hp)
                    have HCLi := Lib.hid (fun n p => HCL.out PR i n q p HSQ.out)
                    have HCLN := Lib.hid (fun n p l => clNodes_cons S PR i q n p l)
                    obtain ⟨CN, hCN⟩ : ∃ f, clNodes S PR i q = f := ⟨_, rfl⟩
                    obtain ⟨CS, hCS⟩ : ∃ f, claimS S PR i q = f := ⟨_, rfl⟩
                    rw [hCN] at HE
                    simp only [hCN, hCS] at HCLN HCNi HCLi
                    obtain ⟨RS, hRS⟩ : ∃ f, allNodes S PR (i + 1) (qs.drop (i + 1)) = f := ⟨_, rfl⟩
                    rw [hRS] at HE
                    have HRS := Lib.hid hRS
                    have HCN0 : Hid (∀ n, CN n [] = []) := Lib.hid (fun n => by rw [← hCN]; rfl)
                    clear hCN hCS hRS
                    obtain ⟨O, hO⟩ : ∃ o, ordL q = o := ⟨_, rfl⟩
                    have HCNj : Hid (∀ n p W, Below w.heap.size w W → RowsAt prE W (Lo W.heap.size) A7 PR → n < O.length → O[n]? = some p → _) := Lib.hid (fun n p W hb hP hn hp => HCNi.out n p W hb hP (by rw [hO]; exact hn) (by
                      have h2 : (ordL q)[n]? = some p := by rw [hO]; exact hp
                      exact (List.getElem?_eq_some_iff.1 h2).2))
                    rw [hO] at HC HOL HE
                    clear hO HCNi
                    obtain ⟨⟨qnm, kd, un, qh⟩, qhs, qcs, qws, qgen⟩ := q
                    unfold Qu.val at HC
                    dsimp only at d0 d1 d2 d3 d4 d5 d6 d7 HC
                    subst hAq
                    clear hx hgq hqf HI
                    have hol := HOL.out
                    go_wp2_with fail
                    refine HC.out.mono ?_
                    rintro e w9 ⟨v9, rfl, ho9, hb9⟩
                    obtain ⟨AO, cO, rfl, hrO, hlO⟩ := OwnRows.newP ho9
                    have HRO := Lib.hid hrO
                    have HO9 := Lib.hid (HO.out.below hb9 (Nat.le_refl _))
                    have HOB := Lib.hid (fun k hk => (HO.out.block k hk).2)
                    have HB9 : Hid (Below w5.heap.size w5 w9) := Lib.hid (HB.out.trans (hb9.mono HB.out.size))
                    have HSZ : Hid (wr.heap.size ≤ w9.heap.size ∧ w5.heap.size ≤ wr.heap.size) := Lib.hid ⟨hb9.size, HB.out.size⟩
                    clear hrO ho9 hb9 HC s0 hzr d0 d1 d2 d3 d4 d5 d6 d7 hgq2
                    go_wp2_with fail
                    clear HO HB HBW HSBr HBR
                    obtain ⟨w8, hw8⟩ : ∃ v, v = wr := ⟨_, rfl⟩
                    obtain ⟨g8, hg8⟩ : ∃ v, v = gk := ⟨_, rfl⟩
                    obtain ⟨v8, hv8⟩ : ∃ v, v = u8 := ⟨_, rfl⟩
                    subst hw8 hg8 hv8
                    go_loopg [8, 12] O.length (fun m0 v8' v12 wq => ∃ (k : Nat) (ac2 : List No), v12 = .int .i64 (k : Int) ∧ k ≤ O.length ∧ O.length ≤ k + m0 ∧ ac2.length ≤ 8 + i * 32 + 2 * k ∧ Hid (G = ac2 ++ (CN k (O.drop k) ++ RS)) ∧ Hid (OwnRows (noE.from w5.heap.size) 37 wq w5.heap.size v8' ac2) ∧ Hid (Below w5.heap.size w5 wq) ∧ Hid (PS (fun _ => False) w9 wq v8 v8'))
                    case atStart => exact ⟨0, acc, rfl, Nat.zero_le _, by omega, by omega, HE, HO9, HB9, Lib.hid (PS.refl _ _ _)⟩
                    case round =>
                      obtain ⟨k, ac2, rfl, hk, hkm, hal2, HI, HO, HB, HP⟩ := hrel
                      have HBW : Hid (Below w.heap.size w wr) := Lib.hid (HB5.out.trans (HB.out.mono HBz.out))
                      have HSBr := Lib.hid (HSB5.out.below HB.out HSB5.out.lt)
                      by_cases hlt2 : k < O.length
                      · have hlti2 : (k : Int) < (O.length : Int) := by omega
                        have s0 := HSBr.out.cellx 0 (v := .slice (some ⟨gq, offq, none⟩) qs.length c1) rfl
                        have s1 := HSBr.out.cellx 1 (v := .slice A2 ns.length c2) rfl
                        have hzr := HSBr.out.lt
                        obtain ⟨⟨a, b, c⟩, hx⟩ : ∃ x, O[k] = x := ⟨_, rfl⟩
                        obtain ⟨g1, off1, hAO, hg1, d0, d1, d2⟩ := pr_cells (S := Lo wr.heap.size) (HRO.out.same (fun b hb => (HP.out.block b hb.2 (fun h => h) (fun e => by have h1 := HOB.out b e; have h2 := hb.1; omega)).1) (fun b hb => Nat.lt_of_lt_of_le hb.2 HP.out.size)) hlt2 hx
                        have hg12 : g1 < wr.heap.size := hg1
                        have HPRr : Hid (RowsAt prE wr (Lo wr.heap.size) A7 PR) := Lib.hid (HRP.out.same (fun b hb => HB.out.block b hb.2) (fun b hb => Nat.lt_of_lt_of_le hb.2 HB.out.size))
                        have HCL1 := Lib.hid (HCLi.out k ⟨a, b, c⟩)
                        have HE2 : Hid (G = ac2 ++ (⟨((CS k ⟨a, b, c⟩).length : Int), CS k ⟨a, b, c⟩⟩ :: ⟨1, [idxP ⟨a, b, c⟩ 0 PR, ((firstS S i + 2 * k : Nat) : Int)]⟩ :: CN (k + 1) (O.drop (k + 1)) ++ RS)) := Lib.hid (by have h := HI.out; rw [drop_step hlt2 hx, HCLN.out] at h; exact h)
                        have HT2 := Lib.hid (HTW.out ⟨a, b, c⟩ i k)
                        have HC1 : Hid (∀ W, Below wr.heap.size wr W → _) := Lib.hid (fun W hb => HCNj.out k ⟨a, b, c⟩ W (Below.tr HBW.out hb) (HPRr.out.below hb (Nat.le_refl _) hb.size) hlt2 (by rw [List.getElem?_eq_getElem hlt2, hx]))
                        have HC2 := Lib.hid (fun W (hb : Below wr.heap.size wr W) => at_any A7 wr.heap.size c7 PR a b c W (by unfold maxLen; omega) hb.size (HPRr.out.below hb (Nat.le_refl _) (Nat.le_refl _)))
                        have HC3 : Hid (∀ W, Below wr.heap.size wr W → Calls Tryz.prog 28 #[.agg #[.slice (some ⟨gq, offq, none⟩) qs.length c1, .slice A2 ns.length c2], .int .i64 (i : Int), .int .i64 (k : Int)] W (Ret W (.int .i64 ((firstS S i + 2 * k : Nat) : Int)))) := Lib.hid (fun W hb => HPLt.out i k W (Below.tr HBW.out hb) (by omega) (by omega))
                        have HOB2 := Lib.hid (fun k hk => (HO.out.block k hk).2)
                        have HSZ2 : Hid (w5.heap.size ≤ wr.heap.size) := Lib.hid HB.out.size
                        generalize CS k ⟨a, b, c⟩ = cl at *
                        generalize idxP ⟨a, b, c⟩ 0 PR = ix at *
                        generalize ((firstS S i + 2 * k : Nat) : Int) = pl at *
                        have HC4 := Lib.hid (fun gl W (hb : wr.heap.size ≤ W.heap.size) (hr : RowsAt intE W (New wr.heap.size W) (some ⟨gl, 0, none⟩) [ix]) => put_any (some ⟨gl, 0, none⟩) 1 wr.heap.size [ix] pl W (by simp) hb hr)
                        rw [HT2.out] at HC4
                        subst hAO
                        clear hx hg1 HPRr HT2
                        go_wp2_with fail
                        go_region_law (first
                          | (refine stepCall rfl 25 #[.tmp 93, .tmp 94, .tmp 95, .tmp 96] _ rfl #[.agg #[.slice (some ⟨gq, offq, none⟩) qs.length c1, .slice A2 ns.length c2], .slice A7 PR.length c7, .int .i64 (i : Int), .int .i64 (k : Int)] rfl HKC.out (HC1.out _ (by (repeat (first | (with_reducible exact Below.refl _ _) | (with_reducible assumption) | (with_reducible refine below_drewN ?_ _) | (with_reducible refine Below.drew ?_) | (with_reducible refine Below.al ?_ _) | (with_reducible refine Below.st ?_ (by simp; try omega)) | (with_reducible refine Below.tr ?_ (Hid.out (by assumption))) | (with_reducible exact Hid.out (by assumption)))))) ?_; rintro e w10 ⟨A10, c10, rfl, hr10, hb10⟩; refine ⟨_, rfl, ?_⟩; have HR10 : Hid (RowsAt intE w10 (New wr.heap.size w10) A10 cl) := Lib.hid (New.older hr10 (Nat.le_refl _)); have HB10 : Hid (Below wr.heap.size wr w10) := Lib.hid (Below.tr (by (repeat (first | (with_reducible exact Below.refl _ _) | (with_reducible assumption) | (with_reducible refine below_drewN ?_ _) | (with_reducible refine Below.drew ?_) | (with_reducible refine Below.al ?_ _) | (with_reducible refine Below.st ?_ (by simp; try omega)) | (with_reducible refine Below.tr ?_ (Hid.out (by assumption))) | (with_reducible exact Hid.out (by assumption))))) hb10); obtain ⟨hc10, hf10⟩ := bcell HB10.out; have hs10 := HB10.out.size; have hz10 : w.heap.size < w10.heap.size := Nat.lt_of_lt_of_le hzr hs10; have hy10 : g1 < w10.heap.size := Nat.lt_of_lt_of_le hg12 hs10; clear hr10 hb10)
                          | (refine stepCall rfl 27 #[.tmp 98, .tmp 102] _ rfl #[.slice A7 PR.length c7, .agg #[.int .i64 a, .int .i64 b, .int .i64 c]] rfl HKA.out (HC2.out _ HB10.out) ?_; rintro e w11 ⟨rfl, hb11⟩; refine ⟨_, rfl, ?_⟩; have HB11 : Hid (Below wr.heap.size wr w11) := Lib.hid (Below.tr HB10.out hb11); have HR11 : Hid (RowsAt intE w11 (New wr.heap.size w11) A10 cl) := Lib.hid (New.grow hb11 (Nat.le_refl _) HR10.out); obtain ⟨hc11, hf11⟩ := bcell HB11.out; have hs11 := HB11.out.size; have hz11 : w.heap.size < w11.heap.size := Nat.lt_of_lt_of_le hzr hs11; have hy11 : g1 < w11.heap.size := Nat.lt_of_lt_of_le hg12 hs11; clear hb11 hc10 hf10)
                          | (refine stepCall rfl 28 #[.tmp 105, .tmp 106, .tmp 107] _ rfl #[.agg #[.slice (some ⟨gq, offq, none⟩) qs.length c1, .slice A2 ns.length c2], .int .i64 (i : Int), .int .i64 (k : Int)] rfl HKP.out (HC3.out _ (by first | exact HB11.out | exact Below.al HB11.out _)) ?_; rintro e w12 ⟨rfl, hb12⟩; refine ⟨_, rfl, ?_⟩; have HB12 : Hid (Below wr.heap.size wr w12) := Lib.hid (Below.tr (by first | exact HB11.out | exact Below.al HB11.out _) hb12); have HR12 : Hid (RowsAt intE w12 (New wr.heap.size w12) A10 cl) := Lib.hid (New.grow (Below.tr (by first | exact Below.refl _ _ | exact Below.al (Below.refl _ _) _) hb12) (Nat.le_refl _) HR11.out); (try (have hL : RowsAt intE w12 (New wr.heap.size w12) (some ⟨w11.heap.size, 0, none⟩) [ix] := lit1 hs11 hb12; have HL := Lib.hid hL; clear hL)); obtain ⟨hc12, hf12⟩ := bcell HB12.out; have hs12 := HB12.out.size; have hz12 : w.heap.size < w12.heap.size := Nat.lt_of_lt_of_le hzr hs12; have hy12 : g1 < w12.heap.size := Nat.lt_of_lt_of_le hg12 hs12; clear hb12 hc11 hf11)
                          | (refine stepCall rfl 26 #[.tmp 104, .tmp 108] _ rfl #[.slice (some ⟨w11.heap.size, 0, none⟩) 1 1, .int .i64 pl] rfl HKU.out (HC4.out w11.heap.size _ hs12 HL.out) ?_; rintro e w13 ⟨v13, rfl, hrow13, hb13⟩; refine ⟨_, rfl, ?_⟩; obtain ⟨A13, c13, rfl, hr13⟩ := hrow13; have HR13 := Lib.hid hr13; have HB13 : Hid (Below wr.heap.size wr w13) := Lib.hid (Below.tr HB12.out hb13); have HRC := Lib.hid (New.grow hb13 (Nat.le_refl _) HR12.out); have HO13 := Lib.hid (HO.out.below HB13.out (Nat.le_refl _)); have hs13 := HB13.out.size; clear hr13 hb13 hc12 hf12)
                          | (refine stepCall rfl 26 #[.tmp 104, .tmp 108] _ rfl #[.slice (some ⟨w12.heap.size, 0, none⟩) 1 1, .int .i64 pl] rfl HKU.out (HC4.out w12.heap.size _ (Nat.le_trans hs12 (by simp)) (lit0 w12 _ ix hs12)) ?_; rintro e w13 ⟨v13, rfl, hrow13, hb13⟩; refine ⟨_, rfl, ?_⟩; obtain ⟨A13, c13, rfl, hr13⟩ := hrow13; have HR13 := Lib.hid hr13; have HB13 : Hid (Below wr.heap.size wr w13) := Lib.hid (Below.tr (Below.al HB12.out _) hb13); have HRC := Lib.hid (New.grow (Below.tr (Below.al (Below.refl _ _) _) hb13) (Nat.le_refl _) HR12.out); have HO13 := Lib.hid (HO.out.below HB13.out (Nat.le_refl _)); have hs13 := HB13.out.size; clear hr13 hb13 hc12 hf12)
                          | (refine stepPushRB (noTB.from w5.heap.size) rfl (.tmp 92) (.tmp 111) rfl w5.heap.size u8 ac2 [⟨(cl.length : Int), cl⟩, ⟨1, [ix, pl]⟩] 2 rfl (some ⟨w13.heap.size, 0, none⟩) 2 rfl (HO13.out.alloc _) rfl (two_nodes HRC.out HR13.out (by have := HCL1.out; omega) (by simp) hs13 HSZ2.out HOB2.out) (by unfold maxLen; omega) (by omega) ?_; intro v15 w15 hown15 hb15 hsp15; have HO15 := Lib.hid hown15; have HB15 : Hid (Below w5.heap.size w5 w15) := Lib.hid ((Below.al (HB.out.trans (HB13.out.mono HB.out.size)) _).trans hb15); have HP15 : Hid (PS (fun _ => False) w9 w15 v8 v15) := Lib.hid (((HP.out.grow HB13.out).grow (Below.al (Below.refl _ _) _)).trans (PS.push hb15 hsp15)); clear hown15 hb15 hsp15))
                        all_goals (
                          go_wp2_with fail
                          go_roundg (gk - 1)
                          case measure => omega
                          case rel => exact ⟨k + 1, ac2 ++ [⟨(cl.length : Int), cl⟩, ⟨1, [ix, pl]⟩], by go_num, by omega, by omega, by rw [List.length_append]; simp; omega, Lib.hid (by rw [HE2.out, List.append_assoc]; rfl), HO15, HB15, HP15⟩)
                      · have hlti2 : ¬ (k : Int) < (O.length : Int) := by omega
                        have HE2 : Hid (G = ac2 ++ allNodes S PR (i + 1) (qs.drop (i + 1))) := Lib.hid (by have h := HI.out; rw [drop_end hlt2, HCN0.out, List.nil_append, ← HRS.out] at h; exact h)
                        go_wp2_with fail
                        go_roundg (g8 - 1)
                        case measure => omega
                        case rel => exact ⟨i + 1, ac2, by go_num, by omega, by omega, by omega, HE2, HO, HB⟩
                  · have hlti : ¬ (i : Int) < (qs.length : Int) := by omega
                    have HE : Hid (G = acc) := Lib.hid (by have h := HI.out; rw [drop_end hlt] at h; simpa [allNodes] using h)
                    obtain ⟨A8, c8, hv8, hr8, _, _⟩ := HO.out.from
                    subst hv8
                    have HR8 := Lib.hid hr8
                    clear hr8
                    have s0 := HSBr.out.cellx 0 (v := .slice A1 qs.length c1) rfl
                    have hzr := HSBr.out.lt
                    go_wp2_with fail
                    go_ret3
                    rw [HE.out, HPP.out, HE2.out]
                    exact ⟨A8, c8, A7, c7, rfl, New.older HR8.out HBz.out, New.grow HB.out (Nat.le_refl _) HRP.out, HBW.out⟩
end Go.Proofs.YtogeihdfmnohnaaGreatDoor
