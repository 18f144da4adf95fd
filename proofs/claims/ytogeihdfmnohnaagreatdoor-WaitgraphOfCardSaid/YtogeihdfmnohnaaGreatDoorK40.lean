/- Part 40 of 49 of the proof of waitgraphOf_holds (no condition). -/
import Derived.Test.YtogeihdfmnohnaaGreatDoorK37
import Derived.Test.YtogeihdfmnohnaaGreatDoorK39
set_option linter.unusedVariables false
set_option linter.unusedSimpArgs false
namespace Go.Proofs.YtogeihdfmnohnaaGreatDoor
open Go.RowKit
def fsOf (s : Ws) (n : Nat) : List Int := (List.range n).map fun j => ((firstS s j : Nat) : Int)
theorem fsOf_succ (s : Ws) (n : Nat) : fsOf s (n + 1) = fsOf s n ++ [((firstS s n : Nat) : Int)] := by unfold fsOf; rw [List.range_succ, List.map_append]; rfl
theorem fsOf_len (s : Ws) (n : Nat) : (fsOf s n).length = n := by unfold fsOf; simp
theorem fsOf_get (s : Ws) (n : Nat) : ∀ j (h : j < (fsOf s n).length), (fsOf s n)[j] = ((firstS s j : Nat) : Int) := by intro j h; simp only [fsOf, List.getElem_map, List.getElem_range]
theorem clNodes_len (s : Ws) (PR : List Pr) (i : Nat) (q : Qu) : ∀ (l : List Pr) (n : Nat), (clNodes s PR i q n l).length = 2 * l.length
  | [], _ => rfl
  | p :: l, n => by rw [clNodes_cons, List.length_cons, List.length_cons, clNodes_len s PR i q l, List.length_cons]; omega
set_option maxRecDepth 100000 in
set_option maxHeartbeats 16000000 in
theorem Of_any (s : Ws) (d : Nat) (A1 A2 : Option Addr) (c1 c2 B : Nat) (w : World) (hT : Tog w) (hw : WF w B d A1 A2 s) :
    Calls Tryz.prog 5 #[s.val A1 A2 c1 c2] w (RetOf w (okG s) (okP s) (errS s)) := by
  have HVA := Lib.hid (fun W (hb : Below w.heap.size w W) => WValidS_any s d A1 A2 c1 c2 B W (hT.below hb) (hw.below hb))
  have HER : Hid (errS s = bif stateB s then (bif poolQ s.queues then 12 else bif allFl s.needs then 0 else 6) else 2) := Lib.hid rfl
  have HG0 : Hid (errS s ≠ 0 → okG s = [] ∧ okP s = []) := Lib.hid (fun h => by unfold okG okP; rw [decide_eq_false h]; exact ⟨rfl, rfl⟩)
  have HG1 : Hid (errS s = 0 → okG s = (procsW s).map (nodeP s) ++ allNodes s (procsW s) 0 s.queues ∧ okP s = procsW s) := Lib.hid (fun h => by unfold okG okP graphS; rw [decide_eq_true h]; exact ⟨rfl, rfl⟩)
  have HSH := Lib.hid (stateB_short (s := s))
  have HOD := Lib.hid (fun q A1 A2 A3 c1 c2 c3 W (hq : QF W B A1 A2 A3 q) (h : shortQ q) => QOrder_any q A1 A2 A3 c1 c2 c3 W B hq h.2.1 h.2.2)
  have HFL := Lib.hid (fun x A cap W (hx : ExF W B d A x) h1 h2 => plain_any d x A cap B W hx h1 h2)
  have HFF := Lib.hid (needs_flat (s := s))
  have HPR := Lib.hid (fun (h : stateB s = true) W (hb : Below w.heap.size w W) => WProcs_any s d A1 A2 c1 c2 B W (hw.below hb) (by have := (stateB_short h).1; omega) (by have := (stateB_short h).2.2; omega) (stateB_short h).2.1)
  have HPN := Lib.hid (fun (h : stateB s = true) A3 A4 n3 c3 c4 gb cl v5 fs x y z W (hb : Below w.heap.size w W) h1 h2 h3 h4 => procP_any s d A1 A2 A3 A4 c1 c2 n3 c3 c4 B gb cl v5 fs x y z W (hT.below hb) (hw.below hb) h h1 h2 h3 h4)
  have HQN := Lib.hid (fun (h : stateB s = true) A3 A4 c3 c4 gb i cl v5 fs PR q L W (hb : Below w.heap.size w W) h1 h2 h3 h4 h5 h6 h7 h8 h9 => queueP_any s d A1 A2 A3 A4 c1 c2 c3 c4 B gb i cl v5 fs PR q L w W hT hw h hb h1 h2 h3 h4 h5 h6 h7 h8 h9)
  have HNL := Lib.hid (nodeP_len s)
  have HP8 : Hid (stateB s = true → (procsW s).length ≤ 8) := Lib.hid (fun hv => by unfold stateB at hv; simp only [Bool.and_eq_true, decide_eq_true_eq] at hv; exact hv.2)
  have HR1 := Lib.hid hw.r1
  have HR2 := Lib.hid hw.r2
  have HBw := Lib.hid hw.hB
  clear hw hT
  obtain ⟨E, hE⟩ : ∃ e, errS s = e := ⟨_, rfl⟩
  obtain ⟨G, hG⟩ : ∃ e, okG s = e := ⟨_, rfl⟩
  obtain ⟨P, hP⟩ : ∃ e, okP s = e := ⟨_, rfl⟩
  obtain ⟨V, hV⟩ : ∃ e, stateB s = e := ⟨_, rfl⟩
  obtain ⟨PR, hPR⟩ : ∃ e, procsW s = e := ⟨_, rfl⟩
  have HFS : Hid (∀ i, firstS s i = PR.length + 2 * sumO (s.queues.take i)) := Lib.hid (fun i => by unfold firstS; rw [hPR])
  rw [hE] at HER HG0 HG1
  rw [hG, hP] at HG0 HG1
  rw [hPR] at HG1 HPR HP8
  rw [hV] at HER HVA HSH HPR HPN HQN HP8 HFF
  rw [hE, hG, hP]
  clear hE hG hP hPR hV
  obtain ⟨PV, hPV⟩ : ∃ e, poolQ s.queues = e := ⟨_, rfl⟩
  obtain ⟨FV, hFV⟩ : ∃ e, allFl s.needs = e := ⟨_, rfl⟩
  rw [hPV, hFV] at HER
  have HPV : Hid (poolQ (s.queues.drop 0) = PV) := Lib.hid hPV
  have HFV : Hid (allFl (s.needs.drop 0) = FV) := Lib.hid hFV
  clear hPV hFV
  obtain ⟨S, hS⟩ : ∃ t, t = s := ⟨_, rfl⟩
  have HGS : Hid (E = 0 → G = PR.map (nodeP S) ++ allNodes S PR 0 s.queues ∧ P = PR) := Lib.hid (by rw [hS]; exact HG1.out)
  rw [← hS] at HNL HFS HPN HQN
  have hSq : S.queues = s.queues := by rw [hS]
  have hSn : S.needs = s.needs := by rw [hS]
  clear HG1
  obtain ⟨qs, ns⟩ := s
  unfold Ws.val at *
  dsimp only at HVA HPV HFV HGS HSH HPR HR1 HR2 hSq hSn HFS HFF ⊢
  rw [hSq, hSn] at HPN HQN
  rw [hSq] at HFS
  clear hS hSq hSn
  have HSB : Hid (Blk (w.alloc (.cells #[.slice A1 qs.length c1, .slice A2 ns.length c2] 25)) w.heap.size 25 #[.slice A1 qs.length c1, .slice A2 ns.length c2]) := Lib.hid (Blk.new w _ _)
  have HBW1 : Hid (Below w.heap.size w (w.alloc (.cells #[.slice A1 qs.length c1, .slice A2 ns.length c2] 25))) := Lib.hid (Below.al (Below.refl _ _) _)
  have HKP : Hid (∀ b W, Sem.run Tryz.prog (callFunc 17 b) W = .ok (.enter 17 b) W) := Lib.hid (fun b W => by kernel_rfl)
  have HKO : Hid (∀ b W, Sem.run Tryz.prog (callFunc 15 b) W = .ok (.enter 15 b) W) := Lib.hid (fun b W => by kernel_rfl)
  have HKR : Hid (∀ b W, Sem.run Tryz.prog (callFunc 18 b) W = .ok (.enter 18 b) W) := Lib.hid (fun b W => by kernel_rfl)
  go_enter Tryz.func5, Tryz.ntmps5
  go_wp2_with fail
  generalize w.alloc (.cells #[.slice A1 qs.length c1, .slice A2 ns.length c2] 25) = w1 at *
  refine (HVA.out _ HBW1.out).mono ?_
  rintro e w2 ⟨rfl, hb2⟩
  have HB2 : Hid (Below w.heap.size w w2) := Lib.hid (Below.tr HBW1.out hb2)
  have HSB2 := Lib.hid (HSB.out.below hb2 HSB.out.lt)
  clear hb2 HSB HVA
  cases V with
  | false =>
    have HE : Hid (E = 2) := HER
    go_wp2_with fail
    go_ret3
    obtain ⟨h1, h2⟩ := HG0.out (by rw [HE.out]; decide)
    rw [h1, h2, HE.out]
    exact RetOf.err HB2.out
  | true =>
    have HS := Lib.hid (HSH.out rfl)
    have HPRt := Lib.hid (HPR.out rfl)
    have HPNt := Lib.hid (HPN.out rfl)
    have HQNt := Lib.hid (HQN.out rfl)
    have HFFt := Lib.hid (HFF.out rfl)
    clear HPR HPN HQN HFF
    have hq8 := HS.out.1
    have hn8 := HS.out.2.2
    have hp8 := HP8.out rfl
    have s0 := HSB2.out.cellx 0 (v := .slice A1 qs.length c1) rfl
    have hz2 := HSB2.out.lt
    go_wp2_with fail
    clear s0 hz2
    go_loopg [21] qs.length (fun m0 v5 wq => ∃ k : Nat, v5 = .int .i64 (k : Int) ∧ k ≤ qs.length ∧ qs.length ≤ k + m0 ∧ Hid (poolQ (qs.drop k) = PV) ∧ Hid (Below w2.heap.size w2 wq))
    case atStart => exact ⟨0, rfl, Nat.zero_le _, by omega, HPV, Lib.hid (Below.refl _ _)⟩
    case round =>
      obtain ⟨k, rfl, hk, hkm, HI, HB⟩ := hrel
      have HBW : Hid (Below w.heap.size w wr) := Lib.hid (Below.tr HB2.out HB.out)
      have HSBr := Lib.hid (HSB2.out.below HB.out HSB2.out.lt)
      have HBR : Hid (B ≤ wr.heap.size) := Lib.hid (Nat.le_trans HBw.out HBW.out.size)
      by_cases hlt : k < qs.length
      · have hlti : (k : Int) < (qs.length : Int) := by omega
        obtain ⟨q, hx⟩ : ∃ x, qs[k] = x := ⟨_, rfl⟩
        have HSQ : Hid (shortQ q) := Lib.hid (hx ▸ HS.out.2.1 _ (List.getElem_mem hlt))
        obtain ⟨gq, offq, B1, B2, B3, r1, r2, r3, hAq, hgq, d0, d1, d2, d3, d4, d5, d6, d7, hqf⟩ := qu_cells (HR1.out.below (B'' := B) HBW.out HBw.out (Nat.le_refl _)) HBR.out hlt hx
        have hgq2 : gq < wr.heap.size := Nat.lt_of_lt_of_le hgq HBR.out
        have HC := Lib.hid (fun W (hb : Below wr.heap.size wr W) => HOD.out q B1 B2 B3 r1 r2 r3 W (hqf.below hb) HSQ.out)
        have HE : Hid ((bif decide (q.res.kind = 2) && decide (0 < (ordL q).length) then true else poolQ (qs.drop (k + 1))) = PV) := Lib.hid (by have h := HI.out; rw [drop_step hlt hx, poolQ_cons] at h; exact h)
        obtain ⟨⟨qnm, kd, un, qh⟩, qhs, qcs, qws, qgen⟩ := q
        unfold Qu.val at HC
        dsimp only at d0 d1 d2 d3 d4 d5 d6 d7 HC HE
        generalize ordL ⟨⟨qnm, kd, un, qh⟩, qhs, qcs, qws, qgen⟩ = O at *
        subst hAq
        clear hx hgq hqf
        have HQ12 : Hid (Blk (wr.alloc (.cells #[.string qnm, .int .i64 kd, .int .i64 un, .int .i64 qh, .slice B1 qhs.length r1, .slice B2 qcs.length r2, .slice B3 qws.length r3, .int .i64 qgen] 48)) wr.heap.size 48 #[.string qnm, .int .i64 kd, .int .i64 un, .int .i64 qh, .slice B1 qhs.length r1, .slice B2 qcs.length r2, .slice B3 qws.length r3, .int .i64 qgen]) := Lib.hid (Blk.new _ _ _)
        have HB12 : Hid (Below wr.heap.size wr (wr.alloc (.cells #[.string qnm, .int .i64 kd, .int .i64 un, .int .i64 qh, .slice B1 qhs.length r1, .slice B2 qcs.length r2, .slice B3 qws.length r3, .int .i64 qgen] 48))) := Lib.hid (Below.al (Below.refl _ _) _)
        by_cases hkd : kd = 2
        · subst hkd
          go_wp2_with fail
          refine (HC.out _ HB12.out).mono ?_
          rintro e w3 ⟨v3, rfl, ho3, hb3⟩
          obtain ⟨AO, cO, rfl, _, _, _⟩ := ho3.form
          have HB3 : Hid (Below w2.heap.size w2 w3) := Lib.hid (Below.tr (Below.tr HB.out HB12.out) hb3)
          have HBW3 : Hid (Below w.heap.size w w3) := Lib.hid (Below.tr HB2.out HB3.out)
          clear ho3 hb3 HQ12 HB12
          by_cases ho : O.length = 0
          · have HE2 : Hid (poolQ (qs.drop (k + 1)) = PV) := Lib.hid (by have h := HE.out; rw [ho] at h; exact h)
            have ho2 : ¬ (0 : Int) < (O.length : Int) := by omega
            have ho3 : ¬ (O.length : Int) > (0 : Int) := by omega
            have ho4 : ¬ 0 < O.length := by omega
            go_wp2_with fail
            go_roundg (gk - 1)
            case measure => omega
            case rel => exact ⟨k + 1, by go_num, by omega, by omega, HE2, HB3⟩
          · have ho2 : (0 : Int) < (O.length : Int) := by omega
            have ho4 : 0 < O.length := by omega
            have HE2 : Hid (E = 12) := Lib.hid (by have h := HE.out; rw [decide_eq_true ho4] at h; have h2 := HER.out; rw [← h] at h2; exact h2)
            go_wp2_with fail
            go_ret3
            obtain ⟨h1, h2⟩ := HG0.out (by rw [HE2.out]; decide)
            rw [h1, h2, HE2.out]
            exact RetOf.err HBW3.out
        · have hkd2 : (kd == 2) = false := by simpa using hkd
          have HE2 : Hid (poolQ (qs.drop (k + 1)) = PV) := Lib.hid (by have h := HE.out; rw [decide_eq_false hkd] at h; exact h)
          go_wp2_with fail
          go_roundg (gk - 1)
          case measure => omega
          case rel => exact ⟨k + 1, by go_num, by omega, by omega, HE2, Lib.hid (Below.tr HB.out HB12.out)⟩
      · have hlti : ¬ (k : Int) < (qs.length : Int) := by omega
        have HE : Hid (E = bif FV then 0 else 6) := Lib.hid (by have h := HI.out; rw [drop_end hlt] at h; have h2 := HER.out; rw [← h] at h2; exact h2)
        obtain ⟨w3, hw3⟩ : ∃ v, v = wr := ⟨_, rfl⟩
        subst hw3
        have HB3 := HBW
        have HSB3 := HSBr
        have s0 := HSB3.out.cellx 0 (v := .slice A1 qs.length c1) rfl
        have s1 := HSB3.out.cellx 1 (v := .slice A2 ns.length c2) rfl
        have hzr := HSB3.out.lt
        clear HI HER HB HBW HSBr HBR HSB2 HB2 HPV
        go_wp2_with fail
        clear s0 s1 hzr hlti hlt hk hkm
        go_loopg [39] ns.length (fun m0 v6 wq => ∃ k : Nat, v6 = .int .i64 (k : Int) ∧ k ≤ ns.length ∧ ns.length ≤ k + m0 ∧ Hid (allFl (ns.drop k) = FV) ∧ Hid (Below w3.heap.size w3 wq))
        case atStart => exact ⟨0, rfl, Nat.zero_le _, by omega, HFV, Lib.hid (Below.refl _ _)⟩
        case round =>
          obtain ⟨k, rfl, hk, hkm, HI, HB⟩ := hrel
          have HBW : Hid (Below w.heap.size w wr) := Lib.hid (Below.tr HB3.out HB.out)
          have HSBr := Lib.hid (HSB3.out.below HB.out HSB3.out.lt)
          have HBR : Hid (B ≤ wr.heap.size) := Lib.hid (Nat.le_trans HBw.out HBW.out.size)
          by_cases hlt : k < ns.length
          · have hlti : (k : Int) < (ns.length : Int) := by omega
            obtain ⟨⟨⟨a, b, c⟩, ⟨kk, ⟨nm, ⟨m, u⟩⟩, l⟩, gen⟩, hx⟩ : ∃ x, ns[k] = x := ⟨_, rfl⟩
            obtain ⟨g, off, A3, c3, hAn, hbl, d0, d1, d2, d3, d4, d5, d6, d7, d8, hxf⟩ := nd_cells (HR2.out.below (B'' := B) HBW.out HBw.out (Nat.le_refl _)) HBR.out hlt hx
            have hcp : l.length ≤ c3 ∧ c3 ≤ maxLen := nd_cap (HR2.out.below (B'' := B) HBW.out HBw.out (Nat.le_refl _)) hlt hAn d7
            have hbl2 : g < wr.heap.size := Nat.lt_of_lt_of_le hbl HBR.out
            have hff : plainS (.mk kk ⟨nm, ⟨m, u⟩⟩ l) = flatS (.mk kk ⟨nm, ⟨m, u⟩⟩ l) := HFFt.out _ (hx ▸ List.getElem_mem hlt)
            have HC := Lib.hid (fun W (hb : Below wr.heap.size wr W) => HFL.out (.mk kk ⟨nm, ⟨m, u⟩⟩ l) A3 c3 W (hxf.below hb) hcp.1 hcp.2)
            rw [hff] at HC
            have HE2 : Hid ((flatS (.mk kk ⟨nm, ⟨m, u⟩⟩ l) && allFl (ns.drop (k + 1))) = FV) := Lib.hid (by have h := HI.out; rw [drop_step hlt hx, allFl_cons] at h; exact h)
            unfold Ex.val at HC
            dsimp only [Ex.k, Ex.atom, Ex.kids] at HC
            generalize flatS (.mk kk ⟨nm, ⟨m, u⟩⟩ l) = fl at *
            subst hAn
            have HB12 : Hid (Below wr.heap.size wr (wr.alloc (.cells #[.int .i64 a, .int .i64 b, .int .i64 c, .int .i64 kk, .string nm, .int .i64 m, .int .i64 u, .slice A3 l.length c3, .int .i64 gen] 60))) := Lib.hid (Below.al (Below.refl _ _) _)
            clear hx hbl hxf hff hcp
            go_wp2_with fail
            refine (HC.out _ HB12.out).mono ?_
            rintro e w4 ⟨rfl, hb4⟩
            have HB4 : Hid (Below w3.heap.size w3 w4) := Lib.hid (Below.tr (Below.tr HB.out HB12.out) hb4)
            have HBW4 : Hid (Below w.heap.size w w4) := Lib.hid (Below.tr HB3.out HB4.out)
            clear hb4 HB12
            cases fl with
            | true =>
              have HE3 : Hid (allFl (ns.drop (k + 1)) = FV) := HE2
              go_wp2_with fail
              go_roundg (gk - 1)
              case measure => omega
              case rel => exact ⟨k + 1, by go_num, by omega, by omega, HE3, HB4⟩
            | false =>
              have HE3 : Hid (E = 6) := Lib.hid (by have h := HE2.out; have h2 := HE.out; rw [← h] at h2; exact h2)
              go_wp2_with fail
              go_ret3
              obtain ⟨h1, h2⟩ := HG0.out (by rw [HE3.out]; decide)
              rw [h1, h2, HE3.out]
              exact RetOf.err HBW4.out
          · have hlti : ¬ (k : Int) < (ns.length : Int) := by omega
            have HE2 : Hid (E = 0) := Lib.hid (by have h := HI.out; rw [drop_end hlt] at h; have h2 := HE.out; rw [← h] at h2; exact h2)
            obtain ⟨hG, hP⟩ := HGS.out HE2.out
            have HGG := Lib.hid hG
            have HPP := Lib.hid hP
            clear hG hP HGS HI HE
            obtain ⟨w4, hw4⟩ : ∃ v, v = wr := ⟨_, rfl⟩
            subst hw4
            have s0 := HSBr.out.cellx 0 (v := .slice A1 qs.length c1) rfl
            have s1 := HSBr.out.cellx 1 (v := .slice A2 ns.length c2) rfl
            have hzr := HSBr.out.lt
            go_upto_region 15 with fail
            clear hlti hlt hk hkm
            go_cut [9] (fun v9 wx => ∃ (gb : Nat) (AP : Option Addr) (cP : Nat), v9 = .pointer (some ⟨gb, 0, none⟩) ∧ w4.heap.size ≤ gb ∧ Hid (Blk wx gb 65 #[.slice A1 qs.length c1, .slice A2 ns.length c2, .slice AP PR.length cP, .slice none 0 0, .int .i64 0, .slice none 0 0]) ∧ Hid (RowsAt prE wx (fun b => w.heap.size ≤ b ∧ b < gb) AP PR) ∧ Hid (Below w4.heap.size w4 wx))
            case first =>
              go_wp2_with fail
              go_region_law (refine stepCall rfl 17 #[.tmp 49] _ rfl #[.agg #[.slice A1 qs.length c1, .slice A2 ns.length c2]] rfl HKP.out (HPRt.out _ (Below.tr HBW.out (by (repeat (first | (with_reducible exact Below.refl _ _) | (with_reducible assumption) | (with_reducible refine below_drewN ?_ _) | (with_reducible refine Below.drew ?_) | (with_reducible refine Below.al ?_ _) | (with_reducible refine Below.st ?_ (by simp; try omega)) | (with_reducible refine Below.tr ?_ (Hid.out (by assumption))) | (with_reducible exact Hid.out (by assumption))))))) ?_; rintro e w5 ⟨v5, rfl, ho5, hb5⟩; refine ⟨_, rfl, ?_⟩; obtain ⟨AP, cP, rfl, hr7, _⟩ := OwnRows.newP ho5; have HRP : Hid (RowsAt prE w5 (fun b => w.heap.size ≤ b ∧ b < w5.heap.size) AP PR) := Lib.hid (New.older hr7 HBW.out.size); have HB5 : Hid (Below w4.heap.size w4 w5) := Lib.hid (Below.tr (by (repeat (first | (with_reducible exact Below.refl _ _) | (with_reducible assumption) | (with_reducible refine below_drewN ?_ _) | (with_reducible refine Below.drew ?_) | (with_reducible refine Below.al ?_ _) | (with_reducible refine Below.st ?_ (by simp; try omega)) | (with_reducible refine Below.tr ?_ (Hid.out (by assumption))) | (with_reducible exact Hid.out (by assumption))))) hb5); obtain ⟨hc5, hf5⟩ := bcell HB5.out; have hs5 := HB5.out.size; have hz5 : w.heap.size < w5.heap.size := Nat.lt_of_lt_of_le hzr hs5; clear hr7 ho5 hb5)
              all_goals (go_wp2_with fail; go_meet; exact ⟨w5.heap.size, AP, cP, rfl, HB5.out.size, Lib.hid (Blk.new _ _ _), Lib.hid (HRP.out.same (fun b hb => Below.heap_alloc w5 _ b hb.2) (fun b hb => hb)), Lib.hid (Below.al HB5.out _)⟩)
            case rest =>
            obtain ⟨gb, AP, cP, rfl, hgb4, HK, HRP, HB6⟩ := hcut
            obtain ⟨w6, hw6⟩ : ∃ v, v = wc := ⟨_, rfl⟩
            subst hw6
            have HBW6 : Hid (Below w.heap.size w w6) := Lib.hid (Below.tr HBW.out HB6.out)
            have HSB6 := Lib.hid (HSBr.out.below HB6.out HSBr.out.lt)
            have hgw : w.heap.size < gb := Nat.lt_of_lt_of_le hzr hgb4
            have hgb6 : gb < w6.heap.size := HK.out.lt
            have HGW : Hid (w.heap.size < gb ∧ gb < w6.heap.size) := Lib.hid ⟨hgw, hgb6⟩
            have HBg : Hid (B ≤ gb) := Lib.hid (Nat.le_trans HBw.out (Nat.le_of_lt hgw))
            clear s0 s1 hzr HSBr HBR HBW HB HB3 HSB3 HB6 hgb4 HFV hgw
            have s0 := HSB6.out.cellx 0 (v := .slice A1 qs.length c1) rfl
            have s1 := HSB6.out.cellx 1 (v := .slice A2 ns.length c2) rfl
            have hz6 := HSB6.out.lt
            go_wp2_with fail
            clear s0 s1 hz6
            go_loopg [56] qs.length (fun m0 v56 wq => ∃ (k : Nat) (vF : Value), v56 = .int .i64 (k : Int) ∧ k ≤ qs.length ∧ qs.length ≤ k + m0 ∧ Hid (Blk wq gb 65 #[.slice A1 qs.length c1, .slice A2 ns.length c2, .slice AP PR.length cP, vF, .int .i64 ((sumO (qs.take k) : Nat) : Int), .slice none 0 0]) ∧ Hid (OwnRows intE 3 wq (gb + 1) vF (fsOf S k)) ∧ Hid (Below gb w6 wq))
            case atStart => exact ⟨0, .slice none 0 0, rfl, Nat.zero_le _, by omega, HK, Lib.hid (OwnRows.nil _ _ _ _ (Nat.succ_le_of_lt hgb6)), Lib.hid (Below.refl _ _)⟩
            case round =>
              obtain ⟨k, vF, rfl, hk, hkm, HKr, HO, HB⟩ := hrel
              have HBWr : Hid (Below w.heap.size w wr) := Lib.hid (HBW6.out.trans (HB.out.mono (Nat.le_of_lt HGW.out.1)))
              have HBR : Hid (B ≤ wr.heap.size) := Lib.hid (Nat.le_trans HBw.out HBWr.out.size)
              by_cases hlt : k < qs.length
              · have hlti : (k : Int) < (qs.length : Int) := by omega
                obtain ⟨q, hx⟩ : ∃ x, qs[k] = x := ⟨_, rfl⟩
                have HSQ : Hid (shortQ q) := Lib.hid (hx ▸ HS.out.2.1 _ (List.getElem_mem hlt))
                obtain ⟨gq, offq, B1, B2, B3, r1, r2, r3, hAq, hgq, d0, d1, d2, d3, d4, d5, d6, d7, hqf⟩ := qu_cells (HR1.out.below (B'' := B) HBWr.out HBw.out (Nat.le_refl _)) HBR.out hlt hx
                have hgq2 : gq < wr.heap.size := Nat.lt_of_lt_of_le hgq HBR.out
                have HC := Lib.hid (fun W (hb : Below gb wr W) => HOD.out q B1 B2 B3 r1 r2 r3 W ⟨hqf.r1.below hb HBg.out (Nat.le_refl _), hqf.r2.below hb HBg.out (Nat.le_refl _), hqf.r3.below hb HBg.out (Nat.le_refl _), hqf.m1, hqf.m2, hqf.m3, Nat.le_trans hqf.hB hb.size⟩ HSQ.out)
                have hol : (ordL q).length ≤ 16 := ordL_len HSQ.out
                have hsk : sumO (qs.take k) ≤ 1000 := by
                  have h1 := sumO_len (qs.take k) fun q hq => HS.out.2.1 q (List.mem_of_mem_take hq)
                  rw [List.length_take] at h1
                  omega
                have HSU := Lib.hid (sumO_take hlt hx)
                have HFK : Hid (fsOf S (k + 1) = fsOf S k ++ [(PR.length : Int) + 2 * ((sumO (qs.take k) : Nat) : Int)]) := Lib.hid (by rw [fsOf_succ, HFS.out]; congr 2)
                have hfkl : (fsOf S k).length ≤ 1000 := by rw [fsOf_len]; omega
                obtain ⟨⟨qnm, kd, un, qh⟩, qhs, qcs, qws, qgen⟩ := q
                unfold Qu.val at HC
                dsimp only at d0 d1 d2 d3 d4 d5 d6 d7 HC
                generalize ordL ⟨⟨qnm, kd, un, qh⟩, qhs, qcs, qws, qgen⟩ = O at *
                generalize sumO (qs.take k) = sk at *
                obtain ⟨sk1, hsk1⟩ : ∃ x, sumO (qs.take (k + 1)) = x := ⟨_, rfl⟩
                rw [hsk1] at HSU
                have HSK1 := Lib.hid hsk1
                clear hsk1
                generalize fsOf S k = fk at *
                subst hAq
                clear hx hgq hqf
                have HQ7 : Hid (Blk (wr.alloc (.cells #[.string qnm, .int .i64 kd, .int .i64 un, .int .i64 qh, .slice B1 qhs.length r1, .slice B2 qcs.length r2, .slice B3 qws.length r3, .int .i64 qgen] 48)) wr.heap.size 48 #[.string qnm, .int .i64 kd, .int .i64 un, .int .i64 qh, .slice B1 qhs.length r1, .slice B2 qcs.length r2, .slice B3 qws.length r3, .int .i64 qgen]) := Lib.hid (Blk.new _ _ _)
                have HK7 := Lib.hid (HKr.out.alloc (.cells #[.string qnm, .int .i64 kd, .int .i64 un, .int .i64 qh, .slice B1 qhs.length r1, .slice B2 qcs.length r2, .slice B3 qws.length r3, .int .i64 qgen] 48))
                have HO7 := Lib.hid (HO.out.alloc (.cells #[.string qnm, .int .i64 kd, .int .i64 un, .int .i64 qh, .slice B1 qhs.length r1, .slice B2 qcs.length r2, .slice B3 qws.length r3, .int .i64 qgen] 48))
                have HB7 : Hid (Below wr.heap.size wr (wr.alloc (.cells #[.string qnm, .int .i64 kd, .int .i64 un, .int .i64 qh, .slice B1 qhs.length r1, .slice B2 qcs.length r2, .slice B3 qws.length r3, .int .i64 qgen] 48))) := Lib.hid (Below.al (Below.refl _ _) _)
                have hwr : gb < wr.heap.size := HKr.out.lt
                have HOB : Hid (∀ k, vF.ownBlock = some k → k < wr.heap.size) := Lib.hid (fun k hk => (HO.out.block k hk).2)
                go_upto_region 19 with fail
                generalize wr.alloc (.cells #[.string qnm, .int .i64 kd, .int .i64 un, .int .i64 qh, .slice B1 qhs.length r1, .slice B2 qcs.length r2, .slice B3 qws.length r3, .int .i64 qgen] 48) = w7 at *
                have b2 := HK7.out.cellx 2 (v := .slice AP PR.length cP) rfl
                have b3 := HK7.out.cellx 3 (v := vF) rfl
                have b4 := HK7.out.cellx 4 (v := .int .i64 (sk : Int)) rfl
                have fb3 := HK7.out.frozen 3
                have hzb := HK7.out.lt
                clear d0 d1 d2 d3 d4 d5 d6 d7 hgq2
                go_cut [] (fun wx => ∃ (vF' : Value), Hid (Blk wx gb 65 #[.slice (some ⟨gq, offq, none⟩) qs.length c1, .slice A2 ns.length c2, .slice AP PR.length cP, vF', .int .i64 (sk : Int), .slice none 0 0]) ∧ Hid (OwnRows intE 3 wx (gb + 1) vF' (fk ++ [(PR.length : Int) + 2 * (sk : Int)])) ∧ Hid (PS (fun b => b = gb) w7 wx vF vF'))
                case first =>
                  have HO8 := Lib.hid (HO7.out.drewN 1)
                  go_wp2_with fail
                  go_region_law (refine stepPushOneB inTB rfl (.tmp 64) (.tmp 76) rfl (gb + 1) vF fk _ [.int .i64 _] _ rfl rfl HO8.out w7.heap.size rfl rfl rfl (by unfold maxLen; omega) (by omega) ?_; intro v15 w15 hown15 hb15 hsp15; have HO15 := Lib.hid hown15; obtain ⟨A15, c15, rfl, _, _, _⟩ := HO15.out.form; have HB15 := Lib.hid hb15; have HSP15 := Lib.hid hsp15; have hm15 := (hb15.cell (p := ⟨gb, 3, none⟩) (Nat.lt_succ_self gb)).trans b3; have hmf15 := (hb15.frozen (p := ⟨gb, 3, none⟩) (Nat.lt_succ_self gb)).trans fb3; have hs15 : gb < w15.heap.size := Nat.lt_of_lt_of_le hzb hb15.size; clear hown15 hb15 hsp15)
                  all_goals (
                    have HK8 := Lib.hid ((HK7.out.drewN 1).below HB15.out (Nat.lt_succ_self gb))
                    have HO17 : Hid (OwnRows intE 3 w15 (gb + 1) (.slice A15 (fk.length + 1) c15) (fk ++ [(PR.length : Int) + 2 * (sk : Int)])) := Lib.hid (by have h := HO15.out; rw [wrap_small (2 * (sk : Int)) (by omega) (by omega), wrap_small _ (by omega) (by omega), List.length_append] at h; exact h)
                    have HSP17 : Hid (Spares (w7.drewN 1) w15 vF (.slice A15 (fk.length + 1) c15)) := Lib.hid (by have h := HSP15.out; rw [List.length_append] at h; exact h)
                    go_wp2_with fail
                    go_meet
                    exact ⟨.slice A15 (fk.length + 1) c15, Lib.hid (HK8.out.set_ 3 (.slice A15 (fk.length + 1) c15)), Lib.hid (own_set HO17.out (Nat.lt_succ_self gb)), Lib.hid (PS.st (((PS.refl _ w7 vF).grow (below_drewN (Below.refl _ _) 1)).trans (PS.push HB15.out HSP17.out)) rfl)⟩)
                case rest =>
                obtain ⟨vF', HK9, HO9, HP9⟩ := hcut
                obtain ⟨w9, hw9⟩ : ∃ v, v = wc := ⟨_, rfl⟩
                subst hw9
                have HQ9 : Hid (Blk w9 wr.heap.size 48 #[.string qnm, .int .i64 kd, .int .i64 un, .int .i64 qh, .slice B1 qhs.length r1, .slice B2 qcs.length r2, .slice B3 qws.length r3, .int .i64 qgen]) := Lib.hid ((HP9.out.block _ HQ7.out.lt (fun e => by have h : wr.heap.size = gb := e; omega) (fun e => by have := HOB.out _ e; omega)).1.trans HQ7.out)
                have HB9 : Hid (Below gb wr w9) := Lib.hid ((HB7.out.mono (Nat.le_of_lt hwr)).trans (HP9.out.below (fun k hk => by have := (HO7.out.block k hk).1; omega) (fun k hk => by rw [hk]; exact Nat.le_refl _) (Nat.le_of_lt hzb)))
                have HZ9 : Hid (gb ≤ w9.heap.size) := Lib.hid (Nat.le_of_lt HK9.out.lt)
                clear b2 b3 b4 fb3 hzb HO7 HK7 HQ7 HOB
                go_upto_region 20 with fail
                have q0 := HQ9.out.cellx 0 (v := .string qnm) rfl
                have q1 := HQ9.out.cellx 1 (v := .int .i64 kd) rfl
                have q2 := HQ9.out.cellx 2 (v := .int .i64 un) rfl
                have q3 := HQ9.out.cellx 3 (v := .int .i64 qh) rfl
                have q4 := HQ9.out.cellx 4 (v := .slice B1 qhs.length r1) rfl
                have q5 := HQ9.out.cellx 5 (v := .slice B2 qcs.length r2) rfl
                have q6 := HQ9.out.cellx 6 (v := .slice B3 qws.length r3) rfl
                have q7 := HQ9.out.cellx 7 (v := .int .i64 qgen) rfl
                have hzq := HQ9.out.lt
                have b4 := HK9.out.cellx 4 (v := .int .i64 (sk : Int)) rfl
                have fb4 := HK9.out.frozen 4
                have hzb := HK9.out.lt
                go_wp2_with fail
                go_region_law (refine stepCall rfl 15 #[.tmp 84] _ rfl #[.agg #[.string qnm, .int .i64 kd, .int .i64 un, .int .i64 qh, .slice B1 qhs.length r1, .slice B2 qcs.length r2, .slice B3 qws.length r3, .int .i64 qgen]] rfl HKO.out (HC.out _ (HB9.out.trans ((show Below w9.heap.size w9 _ by (repeat (first | (with_reducible exact Below.refl _ _) | (with_reducible assumption) | (with_reducible refine below_drewN ?_ _) | (with_reducible refine Below.drew ?_) | (with_reducible refine Below.al ?_ _) | (with_reducible refine Below.st ?_ (by simp; try omega)) | (with_reducible refine Below.tr ?_ (Hid.out (by assumption))) | (with_reducible exact Hid.out (by assumption))))).mono HZ9.out))) ?_; rintro e w10 ⟨v10, rfl, ho10, hb10⟩; refine ⟨_, rfl, ?_⟩; obtain ⟨AO, cO, rfl, _, _, _⟩ := ho10.form; have HB10 : Hid (Below w9.heap.size w9 w10) := Lib.hid (Below.tr (by (repeat (first | (with_reducible exact Below.refl _ _) | (with_reducible assumption) | (with_reducible refine below_drewN ?_ _) | (with_reducible refine Below.drew ?_) | (with_reducible refine Below.al ?_ _) | (with_reducible refine Below.st ?_ (by simp; try omega)) | (with_reducible refine Below.tr ?_ (Hid.out (by assumption))) | (with_reducible exact Hid.out (by assumption))))) hb10); obtain ⟨hc10, hf10⟩ := bcell HB10.out; have hs10 := HB10.out.size; have hz10 : gb < w10.heap.size := Nat.lt_of_lt_of_le hzb hs10; clear ho10 hb10)
                all_goals (
                  have HK10 := Lib.hid (HK9.out.below HB10.out HK9.out.lt)
                  have HO10 := Lib.hid (HO9.out.below HB10.out (Nat.le_refl _))
                  have hsu : (sk : Int) + (O.length : Int) = (sk1 : Int) := by have h := HSU.out; omega
                  have HO11 := Lib.hid (own_set (u := .int .i64 (sk1 : Int)) (o := 4) HO10.out (Nat.lt_succ_self gb))
                  have HB11 : Hid (Below gb w9 (w10.setCell ⟨gb, 4, none⟩ (.int .i64 (sk1 : Int)))) := Lib.hid ((HB10.out.mono HZ9.out).setCell (Nat.le_refl gb) _)
                  rw [← HFK.out] at HO11
                  go_wp2_with fail
                  go_roundg (gk - 1)
                  case measure => omega
                  case rel => exact ⟨k + 1, vF', by go_num, by omega, by omega, by rw [HSK1.out]; exact Lib.hid (HK10.out.set_ 4 (.int .i64 (sk1 : Int))), HO11, Lib.hid ((HB.out.trans HB9.out).trans HB11.out)⟩)
              · have hlti : ¬ (k : Int) < (qs.length : Int) := by omega
                obtain rfl : k = qs.length := by omega
                have HFV : Hid (∀ j (h : j < (fsOf S qs.length).length), (fsOf S qs.length)[j] = ((firstS S j : Nat) : Int)) := Lib.hid (fsOf_get S qs.length)
                have hfl : (fsOf S qs.length).length = qs.length := fsOf_len S qs.length
                generalize fsOf S qs.length = fs at *
                obtain ⟨cl, hcl⟩ : ∃ c : Int, ((sumO (qs.take qs.length) : Nat) : Int) = c := ⟨_, rfl⟩
                rw [hcl] at HKr
                obtain ⟨A4, c4, rfl, hr4, _⟩ := OwnRows.newP HO.out
                have HFL := Lib.hid hfl
                have HBD : Hid (Bd wr gb (fun v => #[.slice A1 qs.length c1, .slice A2 ns.length c2, .slice AP PR.length cP, .slice A4 fs.length c4, .int .i64 cl, v]) fs A4 (.slice none 0 0) []) := Lib.hid ⟨HKr.out, hr4.mono (fun b hb => ⟨⟨hb.2, fun e => by cases e⟩, hb.1⟩), OwnRows.nil _ _ _ _ (Nat.succ_le_of_lt HKr.out.lt)⟩
                obtain ⟨w7, hw7⟩ : ∃ v, v = wr := ⟨_, rfl⟩
                subst hw7
                have HBW7 := HBWr
                have HB67 := HB
                have HSB7 : Hid (Blk w7 w.heap.size 25 #[.slice A1 qs.length c1, .slice A2 ns.length c2]) := Lib.hid (HSB6.out.below HB67.out HGW.out.1)
                have HRP7 : Hid (RowsAt prE w7 (fun b => w.heap.size ≤ b ∧ b < gb) AP PR) := Lib.hid (HRP.out.same (fun b hb => HB67.out.block b hb.2) (fun b hb => hb))
                have HG7 : Hid (w.heap.size < gb ∧ gb < w7.heap.size) := Lib.hid ⟨HGW.out.1, HKr.out.lt⟩
                have b2 := HKr.out.cellx 2 (v := .slice AP PR.length cP) rfl
                have hzb := HKr.out.lt
                clear hcl hr4 HO HKr HBR HBWr HB hk hkm hfl HK HRP HBW6 HSB6 HGW
                go_wp2_with fail
                clear hlti hlt b2 hzb
                go_loopg [96] PR.length (fun m0 v96 wq => ∃ (k : Nat) (vN : Value), v96 = .int .i64 (k : Int) ∧ k ≤ PR.length ∧ PR.length ≤ k + m0 ∧ Hid (Bd wq gb (fun v => #[.slice A1 qs.length c1, .slice A2 ns.length c2, .slice AP PR.length cP, .slice A4 fs.length c4, .int .i64 cl, v]) fs A4 vN ((PR.take k).map (nodeP S))) ∧ Hid (Below gb w7 wq))
                case atStart => exact ⟨0, .slice none 0 0, rfl, Nat.zero_le _, by omega, HBD, Lib.hid (Below.refl _ _)⟩
                case round =>
                  obtain ⟨k, vN, rfl, hk, hkm, HD, HB⟩ := hrel
                  have HBWr : Hid (Below w.heap.size w wr) := Lib.hid (HBW7.out.trans (HB.out.mono (Nat.le_of_lt HG7.out.1)))
                  by_cases hlt : k < PR.length
                  · have hlti : (k : Int) < (PR.length : Int) := by omega
                    obtain ⟨⟨a, b, c⟩, hx⟩ : ∃ x, PR[k] = x := ⟨_, rfl⟩
                    have hgr : gb < wr.heap.size := HD.out.blk.lt
                    obtain ⟨g1, off1, hA7, hg1, d0, d1, d2⟩ := pr_cells (S := Lo wr.heap.size) (HRP7.out.same (fun b hb => HB.out.block b hb.2) (fun b hb => Nat.lt_trans hb.2 hgr)) hlt hx
                    have hg12 : g1 < wr.heap.size := hg1
                    have HN8 := Lib.hid (HNL.out ⟨a, b, c⟩)
                    have HE : Hid ((PR.take k).map (nodeP S) ++ [nodeP S ⟨a, b, c⟩] = (PR.take (k + 1)).map (nodeP S)) := Lib.hid (by rw [List.take_add_one, List.map_append, List.getElem?_eq_getElem hlt, hx]; rfl)
                    have hlk : ((PR.take k).map (nodeP S)).length ≤ 8 := by rw [List.length_map, List.length_take]; omega
                    have HB8 : Hid (Below wr.heap.size wr (wr.alloc (.cells #[.int .i64 a, .int .i64 b, .int .i64 c] 51))) := Lib.hid (Below.al (Below.refl _ _) _)
                    have HP8' : Hid (Blk (wr.alloc (.cells #[.int .i64 a, .int .i64 b, .int .i64 c] 51)) wr.heap.size 51 #[.int .i64 a, .int .i64 b, .int .i64 c]) := Lib.hid (Blk.new _ _ _)
                    generalize (PR.take k).map (nodeP S) = lk at *
                    have HPNk := Lib.hid (fun A3 A4 n3 c3 c4 gb cl v5 fs W hb h1 h2 h3 h4 => HPNt.out A3 A4 n3 c3 c4 gb cl v5 fs a b c W hb h1 h2 h3 h4)
                    generalize nodeP S ⟨a, b, c⟩ = nd at *
                    obtain ⟨kk, nx⟩ := nd
                    subst hA7
                    clear hx hg1
                    go_upto_region 25 with fail
                    generalize wr.alloc (.cells #[.int .i64 a, .int .i64 b, .int .i64 c] 51) = w8 at *
                    have HBW8 : Hid (Below w.heap.size w w8) := Lib.hid (Below.tr HBWr.out HB8.out)
                    have HD8 := Lib.hid (HD.out.next HB8.out)
                    have HCP : Hid (∀ W, Below w8.heap.size w8 W → Calls Tryz.prog 18 #[.pointer (some ⟨gb, 0, none⟩), .agg #[.int .i64 a, .int .i64 b, .int .i64 c]] W (RetNo W ⟨kk, nx⟩)) := Lib.hid (fun W hb => HPNk.out _ A4 PR.length cP c4 gb cl vN fs W (Below.tr HBW8.out hb) (HD8.out.next hb).blk ((HD8.out.next hb).fst.mono (fun b hb => hb.1.1)) HFL.out HFV.out)
                    have b5 := HD8.out.blk.cellx 5 (v := vN) rfl
                    have fb5 := HD8.out.blk.frozen 5
                    have hzb := HD8.out.blk.lt
                    have p0 := HP8'.out.cellx 0 (v := .int .i64 a) rfl
                    have p1 := HP8'.out.cellx 1 (v := .int .i64 b) rfl
                    have p2 := HP8'.out.cellx 2 (v := .int .i64 c) rfl
                    have hzp := HP8'.out.lt
                    have HGB8 : Hid (gb + 1 ≤ w8.heap.size) := Lib.hid (Nat.succ_le_of_lt hzb)
                    have HOB8 : Hid (∀ k, vN.ownBlock = some k → k < w8.heap.size) := Lib.hid (fun k hk => (HD8.out.nds.block k hk).2)
                    clear d0 d1 d2 hg12
                    go_wp2_with fail
                    go_region_law (first
                      | (refine stepCall rfl 18 #[.tmp 105, .tmp 106] _ rfl #[.pointer (some ⟨gb, 0, none⟩), .agg #[.int .i64 a, .int .i64 b, .int .i64 c]] rfl HKR.out (HCP.out _ (by (repeat (first | (with_reducible exact Below.refl _ _) | (with_reducible assumption) | (with_reducible refine below_drewN ?_ _) | (with_reducible refine Below.drew ?_) | (with_reducible refine Below.al ?_ _) | (with_reducible refine Below.st ?_ (by simp; try omega)) | (with_reducible refine Below.tr ?_ (Hid.out (by assumption))) | (with_reducible exact Hid.out (by assumption)))))) ?_; rintro e w9 ⟨A9, c9, rfl, hr9, hb9⟩; refine ⟨_, rfl, ?_⟩; have HR9 : Hid (RowsAt intE w9 (New w8.heap.size w9) A9 nx) := Lib.hid (New.older hr9 (Nat.le_refl _)); have HB9 : Hid (Below w8.heap.size w8 w9) := Lib.hid (Below.tr (by (repeat (first | (with_reducible exact Below.refl _ _) | (with_reducible assumption) | (with_reducible refine below_drewN ?_ _) | (with_reducible refine Below.drew ?_) | (with_reducible refine Below.al ?_ _) | (with_reducible refine Below.st ?_ (by simp; try omega)) | (with_reducible refine Below.tr ?_ (Hid.out (by assumption))) | (with_reducible exact Hid.out (by assumption))))) hb9); have HD9 := Lib.hid (HD8.out.next HB9.out); obtain ⟨hc9, hf9⟩ := bcell HB9.out; have hs9 := HB9.out.size; have hz9 : gb < w9.heap.size := Nat.lt_of_lt_of_le hzb hs9; have m5 := (HB9.out.cell (p := ⟨gb, 5, none⟩) hzb).trans b5; have mf5 := (HB9.out.frozen (p := ⟨gb, 5, none⟩) hzb).trans fb5; clear hr9 hb9)
                      | (refine stepPushOneB (noTB.from (gb + 1)) rfl (.tmp 104) (.tmp 108) rfl (gb + 1) vN lk ⟨kk, nx⟩ [.int .i64 kk, .slice A9 nx.length c9] _ rfl rfl HD9.out.nds w9.heap.size rfl rfl (one_node HR9.out (by have := HN8.out; omega) HGB8.out HOB8.out) (by unfold maxLen; omega) (by omega) ?_; intro v10 w10 hown10 hb10 hsp10; have HO10 := Lib.hid hown10; obtain ⟨A10, c10, rfl, _, _, _⟩ := HO10.out.form; have HB10 := Lib.hid hb10; have HS10 := Lib.hid hsp10; have n5 := (hb10.cell (p := ⟨gb, 5, none⟩) (Nat.lt_succ_self gb)).trans m5; have nf5 := (hb10.frozen (p := ⟨gb, 5, none⟩) (Nat.lt_succ_self gb)).trans mf5; have hz10 : gb < w10.heap.size := Nat.lt_of_lt_of_le hz9 hb10.size; clear hown10 hb10 hsp10))
                    all_goals (
                      have HO11 : Hid (OwnRows (noE.from (gb + 1)) 37 w10 (gb + 1) (.slice A10 (lk.length + 1) c10) (lk ++ [⟨kk, nx⟩])) := Lib.hid (by have h := HO10.out; rw [List.length_append] at h; exact h)
                      have HS11 : Hid (Spares w9 w10 vN (.slice A10 (lk.length + 1) c10)) := Lib.hid (by have h := HS10.out; rw [List.length_append] at h; exact h)
                      have HD11 := Lib.hid (HD9.out.push (o := 5) HO11.out HB10.out HS11.out rfl)
                      have HB11 : Hid (Below gb w8 (w10.setCell ⟨gb, 5, none⟩ (.slice A10 (lk.length + 1) c10))) := Lib.hid (((HB9.out.mono (Nat.le_of_lt hzb)).trans (HB10.out.mono (Nat.le_succ gb))).setCell (Nat.le_refl gb) _)
                      rw [HE.out] at HD11
                      go_wp2_with fail
                      go_roundg (gk - 1)
                      case measure => omega
                      case rel => exact ⟨k + 1, .slice A10 (lk.length + 1) c10, by go_num, by omega, by omega, HD11, Lib.hid ((HB.out.trans (HB8.out.mono (Nat.le_of_lt hgr))).trans HB11.out)⟩)
                  · have hlti : ¬ (k : Int) < (PR.length : Int) := by omega
                    have HD2 : Hid (Bd wr gb (fun v => #[.slice A1 qs.length c1, .slice A2 ns.length c2, .slice AP PR.length cP, .slice A4 fs.length c4, .int .i64 cl, v]) fs A4 vN (PR.map (nodeP S))) := Lib.hid (by have h := HD.out; rw [List.take_of_length_le (by omega)] at h; exact h)
                    have HGG2 : Hid (G = PR.map (nodeP S) ++ allNodes S PR 0 (qs.drop 0)) := HGG
                    have hpl8 : (PR.map (nodeP S)).length ≤ 8 := by rw [List.length_map]; omega
                    generalize PR.map (nodeP S) = N0 at *
                    obtain ⟨wL, hwL⟩ : ∃ v, v = wr := ⟨_, rfl⟩
                    subst hwL
                    have HBL := HB
                    have HBWL := HBWr
                    have HSBL := Lib.hid (HSB7.out.below HB.out HG7.out.1)
                    have HRPL : Hid (RowsAt prE wL (fun b => w.heap.size ≤ b ∧ b < gb) AP PR) := Lib.hid (HRP7.out.same (fun b hb => HB.out.block b hb.2) (fun b hb => hb))
                    have s0 := HSBL.out.cellx 0 (v := .slice A1 qs.length c1) rfl
                    have s1 := HSBL.out.cellx 1 (v := .slice A2 ns.length c2) rfl
                    have hzr := HSBL.out.lt
                    have HGL : Hid (w.heap.size < gb) := Lib.hid HG7.out.1
                    clear HD HGG HB HBWr HSB7 HRP7 HBD HBW7 HB67 HG7 hk hkm
                    go_wp2_with fail
                    clear s0 s1 hzr hlti hlt
                    go_loopg [116] qs.length (fun m0 v116 wq => ∃ (i : Nat) (acc : List No) (vN : Value), v116 = .int .i64 (i : Int) ∧ i ≤ qs.length ∧ qs.length ≤ i + m0 ∧ acc.length ≤ 8 + i * 32 ∧ Hid (G = acc ++ allNodes S PR i (qs.drop i)) ∧ Hid (Bd wq gb (fun v => #[.slice A1 qs.length c1, .slice A2 ns.length c2, .slice AP PR.length cP, .slice A4 fs.length c4, .int .i64 cl, v]) fs A4 vN acc) ∧ Hid (Below gb wL wq))
                    case atStart => exact ⟨0, N0, vN, rfl, Nat.zero_le _, by omega, by omega, HGG2, HD2, Lib.hid (Below.refl _ _)⟩
                    case round =>
                      obtain ⟨i, acc, vN, rfl, hi, him, hal, HI, HD, HB⟩ := hrel
                      have HBWr : Hid (Below w.heap.size w wr) := Lib.hid (HBWL.out.trans (HB.out.mono (Nat.le_of_lt HGL.out)))
                      have HRPr : Hid (RowsAt prE wr (fun b => w.heap.size ≤ b ∧ b < gb) AP PR) := Lib.hid (HRPL.out.same (fun b hb => HB.out.block b hb.2) (fun b hb => hb))
                      by_cases hlt : i < qs.length
                      · have hlti : (i : Int) < (qs.length : Int) := by omega
                        obtain ⟨q, hx⟩ : ∃ x, qs[i] = x := ⟨_, rfl⟩
                        have HSQ : Hid (shortQ q) := Lib.hid (hx ▸ HS.out.2.1 _ (List.getElem_mem hlt))
                        have hol : (ordL q).length ≤ 16 := ordL_len HSQ.out
                        have hcn : (clNodes S PR i q 0 (ordL q)).length = 2 * (ordL q).length := clNodes_len S PR i q _ _
                        have HE : Hid (G = (acc ++ clNodes S PR i q 0 (ordL q)) ++ allNodes S PR (i + 1) (qs.drop (i + 1))) := Lib.hid (by have h := HI.out; rw [drop_step hlt hx, allNodes_cons, ← List.append_assoc] at h; exact h)
                        have HC := Lib.hid (HQNt.out AP A4 cP c4 gb i cl vN fs PR q acc wr HBWr.out (Nat.le_of_lt HGL.out) (HRPr.out.mono (fun b hb => hb.2)) (by omega) (by omega) hlt hx HD.out HFL.out HFV.out)
                        generalize clNodes S PR i q 0 (ordL q) = CL at *
                        have HOB : Hid (∀ k, vN.ownBlock = some k → gb ≤ k) := Lib.hid (fun k hk => Nat.le_of_succ_le (HD.out.nds.block k hk).1)
                        have hgr := HD.out.blk.lt
                        clear hx
                        go_wp2_with fail
                        refine HC.out.mono ?_
                        rintro e w9 ⟨rfl, v6, hps, hbd⟩
                        have HD9 := Lib.hid hbd
                        have HB9 : Hid (Below gb wr w9) := Lib.hid (hps.below HOB.out (fun k hk => by rw [hk]; exact Nat.le_refl _) (Nat.le_of_lt hgr))
                        clear hps hbd
                        go_wp2_with fail
                        go_roundg (gk - 1)
                        case measure => omega
                        case rel => exact ⟨i + 1, acc ++ CL, v6, by go_num, by omega, by omega, by rw [List.length_append]; omega, HE, HD9, Lib.hid (HB.out.trans HB9.out)⟩
                      · have hlti : ¬ (i : Int) < (qs.length : Int) := by omega
                        have HE : Hid (G = acc) := Lib.hid (by have h := HI.out; rw [drop_end hlt] at h; simpa [allNodes] using h)
                        obtain ⟨A8, c8, hv8, hr8, _, _⟩ := HD.out.nds.from
                        subst hv8
                        have HR8 := Lib.hid hr8
                        have b2 := HD.out.blk.cellx 2 (v := .slice AP PR.length cP) rfl
                        have b5 := HD.out.blk.cellx 5 (v := .slice A8 acc.length c8) rfl
                        have hzb := HD.out.blk.lt
                        clear hr8
                        go_wp2_with fail
                        have hgl := HGL.out
                        go_region_law (fail)
                        all_goals (
                          go_wp2_with fail
                          go_ret3
                          rw [HE.out, HPP.out, HE2.out]
                          exact ⟨A8, c8, AP, cP, rfl, (New.older HR8.out (by omega)).same (fun _ _ => rfl) (fun _ h => h), HRPr.out.same (fun _ _ => rfl) (fun b hb => ⟨hb.1, Nat.lt_trans hb.2 hzb⟩), below_drewN HBWr.out _⟩)
end Go.Proofs.YtogeihdfmnohnaaGreatDoor
