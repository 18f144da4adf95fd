/- Part 27 of 49 of the proof of waitgraphOf_holds (no condition). -/
import Derived.Test.YtogeihdfmnohnaaGreatDoorK26
import Derived.Test.YtogeihdfmnohnaaGreatDoorK19
set_option linter.unusedVariables false
set_option linter.unusedSimpArgs false
namespace Go.Proofs.YtogeihdfmnohnaaGreatDoor
open Go.RowKit
set_option maxHeartbeats 6400000 in
theorem WValidS_any (s : Ws) (d : Nat) (A1 A2 : Option Addr) (c1 c2 B : Nat) (w : World) (hT : Tog w) (hw : WF w B d A1 A2 s) :
    Calls Tryz.prog 14 #[s.val A1 A2 c1 c2] w (Ret w (.bool (stateB s))) := by
  have HV := Lib.hid (fun q A1 A2 A3 c1 c2 c3 W (hb : Below w.heap.size w W) (hq : QF W B A1 A2 A3 q) => QValid_any q A1 A2 A3 c1 c2 c3 W B (hT.below hb) hq)
  have HPR := Lib.hid (fun (h : partsB s.queues = true) (h2 : s.needs.length ≤ 8) W (hb : Below w.heap.size w W) => WProcs_any s d A1 A2 c1 c2 B W (hw.below hb) (by have := (partsB_short h).1; omega) (by omega) (partsB_short h).2)
  have HVP := Lib.hid (fun p W => VProc_any p W)
  have HVE := Lib.hid (fun x A cap W (hx : ExF W B d A x) => ValidExpr_any d x A cap B W hx)
  have HCP := Lib.hid (fun p q W => CProc_any p q W)
  have HRQ := Lib.hid hw.r1
  have HR := Lib.hid hw.r2
  have HBw := Lib.hid hw.hB
  have HM1 := hw.m1
  have HM2 := hw.m2
  unfold maxLen at HM1 HM2
  have HS : Hid (stateB s = (partsB s.queues && decide (s.needs.length ≤ 8) && vnGo none s.needs && decide ((procsW s).length ≤ 8))) := Lib.hid rfl
  have HQD : Hid (partsB s.queues = (decide (s.queues.length ≤ 8) && vqGo none s.queues)) := Lib.hid rfl
  clear hw hT
  generalize stateB s = V at *
  generalize procsW s = PW at *
  obtain ⟨qs, ns⟩ := s
  unfold Ws.val at *
  dsimp only at HPR HR HRQ HS HQD HM1 HM2 ⊢
  generalize partsB qs = QB at *
  by_cases h8 : qs.length ≤ 8
  · by_cases h9 : ns.length ≤ 8
    · have h8i : ¬ (8 : Int) < (qs.length : Int) := by omega
      have h9i : ¬ (8 : Int) < (ns.length : Int) := by omega
      have HQ : Hid (vqGo (prevQ qs 0) (qs.drop 0) = QB) := Lib.hid (by rw [HQD.out, decide_eq_true h8]; rfl)
      have HN0 : Hid ((QB && vnGo (prevN ns 0) (ns.drop 0) && decide (PW.length ≤ 8)) = V) := Lib.hid (by rw [HS.out, decide_eq_true h9, Bool.and_true]; rfl)
      clear HS HQD
      go_enter Tryz.func14, Tryz.ntmps14
      go_wp2_with fail
      have HW1B : Hid (Below w.heap.size w (w.alloc (.cells #[.slice A1 qs.length c1, .slice A2 ns.length c2] 25))) := Lib.hid (Below.al (Below.refl _ _) _)
      have y0 : (w.alloc (.cells #[.slice A1 qs.length c1, .slice A2 ns.length c2] 25)).cell? ⟨w.heap.size, 0, none⟩ = some (.slice A1 qs.length c1) := cellNewA w _ _ 0
      have y1 : (w.alloc (.cells #[.slice A1 qs.length c1, .slice A2 ns.length c2] 25)).cell? ⟨w.heap.size, 1, none⟩ = some (.slice A2 ns.length c2) := cellNewA w _ _ 1
      have hz1 : w.heap.size < (w.alloc (.cells #[.slice A1 qs.length c1, .slice A2 ns.length c2] 25)).heap.size := by simp
      generalize w.alloc (.cells #[.slice A1 qs.length c1, .slice A2 ns.length c2] 25) = w1 at *
      go_loopg [20] qs.length (fun m0 v20 wq => ∃ k : Nat, v20 = .int .i64 (k : Int) ∧ k ≤ qs.length ∧ qs.length ≤ k + m0 ∧ Hid (vqGo (prevQ qs k) (qs.drop k) = QB) ∧ Hid (Below w1.heap.size w1 wq))
      case atStart => exact ⟨0, rfl, Nat.zero_le _, by omega, HQ, Lib.hid (Below.refl _ _)⟩
      case round =>
        obtain ⟨k, rfl, hk, hkm, HI, HB⟩ := hrel
        have HBW : Hid (Below w.heap.size w wr) := Lib.hid (Below.tr HW1B.out HB.out)
        have z0 := (HB.out.cell (p := ⟨w.heap.size, 0, none⟩) hz1).trans y0
        have z1 := (HB.out.cell (p := ⟨w.heap.size, 1, none⟩) hz1).trans y1
        have hzr : w.heap.size < wr.heap.size := Nat.lt_of_lt_of_le hz1 HB.out.size
        by_cases hlt : k < qs.length
        · obtain ⟨q, hx⟩ : ∃ x, qs[k] = x := ⟨_, rfl⟩
          have HRW : Hid (RowsAt quE wr (Lo B) A1 qs) := Lib.hid (HRQ.out.below HBW.out HBw.out (Nat.le_refl _))
          have HBR : Hid (B ≤ wr.heap.size) := Lib.hid (Nat.le_trans HBw.out HBW.out.size)
          obtain ⟨g, off, B1, B2, B3, e1, e2, e3, rfl, hbl, d0, d1, d2, d3, d4, d5, d6, d7, hqf⟩ := qu_cells HRW.out HBR.out hlt hx
          have hbl2 : g < wr.heap.size := Nat.lt_of_lt_of_le hbl HBR.out
          have HC := Lib.hid (fun W (hb : Below wr.heap.size wr W) => HV.out q B1 B2 B3 e1 e2 e3 W (Below.tr HBW.out hb) (hqf.below hb))
          have HS : Hid ((settledB q && ltP (prevQ qs k) q.res.name && vqGo (prevQ qs (k + 1)) (qs.drop (k + 1))) = QB) := Lib.hid (by have h := HI.out; rw [drop_step hlt hx, vqGo_cons] at h; rw [prevQ_succ hlt hx]; exact h)
          obtain ⟨⟨nm, kd, un, h⟩, hs, cs, ws, gen⟩ := q
          unfold Qu.val at HC
          dsimp only at d0 d1 d2 d3 d4 d5 d6 d7 HC HS
          obtain ⟨p1, hp1⟩ : ∃ p, settledB ⟨⟨nm, kd, un, h⟩, hs, cs, ws, gen⟩ = p := ⟨_, rfl⟩
          rw [hp1] at HC HS
          have hlti : (k : Int) < (qs.length : Int) := by omega
          have HC2 := Lib.hid (fun n : Ext (wr.alloc (.cells #[.string nm, .int .i64 kd, .int .i64 un, .int .i64 h, .slice B1 hs.length e1, .slice B2 cs.length e2, .slice B3 ws.length e3, .int .i64 gen] 48)) => HC.out n.w (Below.tr (Below.al (Below.refl _ _) _) n.below))
          have HAL : Hid (Below w1.heap.size w1 (wr.alloc (.cells #[.string nm, .int .i64 kd, .int .i64 un, .int .i64 h, .slice B1 hs.length e1, .slice B2 cs.length e2, .slice B3 ws.length e3, .int .i64 gen] 48))) := Lib.hid (Below.al HB.out _)
          have HBX : Hid (Blk (wr.alloc (.cells #[.string nm, .int .i64 kd, .int .i64 un, .int .i64 h, .slice B1 hs.length e1, .slice B2 cs.length e2, .slice B3 ws.length e3, .int .i64 gen] 48)) wr.heap.size 48 #[.string nm, .int .i64 kd, .int .i64 un, .int .i64 h, .slice B1 hs.length e1, .slice B2 cs.length e2, .slice B3 ws.length e3, .int .i64 gen]) := Lib.hid (Blk.new _ _ _)
          have g0 := Ext.cell (HBX.out.cellx 0 (v := .string nm) rfl)
          have g1 := Ext.cell (HBX.out.cellx 1 (v := .int .i64 kd) rfl)
          have g2 := Ext.cell (HBX.out.cellx 2 (v := .int .i64 un) rfl)
          have g3 := Ext.cell (HBX.out.cellx 3 (v := .int .i64 h) rfl)
          have g4 := Ext.cell (HBX.out.cellx 4 (v := .slice B1 hs.length e1) rfl)
          have g5 := Ext.cell (HBX.out.cellx 5 (v := .slice B2 cs.length e2) rfl)
          have g6 := Ext.cell (HBX.out.cellx 6 (v := .slice B3 ws.length e3) rfl)
          have g7 := Ext.cell (HBX.out.cellx 7 (v := .int .i64 gen) rfl)
          have g8 := Ext.old (.cells #[.string nm, .int .i64 kd, .int .i64 un, .int .i64 h, .slice B1 hs.length e1, .slice B2 cs.length e2, .slice B3 ws.length e3, .int .i64 gen] 48) z0
          clear hp1 hbl hqf HC
          go_wp2_with fail
          clear d0 d1 d2 d3 d4 d5 d6 d7 z0 z1
          cases p1 with
          | false =>
            have HE : Hid (false = V) := Lib.hid (by have h := HS.out; rw [← HN0.out, ← h]; simp)
            clear hx HS HI
            refine wp_region_grow (by kernel_rfl) (by kernel_rfl) ?_; (repeat (go_big_quiet_step ((go_at_call 38; exact Ext.call _ (HC2.out _))))); refine wpQuiet_nil ?_; rintro w2 ⟨n2, rfl⟩; have hb2 := n2.below; generalize n2.w = w2 at hb2 ⊢; clear n2
            have HB3 := Lib.hid hb2
            clear hb2
            go_wp2_with fail
            go_ret
            exact ⟨ret_bool HE.out, Below.tr HW1B.out (Below.tr HAL.out HB3.out)⟩
          | true =>
            rcases Nat.eq_zero_or_pos k with hk0 | hk0
            · have hd : decide ((0 : Int) < (k : Int)) = false := decide_eq_false (by omega)
              have hd' : decide (0 < k) = false := decide_eq_false (by omega)
              have HE : Hid (vqGo (prevQ qs (k + 1)) (qs.drop (k + 1)) = QB) := Lib.hid (by have h := HS.out; rw [hk0] at h ⊢; rw [prevQ_zero] at h; exact h)
              clear hk0 hx HS HI
              refine wp_region_grow (by kernel_rfl) (by kernel_rfl) ?_; (repeat (go_big_quiet_step ((go_at_call 38; exact Ext.call _ (HC2.out _))))); refine wpQuiet_nil ?_; rintro w2 ⟨n2, rfl⟩; have hb2 := n2.below; generalize n2.w = w2 at hb2 ⊢; clear n2
              have HB3 := Lib.hid hb2
              clear hb2
              go_wp2_with fail
              go_roundg (gk - 1)
              case measure => omega
              case rel => exact ⟨k + 1, by go_num, by omega, by omega, HE, Lib.hid (Below.tr HAL.out HB3.out)⟩
            · have hd : decide ((0 : Int) < (k : Int)) = true := decide_eq_true (by omega)
              have hd' : decide (0 < k) = true := decide_eq_true (by omega)
              have hki : IntKind.i64.wrap ((k : Int) - 1) = ((k - 1 : Nat) : Int) := by rw [IntWalk.i64_in _ (by omega)]; omega
              obtain ⟨q', hx'⟩ : ∃ x, qs[k - 1]'(by omega) = x := ⟨_, rfl⟩
              obtain ⟨_, _, _, _, _, _, _, _, hA, _, e0, _⟩ := qu_cells HRW.out HBR.out (show k - 1 < qs.length by omega) hx'
              injection hA with hA
              injection hA with i1 i2
              subst i1
              subst i2
              have g9 := Ext.old (.cells #[.string nm, .int .i64 kd, .int .i64 un, .int .i64 h, .slice B1 hs.length e1, .slice B2 cs.length e2, .slice B3 ws.length e3, .int .i64 gen] 48) e0
              have hkl : ((k - 1 : Nat) : Int) < (qs.length : Int) := by omega
              obtain ⟨lt, hlt2⟩ : ∃ lt, Op.bytesLess q'.res.name.toList nm.toList = lt := ⟨_, rfl⟩
              have HE : Hid ((lt && vqGo (prevQ qs (k + 1)) (qs.drop (k + 1))) = QB) := Lib.hid (by
                have h := HS.out
                rw [prevQ_pos hk0 (by omega) hx'] at h
                rw [← hlt2]
                simpa [ltP] using h)
              clear e0 hx hx' HS HI
              generalize q'.res.name = nm' at *
              refine wp_region_grow (by kernel_rfl) (by kernel_rfl) ?_; (repeat (go_big_quiet_step ((go_at_call 38; exact Ext.call _ (HC2.out _))))); refine wpQuiet_nil ?_; rintro w2 ⟨n2, rfl⟩; have hb2 := n2.below; generalize n2.w = w2 at hb2 ⊢; clear n2
              have HB3 := Lib.hid hb2
              clear hb2
              cases lt with
              | false =>
                have HE2 : Hid (false = V) := Lib.hid (by have h := HE.out; rw [← HN0.out, ← h]; simp)
                go_wp2_with fail
                go_ret
                exact ⟨ret_bool HE2.out, Below.tr HW1B.out (Below.tr HAL.out HB3.out)⟩
              | true =>
                have HE2 : Hid (vqGo (prevQ qs (k + 1)) (qs.drop (k + 1)) = QB) := HE
                go_wp2_with fail
                go_roundg (gk - 1)
                case measure => omega
                case rel => exact ⟨k + 1, by go_num, by omega, by omega, HE2, Lib.hid (Below.tr HAL.out HB3.out)⟩
        · have HQT : Hid (QB = true) := Lib.hid (by have h := HI.out; rw [drop_end hlt] at h; exact h.symm)
          have hlti : ¬ (k : Int) < (qs.length : Int) := by omega
          have HN : Hid ((vnGo (prevN ns 0) (ns.drop 0) && decide (PW.length ≤ 8)) = V) := Lib.hid (by have h := HN0.out; rw [HQT.out] at h; exact h)
          clear HN0 HI
          obtain ⟨wo, hwo⟩ : ∃ v, v = wr := ⟨_, rfl⟩
          subst hwo
          go_wp2_with fail
          go_loopg [50] ns.length (fun m0 v50 wq => ∃ k : Nat, v50 = .int .i64 (k : Int) ∧ k ≤ ns.length ∧ ns.length ≤ k + m0 ∧ Hid ((vnGo (prevN ns k) (ns.drop k) && decide (PW.length ≤ 8)) = V) ∧ Hid (Below w1.heap.size w1 wq))
          case atStart => exact ⟨0, rfl, Nat.zero_le _, by omega, HN, HB⟩
          case round =>
            obtain ⟨j, rfl, hj, hjm, HJ, HBj⟩ := hrel
            have HBjW : Hid (Below w.heap.size w wr) := Lib.hid (Below.tr HW1B.out HBj.out)
            have zj := (HBj.out.cell (p := ⟨w.heap.size, 1, none⟩) hz1).trans y1
            have zj0 := (HBj.out.cell (p := ⟨w.heap.size, 0, none⟩) hz1).trans y0
            have hzj : w.heap.size < wr.heap.size := Nat.lt_of_lt_of_le hz1 HBj.out.size
            clear z0 z1
            by_cases hjt : j < ns.length
            · have HBR : Hid (B ≤ wr.heap.size) := Lib.hid (Nat.le_trans HBw.out HBjW.out.size)
              have HRW : Hid (RowsAt (ndE d) wr (Lo B) A2 ns) := Lib.hid (HR.out.below HBjW.out HBw.out (Nat.le_refl _))
              obtain ⟨⟨⟨a, b, c⟩, ⟨kk, ⟨nm, ⟨m, u⟩⟩, ks⟩, gen⟩, hx⟩ : ∃ x, ns[j] = x := ⟨_, rfl⟩
              obtain ⟨g, off, A3, c3, rfl, hbl, d0, d1, d2, d3, d4, d5, d6, d7, d8, hxf⟩ := nd_cells HRW.out HBR.out hjt hx
              have hbl2 : g < wr.heap.size := Nat.lt_of_lt_of_le hbl HBR.out
              have hjti : (j : Int) < (ns.length : Int) := by omega
              have HS2 : Hid ((vpB ⟨a, b, c⟩ && veB (.mk kk ⟨nm, ⟨m, u⟩⟩ ks) && decide (0 ≤ gen) && decide (gen ≤ 1073741824) && ltPr (prevN ns j) ⟨a, b, c⟩ && vnGo (prevN ns (j + 1)) (ns.drop (j + 1)) && decide (PW.length ≤ 8)) = V) := Lib.hid (by have h := HJ.out; rw [drop_step hjt hx, vnGo_cons] at h; rw [prevN_succ hjt hx]; exact h)
              have HVE1 := Lib.hid (fun W (hb : Below wr.heap.size wr W) => HVE.out (.mk kk ⟨nm, ⟨m, u⟩⟩ ks) A3 c3 W (hxf.below hb))
              have HVP1 := Lib.hid (fun W => HVP.out ⟨a, b, c⟩ W)
              unfold Ex.val at HVE1
              dsimp only [Ex.k, Ex.atom, Ex.kids] at HVE1
              unfold Pr.val at HVP1
              dsimp only at HVP1
              obtain ⟨p1, hp1⟩ : ∃ p, vpB ⟨a, b, c⟩ = p := ⟨_, rfl⟩
              obtain ⟨p2, hp2⟩ : ∃ p, veB (.mk kk ⟨nm, ⟨m, u⟩⟩ ks) = p := ⟨_, rfl⟩
              rw [hp1] at HVP1 HS2
              rw [hp2] at HVE1 HS2
              clear hp1 hp2 hbl hxf
              obtain ⟨b1, hb1⟩ : ∃ p, decide (gen < 0) = p := ⟨_, rfl⟩
              obtain ⟨b2, hb2⟩ : ∃ p, decide (1073741824 < gen) = p := ⟨_, rfl⟩
              have HB1 : Hid (decide (0 ≤ gen) = !b1) := Lib.hid (by rw [← hb1, Bool.eq_iff_iff]; simp)
              have HB2' : Hid (decide (gen ≤ 1073741824) = !b2) := Lib.hid (by rw [← hb2, Bool.eq_iff_iff]; simp)
              rw [HB1.out, HB2'.out] at HS2
              clear HB1 HB2' zj0
              have HBX : Hid (Blk (wr.alloc (.cells #[.int .i64 a, .int .i64 b, .int .i64 c, .int .i64 kk, .string nm, .int .i64 m, .int .i64 u, .slice A3 ks.length c3, .int .i64 gen] 60)) wr.heap.size 60 #[.int .i64 a, .int .i64 b, .int .i64 c, .int .i64 kk, .string nm, .int .i64 m, .int .i64 u, .slice A3 ks.length c3, .int .i64 gen]) := Lib.hid (Blk.new _ _ _)
              have HAL : Hid (Below w1.heap.size w1 (wr.alloc (.cells #[.int .i64 a, .int .i64 b, .int .i64 c, .int .i64 kk, .string nm, .int .i64 m, .int .i64 u, .slice A3 ks.length c3, .int .i64 gen] 60))) := Lib.hid (Below.al HBj.out _)
              have HAR : Hid (Below wr.heap.size wr (wr.alloc (.cells #[.int .i64 a, .int .i64 b, .int .i64 c, .int .i64 kk, .string nm, .int .i64 m, .int .i64 u, .slice A3 ks.length c3, .int .i64 gen] 60))) := Lib.hid (Below.al (Below.refl _ _) _)
              have HNX := Lib.hid hx
              clear hx
              have HNO : Hid ((p1 && p2 && !b1 && !b2) = false → ∀ w', Below w1.heap.size w1 w' → Ret w (.bool V) (.returned (.bool false)) w') := Lib.hid fun hno w' hb => ⟨ret_bool (by rw [← HS2.out, hno]; simp), Below.tr HW1B.out hb⟩
              go_wp2_with fail
              refine (HVP1.out _).mono ?_
              rintro e w3 ⟨rfl, hb3⟩
              have HB3 := Lib.hid hb3
              have HX3 := Lib.hid (HBX.out.below hb3 HBX.out.lt)
              have x0 := HX3.out.cellx 0 (v := .int .i64 a) rfl
              have x1 := HX3.out.cellx 1 (v := .int .i64 b) rfl
              have x2 := HX3.out.cellx 2 (v := .int .i64 c) rfl
              have x3 := HX3.out.cellx 3 (v := .int .i64 kk) rfl
              have x4 := HX3.out.cellx 4 (v := .string nm) rfl
              have x5 := HX3.out.cellx 5 (v := .int .i64 m) rfl
              have x6 := HX3.out.cellx 6 (v := .int .i64 u) rfl
              have x7 := HX3.out.cellx 7 (v := .slice A3 ks.length c3) rfl
              have x8 := HX3.out.cellx 8 (v := .int .i64 gen) rfl
              have hz3 := HX3.out.lt
              clear hb3 d0 d1 d2 d3 d4 d5 d6 d7 d8
              cases p1 with
              | false =>
                go_wp2_with fail
                go_ret
                exact HNO.out rfl _ (Below.tr HAL.out HB3.out)
              | true =>
                cases b1 with
                | true =>
                  go_wp2_with fail
                  go_ret
                  exact HNO.out (by simp) _ (Below.tr HAL.out HB3.out)
                | false =>
                  cases b2 with
                  | true =>
                    go_wp2_with fail
                    go_ret
                    exact HNO.out (by simp) _ (Below.tr HAL.out HB3.out)
                  | false =>
                    go_wp2_with fail
                    refine (HVE1.out _ (Below.tr HAR.out HB3.out)).mono ?_
                    rintro e w4 ⟨rfl, hb4⟩
                    have HB4 := Lib.hid hb4
                    have HX4 := Lib.hid (HX3.out.below hb4 HX3.out.lt)
                    have HW4 : Hid (Below w1.heap.size w1 w4) := Lib.hid (Below.tr HAL.out (Below.tr HB3.out hb4))
                    have HW4r : Hid (Below wr.heap.size wr w4) := Lib.hid (Below.tr HAR.out (Below.tr HB3.out hb4))
                    have hz4 := HX4.out.lt
                    clear hb4 x0 x1 x2 x3 x4 x5 x6 x7 x8 hz3
                    cases p2 with
                    | false =>
                      go_wp2_with fail
                      go_ret
                      exact HNO.out rfl _ HW4.out
                    | true =>
                      have HS3 : Hid ((ltPr (prevN ns j) ⟨a, b, c⟩ && vnGo (prevN ns (j + 1)) (ns.drop (j + 1)) && decide (PW.length ≤ 8)) = V) := Lib.hid (by have h := HS2.out; simpa using h)
                      clear HS2 HNO HJ
                      have g0 := Ext.cell (HX4.out.cellx 0 (v := .int .i64 a) rfl)
                      have g1 := Ext.cell (HX4.out.cellx 1 (v := .int .i64 b) rfl)
                      have g2 := Ext.cell (HX4.out.cellx 2 (v := .int .i64 c) rfl)
                      have g3 := Ext.cell ((HW4.out.cell (p := ⟨w.heap.size, 1, none⟩) hz1).trans y1)
                      go_wp2_with fail
                      rcases Nat.eq_zero_or_pos j with hk0 | hk0
                      · have hd : decide ((0 : Int) < (j : Int)) = false := decide_eq_false (by omega)
                        have hd' : decide (0 < j) = false := decide_eq_false (by omega)
                        have HE : Hid ((vnGo (prevN ns (j + 1)) (ns.drop (j + 1)) && decide (PW.length ≤ 8)) = V) := Lib.hid (by have h := HS3.out; rw [hk0] at h ⊢; rw [prevN_zero] at h; exact h)
                        clear hk0
                        refine wp_region_grow (by kernel_rfl) (by kernel_rfl) ?_; (repeat (go_big_quiet_step (fail))); refine wpQuiet_nil ?_; rintro w2 ⟨n2, rfl⟩; have hb2 := n2.below; generalize n2.w = w2 at hb2 ⊢; clear n2
                        have HB5 := Lib.hid hb2
                        clear hb2
                        go_wp2_with fail
                        go_roundg (gk - 1)
                        case measure => omega
                        case rel => exact ⟨j + 1, by go_num, by omega, by omega, HE, Lib.hid (Below.tr HW4.out HB5.out)⟩
                      · have hd : decide ((0 : Int) < (j : Int)) = true := decide_eq_true (by omega)
                        have hd' : decide (0 < j) = true := decide_eq_true (by omega)
                        have hki : IntKind.i64.wrap ((j : Int) - 1) = ((j - 1 : Nat) : Int) := by rw [IntWalk.i64_in _ (by omega)]; omega
                        obtain ⟨⟨⟨a', b', c'⟩, ⟨kk', ⟨nm', ⟨m', u'⟩⟩, ks'⟩, gen'⟩, hx'⟩ : ∃ x, ns[j - 1]'(by omega) = x := ⟨_, rfl⟩
                        obtain ⟨_, _, _, _, hA, _, e0, e1, e2, _⟩ := nd_cells (HRW.out.below HW4r.out HBR.out (Nat.le_refl _)) (Nat.le_trans HBR.out HW4r.out.size) (show j - 1 < ns.length by omega) hx'
                        injection hA with hA
                        injection hA with h1 h2
                        subst h1
                        subst h2
                        have g10 := Ext.cell e0
                        have g11 := Ext.cell e1
                        have g12 := Ext.cell e2
                        have hkl : ((j - 1 : Nat) : Int) < (ns.length : Int) := by omega
                        obtain ⟨n, hn⟩ : ∃ n, cmpP ⟨a', b', c'⟩ ⟨a, b, c⟩ = n := ⟨_, rfl⟩
                        have HC1 : Hid (∀ W, Calls Tryz.prog 41 #[.agg #[.int .i64 a', .int .i64 b', .int .i64 c'], .agg #[.int .i64 a, .int .i64 b, .int .i64 c]] W (Ret W (.int .i64 n))) := Lib.hid (fun W => hn ▸ HCP.out ⟨a', b', c'⟩ ⟨a, b, c⟩ W)
                        have HE : Hid ((decide (n < 0) && vnGo (prevN ns (j + 1)) (ns.drop (j + 1)) && decide (PW.length ≤ 8)) = V) := Lib.hid (by
                          have h := HS3.out
                          rw [prevN_pos hk0 (by omega) hx'] at h
                          rw [← hn]
                          exact h)
                        clear e0 e1 e2 hx' hn hk0
                        by_cases hnn : n < 0
                        · have hge : ¬ (0 : Int) ≤ n := by omega
                          have hdd : decide ((0 : Int) ≤ n) = false := decide_eq_false (by omega)
                          have HE2 : Hid ((vnGo (prevN ns (j + 1)) (ns.drop (j + 1)) && decide (PW.length ≤ 8)) = V) := Lib.hid (by have h := HE.out; rw [decide_eq_true hnn] at h; exact h)
                          clear hnn
                          refine wp_region_grow (by kernel_rfl) (by kernel_rfl) ?_; (repeat (go_big_quiet_step ((go_at_call 41; exact Ext.call _ (HC1.out _))))); refine wpQuiet_nil ?_; rintro w2 ⟨n2, rfl⟩; have hb2 := n2.below; generalize n2.w = w2 at hb2 ⊢; clear n2
                          have HB5 := Lib.hid hb2
                          clear hb2
                          go_wp2_with fail
                          go_roundg (gk - 1)
                          case measure => omega
                          case rel => exact ⟨j + 1, by go_num, by omega, by omega, HE2, Lib.hid (Below.tr HW4.out HB5.out)⟩
                        · have hge : (0 : Int) ≤ n := by omega
                          have hdd : decide ((0 : Int) ≤ n) = true := decide_eq_true (by omega)
                          have HE2 : Hid (false = V) := Lib.hid (by have h := HE.out; rw [decide_eq_false hnn] at h; exact h)
                          clear hnn
                          refine wp_region_grow (by kernel_rfl) (by kernel_rfl) ?_; (repeat (go_big_quiet_step ((go_at_call 41; exact Ext.call _ (HC1.out _))))); refine wpQuiet_nil ?_; rintro w2 ⟨n2, rfl⟩; have hb2 := n2.below; generalize n2.w = w2 at hb2 ⊢; clear n2
                          have HB5 := Lib.hid hb2
                          clear hb2
                          go_wp2_with fail
                          go_ret
                          exact ⟨ret_bool HE2.out, Below.tr HW1B.out (Below.tr HW4.out HB5.out)⟩
            · have HE : Hid (decide (PW.length ≤ 8) = V) := Lib.hid (by have h := HJ.out; rw [drop_end hjt] at h; simpa [vnGo] using h)
              have hjti : ¬ (j : Int) < (ns.length : Int) := by omega
              go_wp2_with fail
              refine (HPR.out HQT.out h9 _ (by (repeat (first | (with_reducible exact Below.refl _ _) | (with_reducible assumption) | (with_reducible refine below_drewN ?_ _) | (with_reducible refine Below.drew ?_) | (with_reducible refine Below.al ?_ _) | (with_reducible refine Below.st ?_ (by simp; try omega)) | (with_reducible refine Below.tr ?_ (Hid.out (by assumption))) | (with_reducible exact Hid.out (by assumption)))))).mono ?_
              rintro e w5 ⟨v5, rfl, hown5, hb5⟩
              have HB5 : Hid (Below w.heap.size w w5) := Lib.hid (Below.tr HBjW.out hb5)
              obtain ⟨A7, c7, rfl, _, _, _⟩ := hown5.form
              clear hown5 hb5
              go_wp2_with fail
              go_ret
              exact ⟨ret_bool (by rw [← HE.out]; simp; omega), HB5.out⟩
    · have h8i : ¬ (8 : Int) < (qs.length : Int) := by omega
      have h9i : (8 : Int) < (ns.length : Int) := by omega
      have HE : Hid (false = V) := Lib.hid (by rw [HS.out, decide_eq_false h9]; simp)
      go_enter Tryz.func14, Tryz.ntmps14
      go_wp2_with fail
      go_ret
      exact ⟨ret_bool HE.out, by (repeat (first | (with_reducible exact Below.refl _ _) | (with_reducible assumption) | (with_reducible refine below_drewN ?_ _) | (with_reducible refine Below.drew ?_) | (with_reducible refine Below.al ?_ _) | (with_reducible refine Below.st ?_ (by simp; try omega)) | (with_reducible refine Below.tr ?_ (Hid.out (by assumption))) | (with_reducible exact Hid.out (by assumption))))⟩
  · have h8i : (8 : Int) < (qs.length : Int) := by omega
    have HE : Hid (false = V) := Lib.hid (by rw [HS.out, HQD.out, decide_eq_false h8]; simp)
    go_enter Tryz.func14, Tryz.ntmps14
    go_wp2_with fail
    go_ret
    exact ⟨ret_bool HE.out, by (repeat (first | (with_reducible exact Below.refl _ _) | (with_reducible assumption) | (with_reducible refine below_drewN ?_ _) | (with_reducible refine Below.drew ?_) | (with_reducible refine Below.al ?_ _) | (with_reducible refine Below.st ?_ (by simp; try omega)) | (with_reducible refine Below.tr ?_ (Hid.out (by assumption))) | (with_reducible exact Hid.out (by assumption))))⟩
end Go.Proofs.YtogeihdfmnohnaaGreatDoor
namespace Go.Proofs.YtogeihdfmnohnaaGreatDoor
open Go.RowKit
def New (base : Nat) (w : World) (b : Nat) : Prop := base ≤ b ∧ b < w.heap.size
def El.from {α : Type} (E : El α) (base : Nat) : El α where
  n := E.n
  pos := E.pos
  rep := fun w S x cs => E.rep w (fun b => S b ∧ base ≤ b) x cs
  len := fun h => E.len h
  one := fun h => E.one h
  same := fun h hk hS => E.same h (fun b hb => hk b hb.1) fun b hb => ⟨hS b hb.1, hb.2⟩
section
variable {α : Type} {E : El α} {base : Nat} {w : World} {S : Nat → Prop} {e t : TypeId}
theorem Reps.from : ∀ {l : List α} {xs : List Value}, Reps (E.from base) w S l xs → Reps E w (fun b => S b ∧ base ≤ b) l xs
  | [], _, h => h
  | _ :: _, _, h => by
    obtain ⟨cs, rest, rfl, h1, h2⟩ := h
    exact ⟨cs, rest, rfl, h1, Reps.from h2⟩
theorem OwnRows.from {v : Value} {l : List α} (h : OwnRows (E.from base) e w base v l) : ∃ A cap, v = .slice A l.length cap ∧ RowsAt E w (New base w) A l ∧ l.length ≤ cap ∧ cap ≤ maxLen := by
  obtain ⟨h0, xs, h1, h3⟩ := h
  have hc : ∀ g, v.ownBlock = some g → ∀ j u, xs[j]? = some u → w.cell? ((⟨g, 0, none⟩ : Addr).add j) = some u := fun g hg => h1.cells hg
  rcases h1.2 with ⟨hv, hn⟩ | ⟨g, cap, cur, hv, hg, hh, hnc, hcm, hcs, ht⟩
  · have hl : l = [] := List.eq_nil_of_length_eq_zero hn
    subst hl
    exact ⟨none, 0, hv, RowsAt.nil _ _ _ _, by simp, by simp [maxLen]⟩
  · refine ⟨_, cap, hv, ⟨xs, h3.from.same (fun _ _ => rfl) (fun b hb => ⟨hb.2, hb.1.1⟩), fun _ => ⟨g, 0, rfl, ⟨hg, (Array.getElem?_eq_some_iff.1 hh).1⟩, fun j u hu => ?_⟩⟩, hnc, hcm⟩
    have := hc g (by rw [hv]; rfl) j u hu
    rwa [addr_add] at this
theorem ElTB.from {P : Program} {by_ : Nat} (T : ElTB P E t e by_) (base : Nat) : ElTB P (E.from base) t e by_ := ⟨T.under, T.info⟩
end
section
variable {α : Type} {e : TypeId} {n : Nat} {pos : 0 < n} {f : α → List Value} {len : ∀ x, (f x).length = n} {one : ∀ x, ∀ u ∈ f x, u.oneCell' = true}
theorem OwnRows.newP {w : World} {base : Nat} {v : Value} {l : List α} (h : OwnRows (El.plain n pos f len one) e w base v l) : ∃ A cap, v = .slice A l.length cap ∧ RowsAt (El.plain n pos f len one) w (New base w) A l ∧ l.length ≤ cap := by
  rcases Nat.eq_zero_or_pos l.length with hl | hl
  · obtain ⟨A, cap, hv, _, hc, _⟩ := h.form
    obtain rfl : l = [] := List.eq_nil_of_length_eq_zero hl
    exact ⟨A, cap, hv, RowsAt.nil _ _ _ _, hc⟩
  · obtain ⟨g, cap, hv, hg, hg2, hc, _, _, hr⟩ := h.addr hl
    obtain ⟨xs, h1, h2⟩ := hr
    refine ⟨_, cap, hv, ⟨xs, repsP h1, fun hp => ?_⟩, hc⟩
    obtain ⟨b, off, hA, _, hcells⟩ := h2 hp
    injection hA with hA
    injection hA with e1 e2
    subst e1
    subst e2
    exact ⟨_, _, rfl, ⟨hg, hg2⟩, hcells⟩
end
theorem New.grow {base B : Nat} {w w' : World} (hb : Below B w w') (hB : w.heap.size ≤ B) {α : Type} {E : El α} {A : Option Addr} {l : List α} (h : RowsAt E w (New base w) A l) : RowsAt E w' (New base w') A l :=
  h.same (fun b hb2 => hb.block b (Nat.lt_of_lt_of_le hb2.2 hB)) fun b hb2 => ⟨hb2.1, Nat.lt_of_lt_of_le hb2.2 hb.size⟩
theorem New.lo {base : Nat} {w : World} {α : Type} {E : El α} {A : Option Addr} {l : List α} (h : RowsAt E w (New base w) A l) : RowsAt E w (Lo w.heap.size) A l := h.mono fun _ hb => hb.2
theorem New.older {base base' : Nat} {w : World} {α : Type} {E : El α} {A : Option Addr} {l : List α} (h : RowsAt E w (New base w) A l) (hb : base' ≤ base) : RowsAt E w (New base' w) A l := h.mono fun _ hb2 => ⟨Nat.le_trans hb hb2.1, hb2.2⟩
end Go.Proofs.YtogeihdfmnohnaaGreatDoor
