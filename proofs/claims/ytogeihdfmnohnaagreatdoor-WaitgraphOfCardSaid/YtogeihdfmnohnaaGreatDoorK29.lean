/- Part 29 of 49 of the proof of waitgraphOf_holds (no condition). -/
import Derived.Test.YtogeihdfmnohnaaGreatDoorK28
import Derived.Test.YtogeihdfmnohnaaGreatDoorK19
import Derived.Test.YtogeihdfmnohnaaGreatDoorK09
import Derived.Laws.MakeOwn
set_option linter.unusedVariables false
set_option linter.unusedSimpArgs false
namespace Go.Proofs.YtogeihdfmnohnaaGreatDoor
open Go.RowKit
set_option maxHeartbeats 3200000 in
theorem rNeed_any (s : Ws) (d : Nat) (A1 A2 : Option Addr) (c1 c2 B : Nat) (x y z : Int) (w : World) (hw : WF w B d A1 A2 s) :
    Calls Tryz.prog 64 #[s.val A1 A2 c1 c2, .agg #[.int .i64 x, .int .i64 y, .int .i64 z]] w (RetN' w d (needS s.needs ⟨x, y, z⟩)) := by
  have HR := Lib.hid hw.r2
  have HBw := Lib.hid hw.hB
  have HM := hw.m2
  unfold maxLen at HM
  clear hw
  obtain ⟨qs, ns⟩ := s
  unfold Ws.val
  dsimp only at HR HM ⊢
  have HZ : Hid (Blk (((w.alloc (.cells #[.slice A1 qs.length c1, .slice A2 ns.length c2] 25)).alloc (.cells #[.int .i64 x, .int .i64 y, .int .i64 z] 51)).alloc (.cells #[.int .i64 0, .int .i64 0, .int .i64 0, .int .i64 0, .string { data := #[] }, .int .i64 0, .int .i64 0, .slice none 0 0, .int .i64 0] 60)) (w.heap.size + 1 + 1) 60 #[.int .i64 0, .int .i64 0, .int .i64 0, .int .i64 0, .string { data := #[] }, .int .i64 0, .int .i64 0, .slice none 0 0, .int .i64 0]) := Lib.hid (by
    have := Blk.new ((w.alloc (.cells #[.slice A1 qs.length c1, .slice A2 ns.length c2] 25)).alloc (.cells #[.int .i64 x, .int .i64 y, .int .i64 z] 51)) 60 #[.int .i64 0, .int .i64 0, .int .i64 0, .int .i64 0, .string { data := #[] }, .int .i64 0, .int .i64 0, .slice none 0 0, .int .i64 0]
    rwa [size_alloc_1, size_alloc_1] at this)
  have HS : Hid (Blk (((w.alloc (.cells #[.slice A1 qs.length c1, .slice A2 ns.length c2] 25)).alloc (.cells #[.int .i64 x, .int .i64 y, .int .i64 z] 51)).alloc (.cells #[.int .i64 0, .int .i64 0, .int .i64 0, .int .i64 0, .string { data := #[] }, .int .i64 0, .int .i64 0, .slice none 0 0, .int .i64 0] 60)) w.heap.size 25 #[.slice A1 qs.length c1, .slice A2 ns.length c2]) := Lib.hid (((Blk.new w _ _).alloc _).alloc _)
  have HP : Hid (Blk (((w.alloc (.cells #[.slice A1 qs.length c1, .slice A2 ns.length c2] 25)).alloc (.cells #[.int .i64 x, .int .i64 y, .int .i64 z] 51)).alloc (.cells #[.int .i64 0, .int .i64 0, .int .i64 0, .int .i64 0, .string { data := #[] }, .int .i64 0, .int .i64 0, .slice none 0 0, .int .i64 0] 60)) (w.heap.size + 1) 51 #[.int .i64 x, .int .i64 y, .int .i64 z]) := Lib.hid (by
    have := (Blk.new (w.alloc (.cells #[.slice A1 qs.length c1, .slice A2 ns.length c2] 25)) 51 #[.int .i64 x, .int .i64 y, .int .i64 z]).alloc (.cells #[.int .i64 0, .int .i64 0, .int .i64 0, .int .i64 0, .string { data := #[] }, .int .i64 0, .int .i64 0, .slice none 0 0, .int .i64 0] 60)
    rwa [size_alloc_1] at this)
  have HW3 : Hid (Below w.heap.size w (((w.alloc (.cells #[.slice A1 qs.length c1, .slice A2 ns.length c2] 25)).alloc (.cells #[.int .i64 x, .int .i64 y, .int .i64 z] 51)).alloc (.cells #[.int .i64 0, .int .i64 0, .int .i64 0, .int .i64 0, .string { data := #[] }, .int .i64 0, .int .i64 0, .slice none 0 0, .int .i64 0] 60))) := Lib.hid (Below.al (Below.al (Below.al (Below.refl _ _) _) _) _)
  obtain ⟨R, hR⟩ : ∃ r, needS ns ⟨x, y, z⟩ = r := ⟨_, rfl⟩
  rw [hR]
  have HQ : Hid (needS (ns.drop 0) ⟨x, y, z⟩ = R) := Lib.hid hR
  clear hR
  go_enter Tryz.func64, Tryz.ntmps64
  go_wp2_with fail
  generalize ((w.alloc (.cells #[.slice A1 qs.length c1, .slice A2 ns.length c2] 25)).alloc (.cells #[.int .i64 x, .int .i64 y, .int .i64 z] 51)).alloc (.cells #[.int .i64 0, .int .i64 0, .int .i64 0, .int .i64 0, .string { data := #[] }, .int .i64 0, .int .i64 0, .slice none 0 0, .int .i64 0] 60) = w3 at *
  go_loopg [6] ns.length (fun m0 v6 wq => ∃ k : Nat, v6 = .int .i64 (k : Int) ∧ k ≤ ns.length ∧ ns.length ≤ k + m0 ∧ Hid (needS (ns.drop k) ⟨x, y, z⟩ = R) ∧ Hid (Below w3.heap.size w3 wq))
  case atStart => exact ⟨0, rfl, Nat.zero_le _, by omega, HQ, Lib.hid (Below.refl _ _)⟩
  case round =>
    obtain ⟨i, rfl, hk, hkm, HI, HB⟩ := hrel
    have HBW : Hid (Below w.heap.size w wr) := Lib.hid (Below.tr HW3.out HB.out)
    have HZ4 := Lib.hid (HZ.out.below HB.out HZ.out.lt)
    have HS4 := Lib.hid (HS.out.below HB.out HS.out.lt)
    have HP4 := Lib.hid (HP.out.below HB.out HP.out.lt)
    have s1 := HS4.out.cellx 1 (v := .slice A2 ns.length c2) rfl
    have p0 := HP4.out.cellx 0 (v := .int .i64 x) rfl
    have p1 := HP4.out.cellx 1 (v := .int .i64 y) rfl
    have p2 := HP4.out.cellx 2 (v := .int .i64 z) rfl
    have hz := HZ4.out.lt
    by_cases hi : i < ns.length
    · have HBR : Hid (B ≤ wr.heap.size) := Lib.hid (Nat.le_trans HBw.out HBW.out.size)
      obtain ⟨⟨⟨a, b, c⟩, ⟨k, ⟨nm, ⟨m, u⟩⟩, l⟩, gen⟩, hx⟩ : ∃ x, ns[i] = x := ⟨_, rfl⟩
      obtain ⟨g, off, A3, c3, rfl, hbl, d0, d1, d2, d3, d4, d5, d6, d7, d8, hxf⟩ := nd_cells (HR.out.below (B'' := B) HBW.out HBw.out (Nat.le_refl _)) HBR.out hi hx
      have hbl2 : g < wr.heap.size := Nat.lt_of_lt_of_le hbl HBR.out
      have hiti : (i : Int) < (ns.length : Int) := by omega
      have HXF := Lib.hid hxf
      obtain ⟨_, k1, k2⟩ := cmpPr a b c x y z
      obtain ⟨q, hq⟩ : ∃ q, decide ((⟨a, b, c⟩ : Pr) = ⟨x, y, z⟩) = q := ⟨_, rfl⟩
      have HE : Hid ((bif q then some ⟨⟨a, b, c⟩, .mk k ⟨nm, ⟨m, u⟩⟩ l, gen⟩ else needS (ns.drop (i + 1)) ⟨x, y, z⟩) = R) := Lib.hid (by have h := HI.out; rw [drop_step hi hx, needS_cons] at h; rw [← hq]; exact h)
      rw [hq] at k1
      clear hq hx hbl hxf
      cases q with
      | false =>
        have HE2 : Hid (needS (ns.drop (i + 1)) ⟨x, y, z⟩ = R) := HE
        go_wp2_with fail
        go_quiet (fail)
        go_wp2_with fail
        go_roundg (gk - 1)
        case measure => omega
        case rel => exact ⟨i + 1, by go_num, by omega, by omega, HE2, Lib.hid (below_drewN HB.out _)⟩
      | true =>
        have HE2 : Hid (some ⟨⟨a, b, c⟩, .mk k ⟨nm, ⟨m, u⟩⟩ l, gen⟩ = R) := HE
        go_wp2_with fail
        go_quiet (fail)
        have HZ5 := Lib.hid (HZ4.out.drewN nq)
        have HXF5 := Lib.hid (HXF.out.below (below_drewN (Below.refl _ _) nq))
        have HB5 : Hid (Below w.heap.size w (wr.drewN nq)) := Lib.hid (below_drewN HBW.out nq)
        have hz5 : w.heap.size + 1 + 1 < (wr.drewN nq).heap.size := hz
        go_wp2_with (refine storeBox rfl 60 (.tmp 4) (.tmp 26) rfl (w.heap.size + 1 + 1) 0 60 #[.int .i64 0, .int .i64 0, .int .i64 0, .int .i64 0, .string { data := #[] }, .int .i64 0, .int .i64 0, .slice none 0 0, .int .i64 0] #[.int .i64 a, .int .i64 b, .int .i64 c, .int .i64 k, .string nm, .int .i64 m, .int .i64 u, .slice A3 l.length c3, .int .i64 gen] #[.int .i64 a, .int .i64 b, .int .i64 c, .int .i64 k, .string nm, .int .i64 m, .int .i64 u, .slice A3 l.length c3, .int .i64 gen] rfl rfl HZ5.out sizeNd (by simp) (by simp [Value.oneCell']) rfl ?_; intro w6 hk6 hb6; have HF6 := Lib.hid hk6; have HB6 := Lib.hid hb6; clear hk6 hb6)
        rw [← HE2.out]
        have HB6B : Below B (wr.drewN nq) w6 := HB6.out.below (by have := HBw.out; omega) HBR.out
        refine bodyPost_ret_by (v := .tuple #[.agg #[.int .i64 a, .int .i64 b, .int .i64 c, .int .i64 k, .string nm, .int .i64 m, .int .i64 u, .slice A3 l.length c3, .int .i64 gen], .bool true]) (results_box_tmp rfl _ _ (w.heap.size + 1 + 1) 60 #[.int .i64 a, .int .i64 b, .int .i64 c, .int .i64 k, .string nm, .int .i64 m, .int .i64 u, .slice A3 l.length c3, .int .i64 gen] _ rfl HF6.out Tryz.underlying60 rfl sizeNd rfl) rfl ⟨?_, A3, c3, rfl, HXF5.out.hm, Nat.le_refl _, HXF5.out.hr.below HB6B (Nat.le_refl _) (Nat.le_trans HBR.out HB6.out.size)⟩
        exact HB5.out.trans (HB6.out.below (by omega) HB5.out.size)
    · have HE : Hid (none = R) := Lib.hid (by have h := HI.out; rw [drop_end hi] at h; exact h)
      have hiti : ¬ (i : Int) < (ns.length : Int) := by omega
      go_wp2_with (refine storeBox rfl 60 (.tmp 4) (.tmp 27) rfl (w.heap.size + 1 + 1) 0 60 #[.int .i64 0, .int .i64 0, .int .i64 0, .int .i64 0, .string { data := #[] }, .int .i64 0, .int .i64 0, .slice none 0 0, .int .i64 0] #[.int .i64 0, .int .i64 0, .int .i64 0, .int .i64 0, .string { data := #[] }, .int .i64 0, .int .i64 0, .slice none 0 0, .int .i64 0] #[.int .i64 0, .int .i64 0, .int .i64 0, .int .i64 0, .string { data := #[] }, .int .i64 0, .int .i64 0, .slice none 0 0, .int .i64 0] rfl rfl HZ4.out sizeNd (by simp) (by simp [Value.oneCell']) rfl ?_; intro w6 hk6 hb6; have HF6 := Lib.hid hk6; have HB6 := Lib.hid hb6; clear hk6 hb6)
      rw [← HE.out]
      refine bodyPost_ret_by (v := .tuple #[.agg #[.int .i64 0, .int .i64 0, .int .i64 0, .int .i64 0, .string { data := #[] }, .int .i64 0, .int .i64 0, .slice none 0 0, .int .i64 0], .bool false]) (results_box_tmp rfl _ _ (w.heap.size + 1 + 1) 60 #[.int .i64 0, .int .i64 0, .int .i64 0, .int .i64 0, .string { data := #[] }, .int .i64 0, .int .i64 0, .slice none 0 0, .int .i64 0] _ rfl HF6.out Tryz.underlying60 rfl sizeNd rfl) rfl ⟨?_, rfl⟩
      exact HBW.out.trans (HB6.out.below (by omega) HBW.out.size)
end Go.Proofs.YtogeihdfmnohnaaGreatDoor
namespace Go.Proofs.YtogeihdfmnohnaaGreatDoor
open Go.RowKit
def waitT (n : ByteArray) (p : Pr) : List Qu → Bool
  | [] => false
  | q :: l => bif q.res.name.toList == n.toList then (wantedS q p).isSome else waitT n p l
theorem waitT_cons (n : ByteArray) (p : Pr) (q : Qu) (l : List Qu) : waitT n p (q :: l) = bif q.res.name.toList == n.toList then (wantedS q p).isSome else waitT n p l := rfl
theorem findT_spec (n : ByteArray) (p : Pr) : ∀ (l : List Qu) (k : Nat), (findT n k l = -1 ∧ waitT n p l = false) ∨ ∃ i, ∃ h : i < l.length, findT n k l = ((k + i : Nat) : Int) ∧ waitT n p l = (wantedS l[i] p).isSome ∧ l[i].res.name = n
  | [], _ => .inl ⟨rfl, rfl⟩
  | x :: l, k => by
    rw [findT_cons, waitT_cons]
    by_cases h : (x.res.name.toList == n.toList) = true
    · rw [h]
      exact .inr ⟨0, by simp, rfl, rfl, toList_inj (by simpa using h)⟩
    · simp only [Bool.not_eq_true] at h
      rw [h]
      rcases findT_spec n p l (k + 1) with ⟨h1, h2⟩ | ⟨i, hi, h1, h2, h3⟩
      · exact .inl ⟨h1, h2⟩
      · exact .inr ⟨i + 1, by simp; omega, by rw [cond_false, h1]; congr 1; omega, by rw [cond_false, h2]; rfl, h3⟩
set_option maxHeartbeats 3200000 in
set_option maxRecDepth 100000 in
theorem Waits_any (s : Ws) (d : Nat) (A1 A2 : Option Addr) (c1 c2 B : Nat) (x y z : Int) (n : ByteArray) (w : World) (hw : WF w B d A1 A2 s) :
    Calls Tryz.prog 100 #[s.val A1 A2 c1 c2, .agg #[.int .i64 x, .int .i64 y, .int .i64 z], .string n] w (Ret w (.bool (waitT n ⟨x, y, z⟩ s.queues))) := by
  have HF := Lib.hid (fun W (hb : Below w.heap.size w W) => rTFind_any A1 B c1 s.queues n W hw.m1 (Nat.le_trans hw.hB hb.size) (hw.r1.below hb hw.hB (Nat.le_refl _)))
  have HSP := Lib.hid (findT_spec n ⟨x, y, z⟩ s.queues 0)
  have HR := Lib.hid hw.r1
  have HBw := Lib.hid hw.hB
  have HM := hw.m1
  unfold maxLen at HM
  clear hw
  obtain ⟨qs, ns⟩ := s
  unfold Ws.val
  dsimp only at HF HSP HR HM ⊢
  obtain ⟨R, hR⟩ : ∃ r, waitT n ⟨x, y, z⟩ qs = r := ⟨_, rfl⟩
  rw [hR] at HSP ⊢
  clear hR
  have HS : Hid (Blk ((w.alloc (.cells #[.slice A1 qs.length c1, .slice A2 ns.length c2] 25)).alloc (.cells #[.int .i64 x, .int .i64 y, .int .i64 z] 51)) w.heap.size 25 #[.slice A1 qs.length c1, .slice A2 ns.length c2]) := Lib.hid ((Blk.new w _ _).alloc _)
  have HP : Hid (Blk ((w.alloc (.cells #[.slice A1 qs.length c1, .slice A2 ns.length c2] 25)).alloc (.cells #[.int .i64 x, .int .i64 y, .int .i64 z] 51)) (w.heap.size + 1) 51 #[.int .i64 x, .int .i64 y, .int .i64 z]) := Lib.hid (by
    have := Blk.new (w.alloc (.cells #[.slice A1 qs.length c1, .slice A2 ns.length c2] 25)) 51 #[.int .i64 x, .int .i64 y, .int .i64 z]
    rwa [size_alloc_1] at this)
  have HW3 : Hid (Below w.heap.size w ((w.alloc (.cells #[.slice A1 qs.length c1, .slice A2 ns.length c2] 25)).alloc (.cells #[.int .i64 x, .int .i64 y, .int .i64 z] 51))) := Lib.hid (Below.al (Below.al (Below.refl _ _) _) _)
  go_enter Tryz.func100, Tryz.ntmps100
  go_wp2_with fail
  generalize (w.alloc (.cells #[.slice A1 qs.length c1, .slice A2 ns.length c2] 25)).alloc (.cells #[.int .i64 x, .int .i64 y, .int .i64 z] 51) = w3 at *
  refine (HF.out _ HW3.out).mono ?_
  rintro e w4 ⟨rfl, hb4⟩
  have HB4 : Hid (Below w.heap.size w w4) := Lib.hid (Below.tr HW3.out hb4)
  have HS4 := Lib.hid (HS.out.below hb4 HS.out.lt)
  have HP4 := Lib.hid (HP.out.below hb4 HP.out.lt)
  have s0 := HS4.out.cellx 0 (v := .slice A1 qs.length c1) rfl
  have p0 := HP4.out.cellx 0 (v := .int .i64 x) rfl
  have p1 := HP4.out.cellx 1 (v := .int .i64 y) rfl
  have p2 := HP4.out.cellx 2 (v := .int .i64 z) rfl
  have hz := HP4.out.lt
  clear hb4
  rcases HSP.out with ⟨h1, h2⟩ | ⟨i, hi, h1, h2, _⟩
  · rw [h1]
    subst h2
    clear HSP h1
    go_wp2_with fail
    go_ret
    exact ⟨rfl, HB4.out⟩
  · have hi0 : ((0 + i : Nat) : Int) = (i : Int) := by omega
    rw [h1, hi0]
    have HBR : Hid (B ≤ w4.heap.size) := Lib.hid (Nat.le_trans HBw.out HB4.out.size)
    obtain ⟨q, hx⟩ : ∃ x, qs[i] = x := ⟨_, rfl⟩
    obtain ⟨g, off, B1, B2, B3, e1, e2, e3, rfl, hbl, d0, d1, d2, d3, d4, d5, d6, d7, hqf⟩ := qu_cells (HR.out.below (B'' := B) HB4.out HBw.out (Nat.le_refl _)) HBR.out hi hx
    have hbl2 : g < w4.heap.size := Nat.lt_of_lt_of_le hbl HBR.out
    have hiti : (i : Int) < (qs.length : Int) := by omega
    have hge : ¬ (i : Int) < 0 := by omega
    have HQ := Lib.hid (fun W (hb : Below w4.heap.size w4 W) => rQWanted_any q B1 B2 B3 e1 e2 e3 x y z W B (hqf.below hb))
    rw [hx] at h2
    have HE : Hid ((wantedS q ⟨x, y, z⟩).isSome = R) := Lib.hid h2.symm
    clear HSP h1 h2 hi0 hx hbl hqf
    obtain ⟨⟨nm, kd, un, h⟩, hs, cs, ws, gen⟩ := q
    unfold Qu.val at HQ
    dsimp only at d0 d1 d2 d3 d4 d5 d6 d7 HQ
    have hz' : w.heap.size < w4.heap.size := by omega
    have HK : Hid (∀ b W, Sem.run Tryz.prog (callFunc 68 b) W = .ok (.enter 68 b) W) := Lib.hid (fun b W => by kernel_rfl)
    generalize wantedS ⟨⟨nm, kd, un, h⟩, hs, cs, ws, gen⟩ ⟨x, y, z⟩ = o at *
    cases o with
    | none =>
      unfold wantV at HQ
      dsimp only at HQ
      go_wp2_with fail
      go_region_law (refine stepCall rfl 68 #[.tmp 21, .tmp 22] _ rfl #[.agg #[.string nm, .int .i64 kd, .int .i64 un, .int .i64 h, .slice B1 hs.length e1, .slice B2 cs.length e2, .slice B3 ws.length e3, .int .i64 gen], .agg #[.int .i64 x, .int .i64 y, .int .i64 z]] rfl HK.out (HQ.out _ (by (repeat (first | (with_reducible exact Below.refl _ _) | (with_reducible assumption) | (with_reducible refine below_drewN ?_ _) | (with_reducible refine Below.drew ?_) | (with_reducible refine Below.al ?_ _) | (with_reducible refine Below.st ?_ (by simp; try omega)) | (with_reducible refine Below.tr ?_ (Hid.out (by assumption))) | (with_reducible exact Hid.out (by assumption)))))) ?_; rintro e w5 ⟨rfl, hb5⟩; refine ⟨_, rfl, ?_⟩; have HB5 : Hid (Below w4.heap.size w4 w5) := Lib.hid (Below.tr (by (repeat (first | (with_reducible exact Below.refl _ _) | (with_reducible assumption) | (with_reducible refine below_drewN ?_ _) | (with_reducible refine Below.drew ?_) | (with_reducible refine Below.al ?_ _) | (with_reducible refine Below.st ?_ (by simp; try omega)) | (with_reducible refine Below.tr ?_ (Hid.out (by assumption))) | (with_reducible exact Hid.out (by assumption))))) hb5); obtain ⟨hc5, hf5⟩ := bcell hb5; have hs5 := hb5.size; (try simp at hs5); clear hb5)
      all_goals (
        go_wp2_with fail
        go_ret
        exact ⟨ret_bool HE.out, Below.tr HB4.out (by (repeat (first | (with_reducible exact Below.refl _ _) | (with_reducible assumption) | (with_reducible refine below_drewN ?_ _) | (with_reducible refine Below.drew ?_) | (with_reducible refine Below.al ?_ _) | (with_reducible refine Below.st ?_ (by simp; try omega)) | (with_reducible refine Below.tr ?_ (Hid.out (by assumption))) | (with_reducible exact Hid.out (by assumption)))))⟩)
    | some a =>
      unfold wantV at HQ
      dsimp only at HQ
      go_wp2_with fail
      go_region_law (refine stepCall rfl 68 #[.tmp 21, .tmp 22] _ rfl #[.agg #[.string nm, .int .i64 kd, .int .i64 un, .int .i64 h, .slice B1 hs.length e1, .slice B2 cs.length e2, .slice B3 ws.length e3, .int .i64 gen], .agg #[.int .i64 x, .int .i64 y, .int .i64 z]] rfl HK.out (HQ.out _ (by (repeat (first | (with_reducible exact Below.refl _ _) | (with_reducible assumption) | (with_reducible refine below_drewN ?_ _) | (with_reducible refine Below.drew ?_) | (with_reducible refine Below.al ?_ _) | (with_reducible refine Below.st ?_ (by simp; try omega)) | (with_reducible refine Below.tr ?_ (Hid.out (by assumption))) | (with_reducible exact Hid.out (by assumption)))))) ?_; rintro e w5 ⟨rfl, hb5⟩; refine ⟨_, rfl, ?_⟩; have HB5 : Hid (Below w4.heap.size w4 w5) := Lib.hid (Below.tr (by (repeat (first | (with_reducible exact Below.refl _ _) | (with_reducible assumption) | (with_reducible refine below_drewN ?_ _) | (with_reducible refine Below.drew ?_) | (with_reducible refine Below.al ?_ _) | (with_reducible refine Below.st ?_ (by simp; try omega)) | (with_reducible refine Below.tr ?_ (Hid.out (by assumption))) | (with_reducible exact Hid.out (by assumption))))) hb5); obtain ⟨hc5, hf5⟩ := bcell hb5; have hs5 := hb5.size; (try simp at hs5); clear hb5)
      all_goals (
        go_wp2_with fail
        go_ret
        exact ⟨ret_bool HE.out, Below.tr HB4.out (by (repeat (first | (with_reducible exact Below.refl _ _) | (with_reducible assumption) | (with_reducible refine below_drewN ?_ _) | (with_reducible refine Below.drew ?_) | (with_reducible refine Below.al ?_ _) | (with_reducible refine Below.st ?_ (by simp; try omega)) | (with_reducible refine Below.tr ?_ (Hid.out (by assumption))) | (with_reducible exact Hid.out (by assumption)))))⟩)
end Go.Proofs.YtogeihdfmnohnaaGreatDoor
namespace Go.Proofs.YtogeihdfmnohnaaGreatDoor
open Go.RowKit
theorem run_make_rowG {P : Program} (t e : TypeId) (i : TypeInfo) (z : Value) (ht : P.underlying t = some (.slice e)) (hi : P.info? e = some i) (hz : i.zero = some z)
    (kl kc : IntKind) (n c : Nat) (hnc : n ≤ c) (hbytes : i.bytes * c ≤ 281474976710656) (h63 : c ≤ 9223372036854775807) (w : World) :
    (Instr.makeSlice t (.int kl (n : Int)) (.int kc (c : Int))).run P w = .ok (.slice (some ⟨w.heap.size, 0, none⟩) n c) (w.alloc (.cells (madeCells z.cells (c * i.size)) e)) := by
  have hb : (i.bytes : Int) * (c : Int) ≤ 281474976710656 := by
    have h : ((i.bytes * c : Nat) : Int) ≤ 281474976710656 := by omega
    rwa [Int.natCast_mul] at h
  have hr := run_make (P := P) w t e i z ht hi hz kl kc n c (by omega) (by omega) hb (by omega)
  simp only [Int.toNat_natCast] at hr
  exact hr
theorem mkRow1 {P : Program} (t e : TypeId) (z : Value) (by_ : Nat) (ht : P.underlying t = some (.slice e)) (hi : (P.info? e).map (fun i => (i.zero, i.size, i.bytes)) = some (some z, 1, by_)) (hz : z.cells = #[z]) (hb : by_ ≤ 64) (n : Nat) (hn : n ≤ 1000000) (w : World) :
    (Instr.makeSlice t (.int .i64 (n : Int)) (.int .i64 (n : Int))).run P w = .ok (.slice (some ⟨w.heap.size, 0, none⟩) n n) (w.alloc (.cells (madeCells #[z] n) e)) := by
  obtain ⟨i0, hi, hz0, hz1, hz2⟩ := info_parts hi
  have hle : i0.bytes * n ≤ 64 * 1000000 := Nat.mul_le_mul (by omega) hn
  rw [run_make_rowG t e i0 z ht hi hz0 _ _ n n (Nat.le_refl _) (by omega) (by omega), hz1, Nat.mul_one, hz]
theorem OwnRows.rep {α : Type} {E : El α} {e : TypeId} (hn : E.n = 1) (w : World) (base : Nat) (y : α) (z : Value) (n : Nat) (hb : base ≤ w.heap.size) (hm : n ≤ maxLen) (hy : ∀ w S, E.rep w S y [z]) :
    OwnRows E e (w.alloc (.cells (madeCells #[z] n) e)) base (.slice (some ⟨w.heap.size, 0, none⟩) n n) (List.replicate n y) := by
  refine ⟨by simp; omega, List.replicate n z, ?_, ?_⟩
  · have h := World.ownsRow_lit (e := e) (size := E.n) (base := base) w (madeCells #[z] n) n hb hm (by rw [size_madeCells, hn, Nat.mul_one])
    rw [toList_madeCells_one] at h
    rw [List.length_replicate]
    exact h
  · generalize hS : Oth (w.alloc (.cells (madeCells #[z] n) e)) (.slice (some ⟨w.heap.size, 0, none⟩) n n) = S
    clear hS
    have hr : ∀ k, Reps E (w.alloc (.cells (madeCells #[z] n) e)) S (List.replicate k y) (List.replicate k z) := by
      intro k
      induction k with
      | zero => rfl
      | succ k ih => exact ⟨[z], List.replicate k z, rfl, hy _ _, ih⟩
    exact hr n
end Go.Proofs.YtogeihdfmnohnaaGreatDoor
namespace Go.Proofs.YtogeihdfmnohnaaGreatDoor
open Go.RowKit
def grantS (s : Ws) (p : Pr) : List Bool := match needS s.needs p with
  | none => []
  | some x => bif stateB s then (atS x.expr).map (fun a => !waitT a.name p s.queues) else []
theorem mkBoolsW (n : Nat) (hn : n ≤ 1000000) (w : World) : (Instr.makeSlice 74 (.int .i64 (n : Int)) (.int .i64 (n : Int))).run Tryz.prog w = .ok (.slice (some ⟨w.heap.size, 0, none⟩) n n) (w.alloc (.cells (madeCells #[.bool false] n) 4)) :=
  mkRow1 74 4 (.bool false) 1 Tryz.underlying74 (by kernel_rfl) rfl (by omega) n hn w
set_option maxRecDepth 100000 in
set_option maxHeartbeats 6400000 in
theorem rGranted_any (s : Ws) (d : Nat) (A1 A2 : Option Addr) (c1 c2 B : Nat) (x y z : Int) (w : World) (hw : WF w B d A1 A2 s) :
    Calls Tryz.prog 65 #[s.val A1 A2 c1 c2, .agg #[.int .i64 x, .int .i64 y, .int .i64 z]] w (RetRow boolE 4 w (grantS s ⟨x, y, z⟩)) := by
  have HN := Lib.hid (fun W (hb : Below w.heap.size w W) => rNeed_any s d A1 A2 c1 c2 B x y z W (hw.below hb))
  have HV := Lib.hid (fun W (hb : Below w.heap.size w W) => rWValidS_any s d A1 A2 c1 c2 B W (hw.below hb))
  have HW := Lib.hid (fun n W (hb : Below w.heap.size w W) => Waits_any s d A1 A2 c1 c2 B x y z n W (hw.below hb))
  have HA := Lib.hid (fun x A cap B W (hx : ExF W B d A x) => r08Atoms_any d x A cap B W hx)
  have HG : Hid (grantS s ⟨x, y, z⟩ = match needS s.needs ⟨x, y, z⟩ with | none => [] | some x' => bif stateB s then (atS x'.expr).map (fun a => !waitT a.name ⟨x, y, z⟩ s.queues) else []) := Lib.hid rfl
  have HAL := Lib.hid (fun x => (by
    have h := @veB_sh x
    have h2 := @atS_no x
    cases hv : veB x with
    | true => exact (h hv).2.2.1
    | false => rw [h2 hv]; simp : (atS x).length ≤ 8))
  clear hw
  obtain ⟨R, hR⟩ : ∃ r, grantS s ⟨x, y, z⟩ = r := ⟨_, rfl⟩
  rw [hR] at HG ⊢
  clear hR
  generalize stateB s = V at *
  obtain ⟨nd, hnd⟩ : ∃ r, needS s.needs ⟨x, y, z⟩ = r := ⟨_, rfl⟩
  rw [hnd] at HN HG
  clear hnd
  obtain ⟨qs, ns⟩ := s
  unfold Ws.val at *
  dsimp only at HN HV HW HG ⊢
  have HS : Hid (Blk ((w.alloc (.cells #[.slice A1 qs.length c1, .slice A2 ns.length c2] 25)).alloc (.cells #[.int .i64 x, .int .i64 y, .int .i64 z] 51)) w.heap.size 25 #[.slice A1 qs.length c1, .slice A2 ns.length c2]) := Lib.hid ((Blk.new w _ _).alloc _)
  have HP : Hid (Blk ((w.alloc (.cells #[.slice A1 qs.length c1, .slice A2 ns.length c2] 25)).alloc (.cells #[.int .i64 x, .int .i64 y, .int .i64 z] 51)) (w.heap.size + 1) 51 #[.int .i64 x, .int .i64 y, .int .i64 z]) := Lib.hid (by
    have := Blk.new (w.alloc (.cells #[.slice A1 qs.length c1, .slice A2 ns.length c2] 25)) 51 #[.int .i64 x, .int .i64 y, .int .i64 z]
    rwa [size_alloc_1] at this)
  have HW3 : Hid (Below w.heap.size w ((w.alloc (.cells #[.slice A1 qs.length c1, .slice A2 ns.length c2] 25)).alloc (.cells #[.int .i64 x, .int .i64 y, .int .i64 z] 51))) := Lib.hid (Below.al (Below.al (Below.refl _ _) _) _)
  go_enter Tryz.func65, Tryz.ntmps65
  go_wp2_with fail
  generalize (w.alloc (.cells #[.slice A1 qs.length c1, .slice A2 ns.length c2] 25)).alloc (.cells #[.int .i64 x, .int .i64 y, .int .i64 z] 51) = w3 at *
  refine (HN.out _ HW3.out).mono ?_
  rintro e w4 ⟨hb4, hr4⟩
  have HB4 : Hid (Below w.heap.size w w4) := Lib.hid (Below.tr HW3.out hb4)
  have HS4 := Lib.hid (HS.out.below hb4 HS.out.lt)
  have HP4 := Lib.hid (HP.out.below hb4 HP.out.lt)
  have s0 := HS4.out.cellx 0 (v := .slice A1 qs.length c1) rfl
  have s1 := HS4.out.cellx 1 (v := .slice A2 ns.length c2) rfl
  have p0 := HP4.out.cellx 0 (v := .int .i64 x) rfl
  have p1 := HP4.out.cellx 1 (v := .int .i64 y) rfl
  have p2 := HP4.out.cellx 2 (v := .int .i64 z) rfl
  have hz4 := HP4.out.lt
  have hz4' := HS4.out.lt
  clear hb4
  cases nd with
  | none =>
    obtain rfl := hr4
    have HE : Hid (R = []) := HG
    go_wp2_with fail
    go_ret
    exact ⟨_, rfl, by rw [HE.out]; exact OwnRows.nil _ _ _ _ (by have := HB4.out.size; simp; omega), by (repeat (first | (with_reducible exact Below.refl _ _) | (with_reducible assumption) | (with_reducible refine below_drewN ?_ _) | (with_reducible refine Below.drew ?_) | (with_reducible refine Below.al ?_ _) | (with_reducible refine Below.st ?_ (by simp; try omega)) | (with_reducible refine Below.tr ?_ (Hid.out (by assumption))) | (with_reducible exact Hid.out (by assumption))))⟩
  | some nx =>
    obtain ⟨A3, c3, rfl, hx4⟩ := hr4
    have HX4 := Lib.hid hx4
    clear hx4
    have HLN := Lib.hid (HAL.out nx.expr)
    obtain ⟨⟨a, b, c⟩, ⟨k, ⟨nm, ⟨m, u⟩⟩, l⟩, gen⟩ := nx
    unfold Nd.val
    dsimp only [Ex.k, Ex.atom, Ex.kids] at HG HX4 HLN ⊢
    have HB5 : Hid (Below w.heap.size w (w4.alloc (.cells #[.int .i64 a, .int .i64 b, .int .i64 c, .int .i64 k, .string nm, .int .i64 m, .int .i64 u, .slice A3 l.length c3, .int .i64 gen] 60))) := Lib.hid (Below.al HB4.out _)
    have HS5 := Lib.hid (HS4.out.alloc (.cells #[.int .i64 a, .int .i64 b, .int .i64 c, .int .i64 k, .string nm, .int .i64 m, .int .i64 u, .slice A3 l.length c3, .int .i64 gen] 60))
    have HP5 := Lib.hid (HP4.out.alloc (.cells #[.int .i64 a, .int .i64 b, .int .i64 c, .int .i64 k, .string nm, .int .i64 m, .int .i64 u, .slice A3 l.length c3, .int .i64 gen] 60))
    have HN5 : Hid (Blk (w4.alloc (.cells #[.int .i64 a, .int .i64 b, .int .i64 c, .int .i64 k, .string nm, .int .i64 m, .int .i64 u, .slice A3 l.length c3, .int .i64 gen] 60)) w4.heap.size 60 #[.int .i64 a, .int .i64 b, .int .i64 c, .int .i64 k, .string nm, .int .i64 m, .int .i64 u, .slice A3 l.length c3, .int .i64 gen]) := Lib.hid (Blk.new _ _ _)
    have HX5 : Hid (ExF (w4.alloc (.cells #[.int .i64 a, .int .i64 b, .int .i64 c, .int .i64 k, .string nm, .int .i64 m, .int .i64 u, .slice A3 l.length c3, .int .i64 gen] 60)) w4.heap.size d A3 (.mk k ⟨nm, ⟨m, u⟩⟩ l)) := Lib.hid (HX4.out.below (Below.al (Below.refl _ _) _))
    go_wp2_with fail
    generalize w4.alloc (.cells #[.int .i64 a, .int .i64 b, .int .i64 c, .int .i64 k, .string nm, .int .i64 m, .int .i64 u, .slice A3 l.length c3, .int .i64 gen] 60) = w5 at *
    refine (HV.out _ HB5.out).mono ?_
    rintro e w6 ⟨rfl, hb6⟩
    have HB6 : Hid (Below w.heap.size w w6) := Lib.hid (Below.tr HB5.out hb6)
    have HS6 := Lib.hid (HS5.out.below hb6 HS5.out.lt)
    have HP6 := Lib.hid (HP5.out.below hb6 HP5.out.lt)
    have HN6 := Lib.hid (HN5.out.below hb6 HN5.out.lt)
    have HX6 := Lib.hid (HX5.out.below hb6)
    clear hb6 s0 s1 p0 p1 p2
    cases V with
    | false =>
      have HE : Hid (R = []) := HG
      go_wp2_with fail
      go_ret
      exact ⟨_, rfl, by rw [HE.out]; exact OwnRows.nil _ _ _ _ HB6.out.size, HB6.out⟩
    | true =>
      have n3 := HN6.out.cellx 3 (v := .int .i64 k) rfl
      have n4 := HN6.out.cellx 4 (v := .string nm) rfl
      have n5 := HN6.out.cellx 5 (v := .int .i64 m) rfl
      have n6 := HN6.out.cellx 6 (v := .int .i64 u) rfl
      have n7 := HN6.out.cellx 7 (v := .slice A3 l.length c3) rfl
      have hz6 := HN6.out.lt
      have HAC := Lib.hid (HA.out (.mk k ⟨nm, ⟨m, u⟩⟩ l) A3 c3 w4.heap.size w6 HX6.out)
      unfold Ex.val at HAC
      dsimp only [Ex.k, Ex.atom, Ex.kids] at HAC
      have HG2 : Hid (R = (atS (.mk k ⟨nm, ⟨m, u⟩⟩ l)).map (fun a => !waitT a.name ⟨x, y, z⟩ qs)) := HG
      generalize atS (.mk k ⟨nm, ⟨m, u⟩⟩ l) = L at *
      have hL8 : L.length ≤ 8 := HLN.out
      have HMK := mkBoolsW L.length (by omega)
      clear HG
      go_wp2_with fail
      refine HAC.out.mono ?_
      rintro e w7 ⟨v7, rfl, ho7, hb7⟩
      obtain ⟨A7, c7, rfl, hr7, hl7, hm7⟩ := ho7.form
      have HR7 := Lib.hid hr7
      have HB7 : Hid (Below w.heap.size w w7) := Lib.hid (Below.tr HB6.out hb7)
      have HS7 := Lib.hid (HS6.out.below hb7 HS6.out.lt)
      have HP7 := Lib.hid (HP6.out.below hb7 HP6.out.lt)
      clear hb7 ho7 hr7 n3 n4 n5 n6 n7
      go_wp2_with fail
      have HO8 : Hid (OwnRows boolE 4 (w7.alloc (.cells (madeCells #[.bool false] L.length) 4)) w7.heap.size (.slice (some ⟨w7.heap.size, 0, none⟩) L.length L.length) (List.replicate L.length false)) := Lib.hid (OwnRows.rep rfl w7 w7.heap.size false (.bool false) L.length (Nat.le_refl _) (by unfold maxLen; omega) (fun _ _ => rfl))
      have HB8 : Hid (Below w7.heap.size w7 (w7.alloc (.cells (madeCells #[.bool false] L.length) 4))) := Lib.hid (Below.al (Below.refl _ _) _)
      generalize w7.alloc (.cells (madeCells #[.bool false] L.length) 4) = w8 at *
      have HQ0 : Hid (R = (List.replicate L.length false).take 0 ++ (L.drop 0).map (fun a => !waitT a.name ⟨x, y, z⟩ qs)) := Lib.hid (by rw [HG2.out]; simp)
      clear HMK HG2
      go_loopg [9] L.length (fun m0 v9 wq => ∃ (i : Nat) (bs : List Bool), v9 = .int .i64 (i : Int) ∧ i ≤ L.length ∧ L.length ≤ i + m0 ∧ bs.length = L.length ∧ Hid (R = bs.take i ++ (L.drop i).map (fun a => !waitT a.name ⟨x, y, z⟩ qs)) ∧ Hid (OwnRows boolE 4 wq w7.heap.size (.slice (some ⟨w7.heap.size, 0, none⟩) bs.length L.length) bs) ∧ Hid (Below w7.heap.size w7 wq))
      case atStart => exact ⟨0, List.replicate L.length false, rfl, Nat.zero_le _, by omega, by simp, HQ0, by simpa using HO8, HB8⟩
      case round =>
        obtain ⟨i, bs, rfl, hi, him, hbl, HI, HO, HB⟩ := hrel
        have HBW : Hid (Below w.heap.size w wr) := Lib.hid (Below.tr HB7.out HB.out)
        by_cases hlt : i < L.length
        · have hlti : (i : Int) < (L.length : Int) := by omega
          obtain ⟨⟨n1, ⟨m1, u1⟩⟩, hx⟩ : ∃ x, L[i] = x := ⟨_, rfl⟩
          have HS9 := Lib.hid (HS7.out.below HB.out HS7.out.lt)
          have HP9 := Lib.hid (HP7.out.below HB.out HP7.out.lt)
          have s0 := HS9.out.cellx 0 (v := .slice A1 qs.length c1) rfl
          have s1 := HS9.out.cellx 1 (v := .slice A2 ns.length c2) rfl
          have p0 := HP9.out.cellx 0 (v := .int .i64 x) rfl
          have p1 := HP9.out.cellx 1 (v := .int .i64 y) rfl
          have p2 := HP9.out.cellx 2 (v := .int .i64 z) rfl
          have hz9 := HP9.out.lt
          have hz9' := HS9.out.lt
          obtain ⟨g1, off, rfl, hgl, d0, d1, d2⟩ := tm_cells (HR7.out.below (B'' := w7.heap.size) HB.out (Nat.le_refl _) (Nat.le_refl _)) hlt hx
          have hgl2 : g1 < wr.heap.size := Nat.lt_of_lt_of_le hgl HB.out.size
          have HQ := Lib.hid (fun W (hb : Below wr.heap.size wr W) => HW.out n1 W (Below.tr HBW.out hb))
          have HE : Hid (R = (bs.take i ++ [!waitT n1 ⟨x, y, z⟩ qs]) ++ (L.drop (i + 1)).map (fun a => !waitT a.name ⟨x, y, z⟩ qs)) := Lib.hid (by have h := HI.out; rw [drop_step hlt hx] at h; rw [h, List.append_assoc]; rfl)
          generalize waitT n1 ⟨x, y, z⟩ qs = q at *
          have HE2 : Hid ((bs.set i (!q)).take (i + 1) = bs.take i ++ [!q]) := Lib.hid (by
            have hib : i < bs.length := by omega
            rw [List.set_eq_take_append_cons_drop, if_pos hib, List.take_append, List.take_of_length_le (by rw [List.length_take]; omega), List.length_take, show i + 1 - min i bs.length = 1 by omega]
            rfl)
          have HK : Hid (∀ b W, Sem.run Tryz.prog (callFunc 100 b) W = .ok (.enter 100 b) W) := Lib.hid (fun b W => by kernel_rfl)
          clear hx hgl d1 d2
          go_wp2_with fail
          go_region_law (refine stepCall rfl 100 #[.tmp 37, .tmp 38, .tmp 43] _ rfl #[.agg #[.slice A1 qs.length c1, .slice A2 ns.length c2], .agg #[.int .i64 x, .int .i64 y, .int .i64 z], .string n1] rfl HK.out (HQ.out _ (by (repeat (first | (with_reducible exact Below.refl _ _) | (with_reducible assumption) | (with_reducible refine below_drewN ?_ _) | (with_reducible refine Below.drew ?_) | (with_reducible refine Below.al ?_ _) | (with_reducible refine Below.st ?_ (by simp; try omega)) | (with_reducible refine Below.tr ?_ (Hid.out (by assumption))) | (with_reducible exact Hid.out (by assumption)))))) ?_; rintro e w9 ⟨rfl, hb9⟩; refine ⟨_, rfl, ?_⟩; have HB9 : Hid (Below wr.heap.size wr w9) := Lib.hid (Below.tr (by (repeat (first | (with_reducible exact Below.refl _ _) | (with_reducible assumption) | (with_reducible refine below_drewN ?_ _) | (with_reducible refine Below.drew ?_) | (with_reducible refine Below.al ?_ _) | (with_reducible refine Below.st ?_ (by simp; try omega)) | (with_reducible refine Below.tr ?_ (Hid.out (by assumption))) | (with_reducible exact Hid.out (by assumption))))) hb9); have HO9 := Lib.hid ((HO.out.drewN 1).below hb9 (Nat.le_refl _)); clear hb9; have hst := HO9.out.cellAt (j := i) (by show i < L.length * 1; omega); obtain ⟨v0, hv0⟩ := Option.isSome_iff_exists.1 hst.1; have hf0 := hst.2; clear hst)
          all_goals (
            go_wp2_with fail
            have HO10 := HO9.out.set1 rfl (show i < bs.length by omega) (y := !q) (u := .bool (!q)) rfl
            go_roundg (gk - 1)
            case measure => omega
            case rel => exact ⟨i + 1, bs.set i (!q), by go_num, by omega, by omega, by rw [List.length_set]; exact hbl, Lib.hid (by rw [HE2.out]; exact HE.out), Lib.hid (by rw [List.length_set]; exact HO10), Lib.hid ((HB.out.trans (HB9.out.mono HB.out.size)).setCell (Nat.le_refl _) _)⟩)
        · have hlti : ¬ (i : Int) < (L.length : Int) := by omega
          have HE : Hid (R = bs) := Lib.hid (by have h := HI.out; rw [drop_end hlt, List.take_of_length_le (by omega)] at h; simpa using h)
          go_wp2_with fail
          go_ret
          exact ⟨_, rfl, by rw [HE.out]; have h := HO.out.older HB7.out.size; rwa [hbl] at h, HBW.out⟩
end Go.Proofs.YtogeihdfmnohnaaGreatDoor
