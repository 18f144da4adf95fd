/- Part 10 of 49 of the proof of waitgraphOf_holds (no condition). -/
import Derived.Test.YtogeihdfmnohnaaGreatDoorK05
import Derived.Test.YtogeihdfmnohnaaGreatDoorK08
import Derived.Test.YtogeihdfmnohnaaGreatDoorK09
set_option linter.unusedVariables false
set_option linter.unusedSimpArgs false
namespace Go.Proofs.YtogeihdfmnohnaaGreatDoor
open Go.RowKit
theorem hoInfo : (Tryz.prog.info? 126).map (fun i => (i.zero, i.size, i.bytes)) = some (some (.agg #[.int .i64 0, .int .i64 0, .int .i64 0, .int .i64 0, .int .i64 0]), 5, 40) := by kernel_rfl
theorem mkHo0 (c : Nat) (hc : c ≤ 2000000) : ∃ mc : Array Value, mc.size = c * 5 ∧ ∀ w, (Instr.makeSlice 45 (.int .i64 0) (.int .i64 (c : Int))).run Tryz.prog w = .ok (.slice (some ⟨w.heap.size, 0, none⟩) 0 c) (w.alloc (.cells mc 126)) := by
  refine ⟨madeCells #[.int .i64 0, .int .i64 0, .int .i64 0, .int .i64 0, .int .i64 0] (c * 5), size_madeCells _ _, fun w => ?_⟩
  obtain ⟨i0, hi, hz0, hz1, hz2⟩ := info_parts hoInfo
  have hr := run_make (P := Tryz.prog) w 45 126 i0 _ Tryz.underlying45 hi hz0 .i64 .i64 0 c (by omega) (by omega) (by rw [hz2]; omega) (by omega)
  rw [hz1] at hr
  simpa [Value.cells] using hr
def plH : List Ho → Pr → Option Nat
  | [], _ => none
  | h :: l, p => bif decide (0 < cmpP h.proc p) then some 0 else (plH l p).map (· + 1)
theorem plH_cons (h : Ho) (l : List Ho) (p : Pr) : plH (h :: l) p = bif decide (0 < cmpP h.proc p) then some 0 else (plH l p).map (· + 1) := rfl
theorem insH_pl (x : Ho) : ∀ l : List Ho, insH x l = match plH l x.proc with
    | none => l ++ [x]
    | some k => l.take k ++ x :: l.drop k
  | [] => rfl
  | h :: l => by
    rw [insH_cons, insH_pl x l, plH_cons]
    cases decide (0 < cmpP h.proc x.proc) with
    | true => rfl
    | false =>
      simp only [cond_false]
      cases plH l x.proc <;> simp
theorem plH_snoc (h : Ho) (p : Pr) : ∀ l : List Ho, plH (l ++ [h]) p = match plH l p with
    | some k => some k
    | none => bif decide (0 < cmpP h.proc p) then some l.length else none
  | [] => by
    show (bif decide (0 < cmpP h.proc p) then some 0 else (plH [] p).map (· + 1)) = _
    cases decide (0 < cmpP h.proc p) <;> rfl
  | x :: l => by
    rw [List.cons_append, plH_cons, plH_cons, plH_snoc h p l]
    cases decide (0 < cmpP x.proc p) with
    | true => rfl
    | false =>
      simp only [cond_false]
      cases plH l p <;> cases decide (0 < cmpP h.proc p) <;> simp
theorem plH_lt {p : Pr} : ∀ {l : List Ho} {k : Nat}, plH l p = some k → k < l.length
  | [], k, h => by cases h
  | x :: l, k, h => by
    rw [plH_cons] at h
    cases hc : decide (0 < cmpP x.proc p) with
    | true => rw [hc] at h; simp at h; subst h; simp
    | false =>
      rw [hc] at h
      simp only [cond_false, Option.map_eq_some_iff] at h
      obtain ⟨j, hj, rfl⟩ := h
      have := plH_lt hj
      simp; omega
theorem filP_snoc (l : List Ho) (h : Ho) (p : Pr) : filP (l ++ [h]) p = bif decide (h.proc = p) then filP l p else filP l p ++ [h] := by
  unfold filP
  rw [List.filter_append]
  cases hd : decide (h.proc = p) <;> simp [hd]
theorem filP_len (l : List Ho) (p : Pr) : (filP l p).length ≤ l.length := List.length_filter_le _ _
set_option maxRecDepth 100000 in
set_option maxHeartbeats 6400000 in
theorem Set_any (A : Option Addr) (B cap : Nat) (l : List Ho) (x y z m u : Int) (w : World) (hm : l.length ≤ 1000000) (hB : B ≤ w.heap.size) (hr : RowsAt hoE w (Lo B) A l) :
    Calls Tryz.prog 138 #[.slice A l.length cap, .agg #[.int .i64 x, .int .i64 y, .int .i64 z], .agg #[.int .i64 m, .int .i64 u]] w (RetRow hoE 126 w (setH l ⟨x, y, z⟩ ⟨m, u⟩)) := by
  have HR := Lib.hid hr
  clear hr
  have HZ := Lib.hid (fun W => Zero_any m u W)
  have HC := Lib.hid (fun a b c W => CProc_any ⟨a, b, c⟩ ⟨x, y, z⟩ W)
  unfold Pr.val at HC
  obtain ⟨mc, hmsz, hmk⟩ := mkHo0 (l.length + 1) (by omega)
  rw [show ((l.length + 1 : Nat) : Int) = (l.length : Int) + 1 by omega] at hmk
  have HMK : Hid (OwnRows hoE 126 (((w.alloc (.cells #[.int .i64 x, .int .i64 y, .int .i64 z] 51)).alloc (.cells #[.int .i64 m, .int .i64 u] 53)).alloc (.cells mc 126)) ((w.alloc (.cells #[.int .i64 x, .int .i64 y, .int .i64 z] 51)).alloc (.cells #[.int .i64 m, .int .i64 u] 53)).heap.size (.slice (some ⟨w.heap.size + 1 + 1, 0, none⟩) 0 (l.length + 1)) []) := Lib.hid (by
    have := OwnRows.made hoE 126 ((w.alloc (.cells #[.int .i64 x, .int .i64 y, .int .i64 z] 51)).alloc (.cells #[.int .i64 m, .int .i64 u] 53)) ((w.alloc (.cells #[.int .i64 x, .int .i64 y, .int .i64 z] 51)).alloc (.cells #[.int .i64 m, .int .i64 u] 53)).heap.size mc (l.length + 1) (Nat.le_refl _) (by unfold maxLen; omega) hmsz
    simpa using this)
  clear hmsz
  go_enter Tryz.func138, Tryz.ntmps138
  go_wp2_with fail
  go_loopg [7, 8, 17] l.length (fun m' v7 v8 v17 wq => ∃ (k : Nat) (i : Int), v8 = .int .i64 i ∧ v17 = .int .i64 (k : Int) ∧ k ≤ l.length ∧ l.length ≤ k + m' ∧ Hid (OwnRows hoE 126 wq ((w.alloc (.cells #[.int .i64 x, .int .i64 y, .int .i64 z] 51)).alloc (.cells #[.int .i64 m, .int .i64 u] 53)).heap.size v7 (filP (l.take k) ⟨x, y, z⟩)) ∧ Hid ((i = -1 ∧ plH (filP (l.take k) ⟨x, y, z⟩) ⟨x, y, z⟩ = none) ∨ ∃ j : Nat, i = (j : Int) ∧ plH (filP (l.take k) ⟨x, y, z⟩) ⟨x, y, z⟩ = some j) ∧ Hid (Below ((w.alloc (.cells #[.int .i64 x, .int .i64 y, .int .i64 z] 51)).alloc (.cells #[.int .i64 m, .int .i64 u] 53)).heap.size ((w.alloc (.cells #[.int .i64 x, .int .i64 y, .int .i64 z] 51)).alloc (.cells #[.int .i64 m, .int .i64 u] 53)) wq))
  case atStart => exact ⟨0, -1, rfl, rfl, Nat.zero_le _, by omega, HMK, Lib.hid (Or.inl ⟨rfl, rfl⟩), Lib.hid (by exact Below.al (Below.refl _ _) (.cells mc 126))⟩
  case round =>
    obtain ⟨k, i, rfl, rfl, hk, hkm, HO, HPL, HBL⟩ := hrel
    have HBW : Hid (Below w.heap.size w wr) := Lib.hid (by (repeat (first | (with_reducible exact Below.refl _ _) | (with_reducible assumption) | (with_reducible refine below_drewN ?_ _) | (with_reducible refine Below.drew ?_) | (with_reducible refine Below.al ?_ _) | (with_reducible refine Below.st ?_ (by simp; try omega)) | (with_reducible refine Below.tr ?_ (Hid.out (by assumption))) | (with_reducible exact Hid.out (by assumption)))))
    have HPW : Hid (Blk wr w.heap.size 51 #[.int .i64 x, .int .i64 y, .int .i64 z]) := Lib.hid (((Blk.new w 51 #[.int .i64 x, .int .i64 y, .int .i64 z]).alloc _).below HBL.out (by simp; omega))
    have HAW : Hid (Blk wr (w.heap.size + 1) 53 #[.int .i64 m, .int .i64 u]) := Lib.hid ((by have := Blk.new (w.alloc (.cells #[.int .i64 x, .int .i64 y, .int .i64 z] 51)) 53 #[.int .i64 m, .int .i64 u]; simpa using this : Blk _ (w.heap.size + 1) 53 #[.int .i64 m, .int .i64 u]).below HBL.out (by simp))
    have p0 := HPW.out.cellx 0 (v := .int .i64 x) rfl
    have p1 := HPW.out.cellx 1 (v := .int .i64 y) rfl
    have p2 := HPW.out.cellx 2 (v := .int .i64 z) rfl
    have hpl : w.heap.size < wr.heap.size := HPW.out.lt
    have HFL : Hid ((filP (l.take k) ⟨x, y, z⟩).length ≤ k) := Lib.hid (by have := filP_len (l.take k) ⟨x, y, z⟩; rw [List.length_take] at this; omega)
    by_cases hlt : k < l.length
    · obtain ⟨⟨⟨a, b, c⟩, ⟨m', u'⟩⟩, hx⟩ : ∃ x, l[k] = x := ⟨_, rfl⟩
      obtain ⟨g, off, rfl, hbl, c0, c1, c2, c3, c4⟩ := ho_cells (HR.out.below (B'' := w.heap.size) HBW.out hB hB) hlt hx
      have hgw : g < w.heap.size := hbl
      have hbl2 : g < wr.heap.size := Nat.lt_of_lt_of_le hbl HBW.out.size
      have hlti : (k : Int) < (l.length : Int) := by omega
      obtain ⟨_, k1, k2⟩ := cmpPr a b c x y z
      obtain ⟨q, hq⟩ : ∃ q, decide ((⟨a, b, c⟩ : Pr) = ⟨x, y, z⟩) = q := ⟨_, rfl⟩
      obtain ⟨n, hn⟩ : ∃ n, cmpP ⟨a, b, c⟩ ⟨x, y, z⟩ = n := ⟨_, rfl⟩
      have HC1 := Lib.hid (fun W => HC.out a b c W)
      rw [hn] at HC1
      have HST : Hid (filP (l.take (k + 1)) ⟨x, y, z⟩ = bif q then filP (l.take k) ⟨x, y, z⟩ else filP (l.take k) ⟨x, y, z⟩ ++ [⟨⟨a, b, c⟩, ⟨m', u'⟩⟩]) := Lib.hid (by
        rw [List.take_add_one, List.getElem?_eq_getElem hlt, hx, ← hq]
        exact filP_snoc _ _ _)
      have HPS : Hid (∀ f, plH (f ++ [⟨⟨a, b, c⟩, ⟨m', u'⟩⟩]) ⟨x, y, z⟩ = match plH f ⟨x, y, z⟩ with | some k => some k | none => bif decide (0 < n) then some f.length else none) := Lib.hid (fun f => by rw [plH_snoc, hn])
      rw [hq] at k1
      clear hq hx hbl hn
      generalize hf : filP (l.take k) ⟨x, y, z⟩ = f at *
      clear hf
      cases q with
      | true =>
        have HE : Hid (filP (l.take (k + 1)) ⟨x, y, z⟩ = f) := Lib.hid HST.out
        go_wp2_with fail
        go_roundg (gk - 1)
        case measure => omega
        case rel => exact ⟨k + 1, i, rfl, by go_num, by omega, by omega, Lib.hid (by rw [HE.out]; exact HO.out.alloc _), Lib.hid (by rw [HE.out]; exact HPL.out), Lib.hid (Below.al HBL.out _)⟩
      | false =>
        have HE : Hid (f ++ [⟨⟨a, b, c⟩, ⟨m', u'⟩⟩] = filP (l.take (k + 1)) ⟨x, y, z⟩) := Lib.hid HST.out.symm
        have hfl : f.length ≤ k := HFL.out
        rcases HPL.out with ⟨rfl, hp⟩ | ⟨j, rfl, hp⟩
        · have HP := Lib.hid hp
          clear hp
          by_cases hnn : 0 < n
          · have HP2 : Hid (plH (filP (l.take (k + 1)) ⟨x, y, z⟩) ⟨x, y, z⟩ = some f.length) := Lib.hid (by rw [← HE.out, HPS.out, HP.out, decide_eq_true hnn]; rfl)
            go_wp2_with fail
            refine (HC1.out _).mono ?_
            rintro e w2 ⟨rfl, hb2⟩
            obtain ⟨hc_w2, hf_w2⟩ := bcell hb2
            have hs_w2 := hb2.size
            (try simp at hs_w2)
            have hz_w2_0 : wr.heap.size < w2.heap.size := (by omega)
            clear hs_w2
            have HO2 := Lib.hid ((HO.out.alloc _).below (B := _) hb2 (Nat.le_refl _))
            have HBL2 : Hid (Below ((w.alloc (.cells #[.int .i64 x, .int .i64 y, .int .i64 z] 51)).alloc (.cells #[.int .i64 m, .int .i64 u] 53)).heap.size ((w.alloc (.cells #[.int .i64 x, .int .i64 y, .int .i64 z] 51)).alloc (.cells #[.int .i64 m, .int .i64 u] 53)) w2) := Lib.hid (Below.tr (Below.al HBL.out _) hb2)
            obtain ⟨A7, c7, rfl, _, _, _, _⟩ := HO2.out.form2
            clear hb2
            go_wp2_with (at_builtin; refine pushOneB hoTB rfl (.tmp 36) (.tmp 38) rfl w2 ((w.alloc (.cells #[.int .i64 x, .int .i64 y, .int .i64 z] 51)).alloc (.cells #[.int .i64 m, .int .i64 u] 53)).heap.size (.slice A7 f.length c7) f ⟨⟨a, b, c⟩, ⟨m', u'⟩⟩ [.int .i64 a, .int .i64 b, .int .i64 c, .int .i64 m', .int .i64 u'] _ rfl rfl HO2.out w2.heap.size rfl rfl rfl (by unfold maxLen; omega) (by omega) ?_; intro v7 w7 hown7 hb7 hsp7; have HB7 : Hid (Below ((w.alloc (.cells #[.int .i64 x, .int .i64 y, .int .i64 z] 51)).alloc (.cells #[.int .i64 m, .int .i64 u] 53)).heap.size ((w.alloc (.cells #[.int .i64 x, .int .i64 y, .int .i64 z] 51)).alloc (.cells #[.int .i64 m, .int .i64 u] 53)) w7) := Lib.hid (HBL2.out.trans hb7); have HO7 := Lib.hid hown7; clear hown7 hb7 hsp7)
            rw [HE.out] at HO7
            go_roundg (gk - 1)
            case measure => omega
            case rel => exact ⟨k + 1, f.length, rfl, by go_num, by omega, by omega, HO7, Lib.hid (Or.inr ⟨_, rfl, HP2.out⟩), HB7⟩
          · have HP2 : Hid (plH (filP (l.take (k + 1)) ⟨x, y, z⟩) ⟨x, y, z⟩ = none) := Lib.hid (by rw [← HE.out, HPS.out, HP.out, decide_eq_false hnn]; rfl)
            go_wp2_with fail
            refine (HC1.out _).mono ?_
            rintro e w2 ⟨rfl, hb2⟩
            obtain ⟨hc_w2, hf_w2⟩ := bcell hb2
            have hs_w2 := hb2.size
            (try simp at hs_w2)
            have hz_w2_0 : wr.heap.size < w2.heap.size := (by omega)
            clear hs_w2
            have HO2 := Lib.hid ((HO.out.alloc _).below (B := _) hb2 (Nat.le_refl _))
            have HBL2 : Hid (Below ((w.alloc (.cells #[.int .i64 x, .int .i64 y, .int .i64 z] 51)).alloc (.cells #[.int .i64 m, .int .i64 u] 53)).heap.size ((w.alloc (.cells #[.int .i64 x, .int .i64 y, .int .i64 z] 51)).alloc (.cells #[.int .i64 m, .int .i64 u] 53)) w2) := Lib.hid (Below.tr (Below.al HBL.out _) hb2)
            clear hb2
            go_wp2_with (at_builtin; refine pushOneB hoTB rfl (.tmp 36) (.tmp 38) rfl w2 ((w.alloc (.cells #[.int .i64 x, .int .i64 y, .int .i64 z] 51)).alloc (.cells #[.int .i64 m, .int .i64 u] 53)).heap.size u7 f ⟨⟨a, b, c⟩, ⟨m', u'⟩⟩ [.int .i64 a, .int .i64 b, .int .i64 c, .int .i64 m', .int .i64 u'] _ rfl rfl HO2.out w2.heap.size rfl rfl rfl (by unfold maxLen; omega) (by omega) ?_; intro v7 w7 hown7 hb7 hsp7; have HB7 : Hid (Below ((w.alloc (.cells #[.int .i64 x, .int .i64 y, .int .i64 z] 51)).alloc (.cells #[.int .i64 m, .int .i64 u] 53)).heap.size ((w.alloc (.cells #[.int .i64 x, .int .i64 y, .int .i64 z] 51)).alloc (.cells #[.int .i64 m, .int .i64 u] 53)) w7) := Lib.hid (HBL2.out.trans hb7); have HO7 := Lib.hid hown7; clear hown7 hb7 hsp7)
            rw [HE.out] at HO7
            go_roundg (gk - 1)
            case measure => omega
            case rel => exact ⟨k + 1, -1, rfl, by go_num, by omega, by omega, HO7, Lib.hid (Or.inl ⟨rfl, HP2.out⟩), HB7⟩
        · have HP2 : Hid (plH (filP (l.take (k + 1)) ⟨x, y, z⟩) ⟨x, y, z⟩ = some j) := Lib.hid (by rw [← HE.out, HPS.out, hp])
          have HO2 := Lib.hid (HO.out.alloc (.cells #[.int .i64 a, .int .i64 b, .int .i64 c, .int .i64 m', .int .i64 u'] 126))
          have hj0 : ¬ (j : Int) < 0 := by omega
          clear hp
          go_wp2_with (at_builtin; refine pushOneB hoTB rfl (.tmp 36) (.tmp 38) rfl (wr.alloc (.cells #[.int .i64 a, .int .i64 b, .int .i64 c, .int .i64 m', .int .i64 u'] 126)) ((w.alloc (.cells #[.int .i64 x, .int .i64 y, .int .i64 z] 51)).alloc (.cells #[.int .i64 m, .int .i64 u] 53)).heap.size u7 f ⟨⟨a, b, c⟩, ⟨m', u'⟩⟩ [.int .i64 a, .int .i64 b, .int .i64 c, .int .i64 m', .int .i64 u'] _ rfl rfl HO2.out (wr.heap.size + 1) rfl (by simp) rfl (by unfold maxLen; omega) (by omega) ?_; intro v7 w7 hown7 hb7 hsp7; have HB7 : Hid (Below ((w.alloc (.cells #[.int .i64 x, .int .i64 y, .int .i64 z] 51)).alloc (.cells #[.int .i64 m, .int .i64 u] 53)).heap.size ((w.alloc (.cells #[.int .i64 x, .int .i64 y, .int .i64 z] 51)).alloc (.cells #[.int .i64 m, .int .i64 u] 53)) w7) := Lib.hid ((Below.al HBL.out _).trans hb7); have HO7 := Lib.hid hown7; clear hown7 hb7 hsp7)
          rw [HE.out] at HO7
          go_roundg (gk - 1)
          case measure => omega
          case rel => exact ⟨k + 1, j, rfl, by go_num, by omega, by omega, HO7, Lib.hid (Or.inr ⟨_, rfl, HP2.out⟩), HB7⟩
    · have hlti : ¬ (k : Int) < (l.length : Int) := by omega
      have HE : Hid (filP (l.take k) ⟨x, y, z⟩ = filP l ⟨x, y, z⟩) := Lib.hid (by rw [List.take_of_length_le (by omega)])
      have HSE : Hid (setH l ⟨x, y, z⟩ ⟨m, u⟩ = bif zeroB ⟨m, u⟩ then filP l ⟨x, y, z⟩ else insH ⟨⟨x, y, z⟩, ⟨m, u⟩⟩ (filP l ⟨x, y, z⟩)) := Lib.hid rfl
      have HBX : Hid (w.heap.size ≤ ((w.alloc (.cells #[.int .i64 x, .int .i64 y, .int .i64 z] 51)).alloc (.cells #[.int .i64 m, .int .i64 u] 53)).heap.size) := Lib.hid (by simp; omega)
      rw [HE.out] at HO HPL HFL
      generalize setH l ⟨x, y, z⟩ ⟨m, u⟩ = R at *
      generalize filP l ⟨x, y, z⟩ = f at *
      have hfl : f.length ≤ k := HFL.out
      have q3 := HAW.out.cellx 0 (v := .int .i64 m) rfl
      have q4 := HAW.out.cellx 1 (v := .int .i64 u) rfl
      have ql2 : w.heap.size + 1 < wr.heap.size := HAW.out.lt
      cases hz : zeroB ⟨m, u⟩ with
      | true =>
        have HZ1 : Hid (∀ W, Calls Tryz.prog 139 #[.agg #[.int .i64 m, .int .i64 u]] W (Ret W (.bool true))) := Lib.hid (fun W => hz ▸ HZ.out W)
        have HR1 : Hid (f = R) := Lib.hid (by rw [HSE.out, hz]; rfl)
        rw [HR1.out] at HO
        clear hz
        go_wp2_with fail
        refine (HZ1.out _).mono ?_
        rintro e w2 ⟨rfl, hb2⟩
        have HO2 := Lib.hid (HO.out.below (B := _) hb2 (Nat.le_refl _))
        have HBW2 : Hid (Below w.heap.size w w2) := Lib.hid (Below.tr HBW.out hb2)
        clear hb2
        go_wp2_with fail
        go_ret
        exact ⟨_, rfl, HO2.out.older HBX.out, HBW2.out⟩
      | false =>
        have HZ1 : Hid (∀ W, Calls Tryz.prog 139 #[.agg #[.int .i64 m, .int .i64 u]] W (Ret W (.bool false))) := Lib.hid (fun W => hz ▸ HZ.out W)
        obtain ⟨pn, hpn, HR1, HI⟩ : ∃ pn : Nat, pn ≤ f.length ∧ Hid (R = f.take pn ++ ⟨⟨x, y, z⟩, ⟨m, u⟩⟩ :: f.drop pn) ∧ Hid ((i = -1 ∧ pn = f.length) ∨ i = (pn : Int)) := by
          have hR : R = insH ⟨⟨x, y, z⟩, ⟨m, u⟩⟩ f := by rw [HSE.out, hz]; rfl
          rw [insH_pl] at hR
          rcases HPL.out with ⟨hi, hp⟩ | ⟨j, hi, hp⟩
          · rw [hp] at hR
            exact ⟨f.length, Nat.le_refl _, Lib.hid (by rw [hR]; simp), Lib.hid (Or.inl ⟨hi, rfl⟩)⟩
          · rw [hp] at hR
            exact ⟨j, Nat.le_of_lt (plH_lt hp), Lib.hid hR, Lib.hid (Or.inr hi)⟩
        clear hz HPL HSE
        have hpi : ∀ (v : Int), v = (pn : Int) → IntKind.i64.wrap (v + 1) = ((pn + 1 : Nat) : Int) := fun v hv => by rw [hv, IntWalk.i64_in _ (by omega)]; omega
        go_wp2_with fail
        refine (HZ1.out _).mono ?_
        rintro e w2 ⟨rfl, hb2⟩
        obtain ⟨hc_w2, hf_w2⟩ := bcell hb2
        have hs_w2 := hb2.size
        (try simp at hs_w2)
        clear hs_w2
        have HO2 := Lib.hid (HO.out.below (B := _) hb2 (Nat.le_refl _))
        have HBL2 : Hid (Below ((w.alloc (.cells #[.int .i64 x, .int .i64 y, .int .i64 z] 51)).alloc (.cells #[.int .i64 m, .int .i64 u] 53)).heap.size ((w.alloc (.cells #[.int .i64 x, .int .i64 y, .int .i64 z] 51)).alloc (.cells #[.int .i64 m, .int .i64 u] 53)) w2) := Lib.hid (Below.tr HBL.out hb2)
        clear hb2 hpi
        obtain ⟨A7, c7, rfl, _, _, _, _⟩ := HO2.out.form2
        rcases HI.out with ⟨rfl, rfl⟩ | rfl
        · skip
          go_wp2_with (at_builtin; refine pushOneB hoTB rfl (.tmp 48) (.tmp 50) rfl w2 ((w.alloc (.cells #[.int .i64 x, .int .i64 y, .int .i64 z] 51)).alloc (.cells #[.int .i64 m, .int .i64 u] 53)).heap.size (.slice A7 f.length c7) f ⟨⟨0, 0, 0⟩, ⟨0, 0⟩⟩ [.int .i64 0, .int .i64 0, .int .i64 0, .int .i64 0, .int .i64 0] _ rfl rfl HO2.out w2.heap.size rfl rfl rfl (by unfold maxLen; omega) (by omega) ?_; intro v8 w8 hown8 hb8 hsp8; have HB8 : Hid (Below ((w.alloc (.cells #[.int .i64 x, .int .i64 y, .int .i64 z] 51)).alloc (.cells #[.int .i64 m, .int .i64 u] 53)).heap.size ((w.alloc (.cells #[.int .i64 x, .int .i64 y, .int .i64 z] 51)).alloc (.cells #[.int .i64 m, .int .i64 u] 53)) w8) := Lib.hid (HBL2.out.trans hb8); obtain ⟨g8, c8, rfl, hg8, hg8', hc8, hc8', _, _⟩ := hown8.addr (by simp); have HO8 := Lib.hid hown8; clear hown8 hb8 hsp8)
          have HO9 : Hid (OwnRows hoE 126 w8.drew ((w.alloc (.cells #[.int .i64 x, .int .i64 y, .int .i64 z] 51)).alloc (.cells #[.int .i64 m, .int .i64 u] 53)).heap.size (.slice (some ⟨g8, 0, none⟩) (f ++ [(⟨⟨0, 0, 0⟩, ⟨0, 0⟩⟩ : Ho)]).length c8) (f ++ [⟨⟨0, 0, 0⟩, ⟨0, 0⟩⟩])) := Lib.hid (HO8.out.drewN 1)
          have hcn : f.length + 1 ≤ c8 := by simpa using hc8
          obtain ⟨_, hsA⟩ := cuts Tryz.underlying45 hoInfo (some ⟨g8, 0, none⟩) (f.length + 1) c8 (f.length + 1) (by omega) hcn
          obtain ⟨_, hsB⟩ := cuts Tryz.underlying45 hoInfo (some ⟨g8, 0, none⟩) (f.length + 1) c8 f.length (by omega) hcn
          rw [show ((f.length + 1 : Nat) : Int) = (f.length : Int) + 1 by omega] at hsA
          have hpw : IntKind.i64.wrap ((f.length : Int) + 1) = (f.length : Int) + 1 := IntWalk.i64_in _ (by omega)
          have HD : Hid (f.length < f.length → cutA (some ⟨g8, 0, none⟩) c8 (f.length + 1) 5 = some ⟨g8, (f.length + 1) * 5, none⟩ ∧ cutA (some ⟨g8, 0, none⟩) c8 f.length 5 = some ⟨g8, f.length * 5, none⟩) := Lib.hid (fun hlt => by
            unfold cutA
            rw [if_neg (by omega), if_neg (by omega), Option.map_some, Option.map_some, addr_add, addr_add, Nat.zero_add, Nat.zero_add]
            exact ⟨rfl, rfl⟩)
          generalize cutA (some ⟨g8, 0, none⟩) c8 (f.length + 1) 5 = D1 at *
          generalize cutA (some ⟨g8, 0, none⟩) c8 f.length 5 = D2 at *
          obtain ⟨cs, hcs, hcc⟩ := HO9.out.part f.length (f.length - f.length)
          have HYS : Hid (((f ++ [(⟨⟨0, 0, 0⟩, ⟨0, 0⟩⟩ : Ho)]).drop f.length).take (f.length - f.length) = f.drop f.length) := Lib.hid (by rw [List.drop_append_of_le_length (by omega), List.take_append_of_le_length (by simp)]; exact List.take_of_length_le (by simp))
          rw [HYS.out] at hcs
          have HCS := Lib.hid hcs
          have HCC := Lib.hid hcc
          clear hcs hcc
          refine wp_region_tail 7 (by kernel_rfl) (by kernel_rfl) ?_; simp only [List.take_succ_cons, List.take_zero, List.drop_succ_cons, List.drop_zero]
          (repeat (go_big_quiet_step (fail))); refine wpQuiet_nil ?_
          refine copyRow hoTB rfl (.tmp 55) (.tmp 58) rfl w8.drew ((w.alloc (.cells #[.int .i64 x, .int .i64 y, .int .i64 z] 51)).alloc (.cells #[.int .i64 m, .int .i64 u] 53)).heap.size g8 c8 (f ++ [⟨⟨0, 0, 0⟩, ⟨0, 0⟩⟩]) (f.drop f.length) (f.length + 1) _ _ _ _ D1 D2 rfl rfl HO9.out hg8 (by show (_ : Nat) = min _ _; first | (simp; done) | (simp; omega)) (by first | (simp; done) | (simp; omega)) hc8 cs HCS.out (fun hp => ⟨(HD.out (by first | (simp at hp; done) | (simp at hp; omega))).1, g8, f.length * 5, (HD.out (by first | (simp at hp; done) | (simp at hp; omega))).2, HCC.out⟩) ?_
          intro w9 hown9 hb9
          have HO10 := Lib.hid hown9
          have HB9 : Hid (Below ((w.alloc (.cells #[.int .i64 x, .int .i64 y, .int .i64 z] 51)).alloc (.cells #[.int .i64 m, .int .i64 u] 53)).heap.size ((w.alloc (.cells #[.int .i64 x, .int .i64 y, .int .i64 z] 51)).alloc (.cells #[.int .i64 m, .int .i64 u] 53)) w9) := Lib.hid ((HB8.out.drew).trans hb9)
          clear hown9 hb9
          clear HCS HCC hsA hsB HD hpw HO8 HO9 HB8 HO2
          generalize hL9 : List.take (f.length + 1) (f ++ [(⟨⟨0, 0, 0⟩, ⟨0, 0⟩⟩ : Ho)]) ++ List.drop f.length f ++ List.drop (f.length + 1 + (List.drop f.length f).length) (f ++ [(⟨⟨0, 0, 0⟩, ⟨0, 0⟩⟩ : Ho)]) = L9 at HO10
          have HS9 : Hid (L9.set f.length ⟨⟨x, y, z⟩, ⟨m, u⟩⟩ = R) := Lib.hid (by
            rw [← hL9, set_in_row (by (first | omega | (simp; done) | (simp; omega))), HR1.out, List.take_append_of_le_length (by omega), (List.drop_eq_nil_of_le (by (first | omega | (simp; done) | (simp; omega))) : List.drop (f.length + 1 + (List.drop f.length f).length) (f ++ [(⟨⟨0, 0, 0⟩, ⟨0, 0⟩⟩ : Ho)]) = [])]
            simp)
          have hl9 : L9.length = f.length + 1 := by rw [← hL9]; (first | omega | (simp; done) | (simp; omega))
          rw [show (f ++ [(⟨⟨0, 0, 0⟩, ⟨0, 0⟩⟩ : Ho)]).length = L9.length by rw [hl9]; simp] at HO10
          have HBW9 : Hid (Below w.heap.size w w9) := Lib.hid (by (repeat (first | (with_reducible exact Below.refl _ _) | (with_reducible assumption) | (with_reducible refine below_drewN ?_ _) | (with_reducible refine Below.drew ?_) | (with_reducible refine Below.al ?_ _) | (with_reducible refine Below.st ?_ (by simp; try omega)) | (with_reducible refine Below.tr ?_ (Hid.out (by assumption))) | (with_reducible exact Hid.out (by assumption)))))
          have HP9 : Hid (Blk w9 w.heap.size 51 #[.int .i64 x, .int .i64 y, .int .i64 z]) := Lib.hid (((Blk.new w 51 #[.int .i64 x, .int .i64 y, .int .i64 z]).alloc _).below HB9.out (by simp; omega))
          have HA9 : Hid (Blk w9 (w.heap.size + 1) 53 #[.int .i64 m, .int .i64 u]) := Lib.hid ((by have := Blk.new (w.alloc (.cells #[.int .i64 x, .int .i64 y, .int .i64 z] 51)) 53 #[.int .i64 m, .int .i64 u]; simpa using this : Blk _ (w.heap.size + 1) 53 #[.int .i64 m, .int .i64 u]).below HB9.out (by simp))
          have r0 := HP9.out.cellx 0 (v := .int .i64 x) rfl
          have r1 := HP9.out.cellx 1 (v := .int .i64 y) rfl
          have r2 := HP9.out.cellx 2 (v := .int .i64 z) rfl
          have r3 := HA9.out.cellx 0 (v := .int .i64 m) rfl
          have r4 := HA9.out.cellx 1 (v := .int .i64 u) rfl
          have rl1 := HP9.out.lt
          have rl2 := HA9.out.lt
          obtain ⟨g9, c9, hv9, _, hg9', _, _, hfz, hr9⟩ := HO10.out.addr (by omega)
          injection hv9 with e1 e2 e3
          injection e1 with e1
          injection e1 with e1
          subst e1
          subst e3
          obtain ⟨⟨⟨a9, b9, d9⟩, ⟨m9, u9⟩⟩, hx9⟩ : ∃ x, L9[f.length]'(by omega) = x := ⟨_, rfl⟩
          obtain ⟨_, _, hA, _, s0, s1, s2, s3, s4⟩ := ho_cells hr9 (by omega) hx9
          injection hA with hA
          injection hA with e1 e2
          subst e1
          subst e2
          simp only [Nat.zero_add] at s0 s1 s2 s3 s4
          have f0 := hfz (f.length * 5)
          have f1 := hfz (f.length * 5 + 1)
          have f2 := hfz (f.length * 5 + 2)
          have f3 := hfz (f.length * 5 + 3)
          have f4 := hfz (f.length * 5 + 4)
          have HOF := Lib.hid (HO10.out.setRow (i := f.length) (y := ⟨⟨x, y, z⟩, ⟨m, u⟩⟩) (cs := [.int .i64 x, .int .i64 y, .int .i64 z, .int .i64 m, .int .i64 u]) (by omega) rfl)
          rw [HS9.out] at HOF
          have HBF : Hid (Below w.heap.size w (w9.setCells g8 (f.length * 5) [.int .i64 x, .int .i64 y, .int .i64 z, .int .i64 m, .int .i64 u])) := Lib.hid (setCells_below (Nat.le_trans HBX.out hg8) _ _ _ HBW9.out)
          have hpl9 : f.length < f.length + 1 := by omega
          have hpl9i : (f.length : Int) < (f.length : Int) + 1 := by omega
          clear hx9 hr9 hfz hL9 HR1
          rw [hl9] at HOF
          go_wp2_with fail
          go_ret
          exact ⟨_, rfl, HOF.out.older HBX.out, HBF.out⟩
        · skip
          go_wp2_with (at_builtin; refine pushOneB hoTB rfl (.tmp 48) (.tmp 50) rfl w2 ((w.alloc (.cells #[.int .i64 x, .int .i64 y, .int .i64 z] 51)).alloc (.cells #[.int .i64 m, .int .i64 u] 53)).heap.size (.slice A7 f.length c7) f ⟨⟨0, 0, 0⟩, ⟨0, 0⟩⟩ [.int .i64 0, .int .i64 0, .int .i64 0, .int .i64 0, .int .i64 0] _ rfl rfl HO2.out w2.heap.size rfl rfl rfl (by unfold maxLen; omega) (by omega) ?_; intro v8 w8 hown8 hb8 hsp8; have HB8 : Hid (Below ((w.alloc (.cells #[.int .i64 x, .int .i64 y, .int .i64 z] 51)).alloc (.cells #[.int .i64 m, .int .i64 u] 53)).heap.size ((w.alloc (.cells #[.int .i64 x, .int .i64 y, .int .i64 z] 51)).alloc (.cells #[.int .i64 m, .int .i64 u] 53)) w8) := Lib.hid (HBL2.out.trans hb8); obtain ⟨g8, c8, rfl, hg8, hg8', hc8, hc8', _, _⟩ := hown8.addr (by simp); have HO8 := Lib.hid hown8; clear hown8 hb8 hsp8)
          have HO9 : Hid (OwnRows hoE 126 w8.drew ((w.alloc (.cells #[.int .i64 x, .int .i64 y, .int .i64 z] 51)).alloc (.cells #[.int .i64 m, .int .i64 u] 53)).heap.size (.slice (some ⟨g8, 0, none⟩) (f ++ [(⟨⟨0, 0, 0⟩, ⟨0, 0⟩⟩ : Ho)]).length c8) (f ++ [⟨⟨0, 0, 0⟩, ⟨0, 0⟩⟩])) := Lib.hid (HO8.out.drewN 1)
          have hcn : f.length + 1 ≤ c8 := by simpa using hc8
          obtain ⟨_, hsA⟩ := cuts Tryz.underlying45 hoInfo (some ⟨g8, 0, none⟩) (f.length + 1) c8 (pn + 1) (by omega) hcn
          obtain ⟨_, hsB⟩ := cuts Tryz.underlying45 hoInfo (some ⟨g8, 0, none⟩) (f.length + 1) c8 pn (by omega) hcn
          rw [show ((pn + 1 : Nat) : Int) = (pn : Int) + 1 by omega] at hsA
          have hpw : IntKind.i64.wrap ((pn : Int) + 1) = (pn : Int) + 1 := IntWalk.i64_in _ (by omega)
          have HD : Hid (pn < f.length → cutA (some ⟨g8, 0, none⟩) c8 (pn + 1) 5 = some ⟨g8, (pn + 1) * 5, none⟩ ∧ cutA (some ⟨g8, 0, none⟩) c8 pn 5 = some ⟨g8, pn * 5, none⟩) := Lib.hid (fun hlt => by
            unfold cutA
            rw [if_neg (by omega), if_neg (by omega), Option.map_some, Option.map_some, addr_add, addr_add, Nat.zero_add, Nat.zero_add]
            exact ⟨rfl, rfl⟩)
          generalize cutA (some ⟨g8, 0, none⟩) c8 (pn + 1) 5 = D1 at *
          generalize cutA (some ⟨g8, 0, none⟩) c8 pn 5 = D2 at *
          obtain ⟨cs, hcs, hcc⟩ := HO9.out.part pn (f.length - pn)
          have HYS : Hid (((f ++ [(⟨⟨0, 0, 0⟩, ⟨0, 0⟩⟩ : Ho)]).drop pn).take (f.length - pn) = f.drop pn) := Lib.hid (by rw [List.drop_append_of_le_length (by omega), List.take_append_of_le_length (by simp)]; exact List.take_of_length_le (by simp))
          rw [HYS.out] at hcs
          have HCS := Lib.hid hcs
          have HCC := Lib.hid hcc
          clear hcs hcc
          refine wp_region_tail 7 (by kernel_rfl) (by kernel_rfl) ?_; simp only [List.take_succ_cons, List.take_zero, List.drop_succ_cons, List.drop_zero]
          (repeat (go_big_quiet_step (fail))); refine wpQuiet_nil ?_
          refine copyRow hoTB rfl (.tmp 55) (.tmp 58) rfl w8.drew ((w.alloc (.cells #[.int .i64 x, .int .i64 y, .int .i64 z] 51)).alloc (.cells #[.int .i64 m, .int .i64 u] 53)).heap.size g8 c8 (f ++ [⟨⟨0, 0, 0⟩, ⟨0, 0⟩⟩]) (f.drop pn) (pn + 1) _ _ _ _ D1 D2 rfl rfl HO9.out hg8 (by show (_ : Nat) = min _ _; first | (simp; done) | (simp; omega)) (by first | (simp; done) | (simp; omega)) hc8 cs HCS.out (fun hp => ⟨(HD.out (by first | (simp at hp; done) | (simp at hp; omega))).1, g8, pn * 5, (HD.out (by first | (simp at hp; done) | (simp at hp; omega))).2, HCC.out⟩) ?_
          intro w9 hown9 hb9
          have HO10 := Lib.hid hown9
          have HB9 : Hid (Below ((w.alloc (.cells #[.int .i64 x, .int .i64 y, .int .i64 z] 51)).alloc (.cells #[.int .i64 m, .int .i64 u] 53)).heap.size ((w.alloc (.cells #[.int .i64 x, .int .i64 y, .int .i64 z] 51)).alloc (.cells #[.int .i64 m, .int .i64 u] 53)) w9) := Lib.hid ((HB8.out.drew).trans hb9)
          clear hown9 hb9
          clear HCS HCC hsA hsB HD hpw HO8 HO9 HB8 HO2
          generalize hL9 : List.take (pn + 1) (f ++ [(⟨⟨0, 0, 0⟩, ⟨0, 0⟩⟩ : Ho)]) ++ List.drop pn f ++ List.drop (pn + 1 + (List.drop pn f).length) (f ++ [(⟨⟨0, 0, 0⟩, ⟨0, 0⟩⟩ : Ho)]) = L9 at HO10
          have HS9 : Hid (L9.set pn ⟨⟨x, y, z⟩, ⟨m, u⟩⟩ = R) := Lib.hid (by
            rw [← hL9, set_in_row (by (first | omega | (simp; done) | (simp; omega))), HR1.out, List.take_append_of_le_length (by omega), (List.drop_eq_nil_of_le (by (first | omega | (simp; done) | (simp; omega))) : List.drop (pn + 1 + (List.drop pn f).length) (f ++ [(⟨⟨0, 0, 0⟩, ⟨0, 0⟩⟩ : Ho)]) = [])]
            simp)
          have hl9 : L9.length = f.length + 1 := by rw [← hL9]; (first | omega | (simp; done) | (simp; omega))
          rw [show (f ++ [(⟨⟨0, 0, 0⟩, ⟨0, 0⟩⟩ : Ho)]).length = L9.length by rw [hl9]; simp] at HO10
          have HBW9 : Hid (Below w.heap.size w w9) := Lib.hid (by (repeat (first | (with_reducible exact Below.refl _ _) | (with_reducible assumption) | (with_reducible refine below_drewN ?_ _) | (with_reducible refine Below.drew ?_) | (with_reducible refine Below.al ?_ _) | (with_reducible refine Below.st ?_ (by simp; try omega)) | (with_reducible refine Below.tr ?_ (Hid.out (by assumption))) | (with_reducible exact Hid.out (by assumption)))))
          have HP9 : Hid (Blk w9 w.heap.size 51 #[.int .i64 x, .int .i64 y, .int .i64 z]) := Lib.hid (((Blk.new w 51 #[.int .i64 x, .int .i64 y, .int .i64 z]).alloc _).below HB9.out (by simp; omega))
          have HA9 : Hid (Blk w9 (w.heap.size + 1) 53 #[.int .i64 m, .int .i64 u]) := Lib.hid ((by have := Blk.new (w.alloc (.cells #[.int .i64 x, .int .i64 y, .int .i64 z] 51)) 53 #[.int .i64 m, .int .i64 u]; simpa using this : Blk _ (w.heap.size + 1) 53 #[.int .i64 m, .int .i64 u]).below HB9.out (by simp))
          have r0 := HP9.out.cellx 0 (v := .int .i64 x) rfl
          have r1 := HP9.out.cellx 1 (v := .int .i64 y) rfl
          have r2 := HP9.out.cellx 2 (v := .int .i64 z) rfl
          have r3 := HA9.out.cellx 0 (v := .int .i64 m) rfl
          have r4 := HA9.out.cellx 1 (v := .int .i64 u) rfl
          have rl1 := HP9.out.lt
          have rl2 := HA9.out.lt
          obtain ⟨g9, c9, hv9, _, hg9', _, _, hfz, hr9⟩ := HO10.out.addr (by omega)
          injection hv9 with e1 e2 e3
          injection e1 with e1
          injection e1 with e1
          subst e1
          subst e3
          obtain ⟨⟨⟨a9, b9, d9⟩, ⟨m9, u9⟩⟩, hx9⟩ : ∃ x, L9[pn]'(by omega) = x := ⟨_, rfl⟩
          obtain ⟨_, _, hA, _, s0, s1, s2, s3, s4⟩ := ho_cells hr9 (by omega) hx9
          injection hA with hA
          injection hA with e1 e2
          subst e1
          subst e2
          simp only [Nat.zero_add] at s0 s1 s2 s3 s4
          have f0 := hfz (pn * 5)
          have f1 := hfz (pn * 5 + 1)
          have f2 := hfz (pn * 5 + 2)
          have f3 := hfz (pn * 5 + 3)
          have f4 := hfz (pn * 5 + 4)
          have HOF := Lib.hid (HO10.out.setRow (i := pn) (y := ⟨⟨x, y, z⟩, ⟨m, u⟩⟩) (cs := [.int .i64 x, .int .i64 y, .int .i64 z, .int .i64 m, .int .i64 u]) (by omega) rfl)
          rw [HS9.out] at HOF
          have HBF : Hid (Below w.heap.size w (w9.setCells g8 (pn * 5) [.int .i64 x, .int .i64 y, .int .i64 z, .int .i64 m, .int .i64 u])) := Lib.hid (setCells_below (Nat.le_trans HBX.out hg8) _ _ _ HBW9.out)
          have hpl9 : pn < f.length + 1 := by omega
          have hpl9i : (pn : Int) < (f.length : Int) + 1 := by omega
          clear hx9 hr9 hfz hL9 HR1
          rw [hl9] at HOF
          go_wp2_with fail
          go_ret
          exact ⟨_, rfl, HOF.out.older HBX.out, HBF.out⟩
end Go.Proofs.YtogeihdfmnohnaaGreatDoor
