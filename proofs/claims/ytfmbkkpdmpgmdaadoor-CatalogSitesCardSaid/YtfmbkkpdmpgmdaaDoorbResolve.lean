/- Fits and Resolve, the program's and the document's. -/
import Derived.Test.YtfmbkkpdmpgmdaaDoorbSpec
namespace Go.Proofs.YtfmbkkpdmpgmdaaDoor
open Go.RowKit

/-- The amount (m, n) fits r. -/
def fitsB (r : Rs) (m n : Int) : Bool := shapedB r && (if r.kind = 1 then decide (1 ≤ m) && decide (m ≤ 5) && decide (n = 0) else decide (m = 0) && decide (1 ≤ n) && decide (n ≤ r.units))

theorem modeValid_any (m : Int) (w : World) : Calls Tryd.prog 54 #[.int .i64 m] w fun e w' => e = .returned (.bool (decide (1 ≤ m) && decide (m ≤ 5))) ∧ w' = w := by
  go_enter Tryd.func54, Tryd.ntmps54
  go_wp2
  all_goals go_ret
  all_goals refine ⟨ret_bool ?_, rfl⟩
  all_goals (first | rfl | (simp_all; done) | (simp_all; omega) | (rw [Bool.eq_iff_iff]; simp_all; done) | (rw [Bool.eq_iff_iff]; simp_all; omega))
theorem rmodeValid_any (m : Int) (w : World) : Calls Tryd.prog 55 #[.int .i64 m] w fun e w' => e = .returned (.bool (decide (1 ≤ m) && decide (m ≤ 5))) ∧ w' = w := by
  go_enter Tryd.func55, Tryd.ntmps55
  go_wp2
  all_goals go_ret
  all_goals refine ⟨ret_bool ?_, rfl⟩
  all_goals (first | rfl | (simp_all; done) | (simp_all; omega) | (rw [Bool.eq_iff_iff]; simp_all; done) | (rw [Bool.eq_iff_iff]; simp_all; omega))

set_option maxHeartbeats 1600000 in
theorem Fits_any (r : Rs) (m n : Int) (w : World) : Calls Tryd.prog 42 #[r.val, .agg #[.int .i64 m, .int .i64 n]] w (Ret w (.bool (fitsB r m n))) := by
  have HS := Lib.hid (fun W => Shaped_any r W)
  have HM := Lib.hid (fun W => modeValid_any m W)
  obtain ⟨b1, hb1⟩ : ∃ b, shapedB r = b := ⟨_, rfl⟩
  obtain ⟨b2, hb2⟩ : ∃ b, (decide (1 ≤ m) && decide (m ≤ 5)) = b := ⟨_, rfl⟩
  rw [hb1] at HS
  rw [hb2] at HM
  have HF : Hid (fitsB r m n = (b1 && (if r.kind = 1 then b2 && decide (n = 0) else decide (m = 0) && decide (1 ≤ n) && decide (n ≤ r.units)))) := Lib.hid (by unfold fitsB; rw [hb1, hb2])
  clear hb1 hb2
  obtain ⟨q, hq⟩ : ∃ q, fitsB r m n = q := ⟨_, rfl⟩
  rw [hq] at HF ⊢
  clear hq
  obtain ⟨nm, kd, u, h⟩ := r
  unfold Rs.val at HS ⊢
  go_enter Tryd.func42, Tryd.ntmps42
  go_wp2_with fail
  refine (HS.out _).mono ?_
  rintro e w2 ⟨rfl, hb2⟩
  have hbel : Below w.heap.size w w2 := (((Below.refl _ _).alloc (Nat.le_refl _) _).alloc (by simp) _).trans (hb2.mono (by simp; omega))
  have HBEL := Lib.hid hbel
  have hbox0 : Blk ((w.alloc (.cells #[.string nm, .int .i64 kd, .int .i64 u, .int .i64 h] 26)).alloc (.cells #[.int .i64 m, .int .i64 n] 42)) w.heap.size 26 #[.string nm, .int .i64 kd, .int .i64 u, .int .i64 h] := (Blk.new w _ _).alloc _
  have hbox1 : Blk ((w.alloc (.cells #[.string nm, .int .i64 kd, .int .i64 u, .int .i64 h] 26)).alloc (.cells #[.int .i64 m, .int .i64 n] 42)) (w.heap.size + 1) 42 #[.int .i64 m, .int .i64 n] := by
    have := Blk.new (w.alloc (.cells #[.string nm, .int .i64 kd, .int .i64 u, .int .i64 h] 26)) 42 #[.int .i64 m, .int .i64 n]
    simpa using this
  have hc0 := hbox0.below hb2 (by simp; omega)
  have hc1 := hbox1.below hb2 (by simp)
  have z1 := hc0.cellx 1 (v := .int .i64 kd) rfl
  have z2 := hc0.cellx 2 (v := .int .i64 u) rfl
  have y0 := hc1.cellx 0 (v := .int .i64 m) rfl
  have y1 := hc1.cellx 1 (v := .int .i64 n) rfl
  clear hb2 hbel hbox0 hbox1 hc0 hc1
  cases b1 with
  | false =>
    go_wp2
    go_ret
    exact ⟨ret_bool (by rw [HF.out]; rfl), HBEL.out⟩
  | true =>
    by_cases hk : kd = 1
    · have hkd : (kd == 1) = true := by simp [hk]
      have HFK : Hid (q = (b2 && decide (n = 0))) := Lib.hid (by rw [HF.out, if_pos hk]; simp)
      clear hk
      go_wp2_with fail
      refine (HM.out _).mono ?_
      rintro e w3 ⟨rfl, hw3⟩
      obtain rfl := hw3.symm
      cases b2 with
      | false =>
        go_wp2
        go_ret
        exact ⟨ret_bool (by rw [HFK.out]; rfl), HBEL.out⟩
      | true =>
        go_wp2
        go_ret
        exact ⟨ret_bool (by rw [HFK.out]; by_cases hn : n = 0 <;> simp [hn]), HBEL.out⟩
    · have hkd : (kd == 1) = false := by simp [hk]
      have HFK : Hid (q = (decide (m = 0) && decide (1 ≤ n) && decide (n ≤ u))) := Lib.hid (by rw [HF.out, if_neg hk]; simp)
      clear hk
      go_wp2
      all_goals go_ret
      all_goals refine ⟨ret_bool ?_, HBEL.out⟩
      all_goals rw [HFK.out]
      all_goals clear HFK HBEL HF HM HS z1 z2 y0 y1
      all_goals (first | rfl | (simp_all; done) | (simp_all; omega) | (rw [Bool.eq_iff_iff]; simp_all; done) | (rw [Bool.eq_iff_iff]; simp_all; omega))
set_option maxHeartbeats 1600000 in
theorem rFits_any (r : Rs) (m n : Int) (w : World) : Calls Tryd.prog 43 #[r.val, .agg #[.int .i64 m, .int .i64 n]] w (Ret w (.bool (fitsB r m n))) := by
  have HS := Lib.hid (fun W => rShaped_any r W)
  have HM := Lib.hid (fun W => rmodeValid_any m W)
  obtain ⟨b1, hb1⟩ : ∃ b, shapedB r = b := ⟨_, rfl⟩
  obtain ⟨b2, hb2⟩ : ∃ b, (decide (1 ≤ m) && decide (m ≤ 5)) = b := ⟨_, rfl⟩
  rw [hb1] at HS
  rw [hb2] at HM
  have HF : Hid (fitsB r m n = (b1 && (if r.kind = 1 then b2 && decide (n = 0) else decide (m = 0) && decide (1 ≤ n) && decide (n ≤ r.units)))) := Lib.hid (by unfold fitsB; rw [hb1, hb2])
  clear hb1 hb2
  obtain ⟨q, hq⟩ : ∃ q, fitsB r m n = q := ⟨_, rfl⟩
  rw [hq] at HF ⊢
  clear hq
  obtain ⟨nm, kd, u, h⟩ := r
  unfold Rs.val at HS ⊢
  go_enter Tryd.func43, Tryd.ntmps43
  go_wp2_with fail
  refine (HS.out _).mono ?_
  rintro e w2 ⟨rfl, hb2⟩
  have hbel : Below w.heap.size w w2 := (((Below.refl _ _).alloc (Nat.le_refl _) _).alloc (by simp) _).trans (hb2.mono (by simp; omega))
  have HBEL := Lib.hid hbel
  have hbox0 : Blk ((w.alloc (.cells #[.string nm, .int .i64 kd, .int .i64 u, .int .i64 h] 26)).alloc (.cells #[.int .i64 m, .int .i64 n] 42)) w.heap.size 26 #[.string nm, .int .i64 kd, .int .i64 u, .int .i64 h] := (Blk.new w _ _).alloc _
  have hbox1 : Blk ((w.alloc (.cells #[.string nm, .int .i64 kd, .int .i64 u, .int .i64 h] 26)).alloc (.cells #[.int .i64 m, .int .i64 n] 42)) (w.heap.size + 1) 42 #[.int .i64 m, .int .i64 n] := by
    have := Blk.new (w.alloc (.cells #[.string nm, .int .i64 kd, .int .i64 u, .int .i64 h] 26)) 42 #[.int .i64 m, .int .i64 n]
    simpa using this
  have hc0 := hbox0.below hb2 (by simp; omega)
  have hc1 := hbox1.below hb2 (by simp)
  have z1 := hc0.cellx 1 (v := .int .i64 kd) rfl
  have z2 := hc0.cellx 2 (v := .int .i64 u) rfl
  have y0 := hc1.cellx 0 (v := .int .i64 m) rfl
  have y1 := hc1.cellx 1 (v := .int .i64 n) rfl
  clear hb2 hbel hbox0 hbox1 hc0 hc1
  cases b1 with
  | false =>
    go_wp2
    go_ret
    exact ⟨ret_bool (by rw [HF.out]; rfl), HBEL.out⟩
  | true =>
    by_cases hk : kd = 1
    · have hkd : (kd == 1) = true := by simp [hk]
      have HFK : Hid (q = (b2 && decide (n = 0))) := Lib.hid (by rw [HF.out, if_pos hk]; simp)
      clear hk
      go_wp2_with fail
      refine (HM.out _).mono ?_
      rintro e w3 ⟨rfl, hw3⟩
      obtain rfl := hw3.symm
      cases b2 with
      | false =>
        go_wp2
        go_ret
        exact ⟨ret_bool (by rw [HFK.out]; rfl), HBEL.out⟩
      | true =>
        go_wp2
        go_ret
        exact ⟨ret_bool (by rw [HFK.out]; by_cases hn : n = 0 <;> simp [hn]), HBEL.out⟩
    · have hkd : (kd == 1) = false := by simp [hk]
      have HFK : Hid (q = (decide (m = 0) && decide (1 ≤ n) && decide (n ≤ u))) := Lib.hid (by rw [HF.out, if_neg hk]; simp)
      clear hk
      go_wp2
      all_goals go_ret
      all_goals refine ⟨ret_bool ?_, HBEL.out⟩
      all_goals rw [HFK.out]
      all_goals clear HFK HBEL HF HM HS z1 z2 y0 y1
      all_goals (first | rfl | (simp_all; done) | (simp_all; omega) | (rw [Bool.eq_iff_iff]; simp_all; done) | (rw [Bool.eq_iff_iff]; simp_all; omega))

open Classical in
noncomputable def resolveS (l : Ct) (n : ByteArray) (m u : Int) : Int :=
  if VCat l then (match findR l n with | none => 10 | some r => if fitsB r m u = true then 0 else 12) else 2

set_option maxHeartbeats 1600000 in
theorem Resolve_any (A : Option Addr) (B cap : Nat) (l : Ct) (n : ByteArray) (m u : Int) (w : World) (hm : l.length ≤ maxLen) (hB : B ≤ w.heap.size) (hr : RowsAt resE w (Lo B) A l) :
    Calls Tryd.prog 30 #[.slice A l.length cap, .agg #[.string n, .int .i64 m, .int .i64 u]] w (Ret w (.int .i64 (resolveS l n m u))) := by
  have HR := Lib.hid hr
  have HVC := Lib.hid (fun W (h : Below w.heap.size w W) => CatValid_any A B cap l W hm (Nat.le_trans hB h.size) (hr.below h hB (Nat.le_refl _)))
  unfold maxLen at hm
  clear hr
  go_enter Tryd.func30, Tryd.ntmps30
  go_wp2_with fail
  refine (HVC.out _ ((Below.refl _ _).alloc (Nat.le_refl _) _)).mono ?_
  rintro e w2 ⟨bv, rfl, hv, hb2⟩
  have hbox := (Blk.new w 44 #[.string n, .int .i64 m, .int .i64 u]).below hb2 (by simp)
  have hbel : Below w.heap.size w w2 := ((Below.refl _ _).alloc (Nat.le_refl _) _).trans (hb2.mono (by simp))
  have hx0 := hbox.cellx 0 (v := .string n) rfl
  have HBOX := Lib.hid hbox
  have HBEL := Lib.hid hbel
  have HV := Lib.hid hv
  clear hb2 hv hbox hbel
  cases bv with
  | false =>
    go_wp2
    go_ret
    exact ⟨ret_int (by unfold resolveS; rw [if_neg (fun h => by have := HV.out.2 h; cases this)]), HBEL.out⟩
  | true =>
    have hvc := Lib.hid (HV.out.1 rfl)
    have h8 := hvc.out.1
    go_wp2_with fail
    refine (place_any A B cap l n _ hvc.out.2.2 (by omega) (Nat.le_trans hB HBEL.out.size) (HR.out.below HBEL.out hB (Nat.le_refl _))).mono ?_
    rintro e w5 ⟨k, bf, rfl, hk, hlo, hhi, hf, hb5⟩
    have HBEL5 := Lib.hid (HBEL.out.trans (hb5.mono HBEL.out.size))
    have hbox5 := HBOX.out.below hb5 HBOX.out.lt
    have hx1 := hbox5.cellx 1 (v := .int .i64 m) rfl
    have hx2 := hbox5.cellx 2 (v := .int .i64 u) rfl
    have HF := Lib.hid hf
    have HLO := Lib.hid hlo
    have HHI := Lib.hid hhi
    clear hb5 hlo hhi hf hx0 hbox5
    cases bf with
    | false =>
      go_wp2
      go_ret
      refine ⟨ret_int ?_, HBEL5.out⟩
      have hno : findR l n = none := by
        cases hfr : findR l n with
        | none => rfl
        | some r =>
          have := HF.out.2 ((place_found hvc.out.2.2 HLO.out HHI.out).2 (by rw [hfr]; rfl))
          cases this
      unfold resolveS
      rw [if_pos hvc.out, hno]
    | true =>
      obtain ⟨hlt, he⟩ := HF.out.1 rfl
      have hfa := findR_at hvc.out.2.2 hlt he
      have hres : Hid (resolveS l n m u = if fitsB l[k] m u = true then 0 else 12) := Lib.hid (by
        unfold resolveS
        rw [if_pos hvc.out, hfa])
      have HFT : Hid (∀ W : World, Calls Tryd.prog 42 #[l[k].val, .agg #[.int .i64 m, .int .i64 u]] W fun e w' => e = .returned (.bool (fitsB l[k] m u)) ∧ Below W.heap.size W w') := Lib.hid (fun W => Fits_any l[k] m u W)
      have hr5 := HR.out.below (B'' := w5.heap.size) HBEL5.out hB (Nat.le_trans hB HBEL5.out.size)
      obtain ⟨⟨nm, kd, un, h⟩, hx⟩ : ∃ x, l[k] = x := ⟨_, rfl⟩
      obtain ⟨b, off, rfl, hbl, hc0, hc1, hc2, hc3⟩ := res_cells hr5 hlt hx
      rw [hx] at HFT hres
      unfold Rs.val at HFT
      generalize fitsB ⟨nm, kd, un, h⟩ m u = fb at *
      have g0 := Ext.cell hc0
      have g1 := Ext.cell hc1
      have g2 := Ext.cell hc2
      have g3 := Ext.cell hc3
      have g4 := Ext.cell hx1
      have g5 := Ext.cell hx2
      have hlti : (k : Int) < (l.length : Int) := by omega
      clear hx hr5 he hfa hbl
      go_wp2_with fail
      refine wp_region_grow (by kernel_rfl) (by kernel_rfl) ?_; (repeat (go_big_quiet_step ((go_at_call 42; with_reducible exact Ext.call _ (HFT.out _))))); refine wpQuiet_nil ?_; rintro w2 ⟨n2, rfl⟩; obtain ⟨w2, hb2⟩ := n2
      have HB6 := Lib.hid (HBEL5.out.trans (hb2.mono HBEL5.out.size))
      cases fb with
      | true =>
        go_wp2
        go_ret
        exact ⟨ret_int (by rw [hres.out]; rfl), HB6.out⟩
      | false =>
        go_wp2
        go_ret
        exact ⟨ret_int (by rw [hres.out]; rfl), HB6.out⟩

set_option maxHeartbeats 1600000 in
theorem rResolve_any (A : Option Addr) (B cap : Nat) (l : Ct) (n : ByteArray) (m u : Int) (w : World) (hm : l.length ≤ maxLen) (hB : B ≤ w.heap.size) (hr : RowsAt resE w (Lo B) A l) :
    Calls Tryd.prog 31 #[.slice A l.length cap, .agg #[.string n, .int .i64 m, .int .i64 u]] w (Ret w (.int .i64 (resolveS l n m u))) := by
  have HR := Lib.hid hr
  have HVC := Lib.hid (fun W (h : Below w.heap.size w W) => rCatValid_any A B cap l W hm (Nat.le_trans hB h.size) (hr.below h hB (Nat.le_refl _)))
  have HM := Lib.hid hm
  unfold maxLen at hm
  clear hr
  go_enter Tryd.func31, Tryd.ntmps31
  go_wp2_with fail
  refine (HVC.out _ ((Below.refl _ _).alloc (Nat.le_refl _) _)).mono ?_
  rintro e w2 ⟨bv, rfl, hv, hb2⟩
  have hbox := (Blk.new w 44 #[.string n, .int .i64 m, .int .i64 u]).below hb2 (by simp)
  have hbel : Below w.heap.size w w2 := ((Below.refl _ _).alloc (Nat.le_refl _) _).trans (hb2.mono (by simp))
  have hx0 := hbox.cellx 0 (v := .string n) rfl
  have HBOX := Lib.hid hbox
  have HBEL := Lib.hid hbel
  have HV := Lib.hid hv
  clear hb2 hv hbox hbel
  cases bv with
  | false =>
    go_wp2
    go_ret
    exact ⟨ret_int (by unfold resolveS; rw [if_neg (fun h => by have := HV.out.2 h; cases this)]), HBEL.out⟩
  | true =>
    have hvc := Lib.hid (HV.out.1 rfl)
    go_wp2_with fail
    refine (rFind_any A B cap l n _ HM.out (Nat.le_trans hB HBEL.out.size) (HR.out.below HBEL.out hB (Nat.le_refl _))).mono ?_
    rintro e w5 ⟨rfl, hb5⟩
    have HBEL5 := Lib.hid (HBEL.out.trans (hb5.mono HBEL.out.size))
    have hbox5 := HBOX.out.below hb5 HBOX.out.lt
    have hx1 := hbox5.cellx 1 (v := .int .i64 m) rfl
    have hx2 := hbox5.cellx 2 (v := .int .i64 u) rfl
    have hlt5 : w.heap.size < w5.heap.size := hbox5.lt
    clear hb5 hx0 hbox5
    cases hfr : findR l n with
    | none =>
      have hres : Hid (resolveS l n m u = 10) := Lib.hid (by
        unfold resolveS
        rw [if_pos hvc.out, hfr])
      clear hfr
      unfold retFind Rs.zero Rs.val
      simp only [Option.getD_none, Option.isSome_none]
      go_wp2
      go_ret
      exact ⟨ret_int (by rw [hres.out]), HBEL5.out.alloc HBEL5.out.size _⟩
    | some r =>
      have hres : Hid (resolveS l n m u = if fitsB r m u = true then 0 else 12) := Lib.hid (by
        unfold resolveS
        rw [if_pos hvc.out, hfr])
      have HFT := Lib.hid (fun W => rFits_any r m u W)
      clear hfr
      unfold retFind
      simp only [Option.getD_some, Option.isSome_some]
      obtain ⟨⟨nm, kd, un, h⟩, hx⟩ : ∃ x, r = x := ⟨_, rfl⟩
      rw [hx] at HFT hres ⊢
      unfold Rs.val at HFT ⊢
      generalize fitsB ⟨nm, kd, un, h⟩ m u = fb at *
      clear hx
      go_wp2_with fail
      refine (HFT.out _).mono ?_
      rintro e w6 ⟨rfl, hb6⟩
      have HB6 := Lib.hid ((HBEL5.out.alloc HBEL5.out.size _).trans (hb6.mono (by have := HBEL5.out.size; simp; omega)))
      clear hb6
      cases fb with
      | true =>
        go_wp2
        go_ret
        exact ⟨ret_int (by rw [hres.out]; rfl), HB6.out⟩
      | false =>
        go_wp2
        go_ret
        exact ⟨ret_int (by rw [hres.out]; rfl), HB6.out⟩
end Go.Proofs.YtfmbkkpdmpgmdaaDoor
