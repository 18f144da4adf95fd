/- Proc, the program's: a process at the beginning of bytes. -/
import Derived.Test.YtebhcchdcpechaaDooriBytes
import Derived.Test.YtebhcchdcpechaaDoorbCut
import Derived.Laws.NewBlocks
import Derived.LoopN
namespace Go.Proofs.YtebhcchdcpechaaDoor
open Go.RowKit

theorem results_cell_tmp2 {fn : Func} {p u u2 : Tmp} {ty : TypeId} (h : fn.results = #[.cell p ty, .tmp u, .tmp u2]) (tmps : Array Value) (P : Program) (w : World) :
    (results fn tmps).run P w =
      ((asAddr (tmps.getD p undef)).run P w).andThen fun a w₁ => ((loadVar ty a).run P w₁).andThen fun v w₂ => .ok (.tuple #[v, tmps.getD u undef, tmps.getD u2 undef]) w₂ := by
  simp only [results, h]
  simp [Sem.run_bind, Result.andThen]

/-- What reading a process returns. -/
def procV (x : Pr × Nat × Int) : Value := .tuple #[x.1.val, .int .i64 (x.2.1 : Int), .int .i64 x.2.2]
theorem procS_e0 {l : List UInt8} {v n : Nat} {e : Int} (h : uintS l = (v, n, e)) (he : e ≠ 0) : procS l = (zeroP, 0, e) := by
  unfold procS
  simp [h, he]
theorem procS_e1 {l : List UInt8} {v n v' n' : Nat} {e' : Int} (h : uintS l = (v, n, 0)) (h' : uintS (l.drop n) = (v', n', e')) (he : e' ≠ 0) : procS l = (zeroP, 0, e') := by
  unfold procS
  simp [h, h', he]
theorem procS_e2 {l : List UInt8} {v n v' n' v'' n'' : Nat} {e'' : Int} (h : uintS l = (v, n, 0)) (h' : uintS (l.drop n) = (v', n', 0)) (h'' : uintS (l.drop (n + n')) = (v'', n'', e'')) (he : e'' ≠ 0) : procS l = (zeroP, 0, e'') := by
  unfold procS
  simp [h, h', h'', he]
theorem procS_ok {l : List UInt8} {v n v' n' v'' n'' : Nat} (h : uintS l = (v, n, 0)) (h' : uintS (l.drop n) = (v', n', 0)) (h'' : uintS (l.drop (n + n')) = (v'', n'', 0)) : procS l = prc3 v v' v'' (n + n' + n'') := by
  unfold procS
  simp [h, h', h'']
def capN (v : Nat) : Nat := min v 1073741824
theorem vpB_cap (a b c : Nat) : vpB ⟨(capN a : Int), (capN b : Int), (capN c : Int)⟩ = vpB ⟨(a : Int), (b : Int), (c : Int)⟩ := by
  rw [Bool.eq_iff_iff, vpB_iff, vpB_iff]
  simp only [capN]
  omega
theorem vpB_cap_id {a b c : Nat} (h : vpB ⟨(a : Int), (b : Int), (c : Int)⟩ = true) : capN a = a ∧ capN b = b ∧ capN c = c := by
  have := vpB_iff.1 h
  simp only [capN] at *
  omega
theorem min_cap (v : Nat) : (if (1073741824 : Int) < (v : Int) then 1073741824 else (v : Int)) = (capN v : Int) := by unfold capN; split <;> omega
theorem cap_wrap (v : Nat) : IntKind.i64.wrap (capN v : Int) = (capN v : Int) := IntWalk.i64_in _ (by unfold capN; omega)

/-- Uint at a cut of a slice. -/
theorem Uint_cut (A : Option Addr) (B cap k : Nat) (l : List UInt8) (w : World) (hk : k ≤ l.length) (hc : l.length ≤ cap) (hm : l.length ≤ 281474976710656) (hr : RowsAt byteE w (Lo B) A l) :
    Calls Tryd.prog 48 #[.slice (cutA A cap k 1) (l.length - k) (cap - k)] w (Same w (uintV (l.drop k))) := by
  have := Uint_any (cutA A cap k 1) B (cap - k) (l.drop k) w (by rw [List.length_drop]; omega) (hr.cut hk hc)
  rwa [List.length_drop] at this

set_option maxHeartbeats 6400000 in
set_option maxRecDepth 100000 in
theorem Proc_any (A : Option Addr) (cap : Nat) (l : List UInt8) (w : World) (hc : l.length ≤ cap) (hcm : cap ≤ maxLen) (hm : l.length ≤ 281474976710656) (hr : RowsAt byteE w (Lo w.heap.size) A l) :
    Calls Tryd.prog 31 #[.slice A l.length cap] w (Ret w (procV (procS l))) := by
  have HR := Lib.hid hr
  have HC := Lib.hid hc
  have HM := Lib.hid hm
  obtain ⟨u0, n0, e0, hu0⟩ : ∃ a b c, uintS l = (a, b, c) := ⟨_, _, _, rfl⟩
  have b0 := uintS_bounds l
  rw [hu0] at b0
  dsimp only at b0
  have HU0 := Lib.hid hu0
  have HB0 := Lib.hid b0
  have HE0 := Lib.hid (fun he => procS_e0 hu0 he)
  have HX0 : Hid (∀ W, Below w.heap.size w W → Calls Tryd.prog 48 #[.slice A l.length cap] W (Same W (.tuple #[.int .u64 (u0 : Int), .int .i64 (n0 : Int), .int .i64 e0]))) := Lib.hid (fun W hb => by
    have := Uint_any A w.heap.size cap l W hm (hr.below hb (Nat.le_refl _) (Nat.le_refl _))
    rw [uintV_of hu0] at this
    exact this)
  obtain ⟨res, hres⟩ : ∃ res, procV (procS l) = res := ⟨_, rfl⟩
  rw [hres]
  have HRES := Lib.hid hres
  clear hr hc hm hu0 b0 hres
  unfold maxLen at hcm
  go_enter Tryd.func31, Tryd.ntmps31
  go_wp2_with fail
  refine wp_loop_rounds 4 ?_
  rw [rounds_succ]
  go_wp2_with fail
  refine (HX0.out _ (by ((repeat (first | (with_reducible exact Below.refl _ _) | (with_reducible assumption) | (with_reducible refine below_drewN ?_ _) | (with_reducible refine Below.drew ?_) | (with_reducible refine Below.al ?_ _) | (with_reducible refine Below.st ?_ (by simp; try omega)) | (with_reducible refine Below.tr ?_ (by assumption))))))).mono ?_
  rintro e w1 ⟨rfl, hw⟩
  rw [hw]
  clear hw
  have hE0 := HB0.out.2.2
  by_cases he0 : e0 = 0
  · obtain rfl := he0.symm
    obtain ⟨hp0, hl0, ht0⟩ := HB0.out.2.1 rfl
    have c0 := min_cap u0
    have d0 := cap_wrap u0
    obtain ⟨m0, hm0⟩ : ∃ m, capN u0 = m := ⟨_, rfl⟩
    rw [hm0] at c0 d0
    obtain ⟨u1, n1, e1, hu1⟩ : ∃ a b c, uintS (l.drop n0) = (a, b, c) := ⟨_, _, _, rfl⟩
    have b1 := uintS_bounds (l.drop n0)
    rw [hu1, List.length_drop] at b1
    dsimp only at b1
    have HU1 := Lib.hid hu1
    have HB1 := Lib.hid b1
    have HE1 := Lib.hid (fun he => procS_e1 HU0.out hu1 he)
    have HM0 := Lib.hid hm0
    have HX1 : Hid (∀ W, Below w.heap.size w W → Calls Tryd.prog 48 #[.slice (cutA A cap n0 1) (l.length - n0) (cap - n0)] W (Same W (.tuple #[.int .u64 (u1 : Int), .int .i64 (n1 : Int), .int .i64 e1]))) := Lib.hid (fun W hb => by
      have := Uint_cut A w.heap.size cap n0 l W hl0 HC.out HM.out (HR.out.below hb (Nat.le_refl _) (Nat.le_refl _))
      rw [uintV_of hu1] at this
      exact this)
    have hcut1 := (cuts Tryd.underlying45 (z := .int .u8 0) (sz := 1) (by_ := 1) (by kernel_rfl) A l.length cap n0 hl0 HC.out).2
    clear hu1 b1 hm0 hE0 HX0
    go_wp2_with fail
    rw [rounds_succ]
    go_wp2_with fail
    refine (HX1.out _ (by ((repeat (first | (with_reducible exact Below.refl _ _) | (with_reducible assumption) | (with_reducible refine below_drewN ?_ _) | (with_reducible refine Below.drew ?_) | (with_reducible refine Below.al ?_ _) | (with_reducible refine Below.st ?_ (by simp; try omega)) | (with_reducible refine Below.tr ?_ (by assumption))))))).mono ?_
    rintro e w1 ⟨rfl, hw⟩
    rw [hw]
    clear hw hcut1 c0 d0
    have hE1 := HB1.out.2.2
    by_cases he1 : e1 = 0
    · obtain rfl := he1.symm
      obtain ⟨hp1, hl1, ht1⟩ := HB1.out.2.1 rfl
      have c1 := min_cap u1
      have d1 := cap_wrap u1
      obtain ⟨m1, hm1⟩ : ∃ m, capN u1 = m := ⟨_, rfl⟩
      rw [hm1] at c1 d1
      have hl01 : n0 + n1 ≤ l.length := by omega
      obtain ⟨u2, n2, e2, hu2⟩ : ∃ a b c, uintS (l.drop (n0 + n1)) = (a, b, c) := ⟨_, _, _, rfl⟩
      have b2 := uintS_bounds (l.drop (n0 + n1))
      rw [hu2, List.length_drop] at b2
      dsimp only at b2
      have HU2 := Lib.hid hu2
      have HB2 := Lib.hid b2
      have HE2 := Lib.hid (fun he => procS_e2 HU0.out HU1.out hu2 he)
      have HM1 := Lib.hid hm1
      have HX2 : Hid (∀ W, Below w.heap.size w W → Calls Tryd.prog 48 #[.slice (cutA A cap (n0 + n1) 1) (l.length - (n0 + n1)) (cap - (n0 + n1))] W (Same W (.tuple #[.int .u64 (u2 : Int), .int .i64 (n2 : Int), .int .i64 e2]))) := Lib.hid (fun W hb => by
        have := Uint_cut A w.heap.size cap (n0 + n1) l W hl01 HC.out HM.out (HR.out.below hb (Nat.le_refl _) (Nat.le_refl _))
        rw [uintV_of hu2] at this
        exact this)
      have hcut2 := (cuts Tryd.underlying45 (z := .int .u8 0) (sz := 1) (by_ := 1) (by kernel_rfl) A l.length cap (n0 + n1) hl01 HC.out).2
      rw [Int.natCast_add] at hcut2
      clear hu2 b2 hm1 hE1 HX1
      go_wp2_with fail
      rw [rounds_succ]
      go_wp2_with fail
      refine (HX2.out _ (by ((repeat (first | (with_reducible exact Below.refl _ _) | (with_reducible assumption) | (with_reducible refine below_drewN ?_ _) | (with_reducible refine Below.drew ?_) | (with_reducible refine Below.al ?_ _) | (with_reducible refine Below.st ?_ (by simp; try omega)) | (with_reducible refine Below.tr ?_ (by assumption))))))).mono ?_
      rintro e w1 ⟨rfl, hw⟩
      rw [hw]
      clear hw hcut2 c1 d1
      have hE2 := HB2.out.2.2
      by_cases he2 : e2 = 0
      · obtain rfl := he2.symm
        obtain ⟨hp2, hl2, ht2⟩ := HB2.out.2.1 rfl
        have c2 := min_cap u2
        have d2 := cap_wrap u2
        obtain ⟨m2, hm2⟩ : ∃ m, capN u2 = m := ⟨_, rfl⟩
        rw [hm2] at c2 d2
        have HM2 := Lib.hid hm2
        clear hm2 hE2 HX2
        go_wp2_with fail
        rw [rounds_succ]
        go_wp2_with fail
        refine (VProc_any ⟨m0, m1, m2⟩ _).mono ?_
        rintro e w4 ⟨rfl, hb4⟩
        obtain ⟨hc_w4, hf_w4⟩ := bcell hb4
        have hs_w4 := hb4.size
        (try simp at hs_w4)
        have hz_w4_0 : w.heap.size < w4.heap.size := by omega
        have hz_w4_1 : w.heap.size + 1 < w4.heap.size := by omega
        have hz_w4_2 : w.heap.size + 1 + 1 < w4.heap.size := by omega
        clear hs_w4
        have hr0 := procS_ok HU0.out HU1.out HU2.out
        unfold prc3 at hr0
        rw [← vpB_cap, HM0.out, HM1.out, HM2.out] at hr0
        have HB4 : Hid (Below w.heap.size w w4) := Lib.hid (Below.tr (Below.al (Below.al (Below.al (Below.refl _ _) _) _) _) hb4)
        have PB0 : Blk w4 w.heap.size 23 #[.int .i64 0, .int .i64 0, .int .i64 0] := (((Blk.new w 23 _).alloc _).alloc _).below hb4 (by simp; omega)
        have z0 := PB0.cellx 0 (v := .int .i64 0) rfl
        have z1 := PB0.cellx 1 (v := .int .i64 0) rfl
        have z2 := PB0.cellx 2 (v := .int .i64 0) rfl
        have fz0 := PB0.frozen 0
        have fz1 := PB0.frozen 1
        have fz2 := PB0.frozen 2
        clear hb4 PB0
        cases hvp : vpB ⟨(m0 : Int), (m1 : Int), (m2 : Int)⟩ with
        | false =>
          rw [hvp, if_neg (by simp)] at hr0
          rw [hr0] at HRES
          clear hvp hr0
          go_wp2_with fail
          (try simp only [Exit.inBlock, Exit.then])
          have hv := HRES.out
          have HB := HB4.out
          refine bodyPost_ret_by (v := res) ?_ rfl ⟨rfl, by ((repeat (first | (with_reducible exact Below.refl _ _) | (with_reducible assumption) | (with_reducible refine below_drewN ?_ _) | (with_reducible refine Below.drew ?_) | (with_reducible refine Below.al ?_ _) | (with_reducible refine Below.st ?_ (by simp; try omega)) | (with_reducible refine Below.tr ?_ (by assumption)))))⟩
          rw [results_cell_tmp2 rfl, ← hv]
          unfold procV zeroP Pr.val
          go_simp
        | true =>
          rw [hvp, if_pos rfl] at hr0
          have hid : capN u0 = u0 ∧ capN u1 = u1 ∧ capN u2 = u2 := vpB_cap_id (by rw [← vpB_cap, HM0.out, HM1.out, HM2.out]; exact hvp)
          rw [HM0.out, HM1.out, HM2.out] at hid
          rw [← hid.1, ← hid.2.1, ← hid.2.2] at hr0
          rw [hr0] at HRES
          have HN : Hid (((n0 + n1 + n2 : Nat) : Int) = (n0 : Int) + (n1 : Int) + (n2 : Int)) := Lib.hid (by omega)
          clear hvp hr0 hid
          go_wp2_with fail
          (try simp only [Exit.inBlock, Exit.then])
          have hv := HRES.out
          have HB := HB4.out
          refine bodyPost_ret_by (v := res) ?_ rfl ⟨rfl, by ((repeat (first | (with_reducible exact Below.refl _ _) | (with_reducible assumption) | (with_reducible refine below_drewN ?_ _) | (with_reducible refine Below.drew ?_) | (with_reducible refine Below.al ?_ _) | (with_reducible refine Below.st ?_ (by simp; try omega)) | (with_reducible refine Below.tr ?_ (by assumption)))))⟩
          rw [results_cell_tmp2 rfl, ← hv]
          unfold procV Pr.val
          rw [HN.out]
          go_simp
      · have hb2 : ((e2 : Int) == 0) = false := beq_eq_false_iff_ne.2 he2
        clear hE2
        have hr0 := HE2.out he2
        rw [hr0] at HRES
        go_wp2_with fail
        (try simp only [Exit.inBlock, Exit.then])
        have hv := HRES.out
        refine bodyPost_ret_by (v := res) ?_ rfl ⟨rfl, by ((repeat (first | (with_reducible exact Below.refl _ _) | (with_reducible assumption) | (with_reducible refine below_drewN ?_ _) | (with_reducible refine Below.drew ?_) | (with_reducible refine Below.al ?_ _) | (with_reducible refine Below.st ?_ (by simp; try omega)) | (with_reducible refine Below.tr ?_ (by assumption)))))⟩
        rw [results_cell_tmp2 rfl, ← hv]
        unfold procV zeroP Pr.val
        go_simp
    · have hb1 : ((e1 : Int) == 0) = false := beq_eq_false_iff_ne.2 he1
      clear hE1
      have hr0 := HE1.out he1
      rw [hr0] at HRES
      go_wp2_with fail
      (try simp only [Exit.inBlock, Exit.then])
      have hv := HRES.out
      refine bodyPost_ret_by (v := res) ?_ rfl ⟨rfl, by ((repeat (first | (with_reducible exact Below.refl _ _) | (with_reducible assumption) | (with_reducible refine below_drewN ?_ _) | (with_reducible refine Below.drew ?_) | (with_reducible refine Below.al ?_ _) | (with_reducible refine Below.st ?_ (by simp; try omega)) | (with_reducible refine Below.tr ?_ (by assumption)))))⟩
      rw [results_cell_tmp2 rfl, ← hv]
      unfold procV zeroP Pr.val
      go_simp
  · have hb0 : ((e0 : Int) == 0) = false := beq_eq_false_iff_ne.2 he0
    clear hE0
    have hr0 := HE0.out he0
    rw [hr0] at HRES
    go_wp2_with fail
    (try simp only [Exit.inBlock, Exit.then])
    have hv := HRES.out
    refine bodyPost_ret_by (v := res) ?_ rfl ⟨rfl, by ((repeat (first | (with_reducible exact Below.refl _ _) | (with_reducible assumption) | (with_reducible refine below_drewN ?_ _) | (with_reducible refine Below.drew ?_) | (with_reducible refine Below.al ?_ _) | (with_reducible refine Below.st ?_ (by simp; try omega)) | (with_reducible refine Below.tr ?_ (by assumption)))))⟩
    rw [results_cell_tmp2 rfl, ← hv]
    unfold procV zeroP Pr.val
    go_simp
end Go.Proofs.YtebhcchdcpechaaDoor
