/- ParseProc, the document's. -/
import Derived.Test.YtebhcchdcpechaaDoorirSplit
import Derived.Test.YtebhcchdcpechaaDooriParse
namespace Go.Proofs.YtebhcchdcpechaaDoor
open Go.RowKit

theorem numV_parts (l : List UInt8) : ∃ (a : Int) (o : Bool), numV (numS l) = .tuple #[.int .i64 a, .bool o] ∧ numS l = (if o = true then some a else none) := by
  rcases h : numS l with _ | a
  · exact ⟨0, false, rfl, rfl⟩
  · exact ⟨a, true, rfl, rfl⟩
theorem refP_not3 {W : List (List UInt8)} (h : W.length ≠ 3) : refP W = none := by
  unfold refP
  split
  · exact absurd rfl h
  · rfl

set_option maxHeartbeats 3200000 in
set_option maxRecDepth 100000 in
theorem rPProc_any (s : ByteArray) (w : World) : Calls Tryd.prog 23 #[.string s] w (Ret w (parseV (parseS s.data.toList))) := by
  obtain ⟨v, hv⟩ : ∃ v, parseV (parseS s.data.toList) = v := ⟨_, rfl⟩
  rw [hv]
  have HV := Lib.hid hv
  clear hv
  by_cases hs : 20 < s.size
  · have HQ : Hid (parseS s.data.toList = none) := Lib.hid (parseS_long (by simpa using hs))
    go_enter Tryd.func23, Tryd.ntmps23
    go_wp2_with fail
    (try simp only [Exit.inBlock, Exit.then])
    have hv := HV.out
    rw [HQ.out] at hv
    refine bodyPost_ret_by (v := v) ?_ rfl ⟨rfl, ?_⟩
    · rw [results_cell_tmp rfl, ← hv]
      unfold parseV
      go_simp
    · ((repeat (first | (with_reducible exact Below.refl _ _) | (with_reducible assumption) | (with_reducible refine below_drewN ?_ _) | (with_reducible refine Below.drew ?_) | (with_reducible refine Below.al ?_ _) | (with_reducible refine Below.st ?_ (by simp; try omega)) | (with_reducible refine Below.tr ?_ (by assumption)))))
  · have hP := refP_eq s.data.toList
    have HP := Lib.hid hP
    clear hP
    have hs20 : s.size ≤ 20 := by omega
    go_enter Tryd.func23, Tryd.ntmps23
    go_wp2_with fail
    refine (rSplit_any s hs20 _).mono ?_
    rintro e w1 ⟨v1, L, rfl, hown, hL, hz, hlen, hb⟩
    have PB1 : Hid (Blk w1 w.heap.size 23 #[.int .i64 0, .int .i64 0, .int .i64 0]) := Lib.hid ((Blk.new w 23 _).below hb (by simp))
    have HB1 : Hid (Below w.heap.size w w1) := Lib.hid (Below.tr (Below.al (Below.refl _ _) _) hb)
    have HOWN := Lib.hid hown
    rw [← hL] at HP
    have hZ := PB1.out.lt
    clear hown hL hb hz hlen
    by_cases h3 : L.length = 3
    · obtain ⟨x, y, z, rfl⟩ : ∃ x y z, L = [x, y, z] := by
        match L, h3 with
        | [a, b, c], _ => exact ⟨a, b, c, rfl⟩
      clear h3
      obtain ⟨g, cap, rfl, hg0, hg1, hcap, hcm, hfz, hrow⟩ := HOWN.out.addr (by simp)
      have cl : ∀ i (hi : i < 3), w1.cell? ⟨g, i, none⟩ = some (.string ([x, y, z][i]'hi)) := by
        intro i hi
        obtain ⟨b', off, hA, _, hcell⟩ := str_cell hrow (show i < [x, y, z].length from hi) rfl
        injection hA with hA
        injection hA with e1 e2
        subst e1
        subst e2
        rw [Nat.zero_add] at hcell
        exact hcell
      have c0 : w1.cell? ⟨g, 0, none⟩ = some (.string x) := cl 0 (by decide)
      have c1 : w1.cell? ⟨g, 1, none⟩ = some (.string y) := cl 1 (by decide)
      have c2 : w1.cell? ⟨g, 2, none⟩ = some (.string z) := cl 2 (by decide)
      clear cl hrow hcap hcm hfz
      have N1 := Lib.hid (fun W => Number_any x W)
      have N2 := Lib.hid (fun W => Number_any y W)
      have N3 := Lib.hid (fun W => Number_any z W)
      obtain ⟨a, o1, n1, r1⟩ := numV_parts x.data.toList
      obtain ⟨b, o2, n2, r2⟩ := numV_parts y.data.toList
      obtain ⟨c, o3, n3, r3⟩ := numV_parts z.data.toList
      rw [n1] at N1
      rw [n2] at N2
      rw [n3] at N3
      have R1 := Lib.hid r1
      have R2 := Lib.hid r2
      have R3 := Lib.hid r3
      clear n1 n2 n3 r1 r2 r3
      go_wp2_with fail
      refine (N1.out _).mono ?_
      rintro e w' ⟨rfl, hw⟩
      obtain rfl := hw.symm
      go_wp2_with fail
      refine (N2.out _).mono ?_
      rintro e w' ⟨rfl, hw⟩
      obtain rfl := hw.symm
      go_wp2_with fail
      refine (N3.out _).mono ?_
      rintro e w' ⟨rfl, hw⟩
      obtain rfl := hw.symm
      obtain ⟨z0, z1, z2⟩ : w1.cell? ⟨w.heap.size, 0, none⟩ = some (.int .i64 0) ∧ w1.cell? ⟨w.heap.size, 1, none⟩ = some (.int .i64 0) ∧ w1.cell? ⟨w.heap.size, 2, none⟩ = some (.int .i64 0) := ⟨PB1.out.cellx 0 rfl, PB1.out.cellx 1 rfl, PB1.out.cellx 2 rfl⟩
      obtain ⟨fz0, fz1, fz2⟩ : w1.frozen? ⟨w.heap.size, 0, none⟩ = false ∧ w1.frozen? ⟨w.heap.size, 1, none⟩ = false ∧ w1.frozen? ⟨w.heap.size, 2, none⟩ = false := ⟨PB1.out.frozen 0, PB1.out.frozen 1, PB1.out.frozen 2⟩
      have HR : Hid (dL [x, y, z] = [x.data.toList, y.data.toList, z.data.toList]) := Lib.hid rfl
      by_cases ho : (o1 && o2 && o3) = true
      · obtain ⟨⟨rfl, rfl⟩, rfl⟩ : (o1 = true ∧ o2 = true) ∧ o3 = true := by simpa using ho
        clear ho
        have hp : refP [x.data.toList, y.data.toList, z.data.toList] = if vpB ⟨a, b, c⟩ = true then some ⟨a, b, c⟩ else none := by
          unfold refP
          simp only [R1.out, R2.out, R3.out, if_pos]
        rw [HR.out, hp] at HP
        clear hp
        go_wp2_with fail
        refine (rVProc_any ⟨a, b, c⟩ _).mono ?_
        rintro e w2 ⟨rfl, hb2⟩
        have PB2 := Lib.hid ((PB1.out.alloc (.cells #[.int .i64 a, .int .i64 b, .int .i64 c] 23)).below hb2 (by simp; omega))
        have PC2 := Lib.hid (Blk.below (Blk.new w1 23 #[.int .i64 a, .int .i64 b, .int .i64 c]) hb2 (by simp))
        have HB2 : Hid (Below w.heap.size w w2) := Lib.hid (Below.tr (Below.al HB1.out _) hb2)
        clear hb2 z0 z1 z2 fz0 fz1 fz2
        have z0 := PB2.out.cellx 0 (v := .int .i64 0) rfl
        have z1 := PB2.out.cellx 1 (v := .int .i64 0) rfl
        have z2 := PB2.out.cellx 2 (v := .int .i64 0) rfl
        have fz0 := PB2.out.frozen 0
        have fz1 := PB2.out.frozen 1
        have fz2 := PB2.out.frozen 2
        have p0 := PC2.out.cellx 0 (v := .int .i64 a) rfl
        have p1 := PC2.out.cellx 1 (v := .int .i64 b) rfl
        have p2 := PC2.out.cellx 2 (v := .int .i64 c) rfl
        cases hvp : vpB ⟨a, b, c⟩ with
        | false =>
          have HQ : Hid (parseS s.data.toList = none) := Lib.hid (by rw [← HP.out, hvp]; rfl)
          clear hvp
          go_wp2_with fail
          (try simp only [Exit.inBlock, Exit.then])
          have hv := HV.out
          rw [HQ.out] at hv
          refine bodyPost_ret_by (v := v) ?_ rfl ⟨rfl, ?_⟩
          · rw [results_cell_tmp rfl, ← hv]
            unfold parseV
            go_simp
          · have HB := HB2.out
            ((repeat (first | (with_reducible exact Below.refl _ _) | (with_reducible assumption) | (with_reducible refine below_drewN ?_ _) | (with_reducible refine Below.drew ?_) | (with_reducible refine Below.al ?_ _) | (with_reducible refine Below.st ?_ (by simp; try omega)) | (with_reducible refine Below.tr ?_ (by assumption)))))
        | true =>
          have HQ : Hid (parseS s.data.toList = some ⟨a, b, c⟩) := Lib.hid (by rw [← HP.out, hvp]; rfl)
          clear hvp
          go_wp2_with fail
          (try simp only [Exit.inBlock, Exit.then])
          have hv := HV.out
          rw [HQ.out] at hv
          refine bodyPost_ret_by (v := v) ?_ rfl ⟨rfl, ?_⟩
          · rw [results_cell_tmp rfl, ← hv]
            unfold parseV
            go_simp
            rfl
          · have HB := HB2.out
            ((repeat (first | (with_reducible exact Below.refl _ _) | (with_reducible assumption) | (with_reducible refine below_drewN ?_ _) | (with_reducible refine Below.drew ?_) | (with_reducible refine Below.al ?_ _) | (with_reducible refine Below.st ?_ (by simp; try omega)) | (with_reducible refine Below.tr ?_ (by assumption)))))
      · have HQ : Hid (parseS s.data.toList = none) := Lib.hid (by
          rw [← HP.out, HR.out]
          unfold refP
          simp only [R1.out, R2.out, R3.out]
          cases o1 <;> cases o2 <;> cases o3 <;> first | rfl | exact absurd rfl ho)
        cases o1 <;> cases o2 <;> cases o3 <;> first | exact absurd rfl ho | skip
        all_goals
          clear ho
          go_wp2_with fail
          (try simp only [Exit.inBlock, Exit.then])
          have hv := HV.out
          rw [HQ.out] at hv
          refine bodyPost_ret_by (v := v) ?_ rfl ⟨rfl, ?_⟩
          · rw [results_cell_tmp rfl, ← hv]
            unfold parseV
            go_simp
          · have HB := HB1.out
            ((repeat (first | (with_reducible exact Below.refl _ _) | (with_reducible assumption) | (with_reducible refine below_drewN ?_ _) | (with_reducible refine Below.drew ?_) | (with_reducible refine Below.al ?_ _) | (with_reducible refine Below.st ?_ (by simp; try omega)) | (with_reducible refine Below.tr ?_ (by assumption)))))
    · have h3' : ((L.length : Int) == 3) = false := beq_eq_false_iff_ne.2 (by omega)
      have HQ : Hid (parseS s.data.toList = none) := Lib.hid (by rw [← HP.out]; exact refP_not3 (by unfold dL; simpa using h3))
      obtain ⟨A, cap, rfl, _, _, _⟩ := HOWN.out.form
      obtain ⟨z0, z1, z2⟩ : w1.cell? ⟨w.heap.size, 0, none⟩ = some (.int .i64 0) ∧ w1.cell? ⟨w.heap.size, 1, none⟩ = some (.int .i64 0) ∧ w1.cell? ⟨w.heap.size, 2, none⟩ = some (.int .i64 0) := ⟨PB1.out.cellx 0 rfl, PB1.out.cellx 1 rfl, PB1.out.cellx 2 rfl⟩
      obtain ⟨fz0, fz1, fz2⟩ : w1.frozen? ⟨w.heap.size, 0, none⟩ = false ∧ w1.frozen? ⟨w.heap.size, 1, none⟩ = false ∧ w1.frozen? ⟨w.heap.size, 2, none⟩ = false := ⟨PB1.out.frozen 0, PB1.out.frozen 1, PB1.out.frozen 2⟩
      go_wp2_with fail
      (try simp only [Exit.inBlock, Exit.then])
      have hv := HV.out
      rw [HQ.out] at hv
      refine bodyPost_ret_by (v := v) ?_ rfl ⟨rfl, ?_⟩
      · rw [results_cell_tmp rfl, ← hv]
        unfold parseV
        go_simp
      · have HB := HB1.out
        ((repeat (first | (with_reducible exact Below.refl _ _) | (with_reducible assumption) | (with_reducible refine below_drewN ?_ _) | (with_reducible refine Below.drew ?_) | (with_reducible refine Below.al ?_ _) | (with_reducible refine Below.st ?_ (by simp; try omega)) | (with_reducible refine Below.tr ?_ (by assumption)))))
end Go.Proofs.YtebhcchdcpechaaDoor
