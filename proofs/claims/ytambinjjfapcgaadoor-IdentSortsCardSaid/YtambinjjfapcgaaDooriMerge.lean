/- Merge, the program's and the document's. -/
import Derived.Test.YtambinjjfapcgaaDooriFun
import Derived.Laws.ResultCell
import Derived.Laws.NewBlocks
namespace Go.Proofs.YtambinjjfapcgaaDoor
open Go.RowKit

def mergeV (s t : St) : Value := .tuple #[(mergeS s t).1.val, .int .i64 (mergeS s t).2]
theorem mergeV_bad {s t : St} (h : (vsB s && vsB t) = false) : mergeV s t = .tuple #[.agg #[.int .i64 0, .int .i64 0], .int .i64 1] := by
  unfold mergeV mergeS
  rw [h, if_neg (by simp)]
  rfl
theorem mergeV_max {s t : St} (h : (vsB s && vsB t) = true) (h2 : 1073741824 ≤ max s.time t.time) : mergeV s t = .tuple #[.agg #[.int .i64 0, .int .i64 0], .int .i64 16] := by
  unfold mergeV mergeS
  rw [h, if_pos rfl, if_pos h2]
  rfl
theorem mergeV_ok {s t : St} (h : (vsB s && vsB t) = true) (h2 : ¬ 1073741824 ≤ max s.time t.time) : mergeV s t = .tuple #[.agg #[.int .i64 (max s.time t.time + 1), .int .i64 s.site], .int .i64 0] := by
  unfold mergeV mergeS
  rw [h, if_pos rfl, if_neg h2]
  rfl
/-- The three boxes of a call of Merge, in a later world. -/
structure Box3 (w : World) (a b x y : Int) (v : World) : Prop where
  below : Below w.heap.size w v
  size : w.heap.size + 1 + 1 + 1 ≤ v.heap.size
  c00 : v.cell? ⟨w.heap.size, 0, none⟩ = some (.int .i64 a)
  c01 : v.cell? ⟨w.heap.size, 1, none⟩ = some (.int .i64 b)
  c10 : v.cell? ⟨w.heap.size + 1, 0, none⟩ = some (.int .i64 x)
  c11 : v.cell? ⟨w.heap.size + 1, 1, none⟩ = some (.int .i64 y)
  c20 : v.cell? ⟨w.heap.size + 1 + 1, 0, none⟩ = some (.int .i64 0)
  c21 : v.cell? ⟨w.heap.size + 1 + 1, 1, none⟩ = some (.int .i64 0)
  f20 : v.frozen? ⟨w.heap.size + 1 + 1, 0, none⟩ = false
  f21 : v.frozen? ⟨w.heap.size + 1 + 1, 1, none⟩ = false
theorem Box3.next {w v v' : World} {a b x y : Int} (h : Box3 w a b x y v) (hb : Below v.heap.size v v') : Box3 w a b x y v' where
  below := h.below.trans (hb.mono (by have := h.size; omega))
  size := Nat.le_trans h.size hb.size
  c00 := (hb.cell (p := ⟨w.heap.size, 0, none⟩) (Nat.lt_of_lt_of_le (by simp; omega) h.size)).trans h.c00
  c01 := (hb.cell (p := ⟨w.heap.size, 1, none⟩) (Nat.lt_of_lt_of_le (by simp; omega) h.size)).trans h.c01
  c10 := (hb.cell (p := ⟨w.heap.size + 1, 0, none⟩) (Nat.lt_of_lt_of_le (by simp) h.size)).trans h.c10
  c11 := (hb.cell (p := ⟨w.heap.size + 1, 1, none⟩) (Nat.lt_of_lt_of_le (by simp) h.size)).trans h.c11
  c20 := (hb.cell (p := ⟨w.heap.size + 1 + 1, 0, none⟩) (Nat.lt_of_lt_of_le (by simp) h.size)).trans h.c20
  c21 := (hb.cell (p := ⟨w.heap.size + 1 + 1, 1, none⟩) (Nat.lt_of_lt_of_le (by simp) h.size)).trans h.c21
  f20 := (hb.frozen (p := ⟨w.heap.size + 1 + 1, 0, none⟩) (Nat.lt_of_lt_of_le (by simp) h.size)).trans h.f20
  f21 := (hb.frozen (p := ⟨w.heap.size + 1 + 1, 1, none⟩) (Nat.lt_of_lt_of_le (by simp) h.size)).trans h.f21
theorem Box3.made (w : World) (a b x y : Int) (t t' t'' : TypeId) : Box3 w a b x y (((w.alloc (.cells #[.int .i64 a, .int .i64 b] t)).alloc (.cells #[.int .i64 x, .int .i64 y] t')).alloc (.cells #[.int .i64 0, .int .i64 0] t'')) where
  below := (((Below.refl _ _).alloc (Nat.le_refl _) _).alloc (by simp) _).alloc (by simp; omega) _
  size := by simp
  c00 := by go_simp
  c01 := by go_simp
  c10 := by go_simp
  c11 := by go_simp
  c20 := by go_simp
  c21 := by go_simp
  f20 := by go_simp
  f21 := by go_simp

set_option maxRecDepth 100000 in
set_option maxHeartbeats 1600000 in
theorem Merge_any (s t : St) (w : World) : Calls Tryd.prog 10 #[s.val, t.val] w (Ret w (mergeV s t)) := by
  have H1 := Lib.hid (fun w => VStamp_any s w)
  have H2 := Lib.hid (fun w => VStamp_any t w)
  obtain ⟨b1, hb1⟩ : ∃ b, vsB s = b := ⟨_, rfl⟩
  obtain ⟨b2, hb2⟩ : ∃ b, vsB t = b := ⟨_, rfl⟩
  rw [hb1] at H1
  rw [hb2] at H2
  have e1 := Lib.hid hb1
  have e2 := Lib.hid hb2
  obtain ⟨a, b⟩ := s
  obtain ⟨x, y⟩ := t
  have bad := Lib.hid (fun h => mergeV_bad (s := ⟨a, b⟩) (t := ⟨x, y⟩) h)
  have mx := Lib.hid (fun h h2 => mergeV_max (s := ⟨a, b⟩) (t := ⟨x, y⟩) h h2)
  have ok := Lib.hid (fun h h2 => mergeV_ok (s := ⟨a, b⟩) (t := ⟨x, y⟩) h h2)
  obtain ⟨v, hv⟩ : ∃ v, mergeV ⟨a, b⟩ ⟨x, y⟩ = v := ⟨_, rfl⟩
  rw [hv] at bad mx ok ⊢
  clear hv hb1 hb2
  unfold St.val at H1 H2 ⊢
  go_enter Tryd.func10, Tryd.ntmps10
  go_wp2_with fail
  refine (H1.out _).mono ?_
  rintro e w1 ⟨rfl, hb1⟩
  have B1 := (Box3.made w a b x y _ _ _).next hb1
  have HB1 := Lib.hid B1
  obtain ⟨hB, hz, c00, c01, c10, c11, c20, c21, f20, f21⟩ := B1
  have HB := Lib.hid hB
  clear hb1 hB
  cases b1 with
  | false =>
    go_wp2
    (try simp only [Exit.inBlock, Exit.then])
    have hv := bad.out (by rw [e1.out]; rfl)
    refine bodyPost_ret_by (v := v) ?_ rfl ⟨rfl, (HB.out.setCell (by simp; omega) _).setCell (by simp; omega) _⟩
    rw [results_cell_tmp rfl, hv]
    go_simp
  | true =>
    go_wp2_with fail
    refine (H2.out _).mono ?_
    rintro e w2 ⟨rfl, hb2⟩
    clear HB hz c00 c01 c10 c11 c20 c21 f20 f21
    have B2 := HB1.out.next hb2
    obtain ⟨hB, hz, c00, c01, c10, c11, c20, c21, f20, f21⟩ := B2
    have HB := Lib.hid hB
    clear hb2 hB
    cases b2 with
    | false =>
      go_wp2
      (try simp only [Exit.inBlock, Exit.then])
      have hv := bad.out (by rw [e1.out, e2.out]; rfl)
      refine bodyPost_ret_by (v := v) ?_ rfl ⟨rfl, (HB.out.setCell (by simp; omega) _).setCell (by simp; omega) _⟩
      rw [results_cell_tmp rfl, hv]
      go_simp
    | true =>
      go_wp2_with fail
      all_goals (try simp only [Exit.inBlock, Exit.then])
      all_goals have hm : max a x = if a < x then x else a := by split <;> omega
      all_goals first
        | (have hv := mx.out (by rw [e1.out, e2.out]; rfl) (by rw [hm]; assumption)
           refine bodyPost_ret_by (v := v) ?_ rfl ⟨rfl, (HB.out.setCell (by simp; omega) _).setCell (by simp; omega) _⟩
           rw [results_cell_tmp rfl, hv]
           go_simp
           done)
        | (have hv := ok.out (by rw [e1.out, e2.out]; rfl) (by rw [hm]; omega)
           first | rw [if_pos h] at hm | rw [if_neg (by omega)] at hm
           rw [hm] at hv
           refine bodyPost_ret_by (v := v) ?_ rfl ⟨rfl, (HB.out.setCell (by simp; omega) _).setCell (by simp; omega) _⟩
           rw [results_cell_tmp rfl, hv]
           have q1 := vsB_iff.1 e1.out
           have q2 := vsB_iff.1 e2.out
           dsimp only at q1 q2
           go_simp
           unfold wrap64
           omega)
end Go.Proofs.YtambinjjfapcgaaDoor
