/- The document's Merge. -/
import Derived.Test.YtebhcchdcpechaaDooriMerge
namespace Go.Proofs.YtebhcchdcpechaaDoor
open Go.RowKit

set_option maxRecDepth 100000 in
set_option maxHeartbeats 1600000 in
theorem rMerge_any (s t : St) (w : World) : Calls Tryd.prog 30 #[s.val, t.val] w (Ret w (mergeV s t)) := by
  have H1 := Lib.hid (fun w => rVStamp_any s w)
  have H2 := Lib.hid (fun w => rVStamp_any t w)
  obtain ⟨b1, hb1⟩ : ∃ b, vsB s = b := ⟨_, rfl⟩
  obtain ⟨b2, hb2⟩ : ∃ b, vsB t = b := ⟨_, rfl⟩
  rw [hb1] at H1
  rw [hb2] at H2
  have e1 := Lib.hid hb1
  have e2 := Lib.hid hb2
  obtain ⟨a, b⟩ := s
  obtain ⟨x, y⟩ := t
  have bad := Lib.hid (fun h => mergeV_bad (s := ⟨a, b⟩) (t := ⟨x, y⟩) h)
  have mx := Lib.hid (fun h h2 => mergeV_max (s := ⟨a, b⟩) (t := ⟨x, y⟩) h h2)
  have ok := Lib.hid (fun h h2 => mergeV_ok (s := ⟨a, b⟩) (t := ⟨x, y⟩) h h2)
  obtain ⟨v, hv⟩ : ∃ v, mergeV ⟨a, b⟩ ⟨x, y⟩ = v := ⟨_, rfl⟩
  rw [hv] at bad mx ok ⊢
  clear hv hb1 hb2
  unfold St.val at H1 H2 ⊢
  go_enter Tryd.func30, Tryd.ntmps30
  go_wp2_with fail
  refine (H1.out _).mono ?_
  rintro e w1 ⟨rfl, hb1⟩
  have B1 := (Box3.made w a b x y _ _ _).next hb1
  have HB1 := Lib.hid B1
  obtain ⟨hB, hz, c00, c01, c10, c11, c20, c21, f20, f21⟩ := B1
  have HB := Lib.hid hB
  clear hb1 hB
  cases b1 with
  | false =>
    go_wp2
    (try simp only [Exit.inBlock, Exit.then])
    have hv := bad.out (by rw [e1.out]; rfl)
    refine bodyPost_ret_by (v := v) ?_ rfl ⟨rfl, (HB.out.setCell (by simp; omega) _).setCell (by simp; omega) _⟩
    rw [results_cell_tmp rfl, hv]
    go_simp
  | true =>
    go_wp2_with fail
    refine (H2.out _).mono ?_
    rintro e w2 ⟨rfl, hb2⟩
    clear HB hz c00 c01 c10 c11 c20 c21 f20 f21
    have B2 := HB1.out.next hb2
    obtain ⟨hB, hz, c00, c01, c10, c11, c20, c21, f20, f21⟩ := B2
    have HB := Lib.hid hB
    clear hb2 hB
    cases b2 with
    | false =>
      go_wp2
      (try simp only [Exit.inBlock, Exit.then])
      have hv := bad.out (by rw [e1.out, e2.out]; rfl)
      refine bodyPost_ret_by (v := v) ?_ rfl ⟨rfl, (HB.out.setCell (by simp; omega) _).setCell (by simp; omega) _⟩
      rw [results_cell_tmp rfl, hv]
      go_simp
    | true =>
      go_wp2_with fail
      all_goals (try simp only [Exit.inBlock, Exit.then])
      all_goals rename_i h1 h2
      all_goals have q1 := vsB_iff.1 e1.out
      all_goals have q2 := vsB_iff.1 e2.out
      all_goals dsimp only at q1 q2
      all_goals first | (have hm : max a x = x := by omega) | (have hm : max a x = a := by omega)
      all_goals first | (replace h2 := beq_iff_eq.1 h2) | (replace h2 := beq_eq_false_iff_ne.1 h2)
      all_goals first
        | (have hv := mx.out (by rw [e1.out, e2.out]; rfl) (by omega)
           refine bodyPost_ret_by (v := v) ?_ rfl ⟨rfl, (HB.out.setCell (by simp; omega) _).setCell (by simp; omega) _⟩
           rw [results_cell_tmp rfl, hv]
           go_simp
           done)
        | (have hv := ok.out (by rw [e1.out, e2.out]; rfl) (by omega)
           rw [hm] at hv
           refine bodyPost_ret_by (v := v) ?_ rfl ⟨rfl, (HB.out.setCell (by simp; omega) _).setCell (by simp; omega) _⟩
           rw [results_cell_tmp rfl, hv]
           go_simp
           unfold wrap64
           omega)
end Go.Proofs.YtebhcchdcpechaaDoor
