/- Part 38 of 49 of the proof of waitgraphOf_holds (no condition). -/
import Derived.Test.YtogeihdfmnohnaaGreatDoorK27
import Derived.Test.YtogeihdfmnohnaaGreatDoorK29
set_option linter.unusedVariables false
set_option linter.unusedSimpArgs false
namespace Go.Proofs.YtogeihdfmnohnaaGreatDoor
open Go.RowKit
def RetNN (w : World) (d : Nat) (r : Option Nd) (e : Ending) (w' : World) : Prop :=
  Below w.heap.size w w' ∧ match r with
    | none => e = .returned (.tuple #[.agg #[.int .i64 0, .int .i64 0, .int .i64 0, .int .i64 0, .string { data := #[] }, .int .i64 0, .int .i64 0, .slice none 0 0, .int .i64 0], .bool false])
    | some x => ∃ A cap, e = .returned (.tuple #[x.val A cap, .bool true]) ∧ x.expr.kids.length ≤ maxLen ∧ RowsAt (exE d) w' (New w.heap.size w') A x.expr.kids
set_option maxHeartbeats 3200000 in
theorem Need_new (s : Ws) (d : Nat) (A1 A2 : Option Addr) (c1 c2 B : Nat) (x y z : Int) (w : World) (hw : WF w B d A1 A2 s) (hc : ∀ x ∈ s.needs, x.expr.cnt ≤ 1000) :
    Calls Tryz.prog 47 #[s.val A1 A2 c1 c2, .agg #[.int .i64 x, .int .i64 y, .int .i64 z]] w (RetNN w d (needS s.needs ⟨x, y, z⟩)) := by
  have HP := Lib.hid (fun W (hb : Below w.heap.size w W) => place_any d A2 B c2 s.needs x y z W hw.m2 (Nat.le_trans hw.hB hb.size) (hw.r2.below hb hw.hB (Nat.le_refl _)))
  have HF := Lib.hid (findN_spec ⟨x, y, z⟩ s.needs 0)
  have HR := Lib.hid hw.r2
  have HBw := Lib.hid hw.hB
  have HC := Lib.hid hc
  have HM := hw.m2
  unfold maxLen at HM
  clear hw hc
  obtain ⟨qs, ns⟩ := s
  unfold Ws.val
  dsimp only at HP HF HR HC HM ⊢
  have HZ : Hid (Blk (((w.alloc (.cells #[.slice A1 qs.length c1, .slice A2 ns.length c2] 25)).alloc (.cells #[.int .i64 x, .int .i64 y, .int .i64 z] 51)).alloc (.cells #[.int .i64 0, .int .i64 0, .int .i64 0, .int .i64 0, .string { data := #[] }, .int .i64 0, .int .i64 0, .slice none 0 0, .int .i64 0] 60)) (w.heap.size + 1 + 1) 60 #[.int .i64 0, .int .i64 0, .int .i64 0, .int .i64 0, .string { data := #[] }, .int .i64 0, .int .i64 0, .slice none 0 0, .int .i64 0]) := Lib.hid (by
    have := Blk.new ((w.alloc (.cells #[.slice A1 qs.length c1, .slice A2 ns.length c2] 25)).alloc (.cells #[.int .i64 x, .int .i64 y, .int .i64 z] 51)) 60 #[.int .i64 0, .int .i64 0, .int .i64 0, .int .i64 0, .string { data := #[] }, .int .i64 0, .int .i64 0, .slice none 0 0, .int .i64 0]
    rwa [size_alloc_1, size_alloc_1] at this)
  have HS : Hid (Blk (((w.alloc (.cells #[.slice A1 qs.length c1, .slice A2 ns.length c2] 25)).alloc (.cells #[.int .i64 x, .int .i64 y, .int .i64 z] 51)).alloc (.cells #[.int .i64 0, .int .i64 0, .int .i64 0, .int .i64 0, .string { data := #[] }, .int .i64 0, .int .i64 0, .slice none 0 0, .int .i64 0] 60)) w.heap.size 25 #[.slice A1 qs.length c1, .slice A2 ns.length c2]) := Lib.hid (((Blk.new w _ _).alloc _).alloc _)
  have HW3 : Hid (Below w.heap.size w (((w.alloc (.cells #[.slice A1 qs.length c1, .slice A2 ns.length c2] 25)).alloc (.cells #[.int .i64 x, .int .i64 y, .int .i64 z] 51)).alloc (.cells #[.int .i64 0, .int .i64 0, .int .i64 0, .int .i64 0, .string { data := #[] }, .int .i64 0, .int .i64 0, .slice none 0 0, .int .i64 0] 60))) := Lib.hid (Below.al (Below.al (Below.al (Below.refl _ _) _) _) _)
  obtain ⟨R, hR⟩ : ∃ r, needS ns ⟨x, y, z⟩ = r := ⟨_, rfl⟩
  rw [hR] at HF ⊢
  clear hR
  go_enter Tryz.func47, Tryz.ntmps47
  go_wp2_with fail
  generalize ((w.alloc (.cells #[.slice A1 qs.length c1, .slice A2 ns.length c2] 25)).alloc (.cells #[.int .i64 x, .int .i64 y, .int .i64 z] 51)).alloc (.cells #[.int .i64 0, .int .i64 0, .int .i64 0, .int .i64 0, .string { data := #[] }, .int .i64 0, .int .i64 0, .slice none 0 0, .int .i64 0] 60) = w3 at *
  refine (HP.out _ HW3.out).mono ?_
  rintro e w4 ⟨rfl, hb4⟩
  have HB4 : Hid (Below w.heap.size w w4) := Lib.hid (Below.tr HW3.out hb4)
  have HZ4 := Lib.hid (HZ.out.below hb4 HZ.out.lt)
  have HS4 := Lib.hid (HS.out.below hb4 HS.out.lt)
  have s1 := HS4.out.cellx 1 (v := .slice A2 ns.length c2) rfl
  have hz := HZ4.out.lt
  clear hb4
  rcases HF.out with ⟨h1, h2⟩ | ⟨i, hi, h1, h2⟩
  · subst h2
    rw [h1]
    clear HF h1
    go_wp2_with (refine storeBox rfl 60 (.tmp 4) (.tmp 19) rfl (w.heap.size + 1 + 1) 0 60 #[.int .i64 0, .int .i64 0, .int .i64 0, .int .i64 0, .string { data := #[] }, .int .i64 0, .int .i64 0, .slice none 0 0, .int .i64 0] #[.int .i64 0, .int .i64 0, .int .i64 0, .int .i64 0, .string { data := #[] }, .int .i64 0, .int .i64 0, .slice none 0 0, .int .i64 0] #[.int .i64 0, .int .i64 0, .int .i64 0, .int .i64 0, .string { data := #[] }, .int .i64 0, .int .i64 0, .slice none 0 0, .int .i64 0] rfl rfl HZ4.out sizeNd (by simp) (by simp [Value.oneCell']) rfl ?_; intro w5 hk5 hb5; have HF5 := Lib.hid hk5; have HB5 := Lib.hid hb5; clear hk5 hb5)
    refine bodyPost_ret_by (v := .tuple #[.agg #[.int .i64 0, .int .i64 0, .int .i64 0, .int .i64 0, .string { data := #[] }, .int .i64 0, .int .i64 0, .slice none 0 0, .int .i64 0], .bool false]) (results_box_tmp rfl _ _ (w.heap.size + 1 + 1) 60 #[.int .i64 0, .int .i64 0, .int .i64 0, .int .i64 0, .string { data := #[] }, .int .i64 0, .int .i64 0, .slice none 0 0, .int .i64 0] _ rfl HF5.out Tryz.underlying60 rfl sizeNd rfl) rfl ⟨?_, rfl⟩
    exact HB4.out.trans (HB5.out.below (by omega) HB4.out.size)
  · rw [h1]
    have HX : Hid ((ns[i]).expr.cnt ≤ 1000) := Lib.hid (HC.out _ (List.getElem_mem hi))
    clear HF h1
    have HBR : Hid (B ≤ w4.heap.size) := Lib.hid (Nat.le_trans HBw.out HB4.out.size)
    obtain ⟨⟨⟨a, b, c⟩, ⟨k, ⟨nm, ⟨m, u⟩⟩, l⟩, gen⟩, hx⟩ : ∃ x, ns[i] = x := ⟨_, rfl⟩
    rw [hx] at HX
    obtain rfl : R = some ⟨⟨a, b, c⟩, .mk k ⟨nm, ⟨m, u⟩⟩ l, gen⟩ := by rw [h2, hx]
    clear h2
    obtain ⟨g, off, A3, c3, rfl, hbl, d0, d1, d2, d3, d4, d5, d6, d7, d8, hxf⟩ := nd_cells (HR.out.below (B'' := B) HB4.out HBw.out (Nat.le_refl _)) HBR.out hi hx
    have hbl2 : g < w4.heap.size := Nat.lt_of_lt_of_le hbl HBR.out
    have hiti : (i : Int) < (ns.length : Int) := by omega
    have HCL := Lib.hid (cloneNeed_any d ⟨⟨a, b, c⟩, .mk k ⟨nm, ⟨m, u⟩⟩ l, gen⟩ A3 c3 B w4 hxf HX.out)
    unfold Nd.val at HCL
    dsimp only [Ex.k, Ex.atom, Ex.kids] at HCL
    have hi0 : ((0 + i : Nat) : Int) = (i : Int) := by omega
    rw [hi0]
    clear hx hbl hxf
    go_wp2_with fail
    refine HCL.out.mono ?_
    rintro e w5 ⟨A7, c7, rfl, hl7, hm7, hr7, hb5⟩
    have HB5 : Hid (Below w.heap.size w w5) := Lib.hid (Below.tr HB4.out hb5)
    have HR7 := Lib.hid hr7
    have HZ5 := Lib.hid (HZ4.out.below hb5 HZ4.out.lt)
    have HSZ5 := Lib.hid hb5.size
    clear hb5 hr7
    go_wp2_with (refine storeBox rfl 60 (.tmp 4) (.tmp 18) rfl (w.heap.size + 1 + 1) 0 60 #[.int .i64 0, .int .i64 0, .int .i64 0, .int .i64 0, .string { data := #[] }, .int .i64 0, .int .i64 0, .slice none 0 0, .int .i64 0] #[.int .i64 a, .int .i64 b, .int .i64 c, .int .i64 k, .string nm, .int .i64 m, .int .i64 u, .slice A7 l.length c7, .int .i64 gen] #[.int .i64 a, .int .i64 b, .int .i64 c, .int .i64 k, .string nm, .int .i64 m, .int .i64 u, .slice A7 l.length c7, .int .i64 gen] rfl rfl HZ5.out sizeNd (by simp) (by simp [Value.oneCell']) rfl ?_; intro w6 hk6 hb6; have HF6 := Lib.hid hk6; have HB6 := Lib.hid hb6; clear hk6 hb6)
    refine bodyPost_ret_by (v := .tuple #[.agg #[.int .i64 a, .int .i64 b, .int .i64 c, .int .i64 k, .string nm, .int .i64 m, .int .i64 u, .slice A7 l.length c7, .int .i64 gen], .bool true]) (results_box_tmp rfl _ _ (w.heap.size + 1 + 1) 60 #[.int .i64 a, .int .i64 b, .int .i64 c, .int .i64 k, .string nm, .int .i64 m, .int .i64 u, .slice A7 l.length c7, .int .i64 gen] _ rfl HF6.out Tryz.underlying60 rfl sizeNd rfl) rfl ⟨?_, A7, c7, rfl, Nat.le_trans hl7 hm7, HR7.out.same (fun b hb => ?_) (fun b hb => ?_)⟩
    · exact HB5.out.trans (HB6.out.below (by omega) HB5.out.size)
    · exact HB6.out.block b hb.2 (by have h1 := hb.1; omega)
    · exact ⟨Nat.le_trans HB4.out.size hb.1, Nat.lt_of_lt_of_le hb.2 HB6.out.size⟩
end Go.Proofs.YtogeihdfmnohnaaGreatDoor
