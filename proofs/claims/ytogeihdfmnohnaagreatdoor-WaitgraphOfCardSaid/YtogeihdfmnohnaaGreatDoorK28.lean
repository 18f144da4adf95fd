/- Part 28 of 49 of the proof of waitgraphOf_holds (no condition). -/
import Derived.Test.YtogeihdfmnohnaaGreatDoorK27
import Derived.Test.YtogeihdfmnohnaaGreatDoorK19
import Derived.Laws.ResultCell
set_option linter.unusedVariables false
set_option linter.unusedSimpArgs false
namespace Go.Proofs.YtogeihdfmnohnaaGreatDoor
open Go.RowKit
theorem sizeEx : (Tryz.prog.info? 58).map (·.size) = some 5 := by kernel_rfl
theorem sizeNd : (Tryz.prog.info? 60).map (·.size) = some 9 := by kernel_rfl
theorem size_alloc_1 (w : World) (o : Obj) : (w.alloc o).heap.size = w.heap.size + 1 := by simp
theorem exTB (d : Nat) : ElTB Tryz.prog (exE d) 56 58 64 := ElTB.mk' Tryz.underlying56 (.agg #[.int .i64 0, .string { data := #[] }, .int .i64 0, .int .i64 0, .slice none 0 0]) 5 64 (by kernel_rfl) (exE_n d).symm rfl
set_option maxHeartbeats 3200000 in
theorem cloneExpr_any : ∀ (d : Nat) (x : Ex) (A : Option Addr) (cap B : Nat) (w : World) (hx : ExF w B d A x) (hc : x.cnt ≤ 1000),
    Calls Tryz.prog 121 #[x.val A cap] w (fun e w' => ∃ A' cap', e = .returned (x.val A' cap') ∧ x.kids.length ≤ cap' ∧ cap' ≤ maxLen ∧ RowsAt (exE d) w' (New w.heap.size w') A' x.kids ∧ Below w.heap.size w w') := by
  intro d
  induction d using Nat.strongRecOn with
  | ind d ih =>
    intro x A cap B w hx hc
    obtain ⟨k, ⟨nm, ⟨m, u⟩⟩, l⟩ := x
    obtain ⟨hm, hBw, hr⟩ := hx
    rw [Ex.cnt_mk] at hc
    have hll := length_cntL l
    unfold Ex.val
    dsimp only [Ex.k, Ex.atom, Ex.kids] at hm hr ⊢
    have IH := Lib.hid ih
    have HR := Lib.hid hr
    have HCN : Hid (cntL (l.drop 0) ≤ 1000) := Lib.hid (by rw [List.drop_zero]; omega)
    clear hr ih
    go_enter Tryz.func121, Tryz.ntmps121
    go_wp2_with fail
    have HX1 : Hid (Blk ((w.alloc (.cells #[.int .i64 k, .string nm, .int .i64 m, .int .i64 u, .slice A l.length cap] 58)).alloc (.cells #[.int .i64 0, .string { data := #[] }, .int .i64 0, .int .i64 0, .slice none 0 0] 58)) w.heap.size 58 #[.int .i64 k, .string nm, .int .i64 m, .int .i64 u, .slice A l.length cap]) := Lib.hid ((Blk.new w _ _).alloc _)
    have HX2 : Hid (Blk ((w.alloc (.cells #[.int .i64 k, .string nm, .int .i64 m, .int .i64 u, .slice A l.length cap] 58)).alloc (.cells #[.int .i64 0, .string { data := #[] }, .int .i64 0, .int .i64 0, .slice none 0 0] 58)) (w.heap.size + 1) 58 #[.int .i64 0, .string { data := #[] }, .int .i64 0, .int .i64 0, .slice none 0 0]) := Lib.hid (by have := Blk.new (w.alloc (.cells #[.int .i64 k, .string nm, .int .i64 m, .int .i64 u, .slice A l.length cap] 58)) 58 #[.int .i64 0, .string { data := #[] }, .int .i64 0, .int .i64 0, .slice none 0 0]; rwa [size_alloc_1] at this)
    have HB2 : Hid (Below w.heap.size w ((w.alloc (.cells #[.int .i64 k, .string nm, .int .i64 m, .int .i64 u, .slice A l.length cap] 58)).alloc (.cells #[.int .i64 0, .string { data := #[] }, .int .i64 0, .int .i64 0, .slice none 0 0] 58))) := Lib.hid (Below.al (Below.al (Below.refl _ _) _) _)
    generalize (w.alloc (.cells #[.int .i64 k, .string nm, .int .i64 m, .int .i64 u, .slice A l.length cap] 58)).alloc (.cells #[.int .i64 0, .string { data := #[] }, .int .i64 0, .int .i64 0, .slice none 0 0] 58) = w2 at *
    have hz2 : w.heap.size + 1 < w2.heap.size := HX2.out.lt
    go_loopg [3, 9] l.length (fun m0 v3 v9 wq => ∃ kk : Nat, v9 = .int .i64 (kk : Int) ∧ kk ≤ l.length ∧ l.length ≤ kk + m0 ∧ Hid (OwnRows ((exE d).from w2.heap.size) 58 wq w2.heap.size v3 (l.take kk)) ∧ Hid (cntL (l.drop kk) ≤ 1000) ∧ Hid (Below w2.heap.size w2 wq))
    case atStart => exact ⟨0, rfl, Nat.zero_le _, by omega, Lib.hid (OwnRows.nil _ _ _ _ (Nat.le_refl _)), HCN, Lib.hid (Below.refl _ _)⟩
    case round =>
      obtain ⟨kk, rfl, hk, hkm, HO, HCK, HB⟩ := hrel
      have HBW : Hid (Below w.heap.size w wr) := Lib.hid (Below.tr HB2.out HB.out)
      have HY1 := Lib.hid (HX1.out.below HB.out HX1.out.lt)
      have HY2 := Lib.hid (HX2.out.below HB.out HX2.out.lt)
      have x0 := HY1.out.cellx 0 (v := .int .i64 k) rfl
      have x1 := HY1.out.cellx 1 (v := .string nm) rfl
      have x2 := HY1.out.cellx 2 (v := .int .i64 m) rfl
      have x3 := HY1.out.cellx 3 (v := .int .i64 u) rfl
      have x4 := HY1.out.cellx 4 (v := .slice A l.length cap) rfl
      have hzr : w.heap.size + 1 < wr.heap.size := HY2.out.lt
      by_cases hlt : kk < l.length
      · obtain ⟨⟨k1, ⟨nm1, ⟨m1, u1⟩⟩, l1⟩, hx⟩ : ∃ x, l[kk] = x := ⟨_, rfl⟩
        obtain ⟨g1', off, A1, cap1, rfl, hbl, c0, c1, c2, c3, c4, hc1, hc2, d1, rfl, hr1⟩ := ex_cells (HR.out.below (B'' := B) HBW.out hBw (Nat.le_refl _)) hlt hx
        have hbl0 : g1' < B := hbl
        have hbl2 : g1' < wr.heap.size := by omega
        have hlti : (kk : Int) < (l.length : Int) := by omega
        have HX3 : Hid (ExF wr B d1 A1 (.mk k1 ⟨nm1, ⟨m1, u1⟩⟩ l1)) := Lib.hid ⟨Nat.le_trans hc1 hc2, by omega, hr1⟩
        have HCK2 : Hid ((Ex.mk k1 ⟨nm1, ⟨m1, u1⟩⟩ l1).cnt ≤ 1000 ∧ cntL (l.drop (kk + 1)) ≤ 1000) := Lib.hid (by have h := HCK.out; rw [drop_step hlt hx, cntL_cons] at h; omega)
        have HC : Hid (∀ W, Below wr.heap.size wr W → Calls Tryz.prog 121 #[.agg #[.int .i64 k1, .string nm1, .int .i64 m1, .int .i64 u1, .slice A1 l1.length cap1]] W (fun e w' => ∃ A' cap', e = .returned (.agg #[.int .i64 k1, .string nm1, .int .i64 m1, .int .i64 u1, .slice A' l1.length cap']) ∧ l1.length ≤ cap' ∧ cap' ≤ maxLen ∧ RowsAt (exE d1) w' (New W.heap.size w') A' l1 ∧ Below W.heap.size W w')) := Lib.hid (fun W hb1 =>
          IH.out d1 (by omega) (.mk k1 ⟨nm1, ⟨m1, u1⟩⟩ l1) A1 cap1 B W (HX3.out.below hb1) HCK2.out.1)
        have HE : Hid (l.take kk ++ [.mk k1 ⟨nm1, ⟨m1, u1⟩⟩ l1] = l.take (kk + 1)) := Lib.hid (by rw [List.take_add_one, List.getElem?_eq_getElem hlt, hx]; rfl)
        have hlk : (l.take kk).length ≤ 1000 := by rw [List.length_take]; omega
        clear hx hbl hr1
        go_wp2_with fail
        refine (HC.out _ (by (repeat (first | (with_reducible exact Below.refl _ _) | (with_reducible assumption) | (with_reducible refine below_drewN ?_ _) | (with_reducible refine Below.drew ?_) | (with_reducible refine Below.al ?_ _) | (with_reducible refine Below.st ?_ (by simp; try omega)) | (with_reducible refine Below.tr ?_ (Hid.out (by assumption))) | (with_reducible exact Hid.out (by assumption)))))).mono ?_
        rintro e w3 ⟨A9, c9, rfl, hk9, hm9, hr9, hb9⟩
        have HR9 := Lib.hid hr9
        have HB3 : Hid (Below w2.heap.size w2 w3) := Lib.hid (Below.tr (Below.al HB.out _) hb9)
        have HO3 := Lib.hid ((HO.out.alloc (.cells #[.int .i64 k1, .string nm1, .int .i64 m1, .int .i64 u1, .slice A1 l1.length cap1] 58)).below hb9 (Nat.le_refl _))
        have HOB := Lib.hid (fun k hk => (HO.out.block k hk).2)
        clear hr9 hb9
        generalize l.take kk = lk at *
        go_wp2_with (at_builtin; refine pushOneB ((exTB (d1 + 1)).from w2.heap.size) rfl (.tmp 13) (.tmp 16) rfl w3 w2.heap.size u3 lk (.mk k1 ⟨nm1, ⟨m1, u1⟩⟩ l1) [.int .i64 k1, .string nm1, .int .i64 m1, .int .i64 u1, .slice A9 l1.length c9] _ rfl rfl HO3.out w3.heap.size rfl rfl ⟨A9, c9, rfl, hk9, hm9, HR9.out.mono (fun b hb => ⟨⟨hb.2, fun e => by have h1 := HOB.out b e; have h2 := hb.1; simp at h2; omega⟩, by have h2 := hb.1; have h3 := HB.out.size; simp at h2; omega⟩)⟩ (by unfold maxLen; omega) (by omega) ?_; intro v7 w7 hown7 hb7 hsp7; have HB7 : Hid (Below w2.heap.size w2 w7) := Lib.hid (HB3.out.trans hb7); have HO7 := Lib.hid hown7; clear hown7 hb7 hsp7)
        rw [HE.out] at HO7
        go_roundg (gk - 1)
        case measure => omega
        case rel => exact ⟨kk + 1, by go_num, by omega, by omega, HO7, Lib.hid HCK2.out.2, HB7⟩
      · have HE : Hid (l.take kk = l) := Lib.hid (List.take_of_length_le (by omega))
        rw [HE.out] at HO
        have hlti : ¬ (kk : Int) < (l.length : Int) := by omega
        have f0 := HY1.out.frozen 4
        have f1 := HY2.out.frozen 0
        have f2 := HY2.out.frozen 1
        have f3 := HY2.out.frozen 2
        have f4 := HY2.out.frozen 3
        have f5 := HY2.out.frozen 4
        have y0 := HY2.out.cellx 0 (v := .int .i64 0) rfl
        have y1 := HY2.out.cellx 1 (v := .string { data := #[] }) rfl
        have y2 := HY2.out.cellx 2 (v := .int .i64 0) rfl
        have y3 := HY2.out.cellx 3 (v := .int .i64 0) rfl
        have y4 := HY2.out.cellx 4 (v := .slice none 0 0) rfl
        obtain ⟨A7, c7, rfl, hr7, hl7, hm7⟩ := HO.out.from
        have HR7 := Lib.hid hr7
        clear hr7
        go_wp2_with fail
        have HF := Lib.hid ((((((HY2.out.far (p := ⟨w.heap.size, 4, none⟩) (by simp) (.slice A7 l.length c7)).set_ 0 (.int .i64 k)).set_ 1 (.string nm)).set_ 2 (.int .i64 m)).set_ 3 (.int .i64 u)).set_ 4 (.slice A7 l.length c7))
        refine bodyPost_ret_by (v := .agg #[.int .i64 k, .string nm, .int .i64 m, .int .i64 u, .slice A7 l.length c7]) ?_ rfl ⟨A7, c7, rfl, hl7, hm7, HR7.out.same (fun b hb => ?_) (fun b hb => ⟨by have h := hb.1; omega, by have h := hb.2; simpa using h⟩), ?_⟩
        · have z0 := HF.out.cellx 0 (v := .int .i64 k) rfl
          have z1 := HF.out.cellx 1 (v := .string nm) rfl
          have z2 := HF.out.cellx 2 (v := .int .i64 m) rfl
          have z3 := HF.out.cellx 3 (v := .int .i64 u) rfl
          have z4 := HF.out.cellx 4 (v := .slice A7 l.length c7) rfl
          rw [results_cell rfl]
          generalize (((((wr.setCell ⟨w.heap.size, 4, none⟩ (.slice A7 l.length c7)).setCell ⟨w.heap.size + 1, 0, none⟩ (.int .i64 k)).setCell ⟨w.heap.size + 1, 1, none⟩ (.string nm)).setCell ⟨w.heap.size + 1, 2, none⟩ (.int .i64 m)).setCell ⟨w.heap.size + 1, 3, none⟩ (.int .i64 u)).setCell ⟨w.heap.size + 1, 4, none⟩ (.slice A7 l.length c7) = WF at *
          clear x0 x1 x2 x3 x4 y0 y1 y2 y3 y4 f0 f1 f2 f3 f4 f5
          go_simp
        · have h1 := hb.1
          rw [Below.heap_setCell _ _ _ _ (by show b ≠ w.heap.size + 1; omega), Below.heap_setCell _ _ _ _ (by show b ≠ w.heap.size + 1; omega), Below.heap_setCell _ _ _ _ (by show b ≠ w.heap.size + 1; omega), Below.heap_setCell _ _ _ _ (by show b ≠ w.heap.size + 1; omega), Below.heap_setCell _ _ _ _ (by show b ≠ w.heap.size + 1; omega), Below.heap_setCell _ _ _ _ (by show b ≠ w.heap.size; omega)]
        · (repeat (first | (with_reducible exact Below.refl _ _) | (with_reducible assumption) | (with_reducible refine below_drewN ?_ _) | (with_reducible refine Below.drew ?_) | (with_reducible refine Below.al ?_ _) | (with_reducible refine Below.st ?_ (by simp; try omega)) | (with_reducible refine Below.tr ?_ (Hid.out (by assumption))) | (with_reducible exact Hid.out (by assumption))))
def Nd.val (x : Nd) (A : Option Addr) (cap : Nat) : Value := .agg #[.int .i64 x.proc.site, .int .i64 x.proc.inc, .int .i64 x.proc.num, .int .i64 x.expr.k, .string x.expr.atom.name, .int .i64 x.expr.atom.am.mode, .int .i64 x.expr.atom.am.units, .slice A x.expr.kids.length cap, .int .i64 x.gen]
set_option maxHeartbeats 3200000 in
theorem cloneNeed_any (d : Nat) (x : Nd) (A : Option Addr) (cap B : Nat) (w : World) (hx : ExF w B d A x.expr) (hc : x.expr.cnt ≤ 1000) :
    Calls Tryz.prog 84 #[x.val A cap] w (fun e w' => ∃ A' cap', e = .returned (x.val A' cap') ∧ x.expr.kids.length ≤ cap' ∧ cap' ≤ maxLen ∧ RowsAt (exE d) w' (New w.heap.size w') A' x.expr.kids ∧ Below w.heap.size w w') := by
  have HC := Lib.hid (fun W (hb : Below w.heap.size w W) => cloneExpr_any d x.expr A cap B W (hx.below hb) hc)
  clear hx
  obtain ⟨⟨a, b, c⟩, ⟨k, ⟨nm, ⟨m, u⟩⟩, l⟩, gen⟩ := x
  unfold Nd.val Ex.val at *
  dsimp only [Ex.k, Ex.atom, Ex.kids] at HC ⊢
  go_enter Tryz.func84, Tryz.ntmps84
  go_wp2_with fail
  have HX1 : Hid (Blk ((w.alloc (.cells #[.int .i64 a, .int .i64 b, .int .i64 c, .int .i64 k, .string nm, .int .i64 m, .int .i64 u, .slice A l.length cap, .int .i64 gen] 60)).alloc (.cells #[.int .i64 0, .int .i64 0, .int .i64 0, .int .i64 0, .string { data := #[] }, .int .i64 0, .int .i64 0, .slice none 0 0, .int .i64 0] 60)) w.heap.size 60 #[.int .i64 a, .int .i64 b, .int .i64 c, .int .i64 k, .string nm, .int .i64 m, .int .i64 u, .slice A l.length cap, .int .i64 gen]) := Lib.hid ((Blk.new w _ _).alloc _)
  have HX2 : Hid (Blk ((w.alloc (.cells #[.int .i64 a, .int .i64 b, .int .i64 c, .int .i64 k, .string nm, .int .i64 m, .int .i64 u, .slice A l.length cap, .int .i64 gen] 60)).alloc (.cells #[.int .i64 0, .int .i64 0, .int .i64 0, .int .i64 0, .string { data := #[] }, .int .i64 0, .int .i64 0, .slice none 0 0, .int .i64 0] 60)) (w.heap.size + 1) 60 #[.int .i64 0, .int .i64 0, .int .i64 0, .int .i64 0, .string { data := #[] }, .int .i64 0, .int .i64 0, .slice none 0 0, .int .i64 0]) := Lib.hid (by have := Blk.new (w.alloc (.cells #[.int .i64 a, .int .i64 b, .int .i64 c, .int .i64 k, .string nm, .int .i64 m, .int .i64 u, .slice A l.length cap, .int .i64 gen] 60)) 60 #[.int .i64 0, .int .i64 0, .int .i64 0, .int .i64 0, .string { data := #[] }, .int .i64 0, .int .i64 0, .slice none 0 0, .int .i64 0]; rwa [size_alloc_1] at this)
  have HB2 : Hid (Below w.heap.size w ((w.alloc (.cells #[.int .i64 a, .int .i64 b, .int .i64 c, .int .i64 k, .string nm, .int .i64 m, .int .i64 u, .slice A l.length cap, .int .i64 gen] 60)).alloc (.cells #[.int .i64 0, .int .i64 0, .int .i64 0, .int .i64 0, .string { data := #[] }, .int .i64 0, .int .i64 0, .slice none 0 0, .int .i64 0] 60))) := Lib.hid (Below.al (Below.al (Below.refl _ _) _) _)
  generalize (w.alloc (.cells #[.int .i64 a, .int .i64 b, .int .i64 c, .int .i64 k, .string nm, .int .i64 m, .int .i64 u, .slice A l.length cap, .int .i64 gen] 60)).alloc (.cells #[.int .i64 0, .int .i64 0, .int .i64 0, .int .i64 0, .string { data := #[] }, .int .i64 0, .int .i64 0, .slice none 0 0, .int .i64 0] 60) = w2 at *
  have hz2 : w.heap.size + 1 < w2.heap.size := HX2.out.lt
  refine (HC.out _ HB2.out).mono ?_
  rintro e w3 ⟨A7, c7, rfl, hl7, hm7, hr7, hb3⟩
  have HR7 := Lib.hid hr7
  have HB3 : Hid (Below w.heap.size w w3) := Lib.hid (Below.tr HB2.out hb3)
  have HY1 := Lib.hid (HX1.out.below hb3 HX1.out.lt)
  have HY2 := Lib.hid (HX2.out.below hb3 HX2.out.lt)
  have hz3 : w.heap.size + 1 < w3.heap.size := HY2.out.lt
  clear hb3 hr7
  go_wp2_with (first
    | (refine storeBox rfl 58 (.tmp 6) (.tmp 5) rfl w.heap.size 3 60 #[.int .i64 a, .int .i64 b, .int .i64 c, .int .i64 k, .string nm, .int .i64 m, .int .i64 u, .slice A l.length cap, .int .i64 gen] #[.int .i64 k, .string nm, .int .i64 m, .int .i64 u, .slice A7 l.length c7] #[.int .i64 a, .int .i64 b, .int .i64 c, .int .i64 k, .string nm, .int .i64 m, .int .i64 u, .slice A7 l.length c7, .int .i64 gen] rfl rfl HY1.out sizeEx (by simp) (by simp [Value.oneCell']) rfl ?_; intro w4 hk4 hb4; have HZ1 := Lib.hid hk4; have HZ2 := Lib.hid (show Blk w4 (w.heap.size + 1) 60 #[.int .i64 0, .int .i64 0, .int .i64 0, .int .i64 0, .string { data := #[] }, .int .i64 0, .int .i64 0, .slice none 0 0, .int .i64 0] from (hb4.block _ hz3 (by omega)).trans HY2.out); have HB4 := Lib.hid hb4; have hz4 : w.heap.size + 1 < w4.heap.size := Nat.lt_of_lt_of_le hz3 hb4.size; clear hk4 hb4)
    | (refine loadBox rfl 60 (.tmp 1) rfl w.heap.size 0 60 #[.int .i64 a, .int .i64 b, .int .i64 c, .int .i64 k, .string nm, .int .i64 m, .int .i64 u, .slice A7 l.length c7, .int .i64 gen] [.int .i64 a, .int .i64 b, .int .i64 c, .int .i64 k, .string nm, .int .i64 m, .int .i64 u, .slice A7 l.length c7, .int .i64 gen] _ rfl HZ1.out (by simp) Tryz.underlying60 rfl sizeNd ?_)
    | (refine storeBox rfl 60 (.tmp 2) (.tmp 7) rfl (w.heap.size + 1) 0 60 #[.int .i64 0, .int .i64 0, .int .i64 0, .int .i64 0, .string { data := #[] }, .int .i64 0, .int .i64 0, .slice none 0 0, .int .i64 0] #[.int .i64 a, .int .i64 b, .int .i64 c, .int .i64 k, .string nm, .int .i64 m, .int .i64 u, .slice A7 l.length c7, .int .i64 gen] #[.int .i64 a, .int .i64 b, .int .i64 c, .int .i64 k, .string nm, .int .i64 m, .int .i64 u, .slice A7 l.length c7, .int .i64 gen] rfl rfl HZ2.out sizeNd (by simp) (by simp [Value.oneCell']) rfl ?_; intro w5 hk5 hb5; have HF := Lib.hid hk5; have HB5 := Lib.hid hb5; clear hk5 hb5))
  refine bodyPost_ret_by (v := .agg #[.int .i64 a, .int .i64 b, .int .i64 c, .int .i64 k, .string nm, .int .i64 m, .int .i64 u, .slice A7 l.length c7, .int .i64 gen]) (results_cell_row rfl _ _ (w.heap.size + 1) 60 #[.int .i64 a, .int .i64 b, .int .i64 c, .int .i64 k, .string nm, .int .i64 m, .int .i64 u, .slice A7 l.length c7, .int .i64 gen] (0, 0) _ rfl HF.out Tryz.underlying60 rfl sizeNd) rfl ⟨A7, c7, rfl, hl7, hm7, HR7.out.same (fun b hb => ?_) (fun b hb => ⟨by have h := hb.1; omega, by have h := hb.2; have h2 := HB4.out.size; have h3 := HB5.out.size; omega⟩), ?_⟩
  · have h1 := hb.1
    exact (HB5.out.block b (Nat.lt_of_lt_of_le hb.2 HB4.out.size) (by omega)).trans (HB4.out.block b hb.2 (by omega))
  · exact HB3.out.trans ((HB4.out.below (by omega) (by omega)).trans (HB5.out.below (by omega) (by have := HB4.out.size; omega)))
end Go.Proofs.YtogeihdfmnohnaaGreatDoor
namespace Go.Proofs.YtogeihdfmnohnaaGreatDoor
open Go.RowKit
def findN (p : Pr) : Nat → List Nd → Int
  | _, [] => -1
  | k, x :: l => bif decide (x.proc = p) then (k : Int) else findN p (k + 1) l
theorem findN_cons (p : Pr) (k : Nat) (x : Nd) (l : List Nd) : findN p k (x :: l) = bif decide (x.proc = p) then (k : Int) else findN p (k + 1) l := rfl
def needS : List Nd → Pr → Option Nd
  | [], _ => none
  | x :: l, p => bif decide (x.proc = p) then some x else needS l p
theorem needS_cons (x : Nd) (l : List Nd) (p : Pr) : needS (x :: l) p = bif decide (x.proc = p) then some x else needS l p := rfl
theorem findN_spec (p : Pr) : ∀ (l : List Nd) (k : Nat), (findN p k l = -1 ∧ needS l p = none) ∨ ∃ i, ∃ h : i < l.length, findN p k l = ((k + i : Nat) : Int) ∧ needS l p = some l[i]
  | [], _ => .inl ⟨rfl, rfl⟩
  | x :: l, k => by
    rw [findN_cons, needS_cons]
    by_cases h : x.proc = p
    · rw [decide_eq_true h]
      exact .inr ⟨0, by simp, rfl, rfl⟩
    · rw [decide_eq_false h]
      rcases findN_spec p l (k + 1) with ⟨h1, h2⟩ | ⟨i, hi, h1, h2⟩
      · exact .inl ⟨h1, h2⟩
      · exact .inr ⟨i + 1, by simp; omega, by rw [cond_false, h1]; congr 1; omega, by rw [cond_false, h2]; rfl⟩
theorem cmp0 (x p : Pr) : (cmpP x p == 0) = decide (x = p) := by
  rw [Bool.eq_iff_iff]
  simp [cmpP_zero]
set_option maxHeartbeats 1600000 in
theorem placeC_any (a b c k m u gen x y z : Int) (nm : ByteArray) (A : Option Addr) (n cap pb : Nat) (w : World) (hb : Blk w pb 51 #[.int .i64 x, .int .i64 y, .int .i64 z]) :
    Calls Tryz.prog 120 #[.agg #[.int .i64 a, .int .i64 b, .int .i64 c, .int .i64 k, .string nm, .int .i64 m, .int .i64 u, .slice A n cap, .int .i64 gen], .pointer (some ⟨pb, 0, none⟩)] w (Ret w (.bool (decide ((⟨a, b, c⟩ : Pr) = ⟨x, y, z⟩)))) := by
  have HC := Lib.hid (fun W => CProc_any ⟨a, b, c⟩ ⟨x, y, z⟩ W)
  have HQ := Lib.hid (cmp0 ⟨a, b, c⟩ ⟨x, y, z⟩)
  have p0 := hb.cellx 0 (v := .int .i64 x) rfl
  have p1 := hb.cellx 1 (v := .int .i64 y) rfl
  have p2 := hb.cellx 2 (v := .int .i64 z) rfl
  have pl := hb.lt
  unfold Pr.val at HC
  dsimp only at HC
  generalize cmpP ⟨a, b, c⟩ ⟨x, y, z⟩ = n2 at *
  generalize decide ((⟨a, b, c⟩ : Pr) = ⟨x, y, z⟩) = q at *
  clear hb
  go_enter Tryz.func120, Tryz.ntmps120
  go_wp2_with fail
  refine (HC.out _).mono ?_
  rintro e w2 ⟨rfl, hb2⟩
  have HB2 := Lib.hid hb2
  clear hb2
  go_wp2_with fail
  go_ret
  exact ⟨ret_bool HQ.out, by (repeat (first | (with_reducible exact Below.refl _ _) | (with_reducible assumption) | (with_reducible refine below_drewN ?_ _) | (with_reducible refine Below.drew ?_) | (with_reducible refine Below.al ?_ _) | (with_reducible refine Below.st ?_ (by simp; try omega)) | (with_reducible refine Below.tr ?_ (Hid.out (by assumption))) | (with_reducible exact Hid.out (by assumption))))⟩
set_option maxHeartbeats 1600000 in
theorem IndexNeed_any (d : Nat) (A : Option Addr) (B cap pb : Nat) (l : List Nd) (x y z : Int) (w : World) (hm : l.length ≤ maxLen) (hB : B ≤ w.heap.size) (hr : RowsAt (ndE d) w (Lo B) A l) (hb : Blk w pb 51 #[.int .i64 x, .int .i64 y, .int .i64 z]) :
    Calls Tryz.prog 119 #[.slice A l.length cap, .func (.func 120) #[] #[.pointer (some ⟨pb, 0, none⟩)]] w (Ret w (.int .i64 (findN ⟨x, y, z⟩ 0 l))) := by
  unfold maxLen at hm
  have HR := Lib.hid hr
  have HBK := Lib.hid hb
  clear hr hb
  obtain ⟨v, hv⟩ : ∃ v, findN ⟨x, y, z⟩ 0 l = v := ⟨_, rfl⟩
  rw [hv]
  have HV : Hid (findN ⟨x, y, z⟩ 0 (l.drop 0) = v) := Lib.hid hv
  clear hv
  go_enter Tryz.func119, Tryz.ntmps119
  go_wp2_with fail
  go_loopg [8] l.length (fun m0 v8 wq => ∃ k : Nat, v8 = .int .i64 (k : Int) ∧ k ≤ l.length ∧ l.length ≤ k + m0 ∧ Hid (findN ⟨x, y, z⟩ k (l.drop k) = v) ∧ Hid (Below w.heap.size w wq))
  case atStart => exact ⟨0, rfl, Nat.zero_le _, by omega, HV, Lib.hid (Below.refl _ _)⟩
  case round =>
    obtain ⟨k, rfl, hk, hkm, HI, HB⟩ := hrel
    by_cases hlt : k < l.length
    · obtain ⟨⟨⟨a, b, c⟩, ⟨kk, ⟨nm, ⟨m, u⟩⟩, ks⟩, gen⟩, hx⟩ : ∃ x, l[k] = x := ⟨_, rfl⟩
      obtain ⟨g, off, A3, c3, rfl, hbl, d0, d1, d2, d3, d4, d5, d6, d7, d8, _⟩ := nd_cells (HR.out.below (B'' := B) HB.out hB (Nat.le_refl _)) (Nat.le_trans hB HB.out.size) hlt hx
      have hbl2 : g < wr.heap.size := Nat.lt_of_lt_of_le hbl (Nat.le_trans hB HB.out.size)
      have hlti : (k : Int) < (l.length : Int) := by omega
      have HC := Lib.hid (placeC_any a b c kk m u gen x y z nm A3 ks.length c3 pb wr (HBK.out.below HB.out HBK.out.lt))
      obtain ⟨q, hq⟩ : ∃ q, decide ((⟨a, b, c⟩ : Pr) = ⟨x, y, z⟩) = q := ⟨_, rfl⟩
      have HS : Hid ((bif q then (k : Int) else findN ⟨x, y, z⟩ (k + 1) (l.drop (k + 1))) = v) := Lib.hid (by have h := HI.out; rw [drop_step hlt hx, findN_cons] at h; rw [← hq]; exact h)
      rw [hq] at HC
      clear hq hx hbl
      go_wp2_with fail
      refine HC.out.mono ?_
      rintro e w2 ⟨rfl, hb2⟩
      have HB2 := Lib.hid hb2
      clear hb2
      cases q <;> (go_wp2_with fail; first
        | (go_roundg (gk - 1); (case measure => omega); (case rel => exact ⟨k + 1, by go_num, by omega, by omega, HS, Lib.hid (by (repeat (first | (with_reducible exact Below.refl _ _) | (with_reducible assumption) | (with_reducible refine below_drewN ?_ _) | (with_reducible refine Below.drew ?_) | (with_reducible refine Below.al ?_ _) | (with_reducible refine Below.st ?_ (by simp; try omega)) | (with_reducible refine Below.tr ?_ (Hid.out (by assumption))) | (with_reducible exact Hid.out (by assumption)))))⟩))
        | (go_ret; exact ⟨ret_int (show (k : Int) = v from HS.out), by (repeat (first | (with_reducible exact Below.refl _ _) | (with_reducible assumption) | (with_reducible refine below_drewN ?_ _) | (with_reducible refine Below.drew ?_) | (with_reducible refine Below.al ?_ _) | (with_reducible refine Below.st ?_ (by simp; try omega)) | (with_reducible refine Below.tr ?_ (Hid.out (by assumption))) | (with_reducible exact Hid.out (by assumption))))⟩))
    · have HS : Hid (-1 = v) := Lib.hid (by have h := HI.out; rw [drop_end hlt] at h; exact h)
      have hlti : ¬ (k : Int) < (l.length : Int) := by omega
      go_wp2_with fail
      go_ret
      exact ⟨ret_int HS.out, by (repeat (first | (with_reducible exact Below.refl _ _) | (with_reducible assumption) | (with_reducible refine below_drewN ?_ _) | (with_reducible refine Below.drew ?_) | (with_reducible refine Below.al ?_ _) | (with_reducible refine Below.st ?_ (by simp; try omega)) | (with_reducible refine Below.tr ?_ (Hid.out (by assumption))) | (with_reducible exact Hid.out (by assumption))))⟩
set_option maxHeartbeats 1600000 in
theorem place_any (d : Nat) (A : Option Addr) (B cap : Nat) (l : List Nd) (x y z : Int) (w : World) (hm : l.length ≤ maxLen) (hB : B ≤ w.heap.size) (hr : RowsAt (ndE d) w (Lo B) A l) :
    Calls Tryz.prog 83 #[.slice A l.length cap, .agg #[.int .i64 x, .int .i64 y, .int .i64 z]] w (Ret w (.int .i64 (findN ⟨x, y, z⟩ 0 l))) := by
  have HI := Lib.hid (IndexNeed_any d A B cap w.heap.size l x y z (w.alloc (.cells #[.int .i64 x, .int .i64 y, .int .i64 z] 51)) hm (Nat.le_trans hB (by simp)) (hr.below (Below.al (Below.refl _ _) _) hB (Nat.le_refl _)) (Blk.new _ _ _))
  clear hr
  go_enter Tryz.func83, Tryz.ntmps83
  go_wp2_with fail
  refine HI.out.mono ?_
  rintro e w2 ⟨rfl, hb2⟩
  have HB2 := Lib.hid hb2
  clear hb2
  go_wp2_with fail
  go_ret
  exact ⟨rfl, by (repeat (first | (with_reducible exact Below.refl _ _) | (with_reducible assumption) | (with_reducible refine below_drewN ?_ _) | (with_reducible refine Below.drew ?_) | (with_reducible refine Below.al ?_ _) | (with_reducible refine Below.st ?_ (by simp; try omega)) | (with_reducible refine Below.tr ?_ (Hid.out (by assumption))) | (with_reducible exact Hid.out (by assumption))))⟩
def RetN' (w : World) (d : Nat) (r : Option Nd) (e : Ending) (w' : World) : Prop :=
  Below w.heap.size w w' ∧ match r with
    | none => e = .returned (.tuple #[.agg #[.int .i64 0, .int .i64 0, .int .i64 0, .int .i64 0, .string { data := #[] }, .int .i64 0, .int .i64 0, .slice none 0 0, .int .i64 0], .bool false])
    | some x => ∃ A cap, e = .returned (.tuple #[x.val A cap, .bool true]) ∧ ExF w' w'.heap.size d A x.expr
end Go.Proofs.YtogeihdfmnohnaaGreatDoor
namespace Go.Proofs.YtogeihdfmnohnaaGreatDoor
open Go.RowKit
theorem results_box_tmp {P : Program} {fn : Func} {p u : Tmp} {ty : TypeId} (h : fn.results = #[.cell p ty, .tmp u]) (tmps : Array Value) (w : World) (g : Nat) (t : TypeId) (cs : Array Value) (d : TypeDesc)
    (hp : tmps.getD p undef = .pointer (some ⟨g, 0, none⟩)) (hg : Blk w g t cs) (hu : P.underlying ty = some d) (hd : (match d with | .struct _ | .array _ _ => true | _ => false) = true) (hi : (P.info? ty).map (·.size) = some cs.size) {v : Value} (hv : tmps.getD u undef = v) :
    (results fn tmps).run P w = .ok (.tuple #[.agg cs, v]) w := by
  rw [results_cell_tmp h, hp, hv]
  simp [asAddr, run_loadVar_row w g t ty cs (0, 0) d hg hu hd hi]
end Go.Proofs.YtogeihdfmnohnaaGreatDoor
