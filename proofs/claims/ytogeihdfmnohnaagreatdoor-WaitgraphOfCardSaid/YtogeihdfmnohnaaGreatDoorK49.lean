/- Part 49 of 49 of the proof of waitgraphOf_holds (no condition). -/
import Derived.Test.YtogeihdfmnohnaaGreatDoorK46
import Derived.Test.YtogeihdfmnohnaaGreatDoorK48
import Derived.Test.YtogeihdfmnohnaaGreatDoorK47
import Derived.Test.YtogeihdfmnohnaaGreatDoorK40
import Derived.Test.YtogeihdfmnohnaaGreatDoorK42
import Derived.Test.YtogeihdfmnohnaaGreatDoorK03
import Derived.Test.YtogeihdfmnohnaaGreatDoorK04
import Derived.Test.YtogeihdfmnohnaaGreatDoorK25
set_option linter.unusedVariables false
set_option linter.unusedSimpArgs false
namespace Go.Proofs.YtogeihdfmnohnaaGreatDoor.Wg
open Go.RowKit
theorem IntBlk.drewN {w : World} {b : Nat} {l : List Int} (h : IntBlk w b l) (n : Nat) : IntBlk (w.drewN n) b l := h
theorem BoolBlk.drewN {w : World} {b : Nat} {l : List Bool} (h : BoolBlk w b l) (n : Nat) : BoolBlk (w.drewN n) b l := h
theorem IntsAt.drewN {w : World} {B : Nat} {A : Option Addr} {l : List Int} (h : IntsAt w B A l) (n : Nat) : IntsAt (w.drewN n) B A l := h
theorem Best.bound {l fs : List Int} {k : Nat} {b : Int} (h : Best l fs k b) : b = -1 ∨ (b ∈ l ∧ 0 ≤ fa fs b) := by
  rcases h with ⟨h, _⟩ | ⟨t, ht, _, rfl, h0, _⟩
  · exact .inl h
  · exact .inr ⟨List.getElem_mem _, h0⟩
set_option maxHeartbeats 3200000 in
theorem Cycle_any (A : Option Addr) (cap : Nat) (g : Gr) (i : Int) (w : World) (hf : FitsG g) (hr : GraphAt w w.heap.size A g) :
    Calls Tryz.prog 9 #[.slice A g.length cap, .int .i64 i] w (RetInts w (CycleSpec g i)) := by
  have hlen : g.length ≤ 40 := hf.1
  have HF := Lib.hid hf
  go_enter Tryz.func9, Tryz.ntmps9
  go_wp2_with fail
  refine (Valid_any A cap g w hf hr).mono ?_
  rintro e w1 ⟨r, rfl, hv, hb⟩
  have HV := Lib.hid hv
  clear hv hf
  cases r with
  | false =>
    go_wp2
    go_ret
    exact ⟨none, [], 0, rfl, NewInts.nil _ _ _, ⟨fun h => absurd (HV.out.2 h.1) (by simp), fun _ => rfl⟩, by simp, hb⟩
  | true =>
    by_cases hx : InR g.length i
    · have HX := Lib.hid hx
      obtain ⟨hx1, hx2⟩ := hx
      have hgr := hr.below hb (Nat.le_refl _) hb.size
      have hvg := Lib.hid (HV.out.1 rfl)
      go_wp2_with fail
      refine (search_any 31 g.length (preds g) i A cap _ hlen ⟨hx1, hx2⟩ preds_range (fun x _ => Nat.le_trans (idxs_length _ _) hlen) (fun _ _ => by kernel_rfl) (fun W x hW hx => prev_any A cap _ g x W HF.out hW.size (hgr.below hW (Nat.le_refl _) (Nat.le_refl _)))).mono ?_
      rintro e w2 ⟨gs, bs, c2, rfl, hblk, ⟨hbl, hbs⟩, hb2⟩
      have hbi : i < (bs.length : Int) := by rw [hbl]; exact hx2
      have hci : w2.cell? ⟨gs, i.toNat, none⟩ = some (.bool (at_ bs i)) := hblk.cell (by rw [hbl]; omega) (bs_at hbl HX.out rfl)
      have HBS := Lib.hid (hbs i HX.out)
      have hbel2 := hb.trans (hb2.mono hb.size)
      have hgr2 := hgr.below (B'' := w2.heap.size) hb2 (Nat.le_refl _) hb2.size
      clear hbl hbs hblk hr hgr
      cases hcy : at_ bs i with
      | false =>
        rw [hcy] at hci HBS
        clear hcy
        go_wp2
        go_ret
        exact ⟨none, [], 0, rfl, NewInts.nil _ _ _, ⟨fun h => (by have h9 := HBS.out.2 (reach_rev hvg.out h.2.2 h.2.1); cases h9), fun _ => rfl⟩, by simp, hbel2⟩
      | true =>
        rw [hcy] at hci HBS
        clear hcy
        have hre := rev_reach (HBS.out.1 rfl)
        obtain ⟨M, hM⟩ := d1_of_reach hre
        have HRE := Lib.hid hre
        have HM := Lib.hid hM
        have hMl := hM.le hvg.out HX.out
        clear hM hre HBS
        go_wp2_with fail
        refine (distances_any A cap g i w2 HF.out hvg.out HX.out hgr2).mono ?_
        rintro e w3 ⟨gf, fs, c3, rfl, hfb, hfs, hb3⟩
        have HFS := Lib.hid hfs
        have hgf := hfb.lt
        have hgr3 := hgr2.below (B'' := w3.heap.size) hb3 (Nat.le_refl _) hb3.size
        have hfl := Lib.hid hfs.1
        have hbel3 := hbel2.trans (hb3.mono hbel2.size)
        clear hfs hci hgr2
        go_wp2_with fail
        go_loopg [6, 7] (g.length + 2) (fun m v6 v7 wr => ∃ (t : Nat) (c : List Int) (x : Int), v7 = .int .i64 x ∧ Hid (Round g i M t c x) ∧ OwnInts wr w3.heap.size v6 c ∧ IntBlk wr gf fs ∧ Below w3.heap.size w3 wr ∧ M + 1 ≤ t + m)
        case atStart => exact ⟨0, [], i, rfl, Round.start g HX.out, OwnInts.nil _ _ (Nat.le_refl _), hfb, Below.refl _ _, by omega⟩
        case round =>
          clear hfb
          obtain ⟨t, c, x, rfl, hrd, hown, hfb, hbel, hm⟩ := hrel
          obtain ⟨G, hG⟩ : ∃ G, G = gk := ⟨_, rfl⟩
          subst hG
          obtain ⟨A6, c6, hv6, hi6, hc6, hl6⟩ := hown.form
          have hcl := hrd.out.1.1
          by_cases hstop : 0 < t ∧ x = i
          · obtain ⟨h1, h2⟩ := hstop
            have hfin := Lib.hid (hrd.out.stop h1 h2)
            have f1 : ((c.length : Int) == 0) = false := by rw [hcl]; simp; omega
            have f2 : (x != i) = false := by simp [h2]
            obtain rfl : u6 = .slice A6 c.length c6 := hv6
            have hcm : c.length ≤ 4611686018427387904 := by have := hrd.out.2.1; omega
            clear hcl h2 hrd
            go_wp2
            go_ret
            refine ⟨A6, c, c6, rfl, hown.new rfl hbel3.size, ⟨fun _ => ⟨M, HM.out, hfin.out⟩, fun h => absurd ⟨hvg.out, HX.out, HRE.out⟩ h⟩, hcm, hbel3.trans (hbel.mono hbel3.size)⟩
          · have hgo : t = 0 ∨ x ≠ i := by
              by_cases h : t = 0
              · exact .inl h
              · exact .inr fun e => hstop ⟨by omega, e⟩
            have HGO := Lib.hid hgo
            have hxr := hrd.out.2.2.1
            have HXR := Lib.hid hxr
            obtain ⟨hx3, hx4⟩ := hxr
            have hxn : x.toNat < g.length := by omega
            have htM := (hrd.out.d1 HM.out hgo).2
            have hclb : c.length ≤ 40 := by omega
            have hnode := (hgr3.below (B'' := w3.heap.size) hbel (Nat.le_refl _) (Nat.le_refl _)) x.toNat hxn
            obtain ⟨b0, off, nA, ncap, rfl, hbb, hd1, hd2, hN⟩ := hnode
            have hn40 := (HF.out.2 _ hxn).1
            have HS := Lib.hid (succs_eq (x := x) hxn)
            have HN := Lib.hid hN
            have HFIT := Lib.hid (fun y hy => hvg.out.range x HXR.out y hy)
            have f3 : ((c.length : Int) == 0) = true ∨ (((c.length : Int) == 0) = false ∧ (x != i) = true) := by
              rw [hcl]
              rcases hgo with h | h
              · exact .inl (by simp [h])
              · by_cases h0 : t = 0
                · exact .inl (by simp [h0])
                · exact .inr ⟨by simp; omega, by simp [h]⟩
            have hown2 := hown
            obtain rfl : u6 = .slice A6 c.length c6 := hv6
            clear hN hd1 hcl hi6 hgo hstop
            rcases f3 with f4 | ⟨f4, f5⟩
            all_goals
              go_wp2_with (at_builtin; refine pushInt rfl _ _ rfl _ _ _ _ _ rfl hown _ rfl rfl (by omega) ?_; intro v' w4 hown3 hb4 _; have hd5 := (hb4.cell (p := ⟨b0, off + x.toNat * 2 + 1, none⟩) hbb).trans hd2)
              go_loopg [8, 55] g[x.toNat].next.length (fun m v8 v55 wq => ∃ (k : Nat) (b : Int), v55 = .int .i64 (k : Int) ∧ v8 = .int .i64 b ∧ k ≤ g[x.toNat].next.length ∧ g[x.toNat].next.length ≤ k + m ∧ Hid (Best g[x.toNat].next fs k b) ∧ ∃ nq, wq = w4.drewN nq)
              case atStart => exact ⟨0, -1, rfl, rfl, Nat.zero_le _, by omega, .inl ⟨rfl, fun j _ h => absurd h (by omega)⟩, 0, rfl⟩
              case round =>
                obtain ⟨k, b, rfl, rfl, hk, hkm, hbest, nq0, rfl⟩ := hrel
                have hfb4 := hfb.below hb4 hgf
                have hN4 := HN.out.below (B'' := w4.heap.size) hb4 (Nat.le_refl _) (Nat.le_trans hbel.size hb4.size)
                by_cases hlt : k < g[x.toNat].next.length
                · obtain ⟨b2, off2, rfl, hb2', hc3⟩ := hN4.get hlt rfl
                  have hyr := HFIT.out g[x.toNat].next[k] (by rw [HS.out]; simp)
                  have HYR := Lib.hid hyr
                  obtain ⟨hy1, hy2⟩ := hyr
                  have hcy : w4.cell? ⟨gf, g[x.toNat].next[k].toNat, none⟩ = some (.int .i64 (fa fs g[x.toNat].next[k])) := hfb4.cell (by rw [hfl.out]; omega) (fa_get hfl.out HYR.out)
                  have hy3 : g[x.toNat].next[k] < (fs.length : Int) := by rw [hfl.out]; exact hy2
                  have hrng : ∀ y ∈ g[x.toNat].next, 0 ≤ y := fun y hy => (HFIT.out y (by rw [HS.out]; exact hy)).1
                  have HRNG := Lib.hid hrng
                  clear hrng
                  by_cases hs : fa fs g[x.toNat].next[k] < 0
                  · have e1 : decide (0 ≤ fa fs g[x.toNat].next[k]) = false := decide_eq_false (by omega)
                    have hnx := Lib.hid (hbest.out.keep hlt (.inl hs))
                    clear hs
                    go_wp2
                    go_quiet (fail)
                    go_wp2
                    go_roundg (gk - 1)
                    case measure => omega
                    case rel => exact ⟨k + 1, b, by go_num, rfl, by omega, by omega, hnx.out, nq0 + nq, by simp⟩
                  · have hs2 : 0 ≤ fa fs g[x.toNat].next[k] := by omega
                    have e1 : decide (0 ≤ fa fs g[x.toNat].next[k]) = true := decide_eq_true hs2
                    rcases hbest.out.bound with hbm | ⟨hbm, hb0⟩
                    · subst hbm
                      have hnx := Lib.hid (hbest.out.take hlt hs2 (.inl (by omega)) HRNG.out)
                      clear hs
                      go_wp2
                      go_quiet (fail)
                      go_wp2
                      go_roundg (gk - 1)
                      case measure => omega
                      case rel => exact ⟨k + 1, _, by go_num, rfl, by omega, by omega, hnx.out, nq0 + nq, by simp⟩
                    · have hbr := HFIT.out b (by rw [HS.out]; exact hbm)
                      have HBR := Lib.hid hbr
                      obtain ⟨hb1', hb2''⟩ := hbr
                      have hb3' : b < (fs.length : Int) := by rw [hfl.out]; exact hb2''
                      have e2 : decide (b < 0) = false := decide_eq_false (by omega)
                      have hcb : w4.cell? ⟨gf, b.toNat, none⟩ = some (.int .i64 (fa fs b)) := hfb4.cell (by rw [hfl.out]; omega) (fa_get hfl.out HBR.out)
                      clear hs hbm
                      by_cases hlt2 : fa fs g[x.toNat].next[k] < fa fs b
                      · have e3 : decide (fa fs g[x.toNat].next[k] < fa fs b) = true := decide_eq_true hlt2
                        have hnx := Lib.hid (hbest.out.take hlt hs2 (.inr hlt2) HRNG.out)
                        go_wp2
                        go_quiet (fail)
                        go_wp2
                        go_roundg (gk - 1)
                        case measure => omega
                        case rel => exact ⟨k + 1, _, by go_num, rfl, by omega, by omega, hnx.out, nq0 + nq, by simp⟩
                      · have e3 : decide (fa fs g[x.toNat].next[k] < fa fs b) = false := decide_eq_false hlt2
                        have hnx := Lib.hid (hbest.out.keep hlt (.inr ⟨hb1', by omega⟩))
                        go_wp2
                        go_quiet (fail)
                        go_wp2
                        go_roundg (gk - 1)
                        case measure => omega
                        case rel => exact ⟨k + 1, b, by go_num, rfl, by omega, by omega, hnx.out, nq0 + nq, by simp⟩
                · have hbf : Best (succs g x) fs (succs g x).length b := by
                    rw [HS.out, show g[x.toNat].next.length = k by omega]; exact hbest.out
                  have hnx := Lib.hid (hrd.out.next hvg.out HM.out HGO.out HFS.out hbf)
                  clear hbf
                  go_wp2
                  go_roundg (G - 1)
                  case measure => omega
                  case rel => exact ⟨t + 1, c ++ [x], b, rfl, hnx.out, hown3.drewN _, hfb4, below_drewN (hbel.trans hb4) _, by omega⟩
    · have hx3 := Lib.hid hx
      have hsp : i < 0 ∨ (0 ≤ i ∧ (g.length : Int) ≤ i) := by unfold InR at hx; omega
      clear hx
      rcases hsp with h1 | ⟨h1, h2⟩
      all_goals
        go_wp2
        go_ret
        exact ⟨none, [], 0, rfl, NewInts.nil _ _ _, ⟨fun h => absurd h.2.1 hx3.out, fun _ => rfl⟩, by simp, hb⟩
end Go.Proofs.YtogeihdfmnohnaaGreatDoor.Wg
namespace Go.Proofs.YtogeihdfmnohnaaGreatDoor.Wg
open Go.RowKit
theorem ints_of_block {w : World} {g B : Nat} {t : TypeId} {fr : Nat × Nat} {l : List Int} (h : w.heap[g]? = some (.cells (l.map (Value.int .i64)).toArray t fr)) (hB : g < B) : IntsAt w B (some ⟨g, 0, none⟩) l := by
  intro j hj
  refine ⟨g, 0, rfl, hB, ?_⟩
  simp [World.cell?, h, List.getElem?_eq_getElem hj]
theorem cell_of_block {w : World} {g : Nat} {cs : Array Value} {t : TypeId} {fr : Nat × Nat} (h : w.heap[g]? = some (.cells cs t fr)) (i : Nat) : w.cell? ⟨g, i, none⟩ = cs[i]? := by simp [World.cell?, h]
theorem heap_alloc_get (w : World) (o : Obj) (k : Nat) : (w.alloc o).heap[k]? = if k = w.heap.size then some o else w.heap[k]? := by
  show (w.heap.push o)[k]? = _
  rw [Array.getElem?_push]
theorem size_alloc1 (w : World) (o : Obj) : (w.alloc o).heap.size = w.heap.size + 1 := by simp
def awakeW (w : World) : World :=
  ((((((w.alloc (.cells #[.int .i64 1] 3)).alloc (.cells #[.int .i64 0] 3)).alloc (.cells #[.int .i64 1, .slice (some ⟨w.heap.size, 0, none⟩) 1 1, .int .i64 1, .slice (some ⟨w.heap.size + 1, 0, none⟩) 1 1] 37)).alloc
    (.cells #[.int .i64 1, .int .i64 2] 3)).alloc (.cells #[.int .i64 0] 3)).alloc
    (.cells #[.int .i64 1, .slice (some ⟨w.heap.size + 1 + 1 + 1, 0, none⟩) 2 2, .int .i64 1, .slice (some ⟨w.heap.size + 1 + 1 + 1 + 1, 0, none⟩) 1 1, .int .i64 0, .slice none 0 0] 37))
theorem awakeW_size (w : World) : (awakeW w).heap.size = w.heap.size + 6 := by simp [awakeW]
theorem awakeW_below (w : World) : Below w.heap.size w (awakeW w) :=
  ((((((Below.refl _ _).alloc (Nat.le_refl _) _).alloc (by simp) _).alloc (by simp; omega) _).alloc (by simp; omega) _).alloc (by simp; omega) _).alloc (by simp; omega) _
theorem awakeW_0 (w : World) : (awakeW w).heap[w.heap.size]? = some (.cells #[.int .i64 1] 3 (0, 0)) := by
  simp only [awakeW, heap_alloc_get, size_alloc1]
  repeat (first | exact if_pos trivial | rw [if_pos (by omega)] | rw [if_neg (by omega)])
theorem awakeW_1 (w : World) : (awakeW w).heap[w.heap.size + 1]? = some (.cells #[.int .i64 0] 3 (0, 0)) := by
  simp only [awakeW, heap_alloc_get, size_alloc1]
  repeat (first | exact if_pos trivial | rw [if_pos (by omega)] | rw [if_neg (by omega)])
theorem awakeW_2 (w : World) : (awakeW w).heap[w.heap.size + 1 + 1]? = some (.cells #[.int .i64 1, .slice (some ⟨w.heap.size, 0, none⟩) 1 1, .int .i64 1, .slice (some ⟨w.heap.size + 1, 0, none⟩) 1 1] 37 (0, 0)) := by
  simp only [awakeW, heap_alloc_get, size_alloc1]
  repeat (first | exact if_pos trivial | rw [if_pos (by omega)] | rw [if_neg (by omega)])
theorem awakeW_3 (w : World) : (awakeW w).heap[w.heap.size + 1 + 1 + 1]? = some (.cells #[.int .i64 1, .int .i64 2] 3 (0, 0)) := by
  simp only [awakeW, heap_alloc_get, size_alloc1]
  repeat (first | exact if_pos trivial | rw [if_pos (by omega)] | rw [if_neg (by omega)])
theorem awakeW_4 (w : World) : (awakeW w).heap[w.heap.size + 1 + 1 + 1 + 1]? = some (.cells #[.int .i64 0] 3 (0, 0)) := by
  simp only [awakeW, heap_alloc_get, size_alloc1]
  repeat (first | exact if_pos trivial | rw [if_pos (by omega)] | rw [if_neg (by omega)])
theorem awakeW_5 (w : World) : (awakeW w).heap[w.heap.size + 1 + 1 + 1 + 1 + 1]? = some (.cells #[.int .i64 1, .slice (some ⟨w.heap.size + 1 + 1 + 1, 0, none⟩) 2 2, .int .i64 1, .slice (some ⟨w.heap.size + 1 + 1 + 1 + 1, 0, none⟩) 1 1, .int .i64 0, .slice none 0 0] 37 (0, 0)) := by
  simp only [awakeW, heap_alloc_get, size_alloc1]
  repeat (first | exact if_pos trivial | rw [if_pos (by omega)] | rw [if_neg (by omega)])
theorem awakeW_A (w : World) : GraphAt (awakeW w) (awakeW w).heap.size (some ⟨w.heap.size + 1 + 1, 0, none⟩) gA := by
  have hs := awakeW_size w
  intro i hi
  have hi2 : i < 2 := hi
  rcases (by omega : i = 0 ∨ i = 1) with rfl | rfl
  · exact ⟨_, _, some ⟨w.heap.size, 0, none⟩, 1, rfl, by omega, (cell_of_block (awakeW_2 w) _).trans rfl, (cell_of_block (awakeW_2 w) _).trans rfl, ints_of_block (l := [1]) (awakeW_0 w) (by omega)⟩
  · exact ⟨_, _, some ⟨w.heap.size + 1, 0, none⟩, 1, rfl, by omega, (cell_of_block (awakeW_2 w) _).trans rfl, (cell_of_block (awakeW_2 w) _).trans rfl, ints_of_block (l := [0]) (awakeW_1 w) (by omega)⟩
theorem awakeW_B (w : World) : GraphAt (awakeW w) (awakeW w).heap.size (some ⟨w.heap.size + 1 + 1 + 1 + 1 + 1, 0, none⟩) gB := by
  have hs := awakeW_size w
  intro i hi
  have hi2 : i < 3 := hi
  rcases (by omega : i = 0 ∨ i = 1 ∨ i = 2) with rfl | rfl | rfl
  · exact ⟨_, _, some ⟨w.heap.size + 1 + 1 + 1, 0, none⟩, 2, rfl, by omega, (cell_of_block (awakeW_5 w) _).trans rfl, (cell_of_block (awakeW_5 w) _).trans rfl, ints_of_block (l := [1, 2]) (awakeW_3 w) (by omega)⟩
  · exact ⟨_, _, some ⟨w.heap.size + 1 + 1 + 1 + 1, 0, none⟩, 1, rfl, by omega, (cell_of_block (awakeW_5 w) _).trans rfl, (cell_of_block (awakeW_5 w) _).trans rfl, ints_of_block (l := [0]) (awakeW_4 w) (by omega)⟩
  · exact ⟨_, _, none, 0, rfl, by omega, (cell_of_block (awakeW_5 w) _).trans rfl, (cell_of_block (awakeW_5 w) _).trans rfl, IntsAt.nil _ _ _⟩
set_option maxHeartbeats 1600000 in
theorem awake_any (w : World) : Calls Tryz.prog 4 #[] w (Ret w (.bool true)) := by
  have hA := awakeW_A w
  have hB := awakeW_B w
  have hbel := awakeW_below w
  go_enter Tryz.func4, Tryz.ntmps4
  go_wp2_with fail
  refine (Cycle_any (some ⟨w.heap.size + 1 + 1, 0, none⟩) 2 gA 1 (awakeW w) fitsA hA).mono ?_
  rintro e w1 ⟨A1, c, c1, rfl, hc, hcs, hcl, hb1⟩
  have hA1 := hA.below (B'' := w1.heap.size) hb1 (Nat.le_refl _) hb1.size
  have hB1 := hB.below (B'' := w1.heap.size) hb1 (Nat.le_refl _) hb1.size
  have hbel1 := hbel.trans (hb1.mono hbel.size)
  obtain ⟨hcl2, hc0⟩ := cycleA hcs
  obtain ⟨bc, offc, rfl, hbc, hcc⟩ := hc.1.get (j := 0) (by omega) (x := 1) (by rw [List.getElem?_eq_getElem (by omega)] at hc0; injection hc0)
  have fc : ((c.length : Int) == 2) = true := by simp [hcl2]
  have fc1 : 0 < c.length := by omega
  rw [Nat.add_zero] at hcc
  clear hb1 hcs hc0 hcl2 hA hB hbel hc
  go_wp2_with fail
  refine (Knots_any (some ⟨w.heap.size + 1 + 1, 0, none⟩) 2 gA w1 fitsA hA1).mono ?_
  rintro e w2 ⟨A2, k, c2, rfl, hk, hks, hkl, _, hb2⟩
  have hA2 := hA1.below (B'' := w2.heap.size) hb2 (Nat.le_refl _) hb2.size
  have hB2 := hB1.below (B'' := w2.heap.size) hb2 (Nat.le_refl _) hb2.size
  have hbel2 := hbel1.trans (hb2.mono hbel1.size)
  obtain rfl := knotsA hks
  obtain ⟨bk, offk, nA, ncap, rfl, hbk, hkc, _⟩ := hk 0 (by decide)
  have hcc2 := (hb2.cell (p := ⟨bc, offc, none⟩) hbc).trans hcc
  have hbc2 := Nat.lt_of_lt_of_le hbc hb2.size
  clear hb2 hA1 hB1 hbel1 hks hkl hk hcc hbc
  go_wp2_with fail
  refine (Valid_any _ 2 gA w2 fitsA hA2).mono ?_
  rintro e w3 ⟨r, rfl, hv, hb3⟩
  obtain rfl : r = true := hv.2 validA
  have hA3 := hA2.below (B'' := w3.heap.size) hb3 (Nat.le_refl _) hb3.size
  have hB3 := hB2.below (B'' := w3.heap.size) hb3 (Nat.le_refl _) hb3.size
  have hbel3 := hbel2.trans (hb3.mono hbel2.size)
  have hcc3 := (hb3.cell (p := ⟨bc, offc, none⟩) hbc2).trans hcc2
  have hbc3 := Nat.lt_of_lt_of_le hbc2 hb3.size
  have hkc3 := (hb3.cell (p := ⟨bk, offk + 0, none⟩) hbk).trans hkc
  have hbk3 := Nat.lt_of_lt_of_le hbk hb3.size
  clear hb3 hA2 hB2 hbel2 hv hcc2 hbc2 hkc hbk
  go_wp2_with fail
  refine (Stuck_any _ 2 gA w3 fitsA hA3).mono ?_
  rintro e w4 ⟨A4, l4, c4, rfl, _, hs4, _, hb4⟩
  obtain rfl := stuckA hs4
  have hB4 := hB3.below (B'' := w4.heap.size) hb4 (Nat.le_refl _) hb4.size
  have hbel4 := hbel3.trans (hb4.mono hbel3.size)
  have hcc4 := (hb4.cell (p := ⟨bc, offc, none⟩) hbc3).trans hcc3
  have hbc4 := Nat.lt_of_lt_of_le hbc3 hb4.size
  have hkc4 := (hb4.cell (p := ⟨bk, offk + 0, none⟩) hbk3).trans hkc3
  have hbk4 := Nat.lt_of_lt_of_le hbk3 hb4.size
  clear hb4 hA3 hB3 hbel3 hs4 hcc3 hbc3 hkc3 hbk3
  go_wp2_with fail
  refine (Stuck_any _ 3 gB w4 fitsB hB4).mono ?_
  rintro e w5 ⟨A5, l5, c5, rfl, _, hs5, _, hb5⟩
  obtain rfl := stuckB hs5
  have hB5 := hB4.below (B'' := w5.heap.size) hb5 (Nat.le_refl _) hb5.size
  have hbel5 := hbel4.trans (hb5.mono hbel4.size)
  have hkc5 := (hb5.cell (p := ⟨bk, offk + 0, none⟩) hbk4).trans hkc4
  have hbk5 := Nat.lt_of_lt_of_le hbk4 hb5.size
  clear hb5 hB4 hbel4 hs5 hcc4 hbc4 hkc4 hbk4
  go_wp2_with fail
  refine (Knots_any _ 3 gB w5 fitsB hB5).mono ?_
  rintro e w6 ⟨A6, l6, c6, rfl, _, hs6, _, _, hb6⟩
  obtain rfl := knotsB hs6
  have hB6 := hB5.below (B'' := w6.heap.size) hb6 (Nat.le_refl _) hb6.size
  have hbel6 := hbel5.trans (hb6.mono hbel5.size)
  have hkc6 := (hb6.cell (p := ⟨bk, offk + 0, none⟩) hbk5).trans hkc5
  rw [Nat.add_zero] at hkc6
  clear hb6 hB5 hbel5 hs6 hkc5 hbk5
  go_wp2_with fail
  refine (Reach_any _ 3 gB 0 w6 fitsB hB6).mono ?_
  rintro e w7 ⟨A7, l7, c7, rfl, _, hs7, _, hb7⟩
  obtain rfl := reachB_spec hs7
  go_wp2
  go_ret
  exact ⟨rfl, hbel6.trans (hb7.mono hbel6.size)⟩
end Go.Proofs.YtogeihdfmnohnaaGreatDoor.Wg
namespace Go.Proofs.YtogeihdfmnohnaaGreatDoor
open Go.RowKit
theorem allNodes_len (s : Ws) (PR : List Pr) : ∀ (l : List Qu) (i : Nat), (∀ q ∈ l, shortQ q) → (allNodes s PR i l).length ≤ l.length * 32
  | [], _, _ => Nat.zero_le _
  | q :: l, i, h => by
    rw [allNodes_cons, List.length_append, clNodes_len, List.length_cons]
    have h1 := ordL_len (h q (by simp))
    have h2 := allNodes_len s PR l (i + 1) (fun x hx => h x (by simp [hx]))
    omega
theorem errS_valid {s : Ws} (h : errS s = 0) : stateB s = true := by
  unfold errS at h
  cases hv : stateB s with
  | true => rfl
  | false => rw [hv] at h; cases h
theorem okG_len (s : Ws) : (okG s).length ≤ 100000 := by
  unfold okG
  by_cases h : errS s = 0
  · rw [decide_eq_true h]
    have hv := errS_valid h
    have hs := stateB_short hv
    have h1 := allNodes_len s (procsW s) s.queues 0 hs.2.1
    have h2 : (procsW s).length ≤ 8 := by unfold stateB at hv; simp only [Bool.and_eq_true, decide_eq_true_eq] at hv; exact hv.2
    have h3 := hs.1
    simp only [cond_true]
    unfold graphS
    rw [List.length_append, List.length_map]
    omega
  · rw [decide_eq_false h]
    simp
theorem okP_len (s : Ws) : (okP s).length ≤ 100000 := by
  unfold okP
  by_cases h : errS s = 0
  · rw [decide_eq_true h]
    have hv := errS_valid h
    have h2 : (procsW s).length ≤ 8 := by unfold stateB at hv; simp only [Bool.and_eq_true, decide_eq_true_eq] at hv; exact hv.2
    simp only [cond_true]
    omega
  · rw [decide_eq_false h]
    simp
set_option maxRecDepth 100000 in
set_option maxHeartbeats 16000000 in
theorem WOf_any (s : Ws) (d : Nat) (A1 A2 : Option Addr) (c1 c2 B : Nat) (w : World) (hT : Tog w) (hw : WF w B d A1 A2 s) :
    Calls Tryz.prog 3 #[s.val A1 A2 c1 c2] w (Ret w (.bool true)) := by
  have HP := Lib.hid (fun W (hb : Below w.heap.size w W) => Of_any s d A1 A2 c1 c2 B W (hT.below hb) (hw.below hb))
  have HR := Lib.hid (fun W (hb : Below w.heap.size w W) => rOf_any s d A1 A2 c1 c2 B W (hw.below hb))
  have HA := Lib.hid Wg.awake_any
  have HGL := Lib.hid (okG_len s)
  have HPL := Lib.hid (okP_len s)
  clear hT hw
  generalize okG s = G at *
  generalize okP s = P at *
  generalize errS s = E at *
  obtain ⟨qs, ns⟩ := s
  unfold Ws.val at *
  dsimp only at HP HR ⊢
  have HSB : Hid (Blk (w.alloc (.cells #[.slice A1 qs.length c1, .slice A2 ns.length c2] 25)) w.heap.size 25 #[.slice A1 qs.length c1, .slice A2 ns.length c2]) := Lib.hid (Blk.new w _ _)
  have HBW1 : Hid (Below w.heap.size w (w.alloc (.cells #[.slice A1 qs.length c1, .slice A2 ns.length c2] 25))) := Lib.hid (Below.al (Below.refl _ _) _)
  by_cases h12 : 12 < qs.length
  · have h12i : (qs.length : Int) > (12 : Int) := by omega
    go_enter Tryz.func3, Tryz.ntmps3
    go_wp2_with fail
    refine (HA.out _).mono ?_
    rintro e w2 ⟨rfl, hb2⟩
    go_wp2_with fail
    go_ret
    exact ⟨rfl, Below.tr HBW1.out hb2⟩
  · by_cases h13 : 12 < ns.length
    · have h12i : ¬ (qs.length : Int) > (12 : Int) := by omega
      have h13i : (ns.length : Int) > (12 : Int) := by omega
      go_enter Tryz.func3, Tryz.ntmps3
      go_wp2_with fail
      refine (HA.out _).mono ?_
      rintro e w2 ⟨rfl, hb2⟩
      go_wp2_with fail
      go_ret
      exact ⟨rfl, Below.tr HBW1.out hb2⟩
    · have h12i : ¬ (qs.length : Int) > (12 : Int) := by omega
      have h13i : ¬ (ns.length : Int) > (12 : Int) := by omega
      go_enter Tryz.func3, Tryz.ntmps3
      go_wp2_with fail
      generalize w.alloc (.cells #[.slice A1 qs.length c1, .slice A2 ns.length c2] 25) = w1 at *
      refine (HP.out _ HBW1.out).mono ?_
      rintro e w2 ⟨A3, c3, A4, c4, rfl, h3, h4, hb2⟩
      have HB2 : Hid (Below w.heap.size w w2) := Lib.hid (Below.tr HBW1.out hb2)
      have HSB2 := Lib.hid (HSB.out.below hb2 HSB.out.lt)
      have H3 := Lib.hid h3
      have H4 := Lib.hid h4
      have s0 := HSB2.out.cellx 0 (v := .slice A1 qs.length c1) rfl
      have s1 := HSB2.out.cellx 1 (v := .slice A2 ns.length c2) rfl
      have hz2 := HSB2.out.lt
      clear h3 h4 hb2 HSB HBW1
      go_wp2_with fail
      refine (HR.out _ HB2.out).mono ?_
      rintro e w3 ⟨A5, c5, A6, c6, rfl, h5, h6, hb3⟩
      have HB3 : Hid (Below w.heap.size w w3) := Lib.hid (Below.tr HB2.out hb3)
      have H33 := Lib.hid (New.grow hb3 (Nat.le_refl _) H3.out)
      have H43 := Lib.hid (New.grow hb3 (Nat.le_refl _) H4.out)
      have H5 := Lib.hid h5
      have H6 := Lib.hid h6
      clear h5 h6 hb3 s0 s1 hz2 H3 H4
      go_wp2_with fail
      refine (HA.out _).mono ?_
      rintro e w4 ⟨rfl, hb4⟩
      have HB4 : Hid (Below w.heap.size w w4) := Lib.hid (Below.tr HB3.out hb4)
      have H34 := Lib.hid (New.grow hb4 (Nat.le_refl _) H33.out)
      have H44 := Lib.hid (New.grow hb4 (Nat.le_refl _) H43.out)
      have H54 := Lib.hid (New.grow hb4 (Nat.le_refl _) H5.out)
      have H64 := Lib.hid (New.grow hb4 (Nat.le_refl _) H6.out)
      clear hb4 H33 H43 H5 H6
      go_wp2_with fail
      refine (SameG_any A3 A5 c3 c5 w4.heap.size G w4 HGL.out (Nat.le_refl _) (New.lo H34.out) (New.lo H54.out)).mono ?_
      rintro e w5 ⟨rfl, hb5⟩
      have HB5 : Hid (Below w.heap.size w w5) := Lib.hid (Below.tr HB4.out hb5)
      have H45 := Lib.hid (New.grow hb5 (Nat.le_refl _) H44.out)
      have H65 := Lib.hid (New.grow hb5 (Nat.le_refl _) H64.out)
      clear hb5 H44 H64
      go_wp2_with fail
      refine (SameProcs_any A4 A6 c4 c6 w5.heap.size P w5 HPL.out (Nat.le_refl _) (New.lo H45.out) (New.lo H65.out)).mono ?_
      rintro e w6 ⟨rfl, hb6⟩
      have HB6 : Hid (Below w.heap.size w w6) := Lib.hid (Below.tr HB5.out hb6)
      clear hb6
      go_wp2_with fail
      go_ret
      exact ⟨rfl, HB6.out⟩
end Go.Proofs.YtogeihdfmnohnaaGreatDoor
namespace Go.Proofs.YtogeihdfmnohnaaGreatDoor
open Go.ChangeShapes Go.WideShapes Go.ChangeAt Go.RowKit
set_option maxRecDepth 100000 in
theorem waitgraphOf_lifted (os : Os) (started : os.Started) (H : Type) (enc : TypeId × Value → H) :
    ReturnsInHanded {} Tryz.checked os 3 .any (fun w args => (Rows.waitgraphOfSpec.pre enc Tryz.prog Tryz.f3 [] false w args ∧ laidMetH Tryz.prog laidA w) ∧ sizedMet enc Tryz.prog Tryz.f3 (OpenSpec.ofChange Rows.waitgraphOfSpec) false w args) (Rows.waitgraphOfSpec.post enc Tryz.prog Tryz.f3 false true false false) := by
  refine wrapShaped (C := Tryz.checked) (X := fun w _ => laidMetH Tryz.prog laidA w) (fun _ _ _ hh h => h.of_heap hh) Tryz.own started (by kernel_rfl) Tryz.func3
    (ChangeSpec.witness_shaped (enc := enc) (C := Tryz.checked) (os := os) (X := fun w _ => laidMetH Tryz.prog laidA w) false (World.laidAll Tryz.prog os laidA) #[.agg #[.slice none 0 0, .slice none 0 0]] 8 (World.laidAll_os _ _ _) (World.shaped_of_ZipB (by kernel_rfl) (by kernel_rfl)) (by kernel_rfl) (by kernel_rfl) (by kernel_rfl) (door_metA os _)) ?_
  intro W base args ds gs before hval0 hW hcnd hreach hL hshp
  have hLay := tog_of2 hL hshp
  have hval : ∀ (j : Nat) t v, Tryz.f3.params[j]? = some t → args[j]? = some v → Value.okWide Tryz.prog W .any base t v := hval0
  have hW' := hW
  obtain ⟨p, q, hA0, hV, rfl, hfz, hnd⟩ := hW
  have hA : DataW.TrodAll enc Tryz.prog W 0 (fun _ => true) true Tryz.f3.params.toList args.toList ds p := hA0
  rw [Tryz.params3] at hA hval
  obtain ⟨v0, d0, rfl, rfl, h0⟩ := trodAll_one hA
  obtain ⟨rfl, rfl⟩ := trodVars_none hV
  have k0 := h0
  obtain ⟨s, d, A1, A2, c1, c2, hv0, hf0⟩ := open_stateV (hval 0 25 v0 rfl rfl) h0
  rw [hv0] at hA0 hval0 hval k0 hW' ⊢
  refine (WOf_any s d A1 A2 c1 c2 W.heap.size W hLay hf0).mono fun e W' ⟨he, hb⟩ => ?_
  subst he
  have hlt : ∀ x ∈ p, x.block < W.heap.size := fun x hx => hW'.lt x (by simpa using hx)
  exact ⟨_, rfl, post_of_below (pa := p) (pv := []) hW' (fun _ _ _ => trodAll_mk1 (shut_bool Tryz.underlying4 true))
    (fun sp hsp => trodAll_mk1 (WideElems.Trod_stays Tryz.laidOut (by kernel_rfl) (of_decide_eq_true (by kernel_rfl)) k0 (fun x hx => hb.same (hlt x (by simp [hx]))) (fun x hx => hsp x (by simp [hx]))))
    (fun _ _ => rfl) (by simp) hb (ok_one (by kernel_rfl) rfl (okWide_bool_mk Tryz.underlying4 true))⟩
theorem waitgraphOf_row : Rows.WaitgraphOfSaid :=
  OpenClaim.holds_of_wide 3 Tryz.f3 rfl rfl rfl rfl rfl rfl rfl ⟨rfl, rfl, rfl, rfl, rfl⟩ rfl rfl rfl rfl rfl (by kernel_rfl) Tryz.func3 (by kernel_rfl)
    (of_decide_eq_true (by kernel_rfl)) (by unfold Func.isWrapper; rw [if_neg (of_decide_eq_false (by kernel_rfl))]; exact ⟨rfl, rfl⟩)
    (fun os started H enc _ => waitgraphOf_lifted os started H enc)
theorem waitgraphOf_holds : Rows.WaitgraphOfCardSaid :=
  Claim7.holds_tied_plain_at .later [] [.data] true Rows.waitgraphOfCard.stood.harness false
    waitgraphOf_row (fun _ h => by cases h) (by kernel_rfl) (fun _ h => by cases h) waitgraphOf_row_tie rfl ⟨rfl, rfl⟩ (by kernel_rfl) rfl
    (fun f fn hf hfn => by
      obtain rfl : f = 3 := Option.some.inj ((show Tryz.prog.funcNamed Rows.waitgraphOfRow.func = some 3 by kernel_rfl).symm.trans hf) |>.symm
      obtain rfl : fn = Tryz.f3 := (Option.some.inj (Tryz.func3.symm.trans hfn)).symm
      exact ⟨by kernel_rfl, fun j t ht => by
        have hm : t ∈ Tryz.f3.params.toList := Array.mem_toList_iff.2 (Array.mem_of_getElem? ht)
        have hall : (Tryz.f3.params.toList.all fun u => !Tryz.prog.wantsStandIn u) = true := by kernel_rfl
        exact (show Tryz.prog.wantsStandIn t = false by simpa using List.all_eq_true.1 hall t hm)⟩)
    (by kernel_rfl)
end Go.Proofs.YtogeihdfmnohnaaGreatDoor
