/- The least of the shortest cycles through a node: the program's answer. -/
import Derived.Test.YtgdeekghngpcfaaPlainF
import Derived.Test.YtgdeekghngpcfaaDist
namespace Go.Proofs.Ytgdeekghngpcfaa
open Go.RowKit

theorem IntBlk.drewN {w : World} {b : Nat} {l : List Int} (h : IntBlk w b l) (n : Nat) : IntBlk (w.drewN n) b l := h
theorem BoolBlk.drewN {w : World} {b : Nat} {l : List Bool} (h : BoolBlk w b l) (n : Nat) : BoolBlk (w.drewN n) b l := h
theorem IntsAt.drewN {w : World} {B : Nat} {A : Option Addr} {l : List Int} (h : IntsAt w B A l) (n : Nat) : IntsAt (w.drewN n) B A l := h
theorem Best.bound {l fs : List Int} {k : Nat} {b : Int} (h : Best l fs k b) : b = -1 ∨ (b ∈ l ∧ 0 ≤ fa fs b) := by
  rcases h with ⟨h, _⟩ | ⟨t, ht, _, rfl, h0, _⟩
  · exact .inl h
  · exact .inr ⟨List.getElem_mem _, h0⟩

set_option maxHeartbeats 3200000 in
theorem Cycle_any (A : Option Addr) (cap : Nat) (g : Gr) (i : Int) (w : World) (hf : FitsG g) (hr : GraphAt w w.heap.size A g) :
    Calls Try.prog 19 #[.slice A g.length cap, .int .i64 i] w (RetInts w (CycleSpec g i)) := by
  have hlen : g.length ≤ 40 := hf.1
  have HF := Lib.hid hf
  go_enter Try.func19, Try.ntmps19
  go_wp2_with fail
  refine (Valid_any A cap g w hf hr).mono ?_
  rintro e w1 ⟨r, rfl, hv, hb⟩
  have HV := Lib.hid hv
  clear hv hf
  cases r with
  | false =>
    go_wp2
    go_ret
    exact ⟨none, [], 0, rfl, NewInts.nil _ _ _, ⟨fun h => absurd (HV.out.2 h.1) (by simp), fun _ => rfl⟩, by simp, hb⟩
  | true =>
    by_cases hx : InR g.length i
    · have HX := Lib.hid hx
      obtain ⟨hx1, hx2⟩ := hx
      have hgr := hr.below hb (Nat.le_refl _) hb.size
      have hvg := Lib.hid (HV.out.1 rfl)
      go_wp2_with fail
      refine (search_any 31 g.length (preds g) i A cap _ hlen ⟨hx1, hx2⟩ preds_range (fun x _ => Nat.le_trans (idxs_length _ _) hlen) (fun _ _ => by kernel_rfl) (fun W x hW hx => prev_any A cap _ g x W HF.out hW.size (hgr.below hW (Nat.le_refl _) (Nat.le_refl _)))).mono ?_
      rintro e w2 ⟨gs, bs, c2, rfl, hblk, ⟨hbl, hbs⟩, hb2⟩
      have hbi : i < (bs.length : Int) := by rw [hbl]; exact hx2
      have hci : w2.cell? ⟨gs, i.toNat, none⟩ = some (.bool (at_ bs i)) := hblk.cell (by rw [hbl]; omega) (bs_at hbl HX.out rfl)
      have HBS := Lib.hid (hbs i HX.out)
      have hbel2 := hb.trans (hb2.mono hb.size)
      have hgr2 := hgr.below (B'' := w2.heap.size) hb2 (Nat.le_refl _) hb2.size
      clear hbl hbs hblk hr hgr
      cases hcy : at_ bs i with
      | false =>
        rw [hcy] at hci HBS
        clear hcy
        go_wp2
        go_ret
        exact ⟨none, [], 0, rfl, NewInts.nil _ _ _, ⟨fun h => (by have h9 := HBS.out.2 (reach_rev hvg.out h.2.2 h.2.1); cases h9), fun _ => rfl⟩, by simp, hbel2⟩
      | true =>
        rw [hcy] at hci HBS
        clear hcy
        have hre := rev_reach (HBS.out.1 rfl)
        obtain ⟨M, hM⟩ := d1_of_reach hre
        have HRE := Lib.hid hre
        have HM := Lib.hid hM
        have hMl := hM.le hvg.out HX.out
        clear hM hre HBS
        go_wp2_with fail
        refine (distances_any A cap g i w2 HF.out hvg.out HX.out hgr2).mono ?_
        rintro e w3 ⟨gf, fs, c3, rfl, hfb, hfs, hb3⟩
        have HFS := Lib.hid hfs
        have hgf := hfb.lt
        have hgr3 := hgr2.below (B'' := w3.heap.size) hb3 (Nat.le_refl _) hb3.size
        have hfl := Lib.hid hfs.1
        have hbel3 := hbel2.trans (hb3.mono hbel2.size)
        clear hfs hci hgr2
        go_wp2_with fail
        go_loopg [6, 7] (g.length + 2) (fun m v6 v7 wr => ∃ (t : Nat) (c : List Int) (x : Int), v7 = .int .i64 x ∧ Hid (Round g i M t c x) ∧ OwnInts wr w3.heap.size v6 c ∧ IntBlk wr gf fs ∧ Below w3.heap.size w3 wr ∧ M + 1 ≤ t + m)
        case atStart => exact ⟨0, [], i, rfl, Round.start g HX.out, OwnInts.nil _ _ (Nat.le_refl _), hfb, Below.refl _ _, by omega⟩
        case round =>
          clear hfb
          obtain ⟨t, c, x, rfl, hrd, hown, hfb, hbel, hm⟩ := hrel
          obtain ⟨G, hG⟩ : ∃ G, G = gk := ⟨_, rfl⟩
          subst hG
          obtain ⟨A6, c6, hv6, hi6, hc6, hl6⟩ := hown.form
          have hcl := hrd.out.1.1
          by_cases hstop : 0 < t ∧ x = i
          · obtain ⟨h1, h2⟩ := hstop
            have hfin := Lib.hid (hrd.out.stop h1 h2)
            have f1 : ((c.length : Int) == 0) = false := by rw [hcl]; simp; omega
            have f2 : (x != i) = false := by simp [h2]
            obtain rfl : u6 = .slice A6 c.length c6 := hv6
            have hcm : c.length ≤ 4611686018427387904 := by have := hrd.out.2.1; omega
            clear hcl h2 hrd
            go_wp2
            go_ret
            refine ⟨A6, c, c6, rfl, hown.new rfl hbel3.size, ⟨fun _ => ⟨M, HM.out, hfin.out⟩, fun h => absurd ⟨hvg.out, HX.out, HRE.out⟩ h⟩, hcm, hbel3.trans (hbel.mono hbel3.size)⟩
          · have hgo : t = 0 ∨ x ≠ i := by
              by_cases h : t = 0
              · exact .inl h
              · exact .inr fun e => hstop ⟨by omega, e⟩
            have HGO := Lib.hid hgo
            have hxr := hrd.out.2.2.1
            have HXR := Lib.hid hxr
            obtain ⟨hx3, hx4⟩ := hxr
            have hxn : x.toNat < g.length := by omega
            have htM := (hrd.out.d1 HM.out hgo).2
            have hclb : c.length ≤ 40 := by omega
            have hnode := (hgr3.below (B'' := w3.heap.size) hbel (Nat.le_refl _) (Nat.le_refl _)) x.toNat hxn
            obtain ⟨b0, off, nA, ncap, rfl, hbb, hd1, hd2, hN⟩ := hnode
            have hn40 := (HF.out.2 _ hxn).1
            have HS := Lib.hid (succs_eq (x := x) hxn)
            have HN := Lib.hid hN
            have HFIT := Lib.hid (fun y hy => hvg.out.range x HXR.out y hy)
            have f3 : ((c.length : Int) == 0) = true ∨ (((c.length : Int) == 0) = false ∧ (x != i) = true) := by
              rw [hcl]
              rcases hgo with h | h
              · exact .inl (by simp [h])
              · by_cases h0 : t = 0
                · exact .inl (by simp [h0])
                · exact .inr ⟨by simp; omega, by simp [h]⟩
            have hown2 := hown
            obtain rfl : u6 = .slice A6 c.length c6 := hv6
            clear hN hd1 hcl hi6 hgo hstop
            rcases f3 with f4 | ⟨f4, f5⟩
            all_goals
              go_wp2_with (at_builtin; refine pushInt rfl _ _ rfl _ _ _ _ _ rfl hown _ rfl rfl (by omega) ?_; intro v' w4 hown3 hb4 _; have hd5 := (hb4.cell (p := ⟨b0, off + x.toNat * 2 + 1, none⟩) hbb).trans hd2)
              go_loopg [8, 55] g[x.toNat].next.length (fun m v8 v55 wq => ∃ (k : Nat) (b : Int), v55 = .int .i64 (k : Int) ∧ v8 = .int .i64 b ∧ k ≤ g[x.toNat].next.length ∧ g[x.toNat].next.length ≤ k + m ∧ Hid (Best g[x.toNat].next fs k b) ∧ ∃ nq, wq = w4.drewN nq)
              case atStart => exact ⟨0, -1, rfl, rfl, Nat.zero_le _, by omega, .inl ⟨rfl, fun j _ h => absurd h (by omega)⟩, 0, rfl⟩
              case round =>
                obtain ⟨k, b, rfl, rfl, hk, hkm, hbest, nq0, rfl⟩ := hrel
                have hfb4 := hfb.below hb4 hgf
                have hN4 := HN.out.below (B'' := w4.heap.size) hb4 (Nat.le_refl _) (Nat.le_trans hbel.size hb4.size)
                by_cases hlt : k < g[x.toNat].next.length
                · obtain ⟨b2, off2, rfl, hb2', hc3⟩ := hN4.get hlt rfl
                  have hyr := HFIT.out g[x.toNat].next[k] (by rw [HS.out]; simp)
                  have HYR := Lib.hid hyr
                  obtain ⟨hy1, hy2⟩ := hyr
                  have hcy : w4.cell? ⟨gf, g[x.toNat].next[k].toNat, none⟩ = some (.int .i64 (fa fs g[x.toNat].next[k])) := hfb4.cell (by rw [hfl.out]; omega) (fa_get hfl.out HYR.out)
                  have hy3 : g[x.toNat].next[k] < (fs.length : Int) := by rw [hfl.out]; exact hy2
                  have hrng : ∀ y ∈ g[x.toNat].next, 0 ≤ y := fun y hy => (HFIT.out y (by rw [HS.out]; exact hy)).1
                  have HRNG := Lib.hid hrng
                  clear hrng
                  by_cases hs : fa fs g[x.toNat].next[k] < 0
                  · have e1 : decide (0 ≤ fa fs g[x.toNat].next[k]) = false := decide_eq_false (by omega)
                    have hnx := Lib.hid (hbest.out.keep hlt (.inl hs))
                    clear hs
                    go_wp2
                    go_quiet (fail)
                    go_wp2
                    go_roundg (gk - 1)
                    case measure => omega
                    case rel => exact ⟨k + 1, b, by go_num, rfl, by omega, by omega, hnx.out, nq0 + nq, by simp⟩
                  · have hs2 : 0 ≤ fa fs g[x.toNat].next[k] := by omega
                    have e1 : decide (0 ≤ fa fs g[x.toNat].next[k]) = true := decide_eq_true hs2
                    rcases hbest.out.bound with hbm | ⟨hbm, hb0⟩
                    · subst hbm
                      have hnx := Lib.hid (hbest.out.take hlt hs2 (.inl (by omega)) HRNG.out)
                      clear hs
                      go_wp2
                      go_quiet (fail)
                      go_wp2
                      go_roundg (gk - 1)
                      case measure => omega
                      case rel => exact ⟨k + 1, _, by go_num, rfl, by omega, by omega, hnx.out, nq0 + nq, by simp⟩
                    · have hbr := HFIT.out b (by rw [HS.out]; exact hbm)
                      have HBR := Lib.hid hbr
                      obtain ⟨hb1', hb2''⟩ := hbr
                      have hb3' : b < (fs.length : Int) := by rw [hfl.out]; exact hb2''
                      have e2 : decide (b < 0) = false := decide_eq_false (by omega)
                      have hcb : w4.cell? ⟨gf, b.toNat, none⟩ = some (.int .i64 (fa fs b)) := hfb4.cell (by rw [hfl.out]; omega) (fa_get hfl.out HBR.out)
                      clear hs hbm
                      by_cases hlt2 : fa fs g[x.toNat].next[k] < fa fs b
                      · have e3 : decide (fa fs g[x.toNat].next[k] < fa fs b) = true := decide_eq_true hlt2
                        have hnx := Lib.hid (hbest.out.take hlt hs2 (.inr hlt2) HRNG.out)
                        go_wp2
                        go_quiet (fail)
                        go_wp2
                        go_roundg (gk - 1)
                        case measure => omega
                        case rel => exact ⟨k + 1, _, by go_num, rfl, by omega, by omega, hnx.out, nq0 + nq, by simp⟩
                      · have e3 : decide (fa fs g[x.toNat].next[k] < fa fs b) = false := decide_eq_false hlt2
                        have hnx := Lib.hid (hbest.out.keep hlt (.inr ⟨hb1', by omega⟩))
                        go_wp2
                        go_quiet (fail)
                        go_wp2
                        go_roundg (gk - 1)
                        case measure => omega
                        case rel => exact ⟨k + 1, b, by go_num, rfl, by omega, by omega, hnx.out, nq0 + nq, by simp⟩
                · have hbf : Best (succs g x) fs (succs g x).length b := by
                    rw [HS.out, show g[x.toNat].next.length = k by omega]; exact hbest.out
                  have hnx := Lib.hid (hrd.out.next hvg.out HM.out HGO.out HFS.out hbf)
                  clear hbf
                  go_wp2
                  go_roundg (G - 1)
                  case measure => omega
                  case rel => exact ⟨t + 1, c ++ [x], b, rfl, hnx.out, hown3.drewN _, hfb4, below_drewN (hbel.trans hb4) _, by omega⟩
    · have hx3 := Lib.hid hx
      have hsp : i < 0 ∨ (0 ≤ i ∧ (g.length : Int) ≤ i) := by unfold InR at hx; omega
      clear hx
      rcases hsp with h1 | ⟨h1, h2⟩
      all_goals
        go_wp2
        go_ret
        exact ⟨none, [], 0, rfl, NewInts.nil _ _ _, ⟨fun h => absurd h.2.1 hx3.out, fun _ => rfl⟩, by simp, hb⟩
end Go.Proofs.Ytgdeekghngpcfaa
