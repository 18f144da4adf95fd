/- The least of the shortest cycles through a node: the reference's answer. -/
import Derived.Test.YtgdeekghngpcfaaPlainF
import Derived.Test.YtgdeekghngpcfaarDist
namespace Go.Proofs.Ytgdeekghngpcfaa
open Go.RowKit

theorem dspec_iff {g : Gr} {to x : Int} {d : List Int} {k : Nat} (h : DSpec g to d) (hx : InR g.length x) (hk : 1 ≤ k) : da d x = k ↔ D1 (succs g) to k x := by
  rcases h.2 x hx with ⟨h1, h2⟩ | ⟨h1, h2, h3⟩
  · exact ⟨fun e => by omega, fun e => absurd e.2.1 (h2 k hk)⟩
  · constructor
    · intro e
      rwa [e, Int.toNat_natCast] at h3
    · intro e
      have := h3.unique e
      omega

set_option maxHeartbeats 3200000 in
theorem rCycle_any (A : Option Addr) (cap : Nat) (g : Gr) (i : Int) (w : World) (hf : FitsG g) (hr : GraphAt w w.heap.size A g) :
    Calls Try.prog 20 #[.slice A g.length cap, .int .i64 i] w (RetInts w (CycleSpec g i)) := by
  have hlen : g.length ≤ 40 := hf.1
  have HF := Lib.hid hf
  go_enter Try.func20, Try.ntmps20
  go_wp2_with fail
  refine (rValid_any A cap g w hf hr).mono ?_
  rintro e w1 ⟨r, rfl, hv, hb⟩
  have HV := Lib.hid hv
  clear hv hf
  cases r with
  | false =>
    go_wp2
    go_ret
    exact ⟨none, [], 0, rfl, NewInts.nil _ _ _, ⟨fun h => absurd (HV.out.2 h.1) (by simp), fun _ => rfl⟩, by simp, hb⟩
  | true =>
    by_cases hx : InR g.length i
    · have HX := Lib.hid hx
      obtain ⟨hx1, hx2⟩ := hx
      have hgr := hr.below hb (Nat.le_refl _) hb.size
      have hvg := Lib.hid (HV.out.1 rfl)
      go_wp2_with fail
      refine (rdistances_any A cap g i w1 HF.out hvg.out hgr).mono ?_
      rintro e w2 ⟨gd, d, c2, rfl, hdb, hds, hb2⟩
      have hbi : i < (d.length : Int) := by rw [hds.1]; exact hx2
      have hci : w2.cell? ⟨gd, i.toNat, none⟩ = some (.int .i64 (da d i)) := hdb.cell (by rw [hds.1]; omega) (da_get hds.1 HX.out)
      have hbel2 := hb.trans (hb2.mono hb.size)
      have hgr2 := hgr.below (B'' := w2.heap.size) hb2 (Nat.le_refl _) hb2.size
      have hgd := hdb.lt
      have HDS := Lib.hid hds
      have hcase := hds.2 i HX.out
      clear hds hgr hr
      rcases hcase with ⟨h1, h2⟩ | ⟨h1, h2, h3⟩
      · have H2 := Lib.hid h2
        rw [h1] at hci
        clear h1 h2
        go_wp2
        go_ret
        exact ⟨none, [], 0, rfl, NewInts.nil _ _ _, ⟨fun h => (by obtain ⟨k, hk, hp⟩ := reach_pth h.2.2; exact absurd hp (H2.out k hk)), fun _ => rfl⟩, by simp, hbel2⟩
      · obtain ⟨M, hM⟩ : ∃ M : Nat, da d i = M := ⟨(da d i).toNat, by omega⟩
        rw [hM] at h1 h2 h3 hci
        rw [Int.toNat_natCast] at h3
        have H3 := Lib.hid h3
        have HRE := Lib.hid (pth_reach h3.2.1 h3.1)
        have f0 : ((M : Int) == 0) = false := by simp; omega
        clear hM h3
        go_wp2_with fail
        go_loopg [6, 7, 8] M (fun m v6 v7 v8 wr => ∃ (t : Nat) (c : List Int) (x L : Int), v7 = .int .i64 x ∧ v8 = .int .i64 L ∧ 1 ≤ L ∧ L ≤ 40 ∧ L ≤ m ∧ Hid (L = M - t) ∧ Hid (CycTo g i M (t + 1) c) ∧ Hid (c[t]? = some x) ∧ Hid (D1 (succs g) i (M - t) x) ∧ InR g.length x ∧
          OwnInts wr w2.heap.size v6 c ∧ Below w2.heap.size w2 wr)
        case atStart =>
          refine ⟨0, [i], i, M, rfl, rfl, h1, by omega, by omega, by simp [Hid], ⟨rfl, fun _ => rfl, fun s a b ha hb => by simp at hb⟩, rfl, H3.out, HX.out, OwnInts.one _ _ _ (Nat.le_refl _), (Below.refl _ _).alloc (Nat.le_refl _) _⟩
        case round =>
          obtain ⟨t, c, x, L, rfl, rfl, hL1, hL2, hLm, hLt, hcyc, hct, hd1, hxr, hown, hbel⟩ := hrel
          obtain ⟨G, hG⟩ : ∃ G, G = gk := ⟨_, rfl⟩
          subst hG
          have HXR := Lib.hid hxr
          obtain ⟨hx3, hx4⟩ := hxr
          obtain ⟨A6, c6, hv6, hi6, hc6, hl6⟩ := hown.form
          have htM : t + 1 ≤ M := by have := hLt.out; omega
          have hcl : c.length = t + 1 := hcyc.out.1
          by_cases hL : L ≤ 1
          · have hfin : Hid (CycTo g i M M c) := by
              have : t + 1 = M := by have := hLt.out; omega
              rw [← this]
              have h := hcyc.out
              rwa [← this] at h
            have hcm : c.length ≤ 4611686018427387904 := by omega
            obtain rfl : u6 = .slice A6 c.length c6 := hv6
            clear hcl hcyc
            go_wp2
            go_ret
            exact ⟨A6, c, c6, rfl, hown.new rfl hbel2.size, ⟨fun _ => ⟨M, H3.out, hfin.out⟩, fun h => absurd ⟨hvg.out, HX.out, HRE.out⟩ h⟩, hcm, hbel2.trans (hbel.mono hbel2.size)⟩
          · have hxn : x.toNat < g.length := by omega
            obtain ⟨b0, off, nA, ncap, rfl, hbb, hd1', hd2, hN⟩ := (hgr2.below (B'' := w2.heap.size) hbel (Nat.le_refl _) (Nat.le_refl _)) x.toNat hxn
            have hn40 := (HF.out.2 _ hxn).1
            have HS := Lib.hid (succs_eq (x := x) hxn)
            have HN := Lib.hid hN
            have HFIT := Lib.hid (fun y hy => hvg.out.range x HXR.out y hy)
            have hcb : c.length ≤ 1000 := by omega
            have hdb2 := hdb.below hbel hgd
            have HCL := Lib.hid hcl
            have hkk : Hid (∀ y, InR g.length y → (da d y = L - 1 ↔ D1 (succs g) i (M - (t + 1)) y)) := fun y hy => by
              rw [← dspec_iff HDS.out hy (by have := hLt.out; omega)]
              have := hLt.out
              constructor <;> intro e <;> omega
            clear hN hd1' hcl hi6 hv6
            go_wp2_with fail
            go_loopg [7, 9] g[x.toNat].next.length (fun m v7 v9 wq => ∃ (k : Nat), v9 = .int .i64 (k : Int) ∧ v7 = .int .i64 x ∧ k ≤ g[x.toNat].next.length ∧ g[x.toNat].next.length ≤ k + m ∧ Hid (∀ j (h : j < g[x.toNat].next.length), j < k → ¬ D1 (succs g) i (M - (t + 1)) g[x.toNat].next[j]) ∧ wq = wr)
            case atStart => exact ⟨0, rfl, rfl, Nat.zero_le _, by omega, fun j _ h => absurd h (by omega), rfl⟩
            case round =>
              obtain ⟨k, rfl, rfl, hk, hkm, hno, rfl⟩ := hrel
              by_cases hlt : k < g[x.toNat].next.length
              · obtain ⟨b2, off2, rfl, hb2', hc3⟩ := HN.out.get hlt rfl
                have hyr := HFIT.out g[x.toNat].next[k] (by rw [HS.out]; simp)
                have HYR := Lib.hid hyr
                have hy3 : g[x.toNat].next[k] < (d.length : Int) := by rw [HDS.out.1]; exact hyr.2
                obtain ⟨hy1, hy2⟩ := hyr
                have hcy : wr.cell? ⟨gd, g[x.toNat].next[k].toNat, none⟩ = some (.int .i64 (da d g[x.toNat].next[k])) := hdb2.cell (by rw [HDS.out.1]; omega) (da_get HDS.out.1 HYR.out)
                by_cases hit : da d g[x.toNat].next[k] = L - 1
                · have e1 : (da d g[x.toNat].next[k] == L - 1) = true := beq_iff_eq.2 hit
                  have hd3 := (hkk.out _ HYR.out).1 hit
                  have HFO : Hid (FirstOf (succs g x) (D1 (succs g) i (M - (t + 1))) g[x.toNat].next[k]) := by
                    show FirstOf _ _ _
                    rw [HS.out]
                    exact ⟨k, hlt, rfl, hd3, hno.out⟩
                  have HD3 := Lib.hid hd3
                  clear hit hd3
                  go_wp2_with (at_builtin; refine pushInt rfl _ _ rfl _ _ _ _ _ rfl hown _ rfl rfl (by omega) ?_; intro v' w4 hown3 hb4 _)
                  go_roundg (G - 1)
                  case measure => omega
                  case rel =>
                    refine ⟨t + 1, c ++ [g[x.toNat].next[k]], g[x.toNat].next[k], L - 1, rfl, rfl, by omega, by omega, by omega, by have := hLt.out; unfold Hid; omega, ?_, ?_, HD3.out, HYR.out, hown3, hbel.trans hb4⟩
                    · refine hcyc.out.snoc (fun h => by omega) fun y hy _ => ?_
                      have h5 := hct.out
                      rw [show t + 1 - 1 = t by omega, h5] at hy
                      injection hy with hy
                      subst hy
                      exact HFO.out
                    · show (c ++ [_])[t + 1]? = _
                      rw [List.getElem?_append_right (by have := HCL.out; omega), HCL.out, Nat.sub_self]; rfl
                · have e1 : (da d g[x.toNat].next[k] == L - 1) = false := by rw [beq_eq_false_iff_ne]; exact hit
                  have hnx : Hid (∀ j (h : j < g[x.toNat].next.length), j < k + 1 → ¬ D1 (succs g) i (M - (t + 1)) g[x.toNat].next[j]) := fun j hj hjk => by
                    by_cases e : j = k
                    · subst e; exact fun hp => hit ((hkk.out _ HYR.out).2 hp)
                    · exact hno.out j hj (by omega)
                  clear hit
                  go_wp2
                  go_roundg (gk - 1)
                  case measure => omega
                  case rel => exact ⟨k + 1, by go_num, rfl, by omega, by omega, hnx.out, rfl⟩
              · exfalso
                obtain ⟨⟨y, hy, hyd⟩, _⟩ := hd1.out.succ
                rw [HS.out] at hy
                obtain ⟨j, hj, rfl⟩ := List.getElem_of_mem hy
                exact hno.out j hj (by omega) (by rw [show M - (t + 1) = M - t - 1 by omega]; exact dst_d1 hyd (by have := hLt.out; omega))
    · have hx3 := Lib.hid hx
      have hsp : i < 0 ∨ (0 ≤ i ∧ (g.length : Int) ≤ i) := by unfold InR at hx; omega
      clear hx
      rcases hsp with h1 | ⟨h1, h2⟩
      all_goals
        go_wp2
        go_ret
        exact ⟨none, [], 0, rfl, NewInts.nil _ _ _, ⟨fun h => absurd h.2.1 hx3.out, fun _ => rfl⟩, by simp, hb⟩
end Go.Proofs.Ytgdeekghngpcfaa
