/- The law WaitgraphFewer: the walk. -/
import Derived.Test.YtgdeekghngpcfaaCopy
namespace Go.Proofs.Ytgdeekghngpcfaa
open Go.RowKit

set_option maxHeartbeats 1600000 in
theorem WFewer_any (A : Option Addr) (cap : Nat) (l : List Int) (i k : Int) (w : World) (hw : WideL l) (hi1 : -9223372036854775808 ≤ i) (hi2 : i ≤ 9223372036854775807) (hk1 : -9223372036854775808 ≤ k) (hk2 : k ≤ 9223372036854775807) (hr : IntsAt w w.heap.size A l) :
    Calls Try.prog 9 #[.slice A l.length cap, .int .i64 i, .int .i64 k] w (Ret w (.bool true)) := by
  have HW := Lib.hid hw
  clear hw
  by_cases hl : l.length ≤ 300
  · have hd : decide (l.length ≤ 300) = true := decide_eq_true hl
    go_enter Try.func9, Try.ntmps9
    go_wp2_with fail
    refine (Light_any A l.length cap w HW.out.1).mono ?_
    rintro e w0 ⟨rfl, rfl⟩
    go_wp2_with fail
    refine (made_any false false A cap l w hl HW.out.2 hr).mono ?_
    rintro e w1 ⟨A1, g, cap1, rfl, hg, hg1, hg2, hok, hb1⟩
    have HF := Lib.hid (made_fits hg2 hok)
    have HV := Lib.hid (made_valid hg2 hok)
    have HOK := Lib.hid hok
    clear hok hr
    go_wp2_with fail
    refine (Stuck_any A1 cap1 g w1 HF.out hg).mono ?_
    rintro e w2 ⟨A2, s, c2, rfl, hs, hss, hsl, hb2⟩
    have hg2' := hg.below (B'' := w2.heap.size) hb2 (Nat.le_refl _) hb2.size
    have hbel2 := hb1.trans (hb2.mono hb1.size)
    have HS := Lib.hid hs.1
    have HSS := Lib.hid hss
    clear hb1 hb2 hg hs hss
    go_wp2_with fail
    refine (Mod_any i g.length w2 hi1 hi2 (by omega)).mono ?_
    rintro e w2' ⟨rfl, hw'⟩
    obtain rfl := hw'.symm
    obtain ⟨hm1, hm2⟩ := modI_ok i g.length
    generalize modI i g.length = xi at *
    obtain ⟨x, rfl⟩ := Int.eq_ofNat_of_zero_le hm1
    have hx : x < g.length := by have := hm2 (by omega); omega
    clear hm1 hm2
    obtain ⟨b0, off0, n0, nc0, rfl, hb0, hd1, hd2, hN0⟩ := hg2' x hx
    obtain ⟨K, hK⟩ : ∃ K, g[x].k = K := ⟨_, rfl⟩
    have hK4 : K ≤ 4 := by have h1 := HOK.out x hx; rw [hK] at h1; have h2 := h1.2.1; have h3 := h1.2.2.2.1; omega
    have hK0 : 0 ≤ K := by have h1 := HOK.out x hx; rw [hK] at h1; exact h1.2.2.1
    have HKn : Hid (K ≤ g[x].next.length) := Lib.hid (by have h1 := HOK.out x hx; rw [hK] at h1; exact h1.2.2.2.1)
    rw [hK] at hd1
    have HK := Lib.hid hK
    clear hd2 hN0 hK
    by_cases h2 : K < 2
    · have f0 : decide (K < 2) = true := decide_eq_true h2
      go_wp2_with fail
      refine (awake_any w2).mono ?_
      rintro e w3 ⟨rfl, hb3⟩
      go_wp2
      go_ret
      exact ⟨rfl, hbel2.trans (hb3.mono hbel2.size)⟩
    · have f0 : decide (K < 2) = false := decide_eq_false h2
      have HG := Lib.hid hg2'
      obtain ⟨n, hn⟩ := Int.eq_ofNat_of_zero_le (show 0 ≤ K - 1 by omega)
      go_wp2_with (at_builtin; refine copyNodes rfl _ _ rfl _ g _ _ _ rfl rfl rfl HG.out hg1 hg2 ?_; intro hb hc w3 vs hb3 hge hgc hvs; have hsz3 := hgc.1; have hck : w3.cell? ⟨hb, x * 2, none⟩ = some (.int .i64 K) := (by have h1 := (hgc.2.2 x hx).1; simp only [List.getD_eq_getElem?_getD, List.getElem?_eq_getElem hx, Option.getD_some] at h1; rw [h1, HK.out]); have hfz := hgc.2.1 (x * 2))
      refine (Mod_any k n w3 hk1 hk2 (by omega)).mono ?_
      rintro e w3' ⟨rfl, hw'⟩
      obtain rfl := hw'.symm
      obtain ⟨hm1, hm2⟩ := modI_ok k n
      generalize modI k n = y at *
      have hy := hm2 (by omega)
      clear hm2
      obtain ⟨h, hl', hh⟩ := graph_with g x (1 + y)
      have HH := Lib.hid hh
      have hgc4 := hgc.setK hx (1 + y)
      have hb4 : Below w2.heap.size w2 (w3.setCell ⟨hb, x * 2, none⟩ (.int .i64 (1 + y))) := hb3.setCell hge _
      have HGH : Hid (GraphAt (w3.setCell ⟨hb, x * 2, none⟩ (.int .i64 (1 + y))) (w3.setCell ⟨hb, x * 2, none⟩ (.int .i64 (1 + y))).heap.size (some ⟨hb, 0, none⟩) h) :=
        Lib.hid (hgc4.graph hl' (fun j h1 => by
          have h2 : j < g.length := by omega
          rw [(HH.out j h1 h2).1, List.getD_eq_getElem?_getD, List.getElem?_eq_getElem h2]
          rfl) (fun j h1 h2 => (HH.out j h1 h2).2) hvs hb4)
      have HOH : Hid (∀ i (hi : i < h.length), NOk h.length false false h[i].k h[i].next) := Lib.hid fun j h1 => by
        have h2 : j < g.length := by omega
        obtain ⟨o1, o2, o3, o4, o5, _, _⟩ := HOK.out j h2
        rw [(HH.out j h1 h2).1, (HH.out j h1 h2).2, hl']
        by_cases e : j = x
        · subst e
          rw [if_pos rfl]
          have := HKn.out
          exact ⟨o1, o2, by omega, by omega, fun h => by omega, fun h => (by cases h), fun _ h => (by cases h)⟩
        · rw [if_neg e]
          exact ⟨o1, o2, o3, o4, o5, fun h => (by cases h), fun _ h => (by cases h)⟩
      have HST : Hid (∀ W, GraphAt W W.heap.size (some ⟨hb, 0, none⟩) h → Calls Try.prog 15 #[.slice (some ⟨hb, 0, none⟩) g.length hc] W (RetInts W (StuckSpec h))) := Lib.hid fun W hW => by
        have h1 := Stuck_any (some ⟨hb, 0, none⟩) hc h W (made_fits (by omega) HOH.out) hW
        rwa [hl'] at h1
      have HVH := Lib.hid (made_valid (by omega) HOH.out)
      have hsub : ∀ z, IsStuck h z → IsStuck g z := fun z => stuck_fewer hl' (fun z hz => by
          have h1 : z.toNat < g.length := by have h1 := hz.1; have h2 := hz.2; omega
          rw [succs_eq h1, succs_eq (show z.toNat < h.length by omega)]
          exact (HH.out z.toNat (by omega) h1).2) (fun z hz => by
          have h1 : z.toNat < g.length := by have h1 := hz.1; have h2 := hz.2; omega
          rw [kOf_eq h1, kOf_eq (show z.toNat < h.length by omega), (HH.out z.toNat (by omega) h1).1]
          by_cases e : z.toNat = x
          · rw [if_pos e]
            subst e
            rw [HK.out]
            omega
          · rw [if_neg e]
            exact Int.le_refl _)
      have HSUB := Lib.hid hsub
      have hsz4 := hb4.size
      have hbel4 := hbel2.trans (hb4.mono hbel2.size)
      have hs4 := HS.out.below (B'' := (w3.setCell ⟨hb, x * 2, none⟩ (.int .i64 (1 + y))).heap.size) hb4 (Nat.le_refl _) hb4.size
      clear hsub hh hvs hgc4 hgc hb3 hd1
      go_wp2_with fail
      refine (HST.out _ HGH.out).mono ?_
      rintro e w5 ⟨A5, s5, c5, rfl, hs5, hss5, hsl5, hb5⟩
      have hbel5 := hbel4.trans (hb5.mono hbel4.size)
      have hbs5 := hs4.below (B'' := w5.heap.size) hb5 (Nat.le_refl _) hb5.size
      have HIN : Hid (∀ z ∈ s5, z ∈ s) := Lib.hid fun z hz => by
        obtain ⟨f, hf, e⟩ := hss5.1 HVH.out
        have hzr : InR h.length z := by rw [e, mem_idxs] at hz; exact hz.1
        have hzg : InR g.length z := by rw [hl'] at hzr; exact hzr
        exact (HSS.out.mem HV.out hzg).2 (HSUB.out z ((hss5.mem HVH.out hzr).1 hz))
      have HS5 := Lib.hid hs5.1
      clear hb5 hs4 hbel4 hb4 hss5 hs5
      go_wp2_with fail
      go_loopg [11] s5.length (fun m v wq => ∃ n : Nat, v = .int .i64 (n : Int) ∧ n ≤ s5.length ∧ s5.length ≤ n + m ∧ Below w5.heap.size w5 wq)
      case atStart => exact ⟨0, rfl, Nat.zero_le _, by omega, Below.refl _ _⟩
      case round =>
        obtain ⟨q, rfl, hq, hqm, hbq⟩ := hrel
        have hbelq := hbel5.trans (hbq.mono hbel5.size)
        have h5q := HS5.out.below (B'' := wr.heap.size) hbq (Nat.le_refl _) hbq.size
        have hsq := hbs5.below (B'' := wr.heap.size) hbq (Nat.le_refl _) hbq.size
        by_cases hlt : q < s5.length
        · obtain ⟨z, hz⟩ : ∃ z, s5[q] = z := ⟨_, rfl⟩
          obtain ⟨b6, off6, rfl, hb6, hc6⟩ := h5q.get hlt hz
          have hzs : Hid (z ∈ s) := Lib.hid (HIN.out z (by rw [← hz]; exact List.getElem_mem hlt))
          clear hz
          go_wp2_with fail
          refine (has_any A2 wr.heap.size c2 s z wr (by omega) hsq).mono ?_
          rintro e w7 ⟨r7, rfl, hr7, hb7⟩
          have hbq7 := hbq.trans (hb7.mono hbq.size)
          obtain rfl : r7 = true := hr7.2 hzs.out
          clear hr7
          go_wp2
          go_roundg (gk - 1)
          case measure => omega
          case rel => exact ⟨q + 1, by go_num, by omega, by omega, hbq7⟩
        · go_wp2_with fail
          refine (awake_any wr).mono ?_
          rintro e w8 ⟨rfl, hb8⟩
          go_wp2
          go_ret
          exact ⟨rfl, hbelq.trans (hb8.mono hbelq.size)⟩
  · have hd : decide (l.length ≤ 300) = false := decide_eq_false hl
    go_enter Try.func9, Try.ntmps9
    go_wp2_with fail
    refine (Light_any A l.length cap w HW.out.1).mono ?_
    rintro e w0 ⟨rfl, rfl⟩
    go_wp2_with fail
    refine (awake_any w).mono ?_
    rintro e w2 ⟨rfl, hb2⟩
    go_wp2
    go_ret
    exact ⟨rfl, hb2⟩
end Go.Proofs.Ytgdeekghngpcfaa
