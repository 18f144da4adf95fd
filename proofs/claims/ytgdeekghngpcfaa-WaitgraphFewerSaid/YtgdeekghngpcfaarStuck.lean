/- The nodes that never finish: the reference's answer. -/
import Derived.Test.YtgdeekghngpcfaaPlainC
namespace Go.Proofs.Ytgdeekghngpcfaa
open Go.RowKit

set_option maxHeartbeats 1600000 in
theorem rStuck_any (A : Option Addr) (cap : Nat) (g : Gr) (w : World) (hf : FitsG g) (hr : GraphAt w w.heap.size A g) :
    Calls Try.prog 16 #[.slice A g.length cap] w (RetInts w (StuckSpec g)) := by
  have hlen : g.length ≤ 40 := hf.1
  have hmk := mkBools g.length (by omega)
  have HF := Lib.hid hf
  go_enter Try.func16, Try.ntmps16
  go_wp2_with fail
  refine (rValid_any A cap g w hf hr).mono ?_
  rintro e w1 ⟨r, rfl, hv, hb⟩
  have HV := Lib.hid hv
  clear hv hf
  cases r with
  | false =>
    go_wp2
    go_ret
    exact ⟨none, [], 0, rfl, NewInts.nil _ _ _, ⟨fun h => absurd (HV.out.2 h) (by simp), fun _ => rfl⟩, by simp, hb⟩
  | true =>
    have hgr := hr.below hb (Nat.le_refl _) hb.size
    have hvg := Lib.hid (HV.out.1 rfl)
    clear hr
    go_wp2_with fail
    clear hmk
    go_loopg [4] (g.length + 1) (fun m ch wq => ∃ (b : Bool) (ss : List Bool), ch = .bool b ∧ Hid (CSound g (fun z => at_ ss z)) ∧ Hid (ss.length = g.length) ∧ BoolBlk wq w1.heap.size ss ∧ Below w1.heap.size w1 wq ∧
          unseen ss + b.toNat ≤ m ∧ Hid (b = false → CDone g (fun z => at_ ss z) g.length))
    case atStart =>
      refine ⟨true, List.replicate g.length false, rfl, fun x hx h => ?_, by simp [Hid], BoolBlk.new w1 _, (Below.refl _ _).alloc (Nat.le_refl _) _, by simp [unseen, List.countP_replicate], fun h => by cases h⟩
      simp [at_replicate] at h
    case round =>
      obtain ⟨b, ss, rfl, hsnd, hsl, hblk, hbel, hm, hdone⟩ := hrel
      obtain ⟨G, hG⟩ : ∃ G, G = gk := ⟨_, rfl⟩
      subst hG
      cases b with
      | false =>
        have hfin := Lib.hid (hsnd.out.final (hdone.out rfl))
        clear hsnd hdone
        go_wp2_with fail
        go_loopg [8, 9] g.length (fun m v8 c wq => ∃ k : Nat, k ≤ g.length ∧ c = .int .i64 (k : Int) ∧ g.length ≤ k + m ∧ Below w1.heap.size w1 wq ∧ BoolBlk wq w1.heap.size ss ∧ OwnInts wq (w1.heap.size + 1) v8 (idxs (fun j => !ss.getD j false) k))
        case atStart => exact ⟨0, Nat.zero_le _, rfl, by omega, hbel, hblk, OwnInts.nil _ _ hblk.lt⟩
        case round =>
          clear hbel hblk
          obtain ⟨k, hk, rfl, hkm, hbel, hblk, hown⟩ := hrel
          by_cases hlt3 : k < g.length
          · have hst := Lib.hid (idxs_succ (fun j => !ss.getD j false) k)
            have hle := idxs_length (fun j => !ss.getD j false) k
            cases hbk : ss.getD k false with
            | false =>
              have hcs : wr.cell? ⟨w1.heap.size, k, none⟩ = some (.bool false) := hblk.cell (by rw [hsl.out]; exact hlt3) (bs_get hsl.out hlt3 hbk)
              have HB := Lib.hid hbk
              clear hbk
              go_wp2_with (at_builtin; refine pushInt rfl _ _ rfl _ _ _ _ _ rfl hown _ rfl rfl (by omega) ?_; intro v' w3 hown3 hb3 _)
              go_roundg (gk - 1)
              case measure => omega
              case rel =>
                have e : idxs (fun j => !ss.getD j false) (k + 1) = idxs (fun j => !ss.getD j false) k ++ [(k : Int)] := by rw [hst.out, if_pos]; rw [HB.out]; rfl
                exact ⟨k + 1, by omega, by go_num, by omega, hbel.trans (hb3.mono (by omega)), hblk.below hb3 (Nat.lt_succ_self _), by rw [e]; exact hown3⟩
            | true =>
              have hcs : wr.cell? ⟨w1.heap.size, k, none⟩ = some (.bool true) := hblk.cell (by rw [hsl.out]; exact hlt3) (bs_get hsl.out hlt3 hbk)
              have HB := Lib.hid hbk
              clear hbk
              go_wp2
              go_roundg (gk - 1)
              case measure => omega
              case rel =>
                have e : idxs (fun j => !ss.getD j false) (k + 1) = idxs (fun j => !ss.getD j false) k := by rw [hst.out, if_neg]; rw [HB.out]; simp
                exact ⟨k + 1, by omega, by go_num, by omega, hbel, hblk, by rw [e]; exact hown⟩
          · obtain rfl : k = g.length := by omega
            obtain ⟨A', cap', e, h, _⟩ := hown.form
            have hle := idxs_length (fun j => !ss.getD j false) g.length
            go_wp2
            go_ret
            exact ⟨A', _, cap', by show Ending.returned u8 = _; rw [e], hown.new e (by have := hb.size; omega), ⟨fun _ => ⟨_, fun j hj => by
              rw [← hfin.out j ⟨by omega, by omega⟩]; simp [at_], rfl⟩, fun h => absurd hvg.out h⟩, by omega, hb.trans (hbel.mono hb.size)⟩
      | true =>
        have hm1 : unseen ss + 1 ≤ G := hm
        clear hm hdone
        go_wp2_with fail
        go_loopg [4, 5] g.length (fun m ch c wq => ∃ (b : Bool) (s2 : List Bool) (k : Nat), ch = .bool b ∧ c = .int .i64 (k : Int) ∧ k ≤ g.length ∧ g.length ≤ k + m ∧ Hid (CSound g (fun z => at_ s2 z)) ∧ Hid (s2.length = g.length) ∧ BoolBlk wq w1.heap.size s2 ∧ Below w1.heap.size w1 wq ∧
              unseen s2 + b.toNat ≤ unseen ss ∧ Hid (b = false → CDone g (fun z => at_ s2 z) k))
        case atStart => exact ⟨false, ss, 0, rfl, rfl, Nat.zero_le _, by omega, hsnd.out, hsl.out, hblk, hbel, by simp, fun _ x hx h => absurd hx.1 (by omega)⟩
        case round =>
          clear hsnd hsl hblk hbel
          obtain ⟨b, s2, k, rfl, rfl, hk2, hkm2, hsnd, hsl, hblk, hbel, hmk, hdone⟩ := hrel
          obtain ⟨wo, hwo⟩ : ∃ wo, wo = wr := ⟨_, rfl⟩
          subst hwo
          obtain ⟨G2, hG2⟩ : ∃ G2, G2 = gk := ⟨_, rfl⟩
          subst hG2
          by_cases hlt : k < g.length
          · obtain ⟨b0, off, nA, ncap, rfl, hbb, hc1, hc2, hN⟩ := (hgr.below (B'' := w1.heap.size) hbel (Nat.le_refl _) (Nat.le_refl _)) k hlt
            have hn40 := (HF.out.2 k hlt).1
            have hse := Lib.hid (succs_eq (x := (k : Int)) (by simpa using hlt))
            have hke := Lib.hid (kOf_eq (x := (k : Int)) (by simpa using hlt))
            have HN := Lib.hid hN
            have hrange := Lib.hid (hvg.out.range (k : Int) ⟨by omega, by omega⟩)
            clear hN
            go_wp2_with fail
            go_loopg [6, 7] g[k].next.length (fun m d c wq => ∃ j : Nat, c = .int .i64 (j : Int) ∧ d = .int .i64 (((g[k].next.take j).countP (fun z => at_ s2 z) : Nat) : Int) ∧ j ≤ g[k].next.length ∧ g[k].next.length ≤ j + m ∧ wq = wo)
            case atStart => exact ⟨0, rfl, rfl, Nat.zero_le _, by omega, rfl⟩
            case round =>
              obtain ⟨j, rfl, rfl, hj, hjm, rfl⟩ := hrel
              have hcl : (g[k].next.take j).countP (fun z => at_ s2 z) ≤ j := Nat.le_trans List.countP_le_length (List.length_take_le _ _)
              by_cases hlt2 : j < g[k].next.length
              · obtain ⟨b2, off2, rfl, hb2, hc3⟩ := HN.out.get hlt2 rfl
                have hyr := hrange.out g[k].next[j] (by rw [hse.out]; simp)
                obtain ⟨hy1, hy2⟩ := hyr
                have hct := Lib.hid (countP_take_succ (p := fun z => at_ s2 z) hlt2)
                cases hs : at_ s2 g[k].next[j] with
                | false =>
                  have hcs : wr.cell? ⟨w1.heap.size, g[k].next[j].toNat, none⟩ = some (.bool false) := hblk.cell (by rw [hsl.out]; omega) (bs_at hsl.out ⟨hy1, hy2⟩ hs)
                  have HS := Lib.hid hs
                  clear hs
                  go_wp2
                  go_roundg (gk - 1)
                  case measure => omega
                  case rel => exact ⟨j + 1, by go_num, by rw [hct.out, HS.out]; rfl, by omega, by omega, rfl⟩
                | true =>
                  have hcs : wr.cell? ⟨w1.heap.size, g[k].next[j].toNat, none⟩ = some (.bool true) := hblk.cell (by rw [hsl.out]; omega) (bs_at hsl.out ⟨hy1, hy2⟩ hs)
                  have HS := Lib.hid hs
                  clear hs
                  go_wp2
                  go_roundg (gk - 1)
                  case measure => omega
                  case rel => exact ⟨j + 1, by go_num, by rw [hct.out, HS.out]; simp, by omega, by omega, rfl⟩
              · have hcn : cntD g (fun z => at_ s2 z) k = (g[k].next.take j).countP (fun z => at_ s2 z) := by
                  unfold cntD; rw [hse.out, List.take_of_length_le (by omega)]; simp
                have hkk : kOf g k = g[k].k := by rw [hke.out]; simp
                have HCN := Lib.hid hcn
                have HKK := Lib.hid hkk
                have hkr : InR g.length (k : Int) := ⟨by omega, by omega⟩
                have hfz : wr.frozen? ⟨w1.heap.size, k, none⟩ = false := hblk.free _
                clear hcn hkk
                cases hs : at_ s2 k with
                | true =>
                  have hcs : wr.cell? ⟨w1.heap.size, k, none⟩ = some (.bool true) := hblk.cell (by rw [hsl.out]; omega) (bs_at hsl.out hkr hs)
                  have HS := Lib.hid hs
                  clear hs
                  go_wp2
                  go_roundg (G2 - 1)
                  case measure => omega
                  case rel => exact ⟨b, s2, k + 1, rfl, by go_num, by omega, by omega, hsnd.out, hsl.out, hblk, hbel, hmk, fun e => (hdone.out e).step (.inl (by simp [HS.out]))⟩
                | false =>
                  have hcs : wr.cell? ⟨w1.heap.size, k, none⟩ = some (.bool false) := hblk.cell (by rw [hsl.out]; omega) (bs_at hsl.out hkr hs)
                  have hms := unseen_set hsl.out hkr hs
                  have HS := Lib.hid hs
                  clear hs
                  by_cases hge : g[k].k ≤ (((g[k].next.take j).countP (fun z => at_ s2 z) : Nat) : Int)
                  · have hd : decide (g[k].k ≤ (((g[k].next.take j).countP (fun z => at_ s2 z) : Nat) : Int)) = true := decide_eq_true hge
                    have HG := Lib.hid hge
                    have HMS := Lib.hid hms
                    clear hge hms
                    go_wp2
                    go_roundg (G2 - 1)
                    case measure => omega
                    case rel =>
                      have h1 := HMS.out
                      simp only [Int.toNat_natCast] at h1
                      refine ⟨true, s2.set k true, k + 1, rfl, by go_num, by omega, by omega, hsnd.out.step hvg.out hkr (by rw [HCN.out, HKK.out]; exact HG.out) (fun y hy => at_set hsl.out hkr hy), by simp [Hid, hsl.out], hblk.set_ k true, hbel.setCell (Nat.le_refl _) _, by simp; omega, fun e => by cases e⟩
                  · have hd : decide (g[k].k ≤ (((g[k].next.take j).countP (fun z => at_ s2 z) : Nat) : Int)) = false := decide_eq_false hge
                    have HG := Lib.hid hge
                    clear hge hms
                    go_wp2
                    go_roundg (G2 - 1)
                    case measure => omega
                    case rel => exact ⟨b, s2, k + 1, rfl, by go_num, by omega, by omega, hsnd.out, hsl.out, hblk, hbel, hmk, fun e => (hdone.out e).step (.inr (by rw [HCN.out, HKK.out]; have := HG.out; omega))⟩
          · obtain rfl : k = g.length := by omega
            go_wp2
            go_roundg (G - 1)
            case measure => omega
            case rel => exact ⟨b, s2, rfl, hsnd.out, hsl.out, hblk, hbel, by omega, hdone.out⟩
end Go.Proofs.Ytgdeekghngpcfaa
