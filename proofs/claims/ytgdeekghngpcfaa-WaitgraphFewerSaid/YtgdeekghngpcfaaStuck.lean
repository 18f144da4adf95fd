/- The nodes that never finish: the program's answer. -/
import Derived.Test.YtgdeekghngpcfaaPlainC
namespace Go.Proofs.Ytgdeekghngpcfaa
open Go.RowKit

theorem fill_set (n k : Nat) (h : k < n) : (List.replicate k true ++ List.replicate (n - k) false).set k true = List.replicate (k + 1) true ++ List.replicate (n - (k + 1)) false := by
  rw [List.set_append_right _ _ (by simp)]
  simp only [List.length_replicate, Nat.sub_self]
  obtain ⟨m, hm⟩ : ∃ m, n - k = m + 1 := ⟨n - k - 1, by omega⟩
  rw [hm, show n - (k + 1) = m by omega, List.replicate_succ, List.set_cons_zero, List.replicate_succ', List.append_assoc]
  rfl
theorem at_replicate_true (n : Nat) (x : Int) (hx : InR n x) : at_ (List.replicate n true) x = true := by
  unfold at_ InR at *
  rw [List.getD_eq_getElem?_getD, List.getElem?_replicate, if_pos (by omega)]; rfl

set_option maxHeartbeats 1600000 in
theorem Stuck_any (A : Option Addr) (cap : Nat) (g : Gr) (w : World) (hf : FitsG g) (hr : GraphAt w w.heap.size A g) :
    Calls Try.prog 15 #[.slice A g.length cap] w (RetInts w (StuckSpec g)) := by
  have hlen : g.length ≤ 40 := hf.1
  have hmk := mkBools g.length (by omega)
  have HF := Lib.hid hf
  go_enter Try.func15, Try.ntmps15
  go_wp2_with fail
  refine (Valid_any A cap g w hf hr).mono ?_
  rintro e w1 ⟨r, rfl, hv, hb⟩
  have HV := Lib.hid hv
  clear hv hf
  cases r with
  | false =>
    go_wp2
    go_ret
    exact ⟨none, [], 0, rfl, NewInts.nil _ _ _, ⟨fun h => absurd (HV.out.2 h) (by simp), fun _ => rfl⟩, by simp, hb⟩
  | true =>
    have hgr := hr.below hb (Nat.le_refl _) hb.size
    have hvg := Lib.hid (HV.out.1 rfl)
    clear hr
    go_wp2_with fail
    clear hmk
    go_loopg [19] g.length (fun m c wr => ∃ k : Nat, k ≤ g.length ∧ c = .int .i64 (k : Int) ∧ g.length ≤ k + m ∧ Below w1.heap.size w1 wr ∧ BoolBlk wr w1.heap.size (List.replicate k true ++ List.replicate (g.length - k) false))
    case atStart => exact ⟨0, Nat.zero_le _, rfl, by omega, (Below.refl _ _).alloc (Nat.le_refl _) _, by simpa using BoolBlk.new w1 g.length⟩
    case round =>
      obtain ⟨k, hk, rfl, hkm, hbel, hblk⟩ := hrel
      by_cases hlt : k < g.length
      · have hcs : wr.cell? ⟨w1.heap.size, k, none⟩ = some (.bool false) := hblk.cell (j := k) (by simp; omega) (by rw [List.getElem_append_right (by simp)]; simp)
        have hfs : wr.frozen? ⟨w1.heap.size, k, none⟩ = false := hblk.free _
        have hset := Lib.hid (fill_set g.length k hlt)
        go_wp2
        go_roundg (gk - 1)
        case measure => omega
        case rel => exact ⟨k + 1, by omega, by go_num, by omega, hbel.setCell (Nat.le_refl _) _, by rw [← hset.out]; exact hblk.set_ k true⟩
      · obtain rfl : k = g.length := by omega
        have hblk0 : BoolBlk wr w1.heap.size (List.replicate g.length true) := by simpa using hblk
        clear hblk hkm hlt
        go_wp2_with fail
        go_loopg [5] (g.length + 1) (fun m ch wq => ∃ (b : Bool) (ss : List Bool), ch = .bool b ∧ Hid (CSound g (fun z => !at_ ss z)) ∧ Hid (ss.length = g.length) ∧ BoolBlk wq w1.heap.size ss ∧ Below w1.heap.size w1 wq ∧
          marked ss + b.toNat ≤ m ∧ Hid (b = false → CDone g (fun z => !at_ ss z) g.length))
        case atStart =>
          refine ⟨true, List.replicate g.length true, rfl, fun x hx h => ?_, by simp [Hid], hblk0, hbel, by simp [marked, List.countP_replicate], fun h => by cases h⟩
          simp [at_replicate_true _ _ hx] at h
        case round =>
          clear hbel hblk0
          obtain ⟨b, ss, rfl, hsnd, hsl, hblk, hbel, hm, hdone⟩ := hrel
          obtain ⟨G, hG⟩ : ∃ G, G = gk := ⟨_, rfl⟩
          subst hG
          cases b with
          | false =>
            have hfin := Lib.hid (hsnd.out.final (hdone.out rfl))
            have hmem := members_any _ g.length ss wr (by rw [hsl.out]; omega) (hblk.at_ hblk.lt)
            rw [hsl.out] at hmem
            have HM := Lib.hid hmem
            clear hmem hsnd hdone
            go_wp2_with fail
            refine HM.out.mono ?_
            rintro e w3 ⟨A3, l3, c3, rfl, h3, hl3, hle, hb3⟩
            have HL3 := Lib.hid hl3
            clear hl3 HM
            go_wp2
            go_ret
            refine ⟨A3, l3, c3, rfl, h3.older (Nat.le_trans hb.size hbel.size), ⟨fun _ => ?_, fun h => absurd hvg.out h⟩, hle, hb.trans ((hbel.mono hb.size).trans (hb3.mono (Nat.le_trans hb.size hbel.size)))⟩
            rw [HL3.out]
            exact at_nat fun x hx => by rw [← hfin.out x hx]; simp
          | true =>
            have hm1 : marked ss + 1 ≤ G := hm
            clear hm hdone
            go_wp2_with fail
            go_loopg [5, 29] g.length (fun m ch c wq => ∃ (b : Bool) (s2 : List Bool) (k : Nat), ch = .bool b ∧ c = .int .i64 (k : Int) ∧ k ≤ g.length ∧ g.length ≤ k + m ∧ Hid (CSound g (fun z => !at_ s2 z)) ∧ Hid (s2.length = g.length) ∧ BoolBlk wq w1.heap.size s2 ∧ Below w1.heap.size w1 wq ∧
              marked s2 + b.toNat ≤ marked ss ∧ Hid (b = false → CDone g (fun z => !at_ s2 z) k))
            case atStart => exact ⟨false, ss, 0, rfl, rfl, Nat.zero_le _, by omega, hsnd.out, hsl.out, hblk, hbel, by simp, fun _ x hx h => absurd hx.1 (by omega)⟩
            case round =>
              clear hsnd hsl hblk hbel
              obtain ⟨b, s2, k, rfl, rfl, hk2, hkm2, hsnd, hsl, hblk, hbel, hmk, hdone⟩ := hrel
              obtain ⟨wo, hwo⟩ : ∃ wo, wo = wr := ⟨_, rfl⟩
              subst hwo
              obtain ⟨G2, hG2⟩ : ∃ G2, G2 = gk := ⟨_, rfl⟩
              subst hG2
              by_cases hlt : k < g.length
              · obtain ⟨b0, off, nA, ncap, rfl, hbb, hc1, hc2, hN⟩ := (hgr.below (B'' := w1.heap.size) hbel (Nat.le_refl _) (Nat.le_refl _)) k hlt
                have hn40 := (HF.out.2 k hlt).1
                have hHF := Lib.hid (HF.out.2 k hlt)
                have hse := Lib.hid (succs_eq (x := (k : Int)) (by simpa using hlt))
                have hke := Lib.hid (kOf_eq (x := (k : Int)) (by simpa using hlt))
                have HN := Lib.hid hN
                have hrange := Lib.hid (hvg.out.range (k : Int) ⟨by omega, by omega⟩)
                clear hN
                go_wp2_with fail
                go_loopg [8, 37] g[k].next.length (fun m d c wq => ∃ j : Nat, c = .int .i64 (j : Int) ∧ d = .int .i64 (((g[k].next.take j).countP (fun z => !at_ s2 z) : Nat) : Int) ∧ j ≤ g[k].next.length ∧ g[k].next.length ≤ j + m ∧ wq = wo.alloc (.cells #[.int .i64 g[k].k, .slice nA g[k].next.length ncap] 38))
                case atStart => exact ⟨0, rfl, rfl, Nat.zero_le _, by omega, rfl⟩
                case round =>
                  obtain ⟨j, rfl, rfl, hj, hjm, rfl⟩ := hrel
                  have hcl : (g[k].next.take j).countP (fun z => !at_ s2 z) ≤ j := Nat.le_trans List.countP_le_length (List.length_take_le _ _)
                  by_cases hlt2 : j < g[k].next.length
                  · obtain ⟨b2, off2, rfl, hb2, hc3⟩ := HN.out.get hlt2 rfl
                    have hyr := hrange.out g[k].next[j] (by rw [hse.out]; simp)
                    obtain ⟨hy1, hy2⟩ := hyr
                    have hct := Lib.hid (countP_take_succ (p := fun z => !at_ s2 z) hlt2)
                    have hb2' : b2 < wo.heap.size := Nat.lt_of_lt_of_le hb2 hbel.size
                    have hblt := hblk.lt
                    cases hs : at_ s2 g[k].next[j] with
                    | true =>
                      have hcs : wo.cell? ⟨w1.heap.size, g[k].next[j].toNat, none⟩ = some (.bool true) := hblk.cell (by rw [hsl.out]; omega) (bs_at hsl.out ⟨hy1, hy2⟩ hs)
                      have HS := Lib.hid hs
                      clear hs
                      go_wp2
                      go_roundg (gk - 1)
                      case measure => omega
                      case rel => exact ⟨j + 1, by go_num, by rw [hct.out, HS.out]; rfl, by omega, by omega, rfl⟩
                    | false =>
                      have hcs : wo.cell? ⟨w1.heap.size, g[k].next[j].toNat, none⟩ = some (.bool false) := hblk.cell (by rw [hsl.out]; omega) (bs_at hsl.out ⟨hy1, hy2⟩ hs)
                      have HS := Lib.hid hs
                      clear hs
                      go_wp2
                      go_roundg (gk - 1)
                      case measure => omega
                      case rel => exact ⟨j + 1, by go_num, by rw [hct.out, HS.out]; simp, by omega, by omega, rfl⟩
                  · have hcn : cntD g (fun z => !at_ s2 z) k = (g[k].next.take j).countP (fun z => !at_ s2 z) := by
                      unfold cntD; rw [hse.out, List.take_of_length_le (by omega)]; simp
                    have hkk : kOf g k = g[k].k := by rw [hke.out]; simp
                    have HCN := Lib.hid hcn
                    have HKK := Lib.hid hkk
                    have hb2 := (hbel.alloc hbel.size (.cells #[.int .i64 g[k].k, .slice nA g[k].next.length ncap] 38))
                    have hblk2 : BoolBlk (wo.alloc (.cells #[.int .i64 g[k].k, .slice nA g[k].next.length ncap] 38)) w1.heap.size s2 := hblk.below (B := wo.heap.size) ((Below.refl _ _).alloc (Nat.le_refl _) _) hblk.lt
                    have hblt := hblk.lt
                    have hkr : InR g.length (k : Int) := ⟨by omega, by omega⟩
                    have hfz : wo.frozen? ⟨w1.heap.size, k, none⟩ = false := hblk.free _
                    clear hcn hkk
                    cases hs : at_ s2 k with
                    | false =>
                      have hcs : wo.cell? ⟨w1.heap.size, k, none⟩ = some (.bool false) := hblk.cell (by rw [hsl.out]; omega) (bs_at hsl.out hkr hs)
                      have HS := Lib.hid hs
                      clear hs
                      go_wp2
                      go_roundg (G2 - 1)
                      case measure => omega
                      case rel => exact ⟨b, s2, k + 1, rfl, by go_num, by omega, by omega, hsnd.out, hsl.out, hblk2, hb2, hmk, fun e => (hdone.out e).step (.inl (by simp [HS.out]))⟩
                    | true =>
                      have hcs : wo.cell? ⟨w1.heap.size, k, none⟩ = some (.bool true) := hblk.cell (by rw [hsl.out]; omega) (bs_at hsl.out hkr hs)
                      have hms := marked_set hsl.out hkr hs
                      have HS := Lib.hid hs
                      clear hs
                      by_cases hge : g[k].k ≤ (((g[k].next.take j).countP (fun z => !at_ s2 z) : Nat) : Int)
                      · have hd : decide (g[k].k ≤ (((g[k].next.take j).countP (fun z => !at_ s2 z) : Nat) : Int)) = true := decide_eq_true hge
                        have HG := Lib.hid hge
                        have HMS := Lib.hid hms
                        clear hge hms
                        go_wp2
                        go_roundg (G2 - 1)
                        case measure => omega
                        case rel =>
                          have h1 := HMS.out
                          simp only [Int.toNat_natCast] at h1
                          refine ⟨true, s2.set k false, k + 1, rfl, by go_num, by omega, by omega, hsnd.out.step hvg.out hkr (by rw [HCN.out, HKK.out]; exact HG.out) (fun y hy => at_set_false hsl.out hkr hy), by simp [Hid, hsl.out], (hblk.set_ k false).alloc _, (hbel.setCell (Nat.le_refl _) _).alloc (by rw [size_setCell]; exact hbel.size) _, by simp; omega, fun e => by cases e⟩
                      · have hd : decide (g[k].k ≤ (((g[k].next.take j).countP (fun z => !at_ s2 z) : Nat) : Int)) = false := decide_eq_false hge
                        have HG := Lib.hid hge
                        clear hge hms
                        go_wp2
                        go_roundg (G2 - 1)
                        case measure => omega
                        case rel => exact ⟨b, s2, k + 1, rfl, by go_num, by omega, by omega, hsnd.out, hsl.out, hblk2, hb2, hmk, fun e => (hdone.out e).step (.inr (by rw [HCN.out, HKK.out]; have := HG.out; omega))⟩
              · obtain rfl : k = g.length := by omega
                go_wp2
                go_roundg (G - 1)
                case measure => omega
                case rel => exact ⟨b, s2, rfl, hsnd.out, hsl.out, hblk, hbel, by omega, hdone.out⟩
end Go.Proofs.Ytgdeekghngpcfaa
