/- The reference's distances. -/
import Derived.Test.YtgdeekghngpcfaaPlainE
import Derived.Test.YtgdeekghngpcfaaDist
namespace Go.Proofs.Ytgdeekghngpcfaa
open Go.RowKit

/-- Where the scan of node i's successors stands: nothing found below k, or found. -/
def ScanA (g : Gr) (to : Int) (s i k : Nat) (d d2 : List Int) : Prop := d2 = d ∧ da d i = 0 ∧ ∀ j (h : j < (succs g i).length), j < k → ¬ Hit to s d (succs g i)[j]
def ScanB (g : Gr) (to : Int) (s i : Nat) (d2 : List Int) : Prop := da d2 i ≠ 0 ∧ PInv g to s (i + 1) d2

set_option maxHeartbeats 1600000 in
theorem rdistances_any (A : Option Addr) (cap : Nat) (g : Gr) (to : Int) (w : World) (hf : FitsG g) (hv : ValidG g) (hr : GraphAt w w.heap.size A g) :
    Calls Try.prog 33 #[.slice A g.length cap, .int .i64 to] w (RetFar w (fun l => DSpec g to l)) := by
  have hlen : g.length ≤ 40 := hf.1
  have hmk := mkInts g.length (by omega)
  have HF := Lib.hid hf
  have HV := Lib.hid hv
  clear hf hv
  go_enter Try.func33, Try.ntmps33
  go_wp2_with fail
  clear hmk
  go_loopg [6] g.length (fun m c wr => ∃ (s : Nat) (d : List Int), c = .int .i64 (s : Int) ∧ 1 ≤ s ∧ s ≤ g.length + 1 ∧ g.length + 1 ≤ s + m ∧ Hid (PInv g to s 0 d) ∧ IntBlk wr w.heap.size d ∧ Below w.heap.size w wr)
  case atStart => exact ⟨1, _, rfl, Nat.le_refl _, by omega, by omega, PInv.start g to, IntBlk.new w g.length, (Below.refl _ _).alloc (Nat.le_refl _) _⟩
  case round =>
    obtain ⟨s, d, rfl, hs1, hs2, hsm, hinv, hblk, hbel⟩ := hrel
    obtain ⟨G, hG⟩ : ∃ G, G = gk := ⟨_, rfl⟩
    subst hG
    by_cases hlt : s ≤ g.length
    · go_wp2_with fail
      go_loopg [7] g.length (fun m c wq => ∃ (i : Nat) (d : List Int), c = .int .i64 (i : Int) ∧ i ≤ g.length ∧ g.length ≤ i + m ∧ Hid (PInv g to s i d) ∧ IntBlk wq w.heap.size d ∧ Below w.heap.size w wq)
      case atStart => exact ⟨0, d, rfl, Nat.zero_le _, by omega, hinv.out, hblk, hbel⟩
      case round =>
        clear hinv hblk hbel
        obtain ⟨i, d, rfl, hi1, him, hinv, hblk, hbel⟩ := hrel
        obtain ⟨G2, hG2⟩ : ∃ G2, G2 = gk := ⟨_, rfl⟩
        subst hG2
        by_cases hil : i < g.length
        · obtain ⟨b0, off, nA, ncap, rfl, hbb, _, _, hN⟩ := hr i hil
          have hse := Lib.hid (succs_eq (x := (i : Int)) (by simpa using hil))
          have hn40 := (HF.out.2 i hil).1
          have hir : InR g.length (i : Int) := ⟨by omega, by omega⟩
          have HIR := Lib.hid hir
          have HRG := Lib.hid (HV.out.range _ hir)
          have hsl : (succs g i).length = g[i].next.length := by rw [hse.out]; simp
          have hsg : ∀ k (h : k < g[i].next.length) (h2 : k < (succs g i).length), (succs g i)[k] = g[i].next[k] := fun k h h2 => by simp only [hse.out]; simp
          have HSL := Lib.hid hsl
          have HSG := Lib.hid hsg
          clear hN hsl hsg hir
          go_wp2_with fail
          go_loopg [8] g[i].next.length (fun m c wq => ∃ (k : Nat) (d2 : List Int), c = .int .i64 (k : Int) ∧ k ≤ g[i].next.length ∧ g[i].next.length ≤ k + m ∧ Hid (d2.length = g.length) ∧ Hid (ScanA g to s i k d d2 ∨ ScanB g to s i d2) ∧ IntBlk wq w.heap.size d2 ∧ Below w.heap.size w wq)
          case atStart =>
            refine ⟨0, d, rfl, Nat.zero_le _, by omega, hinv.out.1, ?_, hblk, hbel⟩
            by_cases h0 : da d i = 0
            · exact .inl ⟨rfl, h0, fun j _ h => absurd h (by omega)⟩
            · exact .inr ⟨h0, hinv.out.pass h0⟩
          case round =>
            clear hblk hbel
            obtain ⟨k, d2, rfl, hk, hkm, hdl, hsc, hblk, hbel⟩ := hrel
            obtain ⟨nA2, ncap2, hbb2, hc1, hc2, hN2⟩ := (hr.below (B'' := w.heap.size) hbel (Nat.le_refl _) (Nat.le_refl _)).node hil
            have HN := Lib.hid hN2
            have hcd : wr.cell? ⟨w.heap.size, i, none⟩ = some (.int .i64 (da d2 i)) := hblk.cell (by rw [hdl.out]; exact hil) (da_get hdl.out HIR.out)
            have hfz : wr.frozen? ⟨w.heap.size, i, none⟩ = false := hblk.free _
            clear hN2 hc1
            by_cases hkl : k < g[i].next.length
            · rcases hsc.out with ⟨e1, e2, e3⟩ | ⟨e1, e2⟩
              · subst e1
                have E3 := Lib.hid e3
                have HSC := Lib.hid e2
                have hz : (da d2 i == 0) = true := beq_iff_eq.2 e2
                rw [e2] at hcd
                obtain ⟨b2, off2, rfl, hb2, hc3⟩ := HN.out.get hkl rfl
                have hyr := HRG.out g[i].next[k] (by rw [hse.out]; simp)
                obtain ⟨hy1, hy2⟩ := hyr
                have hcy : wr.cell? ⟨w.heap.size, g[i].next[k].toNat, none⟩ = some (.int .i64 (da d2 g[i].next[k])) := hblk.cell (by rw [hdl.out]; omega) (da_get hdl.out ⟨hy1, hy2⟩)
                have hmem : g[i].next[k] ∈ succs g i := by rw [hse.out]; simp
                have HM := Lib.hid hmem
                clear e2 e3 hz hmem hsc
                by_cases hit : Hit to s d2 g[i].next[k]
                · have hmark := Lib.hid (hinv.out.mark HV.out hs1 hil HSC.out HM.out hit)
                  have hnz : da (d2.set i s) i ≠ 0 := by
                    have := da_set (v := (s : Int)) hdl.out HIR.out HIR.out
                    simp only [Int.toNat_natCast] at this
                    rw [this]; simp; omega
                  have HNZ := Lib.hid hnz
                  clear hnz
                  rcases hit with ⟨h1, h2⟩ | ⟨h1, h2⟩
                  · subst h1
                    have f1 : (g[i].next[k] == to) = true := beq_iff_eq.2 h2
                    clear h2
                    go_wp2
                    go_roundg (gk - 1)
                    case measure => omega
                    case rel => exact ⟨k + 1, d2.set i _, by go_num, by omega, by omega, by simp [Hid, hdl.out], .inr ⟨HNZ.out, hmark.out⟩, hblk.set_ i _, hbel.setCell (Nat.le_refl _) _⟩
                  · have f0 : ((s : Int) == 1) = false := by simp; omega
                    have f1 : (da d2 g[i].next[k] == (s : Int) - 1) = true := beq_iff_eq.2 h2
                    have f2 : decide (1 < (s : Int)) = true := decide_eq_true (by omega)
                    have f3 : decide (1 < s) = true := decide_eq_true (by omega)
                    clear h2
                    go_wp2
                    go_roundg (gk - 1)
                    case measure => omega
                    case rel => exact ⟨k + 1, d2.set i s, by go_num, by omega, by omega, by simp [Hid, hdl.out], .inr ⟨HNZ.out, hmark.out⟩, hblk.set_ i s, hbel.setCell (Nat.le_refl _) _⟩
                · have hnx : Hid (ScanA g to s i (k + 1) d2 d2) := ⟨rfl, HSC.out, fun j hj hjk => by
                    by_cases e : j = k
                    · subst e; rw [HSG.out j hkl hj]; exact hit
                    · exact E3.out j hj (by omega)⟩
                  have HIT := Lib.hid hit
                  clear hit
                  by_cases h1 : s = 1
                  · have f1 : (g[i].next[k] == to) = false := by
                      rw [beq_eq_false_iff_ne]; exact fun e => HIT.out (.inl ⟨h1, e⟩)
                    subst h1
                    go_wp2
                    go_roundg (gk - 1)
                    case measure => omega
                    case rel => exact ⟨k + 1, d2, by go_num, by omega, by omega, hdl.out, .inl hnx.out, hblk, hbel⟩
                  · have f0 : ((s : Int) == 1) = false := by simp; omega
                    have f1 : (da d2 g[i].next[k] == (s : Int) - 1) = false := by
                      rw [beq_eq_false_iff_ne]; exact fun e => HIT.out (.inr ⟨by omega, e⟩)
                    have f2 : decide (1 < (s : Int)) = true := decide_eq_true (by omega)
                    have f3 : decide (1 < s) = true := decide_eq_true (by omega)
                    clear h1
                    go_wp2
                    go_roundg (gk - 1)
                    case measure => omega
                    case rel => exact ⟨k + 1, d2, by go_num, by omega, by omega, hdl.out, .inl hnx.out, hblk, hbel⟩
              · have hz : (da d2 i == 0) = false := by rw [beq_eq_false_iff_ne]; exact e1
                have E2 := Lib.hid e2
                clear e1 e2 hsc
                go_wp2
                go_roundg (G2 - 1)
                case measure => omega
                case rel => exact ⟨i + 1, d2, by go_num, by omega, by omega, E2.out, hblk, hbel⟩
            · have hnx : Hid (PInv g to s (i + 1) d2) := by
                rcases hsc.out with ⟨e1, e2, e3⟩ | ⟨e1, e2⟩
                · subst e1
                  refine hinv.out.miss HV.out hs1 hil e2 fun y hy => ?_
                  obtain ⟨j, hj, rfl⟩ := List.getElem_of_mem hy
                  exact e3 j hj (by have := HSL.out; omega)
                · exact e2
              clear hsc
              go_wp2
              go_roundg (G2 - 1)
              case measure => omega
              case rel => exact ⟨i + 1, d2, by go_num, by omega, by omega, hnx.out, hblk, hbel⟩
        · obtain rfl : i = g.length := by omega
          go_wp2
          go_roundg (G - 1)
          case measure => omega
          case rel => exact ⟨s + 1, d, by go_num, by omega, by omega, by omega, hinv.out.next, hblk, hbel⟩
    · obtain rfl : s = g.length + 1 := by omega
      have hfin := Lib.hid (hinv.out.final HV.out)
      clear hinv
      go_wp2
      go_ret
      exact ⟨w.heap.size, d, g.length, by rw [hfin.out.1]; rfl, hblk, hfin.out, hbel⟩
end Go.Proofs.Ytgdeekghngpcfaa
