/- The distances to a node, found breadth first. -/
import Derived.Test.YtgdeekghngpcfaaPlainD
import Derived.Test.YtgdeekghngpcfaaQueue
namespace Go.Proofs.Ytgdeekghngpcfaa
open Go.RowKit

/-- The call returns a list of numbers that meets P, in new memory, and leaves alone what was there. -/
def RetFar (w : World) (P : List Int → Prop) (e : Ending) (w' : World) : Prop :=
  ∃ g l cap, e = .returned (.slice (some ⟨g, 0, none⟩) l.length cap) ∧ IntBlk w' g l ∧ P l ∧ Below w.heap.size w w'

theorem fill_set_int (n k : Nat) (h : k < n) : (List.replicate k (-1 : Int) ++ List.replicate (n - k) 0).set k (-1) = List.replicate (k + 1) (-1 : Int) ++ List.replicate (n - (k + 1)) 0 := by
  rw [List.set_append_right _ _ (by simp)]
  simp only [List.length_replicate, Nat.sub_self]
  obtain ⟨m, hm⟩ : ∃ m, n - k = m + 1 := ⟨n - k - 1, by omega⟩
  rw [hm, show n - (k + 1) = m by omega, List.replicate_succ, List.set_cons_zero, List.replicate_succ', List.append_assoc]
  rfl

set_option maxHeartbeats 1600000 in
theorem distances_any (A : Option Addr) (cap : Nat) (g : Gr) (to : Int) (w : World) (hf : FitsG g) (hv : ValidG g) (hto : InR g.length to) (hr : GraphAt w w.heap.size A g) :
    Calls Try.prog 32 #[.slice A g.length cap, .int .i64 to] w (RetFar w (fun l => FarSpec g to l)) := by
  have hlen : g.length ≤ 40 := hf.1
  have hmk := mkInts g.length (by omega)
  have HF := Lib.hid hf
  have HV := Lib.hid hv
  have HT := Lib.hid hto
  obtain ⟨ht1, ht2⟩ := hto
  clear hf hv
  go_enter Try.func32, Try.ntmps32
  go_wp2_with fail
  clear hmk
  go_loopg [16] g.length (fun m c wr => ∃ k : Nat, k ≤ g.length ∧ c = .int .i64 (k : Int) ∧ g.length ≤ k + m ∧ Below w.heap.size w wr ∧ IntBlk wr w.heap.size (List.replicate k (-1) ++ List.replicate (g.length - k) 0))
  case atStart => exact ⟨0, Nat.zero_le _, rfl, by omega, (Below.refl _ _).alloc (Nat.le_refl _) _, by simpa using IntBlk.new w g.length⟩
  case round =>
    obtain ⟨k, hk, rfl, hkm, hbel, hblk⟩ := hrel
    by_cases hlt : k < g.length
    · have hcs : wr.cell? ⟨w.heap.size, k, none⟩ = some (.int .i64 0) := hblk.cell (j := k) (by simp; omega) (by rw [List.getElem_append_right (by simp)]; simp)
      have hfs : wr.frozen? ⟨w.heap.size, k, none⟩ = false := hblk.free _
      have hset := Lib.hid (fill_set_int g.length k hlt)
      go_wp2
      go_roundg (gk - 1)
      case measure => omega
      case rel => exact ⟨k + 1, by omega, by go_num, by omega, hbel.setCell (Nat.le_refl _) _, by rw [← hset.out]; exact hblk.set_ k (-1)⟩
    · obtain rfl : k = g.length := by omega
      have hblk0 : IntBlk wr w.heap.size (List.replicate g.length (-1)) := by simpa using hblk
      have hblt := hblk.lt
      have hcs : wr.cell? ⟨w.heap.size, to.toNat, none⟩ = some (.int .i64 (-1)) := hblk0.cell (j := to.toNat) (by simp; omega) (by simp)
      have hfs : wr.frozen? ⟨w.heap.size, to.toNat, none⟩ = false := hblk0.free _
      clear hblk hkm hlt
      go_wp2_with fail
      go_loopg [7] (2 * g.length + 1) (fun m v7 wq => ∃ (fs q : List Int) (D : Int), Hid (QInv g to fs q D (fun _ _ => False)) ∧ IntBlk wq w.heap.size fs ∧ OwnQ wq (w.heap.size + 1) v7 q ∧ Below w.heap.size w wq ∧ 2 * una fs + q.length ≤ m ∧ m ≤ 2 * g.length + 1)
      case atStart =>
        have hst := QInv.start g to HT.out
        refine ⟨_, _, 0, hst, (hblk0.set_ to.toNat 0).alloc _, ?_, ?_, ?_, Nat.le_refl _⟩
        · exact OwnQ.one _ _ _ _ (by rw [size_setCell]) (by rw [size_setCell]; omega)
        · exact (hbel.setCell (Nat.le_refl _) _).alloc (by rw [size_setCell]; exact hbel.size) _
        · have h1 := hst.small to HT.out (by rw [hst.root]; omega)
          rw [hst.root] at h1
          simp only [List.length_singleton]
          omega
      case round =>
        clear hbel hblk0 hblt hcs hfs
        obtain ⟨G, hG⟩ : ∃ G, G = gk := ⟨_, rfl⟩
        subst hG
        obtain ⟨fs, q, D, hinv, hblk, hown, hbel, hm1, hm2⟩ := hrel
        cases q with
        | nil =>
          obtain ⟨A7, c7, rfl⟩ := hown.nil_form
          have hfin := Lib.hid (hinv.out.found HV.out HT.out)
          have hfl := Lib.hid hinv.out.len
          go_wp2
          go_ret
          exact ⟨w.heap.size, fs, g.length, by rw [hfl.out]; rfl, hblk, hfin.out, hbel⟩
        | cons x q =>
          obtain ⟨g7, off7, cap7, rfl, hg7, hg7', hc7, hc7m, hcell, hq1, hq2⟩ := hown.head
          obtain ⟨hxr, hx0, _⟩ := hinv.out.queue x (by simp)
          have hxs := hinv.out.small x hxr hx0
          have hpop := Lib.hid hinv.out.pop
          have hlq : (x :: q).length = q.length + 1 := rfl
          have hm3 : 2 * una fs + q.length + 1 ≤ G := by omega
          have hprev := fun (A7 : Option Addr) (W : World) (hW : Below w.heap.size w W) => prev_any A cap w.heap.size g x W HF.out hW.size (hr.below hW (Nat.le_refl _) (Nat.le_refl _))
          have HP := Lib.hid (hprev none)
          have HXR := Lib.hid hxr
          have HQ : Hid (OwnQ wr (w.heap.size + 1) (if cap7 = 1 then .slice (some ⟨g7, off7, none⟩) q.length 0 else .slice (some ⟨g7, off7 + 1, none⟩) q.length (cap7 - 1)) q) := by
            by_cases e : cap7 = 1
            · rw [if_pos e]; exact hq1 e
            · rw [if_neg e]; exact hq2 e
          clear hq1 hq2 hprev hlq hinv hm1 hown
          have hsp : cap7 ≤ 1 ∨ 2 ≤ cap7 := by omega
          rcases hsp with hc1 | hc1
          · obtain rfl : cap7 = 1 := by omega
            have hq0 : q.length ≤ 0 := by omega
            have hown7 : OwnQ wr (w.heap.size + 1) (.slice (some ⟨g7, off7, none⟩) 0 0) q := by
              have h := HQ.out
              rw [if_pos rfl] at h
              rwa [show q.length = 0 by omega] at h
            clear HQ hc1
            go_wp2_with fail
            refine (HP.out wr hbel).mono ?_
            rintro e w1 ⟨A1, c1, rfl, hjs, hloc, hb1⟩
            have hblk1 := hblk.below hb1 hblk.lt
            have hown1 := hown7.below hb1 (Nat.le_refl _)
            have hbel1 := hbel.trans (hb1.mono hbel.size)
            have hL : (preds g x).length ≤ g.length := idxs_length _ _
            have HLOC : Hid (0 < (preds g x).length → ∀ a, A1 = some a → a.block ≠ w.heap.size ∧ a.block ≠ g7) := fun h0 a ha => by have h1 := hloc h0 a ha; have h2 := hbel.size; omega
            clear hloc hblk hown7 hcell hbel
            go_wp2_with fail
            go_loopg [7, 40] (preds g x).length (fun m2 v7 c w2 => ∃ (fs2 q2 : List Int) (k : Nat), c = .int .i64 (k : Int) ∧ k ≤ (preds g x).length ∧ (preds g x).length ≤ k + m2 ∧ Hid (QInv g to fs2 q2 (fa fs2 x) (fun z y => z = x ∧ y ∈ (preds g x).drop k)) ∧ 0 ≤ fa fs2 x ∧
              IntBlk w2 w.heap.size fs2 ∧ OwnQ w2 (w.heap.size + 1) v7 q2 ∧ Below w.heap.size w w2 ∧ IntsAt w2 w2.heap.size A1 (preds g x) ∧ Hid (0 < (preds g x).length → ∀ a, A1 = some a → a.block ≠ w.heap.size ∧ v7.ownBlock ≠ some a.block) ∧ 2 * una fs2 + q2.length ≤ 2 * una fs + q.length)
            case atStart => exact ⟨fs, q, 0, rfl, Nat.zero_le _, by omega, hpop.out, hx0, hblk1, hown1, hbel1, hjs, fun h0 a ha => ⟨(HLOC.out h0 a ha).1, by have := (HLOC.out h0 a ha).2; simp [Value.ownBlock]; omega⟩, Nat.le_refl _⟩
            case round =>
              clear hblk1 hown1 hbel1 hjs
              obtain ⟨fs2, q2, k, rfl, hk, hkm, hinv, hx2, hblk, hown, hbel, hjs, hap, hm4⟩ := hrel
              by_cases hlt : k < (preds g x).length
              · obtain ⟨b2, off2, rfl, hb2, hc2⟩ := hjs.get hlt rfl
                have hyr := (mem_preds.1 (List.getElem_mem hlt)).1
                have HYR := Lib.hid hyr
                obtain ⟨hy1, hy2⟩ := hyr
                obtain ⟨hx1, hx3⟩ := HXR.out
                have hfl := Lib.hid hinv.out.len
                have hcy : wr.cell? ⟨w.heap.size, (preds g x)[k].toNat, none⟩ = some (.int .i64 (fa fs2 (preds g x)[k])) := hblk.cell (by rw [hfl.out]; omega) (fa_get hfl.out HYR.out)
                by_cases hs : fa fs2 (preds g x)[k] < 0
                · have hcx : wr.cell? ⟨w.heap.size, x.toNat, none⟩ = some (.int .i64 (fa fs2 x)) := hblk.cell (by rw [hfl.out]; omega) (fa_get hfl.out HXR.out)
                  have hfz : wr.frozen? ⟨w.heap.size, (preds g x)[k].toNat, none⟩ = false := hblk.free _
                  have hbx := hinv.out.small x HXR.out hx2
                  have hxb : fa fs2 x ≤ 40 := by omega
                  have hln : (q2 ++ [(preds g x)[k]]).length = q2.length + 1 := by simp
                  have hun := una_set (v := fa fs2 x + 1) hfl.out HYR.out hs (by omega)
                  have hun2 := Lib.hid hun
                  clear hun hbx
                  go_wp2_with (at_builtin; refine pushQ rfl _ _ rfl _ _ _ _ _ rfl (hown.setCell (by simp) _) _ rfl (by simp [World.setCell]) (by omega) ?_; intro v' w3 hown3 hb3 hsp3)
                  have hun := hun2.out
                  obtain ⟨hpu, hpx⟩ := hinv.out.push HXR.out hx2 HT.out hlt hs
                  obtain ⟨q1, q2'⟩ := hap.out (by omega) _ rfl
                  have hzz : (wr.setCell ⟨w.heap.size, (preds g x)[k].toNat, none⟩ (.int .i64 (fa fs2 x + 1))).heap.size = wr.heap.size := by simp [World.setCell]
                  obtain ⟨q3, q4⟩ := hsp3 b2 (by rw [hzz]; exact hb2) q2'
                  have q5 := q3.trans (Below.heap_setCell wr ⟨w.heap.size, (preds g x)[k].toNat, none⟩ (.int .i64 (fa fs2 x + 1)) b2 q1)
                  have q6 := hb3.size
                  go_roundg (gk - 1)
                  case measure => omega
                  case rel =>
                    refine ⟨fs2.set (preds g x)[k].toNat (fa fs2 x + 1), q2 ++ [(preds g x)[k]], k + 1, by go_num, by omega, by omega, hpu, by rw [hpx]; exact hx2, (hblk.set_ _ _).below hb3 (by omega), hown3, (hbel.setCell (Nat.le_refl _) _).trans (hb3.mono (by omega)), ?_, ?_, by omega⟩
                    · exact hjs.same (fun a ha _ => by injection ha with ha; subst ha; exact q5) (by omega)
                    · intro _ a ha; injection ha with ha; subst ha; exact ⟨q1, q4⟩
                · have hs2 : 0 ≤ fa fs2 (preds g x)[k] := by omega
                  go_wp2
                  go_roundg (gk - 1)
                  case measure => omega
                  case rel => exact ⟨fs2, q2, k + 1, by go_num, by omega, by omega, hinv.out.skip hlt hs2, hx2, hblk, hown, hbel, hjs, hap, hm4⟩
              · go_wp2
                go_roundg (G - 1)
                case measure => omega
                case rel => exact ⟨fs2, q2, _, hinv.out.done_ (by omega), hblk, hown, hbel, by omega, by omega⟩
          · have hown7 : OwnQ wr (w.heap.size + 1) (.slice (some ⟨g7, off7 + 1, none⟩) q.length (cap7 - 1)) q := by
              have h := HQ.out
              rwa [if_neg (by omega)] at h
            clear HQ
            go_wp2_with fail
            refine (HP.out wr hbel).mono ?_
            rintro e w1 ⟨A1, c1, rfl, hjs, hloc, hb1⟩
            have hblk1 := hblk.below hb1 hblk.lt
            have hown1 := hown7.below hb1 (Nat.le_refl _)
            have hbel1 := hbel.trans (hb1.mono hbel.size)
            have hL : (preds g x).length ≤ g.length := idxs_length _ _
            have HLOC : Hid (0 < (preds g x).length → ∀ a, A1 = some a → a.block ≠ w.heap.size ∧ a.block ≠ g7) := fun h0 a ha => by have h1 := hloc h0 a ha; have h2 := hbel.size; omega
            clear hloc hblk hown7 hcell hbel
            go_wp2_with fail
            go_loopg [7, 40] (preds g x).length (fun m2 v7 c w2 => ∃ (fs2 q2 : List Int) (k : Nat), c = .int .i64 (k : Int) ∧ k ≤ (preds g x).length ∧ (preds g x).length ≤ k + m2 ∧ Hid (QInv g to fs2 q2 (fa fs2 x) (fun z y => z = x ∧ y ∈ (preds g x).drop k)) ∧ 0 ≤ fa fs2 x ∧
              IntBlk w2 w.heap.size fs2 ∧ OwnQ w2 (w.heap.size + 1) v7 q2 ∧ Below w.heap.size w w2 ∧ IntsAt w2 w2.heap.size A1 (preds g x) ∧ Hid (0 < (preds g x).length → ∀ a, A1 = some a → a.block ≠ w.heap.size ∧ v7.ownBlock ≠ some a.block) ∧ 2 * una fs2 + q2.length ≤ 2 * una fs + q.length)
            case atStart => exact ⟨fs, q, 0, rfl, Nat.zero_le _, by omega, hpop.out, hx0, hblk1, hown1, hbel1, hjs, fun h0 a ha => ⟨(HLOC.out h0 a ha).1, by have := (HLOC.out h0 a ha).2; simp [Value.ownBlock]; omega⟩, Nat.le_refl _⟩
            case round =>
              clear hblk1 hown1 hbel1 hjs
              obtain ⟨fs2, q2, k, rfl, hk, hkm, hinv, hx2, hblk, hown, hbel, hjs, hap, hm4⟩ := hrel
              by_cases hlt : k < (preds g x).length
              · obtain ⟨b2, off2, rfl, hb2, hc2⟩ := hjs.get hlt rfl
                have hyr := (mem_preds.1 (List.getElem_mem hlt)).1
                have HYR := Lib.hid hyr
                obtain ⟨hy1, hy2⟩ := hyr
                obtain ⟨hx1, hx3⟩ := HXR.out
                have hfl := Lib.hid hinv.out.len
                have hcy : wr.cell? ⟨w.heap.size, (preds g x)[k].toNat, none⟩ = some (.int .i64 (fa fs2 (preds g x)[k])) := hblk.cell (by rw [hfl.out]; omega) (fa_get hfl.out HYR.out)
                by_cases hs : fa fs2 (preds g x)[k] < 0
                · have hcx : wr.cell? ⟨w.heap.size, x.toNat, none⟩ = some (.int .i64 (fa fs2 x)) := hblk.cell (by rw [hfl.out]; omega) (fa_get hfl.out HXR.out)
                  have hfz : wr.frozen? ⟨w.heap.size, (preds g x)[k].toNat, none⟩ = false := hblk.free _
                  have hbx := hinv.out.small x HXR.out hx2
                  have hxb : fa fs2 x ≤ 40 := by omega
                  have hln : (q2 ++ [(preds g x)[k]]).length = q2.length + 1 := by simp
                  have hun := una_set (v := fa fs2 x + 1) hfl.out HYR.out hs (by omega)
                  have hun2 := Lib.hid hun
                  clear hun hbx
                  go_wp2_with (at_builtin; refine pushQ rfl _ _ rfl _ _ _ _ _ rfl (hown.setCell (by simp) _) _ rfl (by simp [World.setCell]) (by omega) ?_; intro v' w3 hown3 hb3 hsp3)
                  have hun := hun2.out
                  obtain ⟨hpu, hpx⟩ := hinv.out.push HXR.out hx2 HT.out hlt hs
                  obtain ⟨q1, q2'⟩ := hap.out (by omega) _ rfl
                  have hzz : (wr.setCell ⟨w.heap.size, (preds g x)[k].toNat, none⟩ (.int .i64 (fa fs2 x + 1))).heap.size = wr.heap.size := by simp [World.setCell]
                  obtain ⟨q3, q4⟩ := hsp3 b2 (by rw [hzz]; exact hb2) q2'
                  have q5 := q3.trans (Below.heap_setCell wr ⟨w.heap.size, (preds g x)[k].toNat, none⟩ (.int .i64 (fa fs2 x + 1)) b2 q1)
                  have q6 := hb3.size
                  go_roundg (gk - 1)
                  case measure => omega
                  case rel =>
                    refine ⟨fs2.set (preds g x)[k].toNat (fa fs2 x + 1), q2 ++ [(preds g x)[k]], k + 1, by go_num, by omega, by omega, hpu, by rw [hpx]; exact hx2, (hblk.set_ _ _).below hb3 (by omega), hown3, (hbel.setCell (Nat.le_refl _) _).trans (hb3.mono (by omega)), ?_, ?_, by omega⟩
                    · exact hjs.same (fun a ha _ => by injection ha with ha; subst ha; exact q5) (by omega)
                    · intro _ a ha; injection ha with ha; subst ha; exact ⟨q1, q4⟩
                · have hs2 : 0 ≤ fa fs2 (preds g x)[k] := by omega
                  go_wp2
                  go_roundg (gk - 1)
                  case measure => omega
                  case rel => exact ⟨fs2, q2, k + 1, by go_num, by omega, by omega, hinv.out.skip hlt hs2, hx2, hblk, hown, hbel, hjs, hap, hm4⟩
              · go_wp2
                go_roundg (G - 1)
                case measure => omega
                case rel => exact ⟨fs2, q2, _, hinv.out.done_ (by omega), hblk, hown, hbel, by omega, by omega⟩
end Go.Proofs.Ytgdeekghngpcfaa
