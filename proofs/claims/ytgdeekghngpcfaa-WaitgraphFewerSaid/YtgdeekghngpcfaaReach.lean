/- The nodes that are reachable from a node: the program's answer and the reference's. -/
import Derived.Test.YtgdeekghngpcfaaSearch
import Derived.Test.YtgdeekghngpcfaaSlices
import Derived.Test.YtgdeekghngpcfaaValid
import Derived.Test.YtgdeekghngpcfaarValid
namespace Go.Proofs.Ytgdeekghngpcfaa
open Go.RowKit

/-- l lists, ascending, the numbers below n that meet P. -/
def IsSet (n : Nat) (P : Int → Prop) (l : List Int) : Prop := ∃ f : Nat → Bool, (∀ j, j < n → (f j = true ↔ P j)) ∧ l = idxs f n
theorem idxs_congr {f f' : Nat → Bool} (n : Nat) (h : ∀ j, j < n → f j = f' j) : idxs f n = idxs f' n := by
  unfold idxs
  rw [List.filter_congr fun j hj => h j (List.mem_range.1 hj)]
theorem IsSet.unique {n : Nat} {P : Int → Prop} {l l' : List Int} (h : IsSet n P l) (h' : IsSet n P l') : l = l' := by
  obtain ⟨f, hf, rfl⟩ := h
  obtain ⟨f', hf', rfl⟩ := h'
  exact idxs_congr n fun j hj => by rw [Bool.eq_iff_iff, hf j hj, hf' j hj]

def ReachSpec (g : Gr) (i : Int) (l : List Int) : Prop := (ValidG g ∧ InR g.length i → IsSet g.length (Reach1 (succs g) i) l) ∧ (¬ (ValidG g ∧ InR g.length i) → l = [])

theorem ValidG.range {g : Gr} (h : ValidG g) : ∀ x, InR g.length x → ∀ y ∈ succs g x, InR g.length y := by
  intro x hx y hy
  have hlt : x.toNat < g.length := by have := hx.1; have := hx.2; omega
  rw [succs_eq hlt] at hy
  obtain ⟨j, hj, rfl⟩ := List.getElem_of_mem hy
  have := (h.2 _ hlt).2.2.2 j hj hj
  exact ⟨this.1, this.2.1⟩
theorem FitsG.short {g : Gr} (h : FitsG g) : ∀ x, InR g.length x → (succs g x).length ≤ 40 := by
  intro x hx
  have hlt : x.toNat < g.length := by have := hx.1; have := hx.2; omega
  rw [succs_eq hlt]
  exact (h.2 _ hlt).1
theorem at_nat {bs : List Bool} {n : Nat} {P : Int → Prop} (h : ∀ x, InR n x → (at_ bs x = true ↔ P x)) : IsSet n P (idxs (fun i => bs.getD i false) n) :=
  ⟨_, fun j hj => h j ⟨by omega, by omega⟩, rfl⟩

set_option maxHeartbeats 800000 in
theorem Reach_any (A : Option Addr) (cap : Nat) (g : Gr) (i : Int) (w : World) (hf : FitsG g) (hr : GraphAt w w.heap.size A g) :
    Calls Try.prog 17 #[.slice A g.length cap, .int .i64 i] w (RetInts w (ReachSpec g i)) := by
  have hlen : g.length ≤ 40 := hf.1
  go_enter Try.func17, Try.ntmps17
  go_wp2_with fail
  refine (Valid_any A cap g w hf hr).mono ?_
  rintro e w1 ⟨r, rfl, hv, hb⟩
  have HV := Lib.hid hv
  clear hv
  cases r with
  | false =>
    go_wp2
    go_ret
    exact ⟨none, [], 0, rfl, NewInts.nil _ _ _, ⟨fun h => absurd (HV.out.2 h.1) (by simp), fun _ => rfl⟩, by simp, hb⟩
  | true =>
    by_cases hx : InR g.length i
    · obtain ⟨hx1, hx2⟩ := hx
      have hgr := hr.below hb (Nat.le_refl _) hb.size
      have hvg := Lib.hid (HV.out.1 rfl)
      go_wp2_with fail
      refine (search_any 30 g.length (succs g) i A cap _ hlen ⟨hx1, hx2⟩ hvg.out.range hf.short (fun _ _ => by kernel_rfl) (fun W x hW hx => next_any A cap _ g x W hlen hx hW.size (hgr.below hW (Nat.le_refl _) (Nat.le_refl _)))).mono ?_
      rintro e w2 ⟨gs, bs, c2, rfl, hblk, ⟨hbl, hbs⟩, hb2⟩
      have HBL := Lib.hid hbl
      have HBS := Lib.hid hbs
      clear hbl hbs
      go_wp2_with fail
      refine (members_any _ c2 bs w2 (by rw [HBL.out]; omega) (hblk.at_ hblk.lt)).mono ?_
      rintro e w3 ⟨A3, l3, c3, rfl, h3, hl3, hle, hb3⟩
      have HL3 := Lib.hid hl3
      clear hl3
      go_wp2
      go_ret
      refine ⟨A3, l3, c3, rfl, h3.older (Nat.le_trans hb.size hb2.size), ⟨fun _ => ?_, fun h => absurd ⟨hvg.out, hx1, hx2⟩ h⟩, hle, hb.trans ((hb2.mono hb.size).trans (hb3.mono (Nat.le_trans hb.size hb2.size)))⟩
      rw [HL3.out, HBL.out]
      exact at_nat HBS.out
    · have hx3 := Lib.hid hx
      have hsp : i < 0 ∨ (0 ≤ i ∧ (g.length : Int) ≤ i) := by unfold InR at hx; omega
      clear hx
      rcases hsp with h1 | ⟨h1, h2⟩
      all_goals
        go_wp2
        go_ret
        exact ⟨none, [], 0, rfl, NewInts.nil _ _ _, ⟨fun h => absurd h.2 hx3.out, fun _ => rfl⟩, by simp, hb⟩

theorem GraphAt.node {w : World} {B b off : Nat} {g : Gr} (h : GraphAt w B (some ⟨b, off, none⟩) g) {i : Nat} (hi : i < g.length) :
    ∃ nA ncap, b < B ∧ w.cell? ⟨b, off + i * 2, none⟩ = some (.int .i64 g[i].k) ∧ w.cell? ⟨b, off + i * 2 + 1, none⟩ = some (.slice nA g[i].next.length ncap) ∧ IntsAt w B nA g[i].next := by
  obtain ⟨b', off', nA, ncap, he, h1, h2, h3, h4⟩ := h i hi
  injection he with he
  injection he with e1 e2
  subst e1 e2
  exact ⟨nA, ncap, h1, h2, h3, h4⟩

/-- The numbers below k at which the array is false ¦ true, as the reference collects them. -/
theorem bs_get {bs : List Bool} {n k : Nat} (hl : bs.length = n) (hk : k < n) {x : Bool} (h : bs.getD k false = x) : bs[k]'(by omega) = x := by
  rw [List.getD_eq_getElem?_getD, List.getElem?_eq_getElem (by omega)] at h
  simpa using h

theorem bs_at {bs : List Bool} {n : Nat} (hl : bs.length = n) {y : Int} (hy : InR n y) {x : Bool} (h : at_ bs y = x) : bs[y.toNat]'(by have := hy.1; have := hy.2; omega) = x := by
  unfold at_ at h
  rw [List.getD_eq_getElem?_getD, List.getElem?_eq_getElem (by have := hy.1; have := hy.2; omega)] at h
  simpa using h

set_option maxHeartbeats 1600000 in
theorem rReach_any (A : Option Addr) (cap : Nat) (g : Gr) (i : Int) (w : World) (hf : FitsG g) (hr : GraphAt w w.heap.size A g) :
    Calls Try.prog 18 #[.slice A g.length cap, .int .i64 i] w (RetInts w (ReachSpec g i)) := by
  have hlen : g.length ≤ 40 := hf.1
  have hmk := mkBools g.length (by omega)
  go_enter Try.func18, Try.ntmps18
  go_wp2_with fail
  refine (rValid_any A cap g w hf hr).mono ?_
  rintro e w1 ⟨r, rfl, hv, hb⟩
  have HV := Lib.hid hv
  clear hv
  cases r with
  | false =>
    go_wp2
    go_ret
    exact ⟨none, [], 0, rfl, NewInts.nil _ _ _, ⟨fun h => absurd (HV.out.2 h.1) (by simp), fun _ => rfl⟩, by simp, hb⟩
  | true =>
    by_cases hx : InR g.length i
    · have HX := Lib.hid hx
      obtain ⟨hx1, hx2⟩ := hx
      have hgr := hr.below hb (Nat.le_refl _) hb.size
      have hvg := Lib.hid (HV.out.1 rfl)
      have hlt : i.toNat < g.length := by omega
      obtain ⟨b, off, nA, ncap, rfl, hbb, hc1, hc2, hN⟩ := hgr i.toNat hlt
      have HN := Lib.hid hN
      have HS := Lib.hid (succs_eq hlt)
      have hn40 := (hf.2 _ hlt).1
      clear hN hc1
      have hb2 := ((Below.refl w1.heap.size w1).alloc (Nat.le_refl _) (.cells (madeCells #[.bool false] g.length) 4)).alloc (by simp) (.cells #[] 3)
      go_wp2_with (at_builtin; refine pushInts rfl _ _ rfl _ (w1.heap.size + 1) _ [] g[i.toNat].next _ nA ncap rfl (OwnInts.zero _ _ _ (by simp) (by simp)) rfl (HN.out.below (B'' := w1.heap.size) hb2 (Nat.le_refl _) (Nat.le_refl _)) (by simp; omega) ?_; intro v6 w2 hown2 hb3 _)
      have HST := Lib.hid (RInv.start g.length (succs g) i HX.out hvg.out.range)
      rw [HS.out] at HST
      have hblk := (BoolBlk.new w1 g.length).below (((Below.refl _ (w1.alloc (.cells (madeCells #[.bool false] g.length) 4))).alloc (Nat.le_refl _) (.cells #[] 3)).mono (Nat.le_refl _)) (by simp)
      have hblk2 := hblk.below hb3 (Nat.lt_succ_self _)
      have hbel2 := hb2.trans (hb3.mono (by omega))
      clear hc2 hmk hblk hb2 hb3
      go_loopg [6] 2000 (fun m v6 wr => ∃ bs st, Hid (RInv g.length (succs g) i bs st) ∧ BoolBlk wr w1.heap.size bs ∧ OwnInts wr (w1.heap.size + 1) v6 st ∧ Below w1.heap.size w1 wr ∧ 41 * unseen bs + st.length ≤ m ∧ m ≤ 2000)
      case atStart => exact ⟨_, _, HST.out, hblk2, hown2, hbel2, by simp [unseen, List.countP_replicate]; omega, Nat.le_refl _⟩
      case round =>
        clear hblk2 hown2 hbel2
        obtain ⟨bs, st, hinv, hblk, hown, hbel, hm1, hm2⟩ := hrel
        rcases List.eq_nil_or_concat st with rfl | ⟨l, x, hst⟩
        · obtain ⟨A8, c8, hv, _⟩ := hown.form
          obtain rfl : u6 = .slice A8 0 c8 := hv
          have hfin := Lib.hid (hinv.out.found hvg.out.range HX.out)
          have hbl := Lib.hid hinv.out.len
          clear hm1 hinv hown
          go_wp2
          go_loopg [8, 9] g.length (fun m v8 c wq => ∃ k : Nat, k ≤ g.length ∧ c = .int .i64 (k : Int) ∧ g.length ≤ k + m ∧ Below w1.heap.size w1 wq ∧ BoolBlk wq w1.heap.size bs ∧ OwnInts wq (w1.heap.size + 1) v8 (idxs (fun j => bs.getD j false) k))
          case atStart => exact ⟨0, Nat.zero_le _, rfl, by omega, hbel, hblk, OwnInts.nil _ _ hblk.lt⟩
          case round =>
            clear hbel hblk
            obtain ⟨k, hk, rfl, hkm, hbel, hblk, hown⟩ := hrel
            by_cases hlt3 : k < g.length
            · have hst := Lib.hid (idxs_succ (fun j => bs.getD j false) k)
              have hle := idxs_length (fun j => bs.getD j false) k
              cases hbk : bs.getD k false with
              | true =>
                have hcs : wr.cell? ⟨w1.heap.size, k, none⟩ = some (.bool true) := hblk.cell (by rw [hbl.out]; exact hlt3) (bs_get hbl.out hlt3 hbk)
                have HB := Lib.hid hbk
                clear hbk
                go_wp2_with (at_builtin; refine pushInt rfl _ _ rfl _ _ _ _ _ rfl hown _ rfl rfl (by omega) ?_; intro v' w3 hown3 hb3 _)
                go_roundg (gk - 1)
                case measure => omega
                case rel =>
                  have e : idxs (fun j => bs.getD j false) (k + 1) = idxs (fun j => bs.getD j false) k ++ [(k : Int)] := by rw [hst.out, if_pos HB.out]
                  exact ⟨k + 1, by omega, by go_num, by omega, hbel.trans (hb3.mono (by omega)), hblk.below hb3 (Nat.lt_succ_self _), by rw [e]; exact hown3⟩
              | false =>
                have hcs : wr.cell? ⟨w1.heap.size, k, none⟩ = some (.bool false) := hblk.cell (by rw [hbl.out]; exact hlt3) (bs_get hbl.out hlt3 hbk)
                have HB := Lib.hid hbk
                clear hbk
                go_wp2
                go_roundg (gk - 1)
                case measure => omega
                case rel =>
                  have e : idxs (fun j => bs.getD j false) (k + 1) = idxs (fun j => bs.getD j false) k := by rw [hst.out, HB.out]; rfl
                  exact ⟨k + 1, by omega, by go_num, by omega, hbel, hblk, by rw [e]; exact hown⟩
            · obtain rfl : k = g.length := by omega
              obtain ⟨A', cap', e, h, _⟩ := hown.form
              have hle := idxs_length (fun j => bs.getD j false) g.length
              go_wp2
              go_ret
              refine ⟨A', _, cap', by show Ending.returned u8 = _; rw [e], hown.new e (by have := hb.size; omega), ⟨fun _ => at_nat hfin.out, fun h => absurd ⟨hvg.out, HX.out⟩ h⟩, by omega, hb.trans (hbel.mono hb.size)⟩
        · rw [List.concat_eq_append] at hst
          subst hst
          obtain ⟨g8, cap8, rfl, hg8, hg8', hc8, hl8, hcell, hpop⟩ := hown.last
          have hx := (hinv.out.stack x (by simp)).1
          obtain ⟨hx1, hx2⟩ := hx
          have hxn : x.toNat < g.length := by omega
          obtain ⟨nA2, ncap2, hbb2, hd1, hd2, hN2⟩ := (hgr.below hbel (Nat.le_refl _) (Nat.le_refl _)).node hxn
          have hfs : wr.frozen? ⟨w1.heap.size, x.toNat, none⟩ = false := hblk.free _
          have hlst : (l ++ [x]).length = l.length + 1 := by simp
          have hm3 : 41 * unseen bs + l.length + 1 ≤ gk := by omega
          clear hlst hm1 hd1
          cases hs : at_ bs x with
          | true =>
            have hcs : wr.cell? ⟨w1.heap.size, x.toNat, none⟩ = some (.bool true) := hblk.cell (by rw [hinv.out.len]; exact hxn) (bs_at hinv.out.len ⟨hx1, hx2⟩ hs)
            have HSS := Lib.hid hs
            clear hs
            go_wp2
            go_roundg (gk - 1)
            case measure => omega
            case rel => exact ⟨bs, l, hinv.out.skip HSS.out, hblk, hpop, hbel, by omega, by omega⟩
          | false =>
            have hcs : wr.cell? ⟨w1.heap.size, x.toNat, none⟩ = some (.bool false) := hblk.cell (by rw [hinv.out.len]; exact hxn) (bs_at hinv.out.len ⟨hx1, hx2⟩ hs)
            have HSS := Lib.hid hs
            have hsrc := Lib.hid (hN2.below (w' := wr.setCell ⟨w1.heap.size, x.toNat, none⟩ (.bool true)) ((Below.refl w1.heap.size wr).setCell (Nat.le_refl _) _) (Nat.le_refl _) (Nat.le_refl _))
            have hn2 := (hf.2 _ hxn).1
            clear hs hN2
            go_wp2_with (at_builtin; refine pushInts rfl _ _ rfl _ (w1.heap.size + 1) _ l g[x.toNat].next w1.heap.size nA2 ncap2 rfl (hpop.setCell (by simp) _) rfl hsrc.out (by omega) ?_; intro v6 w2 hown2 hb3 _)
            have hus := unseen_set (x := x) hinv.out.len ⟨hx1, hx2⟩ HSS.out
            have hln : (l ++ g[x.toNat].next).length = l.length + g[x.toNat].next.length := by simp
            have hmk := hinv.out.mark hvg.out.range HX.out
            rw [succs_eq hxn] at hmk
            go_roundg (gk - 1)
            case measure => omega
            case rel =>
              exact ⟨bs.set x.toNat true, l ++ g[x.toNat].next, hmk, (hblk.set_ _ true).below hb3 (Nat.lt_succ_self _), hown2, (hbel.setCell (Nat.le_refl _) _).trans (hb3.mono (by omega)), by omega, by omega⟩
    · have hx3 := Lib.hid hx
      have hsp : i < 0 ∨ (0 ≤ i ∧ (g.length : Int) ≤ i) := by unfold InR at hx; omega
      clear hx
      rcases hsp with h1 | ⟨h1, h2⟩
      all_goals
        go_wp2
        go_ret
        exact ⟨none, [], 0, rfl, NewInts.nil _ _ _, ⟨fun h => absurd h.2 hx3.out, fun _ => rfl⟩, by simp, hb⟩
end Go.Proofs.Ytgdeekghngpcfaa
