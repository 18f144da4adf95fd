/- Part 24 of 49 of the proof of waitgraphOf_holds (no condition). -/
import Derived.Test.YtogeihdfmnohnaaGreatDoorK23
import Derived.Test.YtogeihdfmnohnaaGreatDoorK19
set_option linter.unusedVariables false
set_option linter.unusedSimpArgs false
namespace Go.Proofs.YtogeihdfmnohnaaGreatDoor
open Go.RowKit
set_option maxHeartbeats 1600000 in
theorem chas_any (A2 A3 : Option Addr) (c2 c3 B : Nat) (L : List Tm) (set : List Bool) (nm : ByteArray) (m u : Int) (w : World) (hB : B ≤ w.heap.size) (hL : RowsAt tmE w (Lo B) A2 L) (hL8 : L.length ≤ 1000) (hS : RowsAt boolE w (Lo B) A3 set) (hS8 : set.length ≤ 1000) :
    Calls Tryz.prog 122 #[.agg #[.slice A2 L.length c2, .slice A3 set.length c3], .agg #[.string nm, .int .i64 m, .int .i64 u]] w (Ret w (.bool (lookS L set ⟨nm, ⟨m, u⟩⟩))) := by
  have HF := Lib.hid (fun W (hb : Below w.heap.size w W) => IndexAtom_any A2 B c2 L nm m u W (by unfold maxLen; omega) (Nat.le_trans hB hb.size) (hL.below hb hB (Nat.le_refl _)))
  have HS := Lib.hid hS
  have HI := Lib.hid (idxA_spec ⟨nm, ⟨m, u⟩⟩ L 0 set)
  clear hL hS
  generalize idxA ⟨nm, ⟨m, u⟩⟩ 0 L = i at *
  generalize lookS L set ⟨nm, ⟨m, u⟩⟩ = q at *
  have HI2 : Hid ((i = -1 ∧ q = false) ∨ ∃ j : Nat, i = (j : Int) ∧ q = (set.drop j).headD false) := Lib.hid (by
    rcases HI.out with ⟨h1, _, h2⟩ | ⟨j, _, h1, _, h2⟩
    · exact .inl ⟨h1, h2⟩
    · exact .inr ⟨j, by rw [h1, Nat.zero_add], h2⟩)
  clear HI
  rcases HI2.out with ⟨rfl, rfl⟩ | ⟨j, rfl, hq⟩
  · go_enter Tryz.func122, Tryz.ntmps122
    go_wp2_with fail
    refine (HF.out _ (by (repeat (first | (with_reducible exact Below.refl _ _) | (with_reducible assumption) | (with_reducible refine below_drewN ?_ _) | (with_reducible refine Below.drew ?_) | (with_reducible refine Below.al ?_ _) | (with_reducible refine Below.st ?_ (by simp; try omega)) | (with_reducible refine Below.tr ?_ (Hid.out (by assumption))) | (with_reducible exact Hid.out (by assumption)))))).mono ?_
    rintro e w2 ⟨rfl, hb2⟩
    have HB2 := Lib.hid hb2
    clear hb2
    go_wp2_with fail
    go_ret
    exact ⟨rfl, by (repeat (first | (with_reducible exact Below.refl _ _) | (with_reducible assumption) | (with_reducible refine below_drewN ?_ _) | (with_reducible refine Below.drew ?_) | (with_reducible refine Below.al ?_ _) | (with_reducible refine Below.st ?_ (by simp; try omega)) | (with_reducible refine Below.tr ?_ (Hid.out (by assumption))) | (with_reducible exact Hid.out (by assumption))))⟩
  · have hj0 : (0 : Int) ≤ (j : Int) := by omega
    by_cases hlt : j < set.length
    · have hlti : (j : Int) < (set.length : Int) := by omega
      obtain ⟨y, hy⟩ : ∃ x, set[j] = x := ⟨_, rfl⟩
      have HQ : Hid (q = y) := Lib.hid (by rw [hq, drop_step hlt hy]; rfl)
      clear hq HI2
      go_enter Tryz.func122, Tryz.ntmps122
      go_wp2_with fail
      refine (HF.out _ (by (repeat (first | (with_reducible exact Below.refl _ _) | (with_reducible assumption) | (with_reducible refine below_drewN ?_ _) | (with_reducible refine Below.drew ?_) | (with_reducible refine Below.al ?_ _) | (with_reducible refine Below.st ?_ (by simp; try omega)) | (with_reducible refine Below.tr ?_ (Hid.out (by assumption))) | (with_reducible exact Hid.out (by assumption)))))).mono ?_
      rintro e w2 ⟨rfl, hb2⟩
      have HB2 : Hid (Below w.heap.size w w2) := Lib.hid (Below.tr (Below.al (Below.al (Below.refl _ _) _) _) hb2)
      obtain ⟨g2, off2, rfl, hbl3, e0⟩ := bo_cell (HS.out.below (B'' := B) HB2.out hB (Nat.le_refl _)) hlt hy
      have hbl4 : g2 < w2.heap.size := Nat.lt_of_lt_of_le hbl3 (Nat.le_trans hB HB2.out.size)
      have x1 : w2.cell? ⟨w.heap.size, 1, none⟩ = some (.slice (some ⟨g2, off2, none⟩) set.length c3) := by
        have h1 := hb2.cell (p := ⟨w.heap.size, 1, none⟩) (by simp; omega)
        rw [h1]
        simp
      have hz : w.heap.size < w2.heap.size := by have := hb2.size; simp at this; omega
      clear hy hbl3 hb2
      go_wp2_with fail
      go_ret
      exact ⟨ret_bool HQ.out.symm, HB2.out⟩
    · have hlti : ¬ (j : Int) < (set.length : Int) := by omega
      have HQ : Hid (q = false) := Lib.hid (by rw [hq, List.drop_eq_nil_of_le (by omega)]; rfl)
      clear hq HI2
      go_enter Tryz.func122, Tryz.ntmps122
      go_wp2_with fail
      refine (HF.out _ (by (repeat (first | (with_reducible exact Below.refl _ _) | (with_reducible assumption) | (with_reducible refine below_drewN ?_ _) | (with_reducible refine Below.drew ?_) | (with_reducible refine Below.al ?_ _) | (with_reducible refine Below.st ?_ (by simp; try omega)) | (with_reducible refine Below.tr ?_ (Hid.out (by assumption))) | (with_reducible exact Hid.out (by assumption)))))).mono ?_
      rintro e w2 ⟨rfl, hb2⟩
      have HB2 : Hid (Below w.heap.size w w2) := Lib.hid (Below.tr (Below.al (Below.al (Below.refl _ _) _) _) hb2)
      have x1 : w2.cell? ⟨w.heap.size, 1, none⟩ = some (.slice A3 set.length c3) := by
        have h1 := hb2.cell (p := ⟨w.heap.size, 1, none⟩) (by simp; omega)
        rw [h1]
        simp
      have hz : w.heap.size < w2.heap.size := by have := hb2.size; simp at this; omega
      clear hb2
      go_wp2_with fail
      go_ret
      exact ⟨ret_bool HQ.out.symm, HB2.out⟩
set_option maxHeartbeats 6400000 in
theorem eval_any : ∀ (d : Nat) (x : Ex) (A A2 A3 : Option Addr) (cap c2 c3 B : Nat) (L : List Tm) (set : List Bool) (w : World) (hx : ExF w B d A x) (hL : RowsAt tmE w (Lo B) A2 L) (hL8 : L.length ≤ 1000) (hS : RowsAt boolE w (Lo B) A3 set) (hS8 : set.length ≤ 1000),
    Calls Tryz.prog 123 #[x.val A cap, .func (.func 122) #[.agg #[.slice A2 L.length c2, .slice A3 set.length c3]] #[]] w (Ret w (.bool (evS (lookS L set) x))) := by
  intro d
  induction d using Nat.strongRecOn with
  | ind d ih =>
    intro x A A2 A3 cap c2 c3 B L set w hx hL hL8 hS hS8
    obtain ⟨k, ⟨nm, ⟨m, u⟩⟩, l⟩ := x
    obtain ⟨hm, hBw, hr⟩ := hx
    unfold Ex.val
    rw [evS_mk]
    dsimp only [Ex.k, Ex.atom, Ex.kids] at hm hr ⊢
    have IH := Lib.hid ih
    have HR := Lib.hid hr
    have HL := Lib.hid hL
    have HS := Lib.hid hS
    clear hr ih hL hS
    cases hE : l.isEmpty with
    | true =>
      obtain rfl := List.isEmpty_iff.1 hE
      have HH := Lib.hid (fun W (hb : Below w.heap.size w W) => chas_any A2 A3 c2 c3 B L set nm m u W (Nat.le_trans hBw hb.size) (HL.out.below hb hBw (Nat.le_refl _)) hL8 (HS.out.below hb hBw (Nat.le_refl _)) hS8)
      simp only [cond_true]
      generalize lookS L set ⟨nm, ⟨m, u⟩⟩ = q at *
      go_enter Tryz.func123, Tryz.ntmps123
      go_wp2_with fail
      refine (HH.out _ (by (repeat (first | (with_reducible exact Below.refl _ _) | (with_reducible assumption) | (with_reducible refine below_drewN ?_ _) | (with_reducible refine Below.drew ?_) | (with_reducible refine Below.al ?_ _) | (with_reducible refine Below.st ?_ (by simp; try omega)) | (with_reducible refine Below.tr ?_ (Hid.out (by assumption))) | (with_reducible exact Hid.out (by assumption)))))).mono ?_
      rintro e w2 ⟨rfl, hb2⟩
      have HB2 := Lib.hid hb2
      clear hb2
      go_wp2_with fail
      go_ret
      exact ⟨rfl, by (repeat (first | (with_reducible exact Below.refl _ _) | (with_reducible assumption) | (with_reducible refine below_drewN ?_ _) | (with_reducible refine Below.drew ?_) | (with_reducible refine Below.al ?_ _) | (with_reducible refine Below.st ?_ (by simp; try omega)) | (with_reducible refine Below.tr ?_ (Hid.out (by assumption))) | (with_reducible exact Hid.out (by assumption))))⟩
    | false =>
      have hl0 : ¬ (l.length : Int) = 0 := by
        have : l ≠ [] := fun e => by rw [e] at hE; cases hE
        have := List.length_pos_iff.2 this
        omega
      simp only [cond_false]
      have hl0' : ((l.length : Int) == 0) = false := by simpa using hl0
      obtain ⟨r, hr⟩ : ∃ r, decide (k ≤ (evN (lookS L set) l : Int)) = r := ⟨_, rfl⟩
      rw [hr]
      have HQ : Hid (decide (k ≤ ((0 + evN (lookS L set) (l.drop 0) : Nat) : Int)) = r) := Lib.hid (by rw [List.drop_zero, Nat.zero_add]; exact hr)
      have hm2 := hm
      unfold maxLen at hm2
      clear hr
      go_enter Tryz.func123, Tryz.ntmps123
      go_wp2_with fail
      go_loopg [5, 19] l.length (fun m0 v5 v19 wq => ∃ kk n : Nat, v19 = .int .i64 (kk : Int) ∧ v5 = .int .i64 (n : Int) ∧ kk ≤ l.length ∧ l.length ≤ kk + m0 ∧ n ≤ kk ∧ Hid (decide (k ≤ ((n + evN (lookS L set) (l.drop kk) : Nat) : Int)) = r) ∧ Hid (Below (w.alloc (.cells #[.int .i64 k, .string nm, .int .i64 m, .int .i64 u, .slice A l.length cap] 58)).heap.size (w.alloc (.cells #[.int .i64 k, .string nm, .int .i64 m, .int .i64 u, .slice A l.length cap] 58)) wq))
      case atStart => exact ⟨0, 0, rfl, rfl, Nat.zero_le _, by omega, by omega, HQ, Lib.hid (Below.refl _ _)⟩
      case round =>
        obtain ⟨kk, n, rfl, rfl, hk, hkm, hn, HI, HB⟩ := hrel
        have hb := HB.out
        have HBW : Hid (Below w.heap.size w wr) := Lib.hid (Below.tr (Below.al (Below.refl _ _) _) hb)
        have x0 : wr.cell? ⟨w.heap.size, 0, none⟩ = some (.int .i64 k) := (hb.cell (p := ⟨w.heap.size, 0, none⟩) (by simp)).trans (cellNewA w _ _ 0)
        have hz0 : w.heap.size < wr.heap.size := by have := hb.size; simp at this; omega
        clear hb
        by_cases hlt : kk < l.length
        · obtain ⟨⟨k1, ⟨nm1, ⟨m1, u1⟩⟩, l1⟩, hx⟩ : ∃ x, l[kk] = x := ⟨_, rfl⟩
          obtain ⟨g1', off, A1, cap1, rfl, hbl, c0, c1, c2', c3', c4, hc1, hc2, d1, rfl, hr1⟩ := ex_cells (HR.out.below (B'' := B) HBW.out hBw (Nat.le_refl _)) hlt hx
          have hbl0 : g1' < B := hbl
          have hbl2 : g1' < wr.heap.size := by omega
          have hlti : (kk : Int) < (l.length : Int) := by omega
          have HX1 : Hid (ExF wr B d1 A1 (.mk k1 ⟨nm1, ⟨m1, u1⟩⟩ l1)) := Lib.hid ⟨Nat.le_trans hc1 hc2, by omega, hr1⟩
          have HQ2 : Hid (decide (k ≤ ((n + ((bif evS (lookS L set) (.mk k1 ⟨nm1, ⟨m1, u1⟩⟩ l1) then 1 else 0) + evN (lookS L set) (l.drop (kk + 1))) : Nat) : Int)) = r) := Lib.hid (by have h := HI.out; rw [drop_step hlt hx, evN_cons] at h; exact h)
          have HC : Hid (∀ W, Below wr.heap.size wr W → Calls Tryz.prog 123 #[.agg #[.int .i64 k1, .string nm1, .int .i64 m1, .int .i64 u1, .slice A1 l1.length cap1], .func (.func 122) #[.agg #[.slice A2 L.length c2, .slice A3 set.length c3]] #[]] W (Ret W (.bool (evS (lookS L set) (.mk k1 ⟨nm1, ⟨m1, u1⟩⟩ l1))))) := Lib.hid (fun W hb1 =>
            IH.out d1 (by omega) (.mk k1 ⟨nm1, ⟨m1, u1⟩⟩ l1) A1 A2 A3 cap1 c2 c3 B L set W (HX1.out.below hb1) (HL.out.below (Below.tr HBW.out hb1) hBw (Nat.le_refl _)) hL8 (HS.out.below (Below.tr HBW.out hb1) hBw (Nat.le_refl _)) hS8)
          generalize evS (lookS L set) (.mk k1 ⟨nm1, ⟨m1, u1⟩⟩ l1) = q1 at HC HQ2
          clear hx hbl hr1 hbl0
          go_wp2_with fail
          refine (HC.out _ (by (repeat (first | (with_reducible exact Below.refl _ _) | (with_reducible assumption) | (with_reducible refine below_drewN ?_ _) | (with_reducible refine Below.drew ?_) | (with_reducible refine Below.al ?_ _) | (with_reducible refine Below.st ?_ (by simp; try omega)) | (with_reducible refine Below.tr ?_ (Hid.out (by assumption))) | (with_reducible exact Hid.out (by assumption)))))).mono ?_
          rintro e w2 ⟨rfl, hb2⟩
          have HB2 : Hid (Below (w.alloc (.cells #[.int .i64 k, .string nm, .int .i64 m, .int .i64 u, .slice (some ⟨g1', off, none⟩) l.length cap] 58)).heap.size (w.alloc (.cells #[.int .i64 k, .string nm, .int .i64 m, .int .i64 u, .slice (some ⟨g1', off, none⟩) l.length cap] 58)) w2) := Lib.hid (Below.tr (Below.al HB.out _) hb2)
          clear hb2
          cases q1 with
          | true =>
            have HE : Hid (decide (k ≤ ((n + 1 + evN (lookS L set) (l.drop (kk + 1)) : Nat) : Int)) = r) := Lib.hid (by have h := HQ2.out; rw [cond_true, ← Nat.add_assoc] at h; exact h)
            go_wp2_with fail
            go_roundg (gk - 1)
            case measure => omega
            case rel => exact ⟨kk + 1, n + 1, by go_num, by go_num, by omega, by omega, by omega, HE, HB2⟩
          | false =>
            have HE : Hid (decide (k ≤ ((n + evN (lookS L set) (l.drop (kk + 1)) : Nat) : Int)) = r) := Lib.hid (by have h := HQ2.out; rw [cond_false, Nat.zero_add] at h; exact h)
            go_wp2_with fail
            go_roundg (gk - 1)
            case measure => omega
            case rel => exact ⟨kk + 1, n, by go_num, by go_num, by omega, by omega, by omega, HE, HB2⟩
        · have hlti : ¬ (kk : Int) < (l.length : Int) := by omega
          have HE : Hid (decide (k ≤ (n : Int)) = r) := Lib.hid (by have h := HI.out; rw [drop_end hlt] at h; exact h)
          go_wp2_with fail
          go_ret
          exact ⟨ret_bool HE.out, by (repeat (first | (with_reducible exact Below.refl _ _) | (with_reducible assumption) | (with_reducible refine below_drewN ?_ _) | (with_reducible refine Below.drew ?_) | (with_reducible refine Below.al ?_ _) | (with_reducible refine Below.st ?_ (by simp; try omega)) | (with_reducible refine Below.tr ?_ (Hid.out (by assumption))) | (with_reducible exact Hid.out (by assumption))))⟩
set_option maxHeartbeats 1600000 in
theorem holds_any (d : Nat) (x : Ex) (A A2 A3 : Option Addr) (cap c2 c3 B : Nat) (L : List Tm) (set : List Bool) (w : World) (hx : ExF w B d A x) (hL : RowsAt tmE w (Lo B) A2 L) (hL8 : L.length ≤ 1000) (hS : RowsAt boolE w (Lo B) A3 set) (hS8 : set.length ≤ 1000) :
    Calls Tryz.prog 86 #[x.val A cap, .slice A2 L.length c2, .slice A3 set.length c3] w (Ret w (.bool (evS (lookS L set) x))) := by
  have HE := Lib.hid (fun W (hb : Below w.heap.size w W) => eval_any d x A A2 A3 cap c2 c3 B L set W (hx.below hb) (hL.below hb hx.hB (Nat.le_refl _)) hL8 (hS.below hb hx.hB (Nat.le_refl _)) hS8)
  clear hx hL hS
  obtain ⟨k, ⟨nm, ⟨m, u⟩⟩, l⟩ := x
  unfold Ex.val at *
  dsimp only [Ex.k, Ex.atom, Ex.kids] at HE ⊢
  generalize evS (lookS L set) (.mk k ⟨nm, ⟨m, u⟩⟩ l) = q at *
  go_enter Tryz.func86, Tryz.ntmps86
  go_wp2_with fail
  refine (HE.out _ (by (repeat (first | (with_reducible exact Below.refl _ _) | (with_reducible assumption) | (with_reducible refine below_drewN ?_ _) | (with_reducible refine Below.drew ?_) | (with_reducible refine Below.al ?_ _) | (with_reducible refine Below.st ?_ (by simp; try omega)) | (with_reducible refine Below.tr ?_ (Hid.out (by assumption))) | (with_reducible exact Hid.out (by assumption)))))).mono ?_
  rintro e w2 ⟨rfl, hb2⟩
  have HB2 := Lib.hid hb2
  clear hb2
  go_wp2_with fail
  go_ret
  exact ⟨rfl, by (repeat (first | (with_reducible exact Below.refl _ _) | (with_reducible assumption) | (with_reducible refine below_drewN ?_ _) | (with_reducible refine Below.drew ?_) | (with_reducible refine Below.al ?_ _) | (with_reducible refine Below.st ?_ (by simp; try omega)) | (with_reducible refine Below.tr ?_ (Hid.out (by assumption))) | (with_reducible exact Hid.out (by assumption))))⟩
set_option maxHeartbeats 3200000 in
theorem Holds_any (d : Nat) (x : Ex) (A A3 : Option Addr) (cap c3 B : Nat) (set : List Bool) (w : World) (hx : ExF w B d A x) (hS : RowsAt boolE w (Lo B) A3 set) (hS8 : set.length ≤ 1000) :
    Calls Tryz.prog 49 #[x.val A cap, .slice A3 set.length c3] w (Ret w (.bool (holdsS x set))) := by
  have HA := Lib.hid (fun W (hb : Below w.heap.size w W) => Atoms_any d x A cap B W (hx.below hb))
  have HH := Lib.hid (fun W (hb : Below w.heap.size w W) (A2 : Option Addr) (c2 : Nat) (hL : RowsAt tmE W (Lo W.heap.size) A2 (atS x)) (hL8 : (atS x).length ≤ 1000) => holds_any d x A A2 A3 cap c2 c3 W.heap.size (atS x) set W ((hx.below hb).up (Nat.le_trans hx.hB hb.size) (Nat.le_refl _)) hL hL8 (hS.below hb hx.hB (Nat.le_trans hx.hB hb.size)) hS8)
  have HV := Lib.hid (veB_sh (x := x))
  have HN := Lib.hid (atS_no (x := x))
  have HQ : Hid (holdsS x set = (veB x && evS (lookS (atS x) set) x)) := Lib.hid rfl
  clear hx hS
  obtain ⟨k, ⟨nm, ⟨m, u⟩⟩, l⟩ := x
  unfold Ex.val at *
  dsimp only [Ex.k, Ex.atom, Ex.kids] at HA HH ⊢
  generalize evS (lookS (atS (.mk k ⟨nm, ⟨m, u⟩⟩ l)) set) (.mk k ⟨nm, ⟨m, u⟩⟩ l) = q at *
  generalize holdsS (.mk k ⟨nm, ⟨m, u⟩⟩ l) set = r at *
  generalize veB (.mk k ⟨nm, ⟨m, u⟩⟩ l) = V at *
  generalize atS (.mk k ⟨nm, ⟨m, u⟩⟩ l) = L at *
  go_enter Tryz.func49, Tryz.ntmps49
  go_wp2_with fail
  refine (HA.out _ (by (repeat (first | (with_reducible exact Below.refl _ _) | (with_reducible assumption) | (with_reducible refine below_drewN ?_ _) | (with_reducible refine Below.drew ?_) | (with_reducible refine Below.al ?_ _) | (with_reducible refine Below.st ?_ (by simp; try omega)) | (with_reducible refine Below.tr ?_ (Hid.out (by assumption))) | (with_reducible exact Hid.out (by assumption)))))).mono ?_
  rintro e w2 ⟨v, rfl, ho, hb2⟩
  have HB2 : Hid (Below w.heap.size w w2) := Lib.hid (Below.tr (Below.al (Below.refl _ _) _) hb2)
  obtain ⟨A2, c2, rfl, hr2, _, _⟩ := ho.form
  have HR2 := Lib.hid hr2
  obtain ⟨hc_w2, hf_w2⟩ := bcell hb2
  have hs_w2 := hb2.size
  (try simp at hs_w2)
  have hz_w2_0 : w.heap.size < w2.heap.size := (by omega)
  clear hs_w2
  clear hb2 ho hr2
  cases V with
  | false =>
    have hL0 : L.length = 0 := by rw [HN.out rfl]; rfl
    have hL1 : ¬ (0 : Int) < (L.length : Int) := by omega
    go_wp2_with fail
    go_ret
    exact ⟨ret_bool (by rw [HQ.out]; rfl), HB2.out⟩
  | true =>
    have hL1 : (0 : Int) < (L.length : Int) := by have := (HV.out (by trivial)).2.2.2.1; omega
    go_wp2_with fail
    refine (HH.out _ HB2.out A2 c2 HR2.out (by have := (HV.out (by trivial)).2.2.1; omega)).mono ?_
    rintro e w3 ⟨rfl, hb3⟩
    have HB3 : Hid (Below w.heap.size w w3) := Lib.hid (Below.tr HB2.out hb3)
    clear hb3
    go_wp2_with fail
    go_ret
    exact ⟨ret_bool (by rw [HQ.out]; rfl), HB3.out⟩
end Go.Proofs.YtogeihdfmnohnaaGreatDoor
namespace Go.Proofs.YtogeihdfmnohnaaGreatDoor
open Go.RowKit
structure Nd where
  proc : Pr
  expr : Ex
  gen : Int
def ndE (d : Nat) : El Nd where
  n := 9
  pos := by decide
  rep := fun w S x cs => ∃ A cap, cs = [.int .i64 x.proc.site, .int .i64 x.proc.inc, .int .i64 x.proc.num, .int .i64 x.expr.k, .string x.expr.atom.name, .int .i64 x.expr.atom.am.mode, .int .i64 x.expr.atom.am.units, .slice A x.expr.kids.length cap, .int .i64 x.gen] ∧ (x.expr.kids.length ≤ cap ∧ cap ≤ maxLen) ∧ RowsAt (exE d) w S A x.expr.kids
  len := fun h => by obtain ⟨A, cap, rfl, _⟩ := h; rfl
  one := fun h => by obtain ⟨A, cap, rfl, _⟩ := h; intro u hu; simp at hu; rcases hu with rfl | rfl | rfl | rfl | rfl | rfl | rfl | rfl | rfl <;> rfl
  same := fun h hk hS => by
    obtain ⟨A, cap, e, h1, h2⟩ := h
    exact ⟨A, cap, e, h1, h2.same hk hS⟩
theorem nd_cells {w : World} {B i d : Nat} {A : Option Addr} {l : List Nd} {a b c k m u gen : Int} {nm : ByteArray} {ks : List Ex} (h : RowsAt (ndE d) w (Lo B) A l) (hB : B ≤ w.heap.size) (hi : i < l.length) (hx : l[i] = ⟨⟨a, b, c⟩, .mk k ⟨nm, ⟨m, u⟩⟩ ks, gen⟩) :
    ∃ g off A1 c1, A = some ⟨g, off, none⟩ ∧ g < B ∧ w.cell? ⟨g, off + i * 9, none⟩ = some (.int .i64 a) ∧ w.cell? ⟨g, off + i * 9 + 1, none⟩ = some (.int .i64 b) ∧ w.cell? ⟨g, off + i * 9 + 2, none⟩ = some (.int .i64 c) ∧ w.cell? ⟨g, off + i * 9 + 3, none⟩ = some (.int .i64 k) ∧ w.cell? ⟨g, off + i * 9 + 4, none⟩ = some (.string nm) ∧
      w.cell? ⟨g, off + i * 9 + 5, none⟩ = some (.int .i64 m) ∧ w.cell? ⟨g, off + i * 9 + 6, none⟩ = some (.int .i64 u) ∧ w.cell? ⟨g, off + i * 9 + 7, none⟩ = some (.slice A1 ks.length c1) ∧ w.cell? ⟨g, off + i * 9 + 8, none⟩ = some (.int .i64 gen) ∧ ExF w B d A1 (.mk k ⟨nm, ⟨m, u⟩⟩ ks) := by
  obtain ⟨g, off, cs, hA, hS, hc, hd⟩ := h.getx hi hx
  obtain ⟨A1, c1, rfl, h1, h2⟩ := hc
  exact ⟨g, off, A1, c1, hA, hS, hd 0 (show 0 < 9 by decide), hd 1 (show 1 < 9 by decide), hd 2 (show 2 < 9 by decide), hd 3 (show 3 < 9 by decide), hd 4 (show 4 < 9 by decide), hd 5 (show 5 < 9 by decide), hd 6 (show 6 < 9 by decide), hd 7 (show 7 < 9 by decide), hd 8 (show 8 < 9 by decide), Nat.le_trans h1.1 h1.2, hB, h2⟩
theorem nd_cap {w : World} {B i d : Nat} {A A1 : Option Addr} {l : List Nd} {g off n c1 : Nat} (h : RowsAt (ndE d) w (Lo B) A l) (hi : i < l.length) (hA : A = some ⟨g, off, none⟩) (hc : w.cell? ⟨g, off + i * 9 + 7, none⟩ = some (.slice A1 n c1)) : n ≤ c1 ∧ c1 ≤ maxLen := by
  obtain ⟨g', off', cs, hA', _, hr, hd⟩ := h.get hi
  obtain ⟨A2, c2, rfl, h1, _⟩ := hr
  rw [hA] at hA'
  injection hA' with e
  injection e with e1 e2
  subst e1
  subst e2
  have h7 := hd 7 (show 7 < 9 by decide)
  have h8 : w.cell? ⟨g, off + i * 9 + 7, none⟩ = some (.slice A2 l[i].expr.kids.length c2) := h7
  rw [hc] at h8
  injection h8 with h9
  injection h9 with _ e3 e4
  rw [e3, e4]
  exact h1
structure Ws where
  queues : List Qu
  needs : List Nd
structure WF (w : World) (B d : Nat) (A1 A2 : Option Addr) (s : Ws) : Prop where
  r1 : RowsAt quE w (Lo B) A1 s.queues
  r2 : RowsAt (ndE d) w (Lo B) A2 s.needs
  m1 : s.queues.length ≤ maxLen
  m2 : s.needs.length ≤ maxLen
  hB : B ≤ w.heap.size
theorem WF.below {w w' : World} {B d : Nat} {A1 A2 : Option Addr} {s : Ws} (f : WF w B d A1 A2 s) (hb : Below w.heap.size w w') : WF w' B d A1 A2 s :=
  ⟨f.r1.below hb f.hB (Nat.le_refl _), f.r2.below hb f.hB (Nat.le_refl _), f.m1, f.m2, Nat.le_trans f.hB hb.size⟩
def Ws.val (s : Ws) (A1 A2 : Option Addr) (c1 c2 : Nat) : Value := .agg #[.slice A1 s.queues.length c1, .slice A2 s.needs.length c2]
def prnL (l : List Nd) : List Pr := l.map (·.proc)
def procsW (s : Ws) : List Pr := sortS (procsT s.queues ++ prnL s.needs)
theorem procsT_len {l : List Qu} (h : ∀ q ∈ l, shortQ q) : (procsT l).length ≤ l.length * 24 := Nat.le_trans (sortS_len _) (allQ_len l h)
set_option maxHeartbeats 3200000 in
theorem rWProcs_any (s : Ws) (d : Nat) (A1 A2 : Option Addr) (c1 c2 B : Nat) (w : World) (hw : WF w B d A1 A2 s) (h1 : s.queues.length ≤ 12) (h2 : s.needs.length ≤ 12) (hs : ∀ q ∈ s.queues, shortQ q) :
    Calls Tryz.prog 23 #[s.val A1 A2 c1 c2] w (RetRow prE 51 w (procsW s)) := by
  have HT := Lib.hid (fun W (hb : Below w.heap.size w W) => rTProcs_any A1 B c1 s.queues W h1 hs (Nat.le_trans hw.hB hb.size) (hw.r1.below hb hw.hB (Nat.le_refl _)))
  have HSP := Lib.hid (fun A B cap l W hm hB hr => rSortProcs_any A B cap l W hm hB hr)
  have HR := Lib.hid hw.r2
  have HBw := Lib.hid hw.hB
  have HLT : Hid ((procsT s.queues).length ≤ 288) := Lib.hid (by have := procsT_len hs; omega)
  have HW : Hid (procsW s = sortS (procsT s.queues ++ prnL s.needs)) := Lib.hid rfl
  clear hw hs
  generalize procsW s = R at *
  obtain ⟨qs, ns⟩ := s
  unfold Ws.val
  dsimp only at HT HR HLT HW h1 h2 ⊢
  generalize procsT qs = pt at *
  go_enter Tryz.func23, Tryz.ntmps23
  go_wp2_with fail
  refine (HT.out _ (by (repeat (first | (with_reducible exact Below.refl _ _) | (with_reducible assumption) | (with_reducible refine below_drewN ?_ _) | (with_reducible refine Below.drew ?_) | (with_reducible refine Below.al ?_ _) | (with_reducible refine Below.st ?_ (by simp; try omega)) | (with_reducible refine Below.tr ?_ (Hid.out (by assumption))) | (with_reducible exact Hid.out (by assumption)))))).mono ?_
  rintro e w2 ⟨v2, rfl, hown2, hb2⟩
  have HB2 : Hid (Below w.heap.size w w2) := Lib.hid (Below.tr (Below.al (Below.refl _ _) _) hb2)
  have HO2 := Lib.hid (hown2.older (show w.heap.size ≤ _ by simp))
  have y0 : w2.cell? ⟨w.heap.size, 0, none⟩ = some (.slice A1 qs.length c1) := (hb2.cell (p := ⟨w.heap.size, 0, none⟩) (by simp)).trans (cellNewA w _ _ 0)
  have y1 : w2.cell? ⟨w.heap.size, 1, none⟩ = some (.slice A2 ns.length c2) := (hb2.cell (p := ⟨w.heap.size, 1, none⟩) (by simp)).trans (cellNewA w _ _ 1)
  have hz2 : w.heap.size < w2.heap.size := by have := hb2.size; simp at this; omega
  have HNB : Hid (v2.ownBlock ≠ some w.heap.size) := Lib.hid fun e => by have := (hown2.block _ e).1; simp at this; omega
  clear hown2 hb2
  go_wp2_with fail
  go_loopg [3, 4] ns.length (fun m v3 v4 wq => ∃ k : Nat, v4 = .int .i64 (k : Int) ∧ k ≤ ns.length ∧ ns.length ≤ k + m ∧ Hid (OwnRows prE 51 wq w.heap.size v3 (pt ++ prnL (ns.take k))) ∧ Hid (PS (fun _ => False) w2 wq v2 v3))
  case atStart => exact ⟨0, rfl, Nat.zero_le _, by omega, Lib.hid (by simpa [prnL] using HO2.out), Lib.hid (PS.refl _ _ _)⟩
  case round =>
    obtain ⟨k, rfl, hk, hkm, HO, HP⟩ := hrel
    have HPW : Hid (Below w.heap.size w wr) := Lib.hid (HB2.out.trans (HP.out.below (fun k hk => (HO2.out.block k hk).1) (fun k hk => hk.elim) HB2.out.size))
    have hbx := HP.out.block w.heap.size hz2 (fun h => h) HNB.out
    have z1 : wr.cell? ⟨w.heap.size, 1, none⟩ = some (.slice A2 ns.length c2) := (World.cell?_of_block (a := ⟨w.heap.size, 1, none⟩) hbx.1).trans y1
    have hzr : w.heap.size < wr.heap.size := Nat.lt_of_lt_of_le hz2 HP.out.size
    have HNB2 := Lib.hid hbx.2
    clear hbx
    have hlk : (pt ++ prnL (ns.take k)).length ≤ 300 := by have := HLT.out; simp [prnL]; omega
    by_cases hlt : k < ns.length
    · obtain ⟨⟨⟨a, b, c⟩, ⟨kk, ⟨nm, ⟨m, u⟩⟩, ks⟩, gen⟩, hx⟩ : ∃ x, ns[k] = x := ⟨_, rfl⟩
      have HE : Hid ((pt ++ prnL (ns.take k)) ++ [⟨a, b, c⟩] = pt ++ prnL (ns.take (k + 1))) := Lib.hid (by unfold prnL; rw [List.take_add_one, List.map_append, List.getElem?_eq_getElem hlt, hx, List.append_assoc]; rfl)
      obtain ⟨g, off, A3, c3, rfl, hbl, d0, d1, d2, d3, d4, d5, d6, d7, d8, _⟩ := nd_cells (HR.out.below (B'' := B) HPW.out HBw.out (Nat.le_refl _)) (Nat.le_trans HBw.out HPW.out.size) hlt hx
      have hbl2 : g < wr.heap.size := Nat.lt_of_lt_of_le hbl (Nat.le_trans HBw.out HPW.out.size)
      have hlti : (k : Int) < (ns.length : Int) := by omega
      clear hx hbl d3 d4 d5 d6 d7 d8
      generalize pt ++ prnL (ns.take k) = L at *
      go_wp2_with (at_builtin; refine pushOneB prTB rfl (.tmp 15) (.tmp 22) rfl wr w.heap.size u3 L ⟨a, b, c⟩ [.int .i64 a, .int .i64 b, .int .i64 c] _ rfl rfl HO.out wr.heap.size rfl rfl rfl (by unfold maxLen; omega) (by omega) ?_; intro v7 w7 hown7 hb7 hsp7; have HP7 : Hid (PS (fun _ => False) w2 w7 v2 v7) := Lib.hid (HP.out.trans (PS.push hb7 hsp7)); have HO7 := Lib.hid hown7; clear hown7 hb7 hsp7)
      rw [HE.out] at HO7
      go_roundg (gk - 1)
      case measure => omega
      case rel => exact ⟨k + 1, by go_num, by omega, by omega, HO7, HP7⟩
    · have HE : Hid (prnL (ns.take k) = prnL ns) := Lib.hid (by rw [List.take_of_length_le (by omega)])
      rw [HE.out] at HO hlk
      have hlti : ¬ (k : Int) < (ns.length : Int) := by omega
      obtain ⟨A7, c7, rfl, hr7, _, _⟩ := HO.out.form
      have HR7 := Lib.hid hr7
      clear hr7
      generalize hL : pt ++ prnL ns = L at *
      go_wp2_with fail
      refine (HSP.out A7 wr.heap.size c7 L wr (by omega) (Nat.le_refl _) HR7.out).mono ?_
      rintro e w5 ⟨v5, rfl, hown5, hb5⟩
      have HO5 := Lib.hid hown5
      have HB5 : Hid (Below w.heap.size w w5) := Lib.hid (Below.tr HPW.out hb5)
      clear hown5 hb5
      go_wp2_with fail
      go_ret
      exact ⟨v5, rfl, by rw [HW.out]; exact HO5.out.older HPW.out.size, HB5.out⟩
end Go.Proofs.YtogeihdfmnohnaaGreatDoor
