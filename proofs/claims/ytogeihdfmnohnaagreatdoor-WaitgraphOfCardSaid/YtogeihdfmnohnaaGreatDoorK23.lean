/- Part 23 of 49 of the proof of waitgraphOf_holds (no condition). -/
import Derived.Test.YtogeihdfmnohnaaGreatDoorK22
set_option linter.unusedVariables false
set_option linter.unusedSimpArgs false
namespace Go.Proofs.YtogeihdfmnohnaaGreatDoor
open Go.RowKit
def lookS : List Tm → List Bool → Tm → Bool
  | [], _, _ => false
  | b :: L, set, a => bif decide (b = a) then set.headD false else lookS L set.tail a
theorem lookS_cons (b : Tm) (L : List Tm) (set : List Bool) (a : Tm) : lookS (b :: L) set a = bif decide (b = a) then set.headD false else lookS L set.tail a := rfl
mutual
def evS (h : Tm → Bool) : Ex → Bool
  | .mk k a l => bif l.isEmpty then h a else decide (k ≤ (evN h l : Int))
def evN (h : Tm → Bool) : List Ex → Nat
  | [] => 0
  | x :: l => (bif evS h x then 1 else 0) + evN h l
end
theorem evS_mk (h : Tm → Bool) (k : Int) (a : Tm) (l : List Ex) : evS h (.mk k a l) = bif l.isEmpty then h a else decide (k ≤ (evN h l : Int)) := rfl
theorem evN_cons (h : Tm → Bool) (x : Ex) (l : List Ex) : evN h (x :: l) = (bif evS h x then 1 else 0) + evN h l := rfl
theorem ExF.up {w : World} {B B' d : Nat} {A : Option Addr} {x : Ex} (h : ExF w B d A x) (hB : B ≤ B') (hw : B' ≤ w.heap.size) : ExF w B' d A x := ⟨h.hm, hw, h.hr.mono fun _ hb => Nat.lt_of_lt_of_le hb hB⟩
theorem bo_cell {w : World} {S : Nat → Prop} {A : Option Addr} {l : List Bool} {i : Nat} {x : Bool} (h : RowsAt boolE w S A l) (hi : i < l.length) (hx : l[i] = x) :
    ∃ b off, A = some ⟨b, off, none⟩ ∧ S b ∧ w.cell? ⟨b, off + i, none⟩ = some (.bool x) := by
  obtain ⟨b, off, cs, hA, hS, hc, hd⟩ := h.getx hi hx
  have hc' : cs = [.bool x] := hc
  subst hc'
  have := hd 0 (show 0 < 1 by decide)
  exact ⟨b, off, hA, hS, by simpa [show boolE.n = 1 from rfl] using this⟩
set_option maxHeartbeats 1600000 in
theorem r08Atoms_any (d : Nat) (x : Ex) (A : Option Addr) (cap B : Nat) (w : World) (hx : ExF w B d A x) :
    Calls Tryz.prog 61 #[x.val A cap] w (RetRow tmE 55 w (atS x)) := by
  have HA := Lib.hid (fun W (hb : Below w.heap.size w W) => rAtoms_any d x A cap B W (hx.below hb))
  clear hx
  obtain ⟨k, ⟨nm, ⟨m, u⟩⟩, l⟩ := x
  unfold Ex.val at *
  dsimp only [Ex.k, Ex.atom, Ex.kids] at HA ⊢
  go_enter Tryz.func61, Tryz.ntmps61
  go_wp2_with fail
  refine (HA.out _ (by (repeat (first | (with_reducible exact Below.refl _ _) | (with_reducible assumption) | (with_reducible refine below_drewN ?_ _) | (with_reducible refine Below.drew ?_) | (with_reducible refine Below.al ?_ _) | (with_reducible refine Below.st ?_ (by simp; try omega)) | (with_reducible refine Below.tr ?_ (Hid.out (by assumption))) | (with_reducible exact Hid.out (by assumption)))))).mono ?_
  rintro e w2 ⟨v, rfl, ho, hb2⟩
  have HB2 := Lib.hid hb2
  have HO := Lib.hid ho
  clear hb2 ho
  go_wp2_with fail
  go_ret
  exact ⟨v, rfl, HO.out.older (by simp), by (repeat (first | (with_reducible exact Below.refl _ _) | (with_reducible assumption) | (with_reducible refine below_drewN ?_ _) | (with_reducible refine Below.drew ?_) | (with_reducible refine Below.al ?_ _) | (with_reducible refine Below.st ?_ (by simp; try omega)) | (with_reducible refine Below.tr ?_ (Hid.out (by assumption))) | (with_reducible exact Hid.out (by assumption))))⟩
set_option maxHeartbeats 6400000 in
theorem rholds_any : ∀ (d : Nat) (x : Ex) (A A2 A3 : Option Addr) (cap c2 c3 B : Nat) (L : List Tm) (set : List Bool) (w : World) (hx : ExF w B d A x) (hs : shB x = true) (hL : RowsAt tmE w (Lo B) A2 L) (hL8 : L.length ≤ 1000) (hS : RowsAt boolE w (Lo B) A3 set) (hS8 : set.length ≤ 1000),
    Calls Tryz.prog 101 #[x.val A cap, .slice A2 L.length c2, .slice A3 set.length c3] w (Ret w (.bool (evS (lookS L set) x))) := by
  intro d
  induction d using Nat.strongRecOn with
  | ind d ih =>
    intro x A A2 A3 cap c2 c3 B L set w hx hs hL hL8 hS hS8
    obtain ⟨k, ⟨nm, ⟨m, u⟩⟩, l⟩ := x
    obtain ⟨hm, hBw, hr⟩ := hx
    unfold Ex.val
    rw [evS_mk]
    rw [shB_mk] at hs
    dsimp only [Ex.k, Ex.atom, Ex.kids] at hm hr ⊢
    have IH := Lib.hid ih
    have HR := Lib.hid hr
    have HL := Lib.hid hL
    have HS := Lib.hid hS
    clear hr ih hL hS
    unfold headB at hs
    obtain ⟨r, hr⟩ : ∃ r, (bif l.isEmpty then lookS L set ⟨nm, ⟨m, u⟩⟩ else decide (k ≤ (evN (lookS L set) l : Int))) = r := ⟨_, rfl⟩
    rw [hr]
    cases hE : l.isEmpty with
    | true =>
      obtain rfl := List.isEmpty_iff.1 hE
      simp [shL] at hs
      obtain ⟨rfl, _⟩ := hs
      have HQ : Hid (lookS (L.drop 0) (set.drop 0) ⟨nm, ⟨m, u⟩⟩ = r) := Lib.hid hr
      clear hr
      go_enter Tryz.func101, Tryz.ntmps101
      go_wp2_with fail
      go_loopg [7] L.length (fun m0 v7 wq => ∃ kk : Nat, v7 = .int .i64 (kk : Int) ∧ kk ≤ L.length ∧ L.length ≤ kk + m0 ∧ Hid (lookS (L.drop kk) (set.drop kk) ⟨nm, ⟨m, u⟩⟩ = r) ∧ Hid (Below (w.alloc (.cells #[.int .i64 0, .string nm, .int .i64 m, .int .i64 u, .slice A 0 cap] 58)).heap.size (w.alloc (.cells #[.int .i64 0, .string nm, .int .i64 m, .int .i64 u, .slice A 0 cap] 58)) wq))
      case atStart => exact ⟨0, rfl, Nat.zero_le _, by omega, HQ, Lib.hid (Below.refl _ _)⟩
      case round =>
        obtain ⟨kk, rfl, hk, hkm, HI, HB⟩ := hrel
        have hb := HB.out
        have HBW : Hid (Below w.heap.size w wr) := Lib.hid (Below.tr (Below.al (Below.refl _ _) _) hb)
        have x1 : wr.cell? ⟨w.heap.size, 1, none⟩ = some (.string nm) := (hb.cell (p := ⟨w.heap.size, 1, none⟩) (by simp)).trans (cellNewA w _ _ 1)
        have x2 : wr.cell? ⟨w.heap.size, 2, none⟩ = some (.int .i64 m) := (hb.cell (p := ⟨w.heap.size, 2, none⟩) (by simp)).trans (cellNewA w _ _ 2)
        have x3 : wr.cell? ⟨w.heap.size, 3, none⟩ = some (.int .i64 u) := (hb.cell (p := ⟨w.heap.size, 3, none⟩) (by simp)).trans (cellNewA w _ _ 3)
        have hz0 : w.heap.size < wr.heap.size := by have := hb.size; simp at this; omega
        clear hb
        by_cases hlt : kk < L.length
        · obtain ⟨⟨n1, ⟨m1, u1⟩⟩, hx⟩ : ∃ x, L[kk] = x := ⟨_, rfl⟩
          obtain ⟨g1, off, rfl, hbl, c0, c1, c2⟩ := tm_cells (HL.out.below (B'' := w.heap.size) HBW.out hBw hBw) hlt hx
          have hbl2 : g1 < wr.heap.size := Nat.lt_of_lt_of_le hbl HBW.out.size
          have hlti : (kk : Int) < (L.length : Int) := by omega
          obtain ⟨_, k1, k2⟩ := cmpTm n1 m1 u1 nm m u
          obtain ⟨q, hq⟩ : ∃ q, decide ((⟨n1, ⟨m1, u1⟩⟩ : Tm) = ⟨nm, ⟨m, u⟩⟩) = q := ⟨_, rfl⟩
          have HQ2 : Hid ((bif q then (set.drop kk).headD false else lookS (L.drop (kk + 1)) (set.drop kk).tail ⟨nm, ⟨m, u⟩⟩) = r) := Lib.hid (by have h := HI.out; rw [drop_step hlt hx, lookS_cons] at h; rw [← hq]; exact h)
          rw [hq] at k1
          clear hq hx hbl
          cases q with
          | true =>
            by_cases hst : kk < set.length
            · have hsti : (kk : Int) < (set.length : Int) := by omega
              obtain ⟨y, hy⟩ : ∃ x, set[kk] = x := ⟨_, rfl⟩
              have HE : Hid (y = r) := Lib.hid (by have h := HQ2.out; rw [drop_step hst hy] at h; exact h)
              obtain ⟨g2, off2, rfl, hbl3, e0⟩ := bo_cell (HS.out.below (B'' := w.heap.size) HBW.out hBw hBw) hst hy
              have hbl4 : g2 < wr.heap.size := Nat.lt_of_lt_of_le hbl3 HBW.out.size
              clear hy hbl3
              go_wp2_with fail
              go_quiet (fail)
              go_wp2_with fail
              go_ret
              exact ⟨ret_bool HE.out, by (repeat (first | (with_reducible exact Below.refl _ _) | (with_reducible assumption) | (with_reducible refine below_drewN ?_ _) | (with_reducible refine Below.drew ?_) | (with_reducible refine Below.al ?_ _) | (with_reducible refine Below.st ?_ (by simp; try omega)) | (with_reducible refine Below.tr ?_ (Hid.out (by assumption))) | (with_reducible exact Hid.out (by assumption))))⟩
            · have hsti : ¬ (kk : Int) < (set.length : Int) := by omega
              have HE : Hid (false = r) := Lib.hid (by have h := HQ2.out; rw [List.drop_eq_nil_of_le (by omega : set.length ≤ kk)] at h; exact h)
              go_wp2_with fail
              go_quiet (fail)
              go_wp2_with fail
              go_ret
              exact ⟨ret_bool HE.out, by (repeat (first | (with_reducible exact Below.refl _ _) | (with_reducible assumption) | (with_reducible refine below_drewN ?_ _) | (with_reducible refine Below.drew ?_) | (with_reducible refine Below.al ?_ _) | (with_reducible refine Below.st ?_ (by simp; try omega)) | (with_reducible refine Below.tr ?_ (Hid.out (by assumption))) | (with_reducible exact Hid.out (by assumption))))⟩
          | false =>
            have HE : Hid (lookS (L.drop (kk + 1)) (set.drop (kk + 1)) ⟨nm, ⟨m, u⟩⟩ = r) := Lib.hid (by have h := HQ2.out; rw [List.tail_drop] at h; exact h)
            go_wp2_with fail
            go_quiet (fail)
            go_wp2_with fail
            go_roundg (gk - 1)
            case measure => omega
            case rel => exact ⟨kk + 1, by go_num, by omega, by omega, HE, Lib.hid (below_drewN HB.out _)⟩
        · have hlti : ¬ (kk : Int) < (L.length : Int) := by omega
          have HE : Hid (false = r) := Lib.hid (by have h := HI.out; rw [drop_end hlt] at h; exact h)
          go_wp2_with fail
          go_ret
          exact ⟨ret_bool HE.out, by (repeat (first | (with_reducible exact Below.refl _ _) | (with_reducible assumption) | (with_reducible refine below_drewN ?_ _) | (with_reducible refine Below.drew ?_) | (with_reducible refine Below.al ?_ _) | (with_reducible refine Below.st ?_ (by simp; try omega)) | (with_reducible refine Below.tr ?_ (Hid.out (by assumption))) | (with_reducible exact Hid.out (by assumption))))⟩
    | false =>
      rw [hE] at hr hs
      simp only [cond_false] at hr hs
      have hs2 : 1 ≤ k ∧ k ≤ (l.length : Int) ∧ shL l = true := by
        simp at hs
        exact ⟨hs.1.1.1, hs.1.1.2, hs.2⟩
      obtain ⟨hk1, hk2, hsl⟩ := hs2
      have hk0 : (k == 0) = false := by rw [beq_eq_false_iff_ne]; omega
      have HQ : Hid (decide (k ≤ ((0 + evN (lookS L set) (l.drop 0) : Nat) : Int)) = r) := Lib.hid (by rw [List.drop_zero, Nat.zero_add]; exact hr)
      have HSL : Hid (shL (l.drop 0) = true) := Lib.hid hsl
      have hm2 := hm
      unfold maxLen at hm2
      clear hr hsl hs
      go_enter Tryz.func101, Tryz.ntmps101
      go_wp2_with fail
      go_loopg [8, 9] l.length (fun m0 v8 v9 wq => ∃ kk n : Nat, v9 = .int .i64 (kk : Int) ∧ v8 = .int .i64 (n : Int) ∧ kk ≤ l.length ∧ l.length ≤ kk + m0 ∧ n ≤ kk ∧ Hid (decide (k ≤ ((n + evN (lookS L set) (l.drop kk) : Nat) : Int)) = r) ∧ Hid (shL (l.drop kk) = true) ∧ Hid (Below (w.alloc (.cells #[.int .i64 k, .string nm, .int .i64 m, .int .i64 u, .slice A l.length cap] 58)).heap.size (w.alloc (.cells #[.int .i64 k, .string nm, .int .i64 m, .int .i64 u, .slice A l.length cap] 58)) wq))
      case atStart => exact ⟨0, 0, rfl, rfl, Nat.zero_le _, by omega, by omega, HQ, HSL, Lib.hid (Below.refl _ _)⟩
      case round =>
        obtain ⟨kk, n, rfl, rfl, hk, hkm, hn, HI, HSK, HB⟩ := hrel
        have hb := HB.out
        have HBW : Hid (Below w.heap.size w wr) := Lib.hid (Below.tr (Below.al (Below.refl _ _) _) hb)
        have x0 : wr.cell? ⟨w.heap.size, 0, none⟩ = some (.int .i64 k) := (hb.cell (p := ⟨w.heap.size, 0, none⟩) (by simp)).trans (cellNewA w _ _ 0)
        have x4 : wr.cell? ⟨w.heap.size, 4, none⟩ = some (.slice A l.length cap) := (hb.cell (p := ⟨w.heap.size, 4, none⟩) (by simp)).trans (cellNewA w _ _ 4)
        have hz0 : w.heap.size < wr.heap.size := by have := hb.size; simp at this; omega
        clear hb
        by_cases hlt : kk < l.length
        · obtain ⟨⟨k1, ⟨nm1, ⟨m1, u1⟩⟩, l1⟩, hx⟩ : ∃ x, l[kk] = x := ⟨_, rfl⟩
          obtain ⟨g1', off, A1, cap1, rfl, hbl, c0, c1, c2', c3', c4, hc1, hc2, d1, rfl, hr1⟩ := ex_cells (HR.out.below (B'' := B) HBW.out hBw (Nat.le_refl _)) hlt hx
          have hbl0 : g1' < B := hbl
          have hbl2 : g1' < wr.heap.size := by omega
          have hlti : (kk : Int) < (l.length : Int) := by omega
          have HX1 : Hid (ExF wr B d1 A1 (.mk k1 ⟨nm1, ⟨m1, u1⟩⟩ l1)) := Lib.hid ⟨Nat.le_trans hc1 hc2, by omega, hr1⟩
          have HSK1 : Hid (shB (.mk k1 ⟨nm1, ⟨m1, u1⟩⟩ l1) = true ∧ shL (l.drop (kk + 1)) = true) := Lib.hid (by have h := HSK.out; rw [drop_step hlt hx, shL_cons] at h; simpa using h)
          have HQ2 : Hid (decide (k ≤ ((n + ((bif evS (lookS L set) (.mk k1 ⟨nm1, ⟨m1, u1⟩⟩ l1) then 1 else 0) + evN (lookS L set) (l.drop (kk + 1))) : Nat) : Int)) = r) := Lib.hid (by have h := HI.out; rw [drop_step hlt hx, evN_cons] at h; exact h)
          have HC : Hid (∀ W, Below wr.heap.size wr W → Calls Tryz.prog 101 #[.agg #[.int .i64 k1, .string nm1, .int .i64 m1, .int .i64 u1, .slice A1 l1.length cap1], .slice A2 L.length c2, .slice A3 set.length c3] W (Ret W (.bool (evS (lookS L set) (.mk k1 ⟨nm1, ⟨m1, u1⟩⟩ l1))))) := Lib.hid (fun W hb1 =>
            IH.out d1 (by omega) (.mk k1 ⟨nm1, ⟨m1, u1⟩⟩ l1) A1 A2 A3 cap1 c2 c3 B L set W (HX1.out.below hb1) HSK1.out.1 (HL.out.below (Below.tr HBW.out hb1) hBw (Nat.le_refl _)) hL8 (HS.out.below (Below.tr HBW.out hb1) hBw (Nat.le_refl _)) hS8)
          generalize evS (lookS L set) (.mk k1 ⟨nm1, ⟨m1, u1⟩⟩ l1) = q1 at HC HQ2
          clear hx hbl hr1 hbl0
          go_wp2_with fail
          refine (HC.out _ (by (repeat (first | (with_reducible exact Below.refl _ _) | (with_reducible assumption) | (with_reducible refine below_drewN ?_ _) | (with_reducible refine Below.drew ?_) | (with_reducible refine Below.al ?_ _) | (with_reducible refine Below.st ?_ (by simp; try omega)) | (with_reducible refine Below.tr ?_ (Hid.out (by assumption))) | (with_reducible exact Hid.out (by assumption)))))).mono ?_
          rintro e w2 ⟨rfl, hb2⟩
          have HB2 : Hid (Below (w.alloc (.cells #[.int .i64 k, .string nm, .int .i64 m, .int .i64 u, .slice (some ⟨g1', off, none⟩) l.length cap] 58)).heap.size (w.alloc (.cells #[.int .i64 k, .string nm, .int .i64 m, .int .i64 u, .slice (some ⟨g1', off, none⟩) l.length cap] 58)) w2) := Lib.hid (Below.tr HB.out hb2)
          clear hb2
          cases q1 with
          | true =>
            have HE : Hid (decide (k ≤ ((n + 1 + evN (lookS L set) (l.drop (kk + 1)) : Nat) : Int)) = r) := Lib.hid (by have h := HQ2.out; rw [cond_true, ← Nat.add_assoc] at h; exact h)
            go_wp2_with fail
            go_roundg (gk - 1)
            case measure => omega
            case rel => exact ⟨kk + 1, n + 1, by go_num, by go_num, by omega, by omega, by omega, HE, Lib.hid HSK1.out.2, HB2⟩
          | false =>
            have HE : Hid (decide (k ≤ ((n + evN (lookS L set) (l.drop (kk + 1)) : Nat) : Int)) = r) := Lib.hid (by have h := HQ2.out; rw [cond_false, Nat.zero_add] at h; exact h)
            go_wp2_with fail
            go_roundg (gk - 1)
            case measure => omega
            case rel => exact ⟨kk + 1, n, by go_num, by go_num, by omega, by omega, by omega, HE, Lib.hid HSK1.out.2, HB2⟩
        · have hlti : ¬ (kk : Int) < (l.length : Int) := by omega
          have HE : Hid (decide (k ≤ (n : Int)) = r) := Lib.hid (by have h := HI.out; rw [drop_end hlt] at h; exact h)
          go_wp2_with fail
          go_ret
          exact ⟨ret_bool HE.out, by (repeat (first | (with_reducible exact Below.refl _ _) | (with_reducible assumption) | (with_reducible refine below_drewN ?_ _) | (with_reducible refine Below.drew ?_) | (with_reducible refine Below.al ?_ _) | (with_reducible refine Below.st ?_ (by simp; try omega)) | (with_reducible refine Below.tr ?_ (Hid.out (by assumption))) | (with_reducible exact Hid.out (by assumption))))⟩
theorem coll_ne : ∀ (x : Ex) (acc : List Tm), shB x = true → 0 < (coll x acc).length := by
  refine Ex.ind (fun k a l ih => ?_)
  intro acc h
  rw [coll_mk]
  rw [shB_mk] at h
  cases l with
  | nil =>
    unfold addA
    cases hh : hasA a acc with
    | true =>
      have := (hasA_iff a acc).1 hh
      exact List.length_pos_of_mem this
    | false => simp
  | cons y m =>
    rw [shL_cons] at h
    simp at h
    have h1 := ih y (by simp) acc h.2.1
    obtain ⟨t, ht⟩ := collL_pre m (coll y acc)
    show 0 < (collL m (coll y acc)).length
    rw [ht, List.length_append]
    omega
theorem veB_sh {x : Ex} (h : veB x = true) : shB x = true ∧ atS x = coll x [] ∧ (atS x).length ≤ 8 ∧ 0 < (atS x).length ∧ okL (atS x) := by
  have h2 : atS x = coll x [] := by unfold atS; rw [h]; rfl
  unfold veB at h
  simp at h
  rw [h2]
  exact ⟨h.2.1, rfl, h.2.2.1, coll_ne x [] h.2.1, h.2.2⟩
theorem atS_no {x : Ex} (h : veB x = false) : atS x = [] := by unfold atS; rw [h]; rfl
def holdsS (x : Ex) (set : List Bool) : Bool := veB x && evS (lookS (atS x) set) x
set_option maxHeartbeats 3200000 in
theorem rHolds_any (d : Nat) (x : Ex) (A A3 : Option Addr) (cap c3 B : Nat) (set : List Bool) (w : World) (hx : ExF w B d A x) (hS : RowsAt boolE w (Lo B) A3 set) (hS8 : set.length ≤ 1000) :
    Calls Tryz.prog 66 #[x.val A cap, .slice A3 set.length c3] w (Ret w (.bool (holdsS x set))) := by
  have HA := Lib.hid (fun W (hb : Below w.heap.size w W) => rAtoms_any d x A cap B W (hx.below hb))
  have HH := Lib.hid (fun W (hb : Below w.heap.size w W) (A2 : Option Addr) (c2 : Nat) (hs : shB x = true) (hL : RowsAt tmE W (Lo W.heap.size) A2 (atS x)) (hL8 : (atS x).length ≤ 1000) => rholds_any d x A A2 A3 cap c2 c3 W.heap.size (atS x) set W ((hx.below hb).up (Nat.le_trans hx.hB hb.size) (Nat.le_refl _)) hs hL hL8 (hS.below hb hx.hB (Nat.le_trans hx.hB hb.size)) hS8)
  have HV := Lib.hid (veB_sh (x := x))
  have HQ : Hid (holdsS x set = (veB x && evS (lookS (atS x) set) x)) := Lib.hid rfl
  clear hx hS
  obtain ⟨k, ⟨nm, ⟨m, u⟩⟩, l⟩ := x
  unfold Ex.val at *
  dsimp only [Ex.k, Ex.atom, Ex.kids] at HA HH ⊢
  generalize evS (lookS (atS (.mk k ⟨nm, ⟨m, u⟩⟩ l)) set) (.mk k ⟨nm, ⟨m, u⟩⟩ l) = q at *
  generalize holdsS (.mk k ⟨nm, ⟨m, u⟩⟩ l) set = r at *
  generalize veB (.mk k ⟨nm, ⟨m, u⟩⟩ l) = V at *
  generalize atS (.mk k ⟨nm, ⟨m, u⟩⟩ l) = L at *
  generalize shB (.mk k ⟨nm, ⟨m, u⟩⟩ l) = sh at *
  generalize coll (.mk k ⟨nm, ⟨m, u⟩⟩ l) [] = CL at *
  go_enter Tryz.func66, Tryz.ntmps66
  go_wp2_with fail
  refine (HA.out _ (by (repeat (first | (with_reducible exact Below.refl _ _) | (with_reducible assumption) | (with_reducible refine below_drewN ?_ _) | (with_reducible refine Below.drew ?_) | (with_reducible refine Below.al ?_ _) | (with_reducible refine Below.st ?_ (by simp; try omega)) | (with_reducible refine Below.tr ?_ (Hid.out (by assumption))) | (with_reducible exact Hid.out (by assumption)))))).mono ?_
  rintro e w2 ⟨v, rfl, ho, hb2⟩
  have HB2 : Hid (Below w.heap.size w w2) := Lib.hid (Below.tr (Below.al (Below.refl _ _) _) hb2)
  obtain ⟨A2, c2, rfl, hr2, _, _⟩ := ho.form
  have HR2 := Lib.hid hr2
  obtain ⟨hc_w2, hf_w2⟩ := bcell hb2
  have hs_w2 := hb2.size
  (try simp at hs_w2)
  have hz_w2_0 : w.heap.size < w2.heap.size := (by omega)
  clear hs_w2
  clear hb2 ho hr2
  cases V with
  | false =>
    go_wp2_with fail
    go_ret
    exact ⟨ret_bool (by rw [HQ.out]; rfl), HB2.out⟩
  | true =>
    have HV2 := Lib.hid (HV.out rfl)
    go_wp2_with fail
    refine (HH.out _ HB2.out A2 c2 HV2.out.1 HR2.out (by have := HV2.out.2.2.1; omega)).mono ?_
    rintro e w3 ⟨rfl, hb3⟩
    have HB3 : Hid (Below w.heap.size w w3) := Lib.hid (Below.tr HB2.out hb3)
    clear hb3
    go_wp2_with fail
    go_ret
    exact ⟨ret_bool (by rw [HQ.out]; rfl), HB3.out⟩
end Go.Proofs.YtogeihdfmnohnaaGreatDoor
namespace Go.Proofs.YtogeihdfmnohnaaGreatDoor
open Go.RowKit
def idxA (a : Tm) : Nat → List Tm → Int
  | _, [] => -1
  | k, b :: l => bif decide (a = b) then (k : Int) else idxA a (k + 1) l
theorem idxA_cons (a b : Tm) (k : Nat) (l : List Tm) : idxA a k (b :: l) = bif decide (a = b) then (k : Int) else idxA a (k + 1) l := rfl
theorem idxA_spec (a : Tm) : ∀ (l : List Tm) (k : Nat) (set : List Bool), (idxA a k l = -1 ∧ hasA a l = false ∧ lookS l set a = false) ∨ ∃ i, i < l.length ∧ idxA a k l = ((k + i : Nat) : Int) ∧ hasA a l = true ∧ lookS l set a = (set.drop i).headD false
  | [], k, set => .inl ⟨rfl, rfl, rfl⟩
  | b :: l, k, set => by
    rw [idxA_cons, hasA_cons, lookS_cons]
    by_cases h : a = b
    · refine .inr ⟨0, by simp, ?_, ?_, ?_⟩
      · rw [decide_eq_true h]; rfl
      · rw [decide_eq_true h.symm]; rfl
      · rw [decide_eq_true h.symm]; rfl
    · rw [decide_eq_false h, decide_eq_false (Ne.symm h)]
      rcases idxA_spec a l (k + 1) set.tail with ⟨h1, h2, h3⟩ | ⟨i, hi, h1, h2, h3⟩
      · exact .inl ⟨h1, h2, h3⟩
      · refine .inr ⟨i + 1, by simp; omega, ?_, h2, ?_⟩
        · rw [cond_false, h1]; congr 1; omega
        · rw [cond_false, h3, List.drop_tail]
set_option maxHeartbeats 1600000 in
theorem IndexAtom_any (A : Option Addr) (B cap : Nat) (l : List Tm) (nm : ByteArray) (m u : Int) (w : World) (hm : l.length ≤ maxLen) (hB : B ≤ w.heap.size) (hr : RowsAt tmE w (Lo B) A l) :
    Calls Tryz.prog 161 #[.slice A l.length cap, .agg #[.string nm, .int .i64 m, .int .i64 u]] w (Ret w (.int .i64 (idxA ⟨nm, ⟨m, u⟩⟩ 0 l))) := by
  unfold maxLen at hm
  have HR := Lib.hid hr
  clear hr
  obtain ⟨v, hv⟩ : ∃ v, idxA ⟨nm, ⟨m, u⟩⟩ 0 l = v := ⟨_, rfl⟩
  rw [hv]
  have HV : Hid (idxA ⟨nm, ⟨m, u⟩⟩ 0 (l.drop 0) = v) := Lib.hid hv
  clear hv
  go_enter Tryz.func161, Tryz.ntmps161
  go_wp2_with fail
  go_loopg [8] l.length (fun m0 v8 wq => ∃ k : Nat, v8 = .int .i64 (k : Int) ∧ k ≤ l.length ∧ l.length ≤ k + m0 ∧ Hid (idxA ⟨nm, ⟨m, u⟩⟩ k (l.drop k) = v) ∧ Hid (Below (w.alloc (.cells #[.string nm, .int .i64 m, .int .i64 u] 55)).heap.size (w.alloc (.cells #[.string nm, .int .i64 m, .int .i64 u] 55)) wq))
  case atStart => exact ⟨0, rfl, Nat.zero_le _, by omega, HV, Lib.hid (Below.refl _ _)⟩
  case round =>
    obtain ⟨k, rfl, hk, hkm, HI, HB⟩ := hrel
    have hb := HB.out
    have hbw : Below w.heap.size w wr := by (repeat (first | (with_reducible exact Below.refl _ _) | (with_reducible assumption) | (with_reducible refine below_drewN ?_ _) | (with_reducible refine Below.drew ?_) | (with_reducible refine Below.al ?_ _) | (with_reducible refine Below.st ?_ (by simp; try omega)) | (with_reducible refine Below.tr ?_ (Hid.out (by assumption))) | (with_reducible exact Hid.out (by assumption))))
    have x0 : wr.cell? ⟨w.heap.size, 0, none⟩ = some (.string nm) := (hb.cell (p := ⟨w.heap.size, 0, none⟩) (by simp)).trans (cellNewA w _ _ 0)
    have x1 : wr.cell? ⟨w.heap.size, 1, none⟩ = some (.int .i64 m) := (hb.cell (p := ⟨w.heap.size, 1, none⟩) (by simp)).trans (cellNewA w _ _ 1)
    have x2 : wr.cell? ⟨w.heap.size, 2, none⟩ = some (.int .i64 u) := (hb.cell (p := ⟨w.heap.size, 2, none⟩) (by simp)).trans (cellNewA w _ _ 2)
    have hz0 : w.heap.size < wr.heap.size := by have := hb.size; simp at this; omega
    clear hb
    by_cases hlt : k < l.length
    · obtain ⟨⟨n1, ⟨m1, u1⟩⟩, hx⟩ : ∃ x, l[k] = x := ⟨_, rfl⟩
      obtain ⟨g, off, rfl, hbl, c0, c1, c2⟩ := tm_cells (HR.out.below (B'' := w.heap.size) hbw hB hB) hlt hx
      have hbl2 : g < wr.heap.size := Nat.lt_of_lt_of_le hbl hbw.size
      have hlti : (k : Int) < (l.length : Int) := by omega
      obtain ⟨_, k1, k2⟩ := cmpTm nm m u n1 m1 u1
      obtain ⟨q, hq⟩ : ∃ q, decide ((⟨nm, ⟨m, u⟩⟩ : Tm) = ⟨n1, ⟨m1, u1⟩⟩) = q := ⟨_, rfl⟩
      have HS : Hid ((bif q then (k : Int) else idxA ⟨nm, ⟨m, u⟩⟩ (k + 1) (l.drop (k + 1))) = v) := Lib.hid (by have h := HI.out; rw [drop_step hlt hx, idxA_cons] at h; rw [← hq]; exact h)
      rw [hq] at k1
      clear hq hx hbl hbw
      cases q <;> (go_wp2_with fail; go_quiet (fail); go_wp2_with fail; first
        | (go_roundg (gk - 1); (case measure => omega); (case rel => exact ⟨k + 1, by go_num, by omega, by omega, Lib.hid HS.out, Lib.hid (by (repeat (first | (with_reducible exact Below.refl _ _) | (with_reducible assumption) | (with_reducible refine below_drewN ?_ _) | (with_reducible refine Below.drew ?_) | (with_reducible refine Below.al ?_ _) | (with_reducible refine Below.st ?_ (by simp; try omega)) | (with_reducible refine Below.tr ?_ (Hid.out (by assumption))) | (with_reducible exact Hid.out (by assumption)))))⟩))
        | (go_ret; exact ⟨ret_int (show (k : Int) = v from HS.out), by (repeat (first | (with_reducible exact Below.refl _ _) | (with_reducible assumption) | (with_reducible refine below_drewN ?_ _) | (with_reducible refine Below.drew ?_) | (with_reducible refine Below.al ?_ _) | (with_reducible refine Below.st ?_ (by simp; try omega)) | (with_reducible refine Below.tr ?_ (Hid.out (by assumption))) | (with_reducible exact Hid.out (by assumption))))⟩))
    · have HS : Hid (-1 = v) := Lib.hid (by have h := HI.out; rw [drop_end hlt] at h; exact h)
      clear hbw
      go_wp2_with fail
      go_ret
      exact ⟨ret_int HS.out, by (repeat (first | (with_reducible exact Below.refl _ _) | (with_reducible assumption) | (with_reducible refine below_drewN ?_ _) | (with_reducible refine Below.drew ?_) | (with_reducible refine Below.al ?_ _) | (with_reducible refine Below.st ?_ (by simp; try omega)) | (with_reducible refine Below.tr ?_ (Hid.out (by assumption))) | (with_reducible exact Hid.out (by assumption))))⟩
set_option maxHeartbeats 1600000 in
theorem ContainsAtom_any (A : Option Addr) (B cap : Nat) (l : List Tm) (nm : ByteArray) (m u : Int) (w : World) (hm : l.length ≤ maxLen) (hB : B ≤ w.heap.size) (hr : RowsAt tmE w (Lo B) A l) :
    Calls Tryz.prog 124 #[.slice A l.length cap, .agg #[.string nm, .int .i64 m, .int .i64 u]] w (Ret w (.bool (hasA ⟨nm, ⟨m, u⟩⟩ l))) := by
  have HF := Lib.hid (fun W (hb : Below w.heap.size w W) => IndexAtom_any A B cap l nm m u W hm (Nat.le_trans hB hb.size) (hr.below hb hB (Nat.le_refl _)))
  have HS := Lib.hid (idxA_spec ⟨nm, ⟨m, u⟩⟩ l 0 [])
  clear hr
  generalize idxA ⟨nm, ⟨m, u⟩⟩ 0 l = i at *
  generalize hasA ⟨nm, ⟨m, u⟩⟩ l = q at *
  have HS2 : Hid ((i = -1 ∧ q = false) ∨ (0 ≤ i ∧ q = true)) := Lib.hid (by
    rcases HS.out with ⟨h1, h2, _⟩ | ⟨j, _, h1, h2, _⟩
    · exact .inl ⟨h1, h2⟩
    · exact .inr ⟨by omega, h2⟩)
  clear HS
  go_enter Tryz.func124, Tryz.ntmps124
  go_wp2_with fail
  refine (HF.out _ (by (repeat (first | (with_reducible exact Below.refl _ _) | (with_reducible assumption) | (with_reducible refine below_drewN ?_ _) | (with_reducible refine Below.drew ?_) | (with_reducible refine Below.al ?_ _) | (with_reducible refine Below.st ?_ (by simp; try omega)) | (with_reducible refine Below.tr ?_ (Hid.out (by assumption))) | (with_reducible exact Hid.out (by assumption)))))).mono ?_
  rintro e w2 ⟨rfl, hb2⟩
  have HB2 := Lib.hid hb2
  clear hb2
  go_wp2_with fail
  go_ret
  refine ⟨ret_bool ?_, by (repeat (first | (with_reducible exact Below.refl _ _) | (with_reducible assumption) | (with_reducible refine below_drewN ?_ _) | (with_reducible refine Below.drew ?_) | (with_reducible refine Below.al ?_ _) | (with_reducible refine Below.st ?_ (by simp; try omega)) | (with_reducible refine Below.tr ?_ (Hid.out (by assumption))) | (with_reducible exact Hid.out (by assumption))))⟩
  rcases HS2.out with ⟨h1, h2⟩ | ⟨h1, h2⟩ <;> rw [h2] <;> simp <;> omega
set_option maxHeartbeats 6400000 in
theorem collect_any : ∀ (d : Nat) (x : Ex) (A : Option Addr) (cap B base : Nat) (v : Value) (acc : List Tm) (w : World) (hx : ExF w B d A x) (hB : B ≤ base) (h8 : acc.length + x.cnt ≤ 1000) (hv : OwnRows tmE 55 w base v acc),
    Calls Tryz.prog 87 #[v, x.val A cap] w (fun e w' => ∃ v', e = .returned v' ∧ PS (fun _ => False) w w' v v' ∧ OwnRows tmE 55 w' base v' (coll x acc)) := by
  intro d
  induction d using Nat.strongRecOn with
  | ind d ih =>
    intro x A cap B base v acc w hx hB h8 hv
    obtain ⟨k, ⟨nm, ⟨m, u⟩⟩, l⟩ := x
    obtain ⟨hm, hBw, hr⟩ := hx
    unfold Ex.val
    rw [coll_mk]
    rw [Ex.cnt_mk] at h8
    dsimp only [Ex.k, Ex.atom, Ex.kids] at hm hr ⊢
    have IH := Lib.hid ih
    have HR := Lib.hid hr
    have HV := Lib.hid hv
    clear hr ih hv
    cases hE : l.isEmpty with
    | true =>
      obtain rfl := List.isEmpty_iff.1 hE
      have HS : Hid ((bif hasA ⟨nm, ⟨m, u⟩⟩ acc then acc else acc ++ [⟨nm, ⟨m, u⟩⟩]) = addA acc ⟨nm, ⟨m, u⟩⟩) := Lib.hid rfl
      simp only [cond_true]
      obtain ⟨AV, cv, rfl, hrv, hcv1, hcv2⟩ := HV.out.form
      have HC := Lib.hid (fun W (hb : Below w.heap.size w W) => ContainsAtom_any AV w.heap.size cv acc nm m u W (Nat.le_trans hcv1 hcv2) hb.size (hrv.below hb (Nat.le_refl _) (Nat.le_refl _)))
      generalize addA acc ⟨nm, ⟨m, u⟩⟩ = r at *
      generalize hasA ⟨nm, ⟨m, u⟩⟩ acc = q at *
      clear hrv
      go_enter Tryz.func87, Tryz.ntmps87
      go_wp2_with fail
      refine (HC.out _ (by (repeat (first | (with_reducible exact Below.refl _ _) | (with_reducible assumption) | (with_reducible refine below_drewN ?_ _) | (with_reducible refine Below.drew ?_) | (with_reducible refine Below.al ?_ _) | (with_reducible refine Below.st ?_ (by simp; try omega)) | (with_reducible refine Below.tr ?_ (Hid.out (by assumption))) | (with_reducible exact Hid.out (by assumption)))))).mono ?_
      rintro e w2 ⟨rfl, hb2⟩
      have HB2 : Hid (Below w.heap.size w w2) := Lib.hid (Below.tr (Below.al (Below.refl _ _) _) hb2)
      have HOW : Hid (OwnRows tmE 55 w2 base (.slice AV acc.length cv) acc) := Lib.hid (ownA HV.out HB2.out)
      obtain ⟨hc_w2, hf_w2⟩ := bcell hb2
      have hs_w2 := hb2.size
      (try simp at hs_w2)
      have hz_w2_0 : w.heap.size < w2.heap.size := (by omega)
      clear hs_w2
      clear hb2
      cases q with
      | true =>
        have HE : Hid (acc = r) := HS
        go_wp2_with fail
        go_ret
        exact ⟨_, rfl, PS.of _ HB2.out, by rw [← HE.out]; exact HOW.out⟩
      | false =>
        have HE : Hid (acc ++ [⟨nm, ⟨m, u⟩⟩] = r) := HS
        go_wp2_with (at_builtin; refine pushOneB tmTB rfl (.tmp 16) (.tmp 19) rfl w2 base (.slice AV acc.length cv) acc ⟨nm, ⟨m, u⟩⟩ [.string nm, .int .i64 m, .int .i64 u] _ rfl rfl HOW.out w2.heap.size rfl rfl rfl (by unfold maxLen; omega) (by omega) ?_; intro v3 w3 hown3 hb3 hsp3; have HO3 := Lib.hid hown3; have HB3 := Lib.hid hb3; have HSP := Lib.hid hsp3; clear hown3 hb3 hsp3)
        go_ret
        exact ⟨v3, rfl, (PS.of _ HB2.out).trans (PS.push HB3.out HSP.out), by rw [← HE.out]; exact HO3.out⟩
    | false =>
      have hl0 : ¬ (l.length : Int) = 0 := by
        have : l ≠ [] := fun e => by rw [e] at hE; cases hE
        have := List.length_pos_iff.2 this
        omega
      simp only [cond_false]
      have hl0' : ((l.length : Int) == 0) = false := by simpa using hl0
      have HOL : Hid (∀ k, v.ownBlock = some k → B ≤ k) := Lib.hid fun k hk => Nat.le_trans hB (HV.out.block k hk).1
      obtain ⟨r, hr⟩ : ∃ r, collL l acc = r := ⟨_, rfl⟩
      rw [hr]
      have HS : Hid (collL (l.drop 0) acc = r) := Lib.hid hr
      clear hr
      have hm2 := hm
      unfold maxLen at hm2
      go_enter Tryz.func87, Tryz.ntmps87
      go_wp2_with fail
      go_loopg [0, 24] l.length (fun m0 v0 v24 wq => ∃ (kk : Nat) (ak : List Tm), v24 = .int .i64 (kk : Int) ∧ kk ≤ l.length ∧ l.length ≤ kk + m0 ∧ ak.length + cntL (l.drop kk) ≤ 1000 ∧ Hid (collL (l.drop kk) ak = r) ∧ Hid (PS (fun _ => False) w wq v v0) ∧ Hid (OwnRows tmE 55 wq base v0 ak))
      case atStart => exact ⟨0, acc, rfl, Nat.zero_le _, by omega, by rw [List.drop_zero]; omega, HS, Lib.hid (PS.of _ (by (repeat (first | (with_reducible exact Below.refl _ _) | (with_reducible assumption) | (with_reducible refine below_drewN ?_ _) | (with_reducible refine Below.drew ?_) | (with_reducible refine Below.al ?_ _) | (with_reducible refine Below.st ?_ (by simp; try omega)) | (with_reducible refine Below.tr ?_ (Hid.out (by assumption))) | (with_reducible exact Hid.out (by assumption)))))), Lib.hid (ownA HV.out (by (repeat (first | (with_reducible exact Below.refl _ _) | (with_reducible assumption) | (with_reducible refine below_drewN ?_ _) | (with_reducible refine Below.drew ?_) | (with_reducible refine Below.al ?_ _) | (with_reducible refine Below.st ?_ (by simp; try omega)) | (with_reducible refine Below.tr ?_ (Hid.out (by assumption))) | (with_reducible exact Hid.out (by assumption))))))⟩
      case round =>
        obtain ⟨kk, ak, rfl, hk, hkm, ha8, HI, HP, HAT⟩ := hrel
        have hsz := HP.out.size
        have HBB : Hid (Below B w wr) := Lib.hid (HP.out.below HOL.out (fun k hk => hk.elim) hBw)
        by_cases hlt : kk < l.length
        · obtain ⟨⟨k1, ⟨nm1, ⟨m1, u1⟩⟩, l1⟩, hx⟩ : ∃ x, l[kk] = x := ⟨_, rfl⟩
          obtain ⟨g1', off, A1, cap1, rfl, hbl, c0, c1, c2, c3, c4, hc1, hc2, d1, rfl, hr1⟩ := ex_cells (HR.out.below (B'' := B) HBB.out (Nat.le_refl _) (Nat.le_refl _)) hlt hx
          have hbl0 : g1' < B := hbl
          have hbl2 : g1' < wr.heap.size := by omega
          have hlti : (kk : Int) < (l.length : Int) := by omega
          have HX1 : Hid (ExF wr B d1 A1 (.mk k1 ⟨nm1, ⟨m1, u1⟩⟩ l1)) := Lib.hid ⟨Nat.le_trans hc1 hc2, by omega, hr1⟩
          have HS : Hid (collL (l.drop (kk + 1)) (coll (.mk k1 ⟨nm1, ⟨m1, u1⟩⟩ l1) ak) = r) := Lib.hid (by have h := HI.out; rw [drop_step hlt hx] at h; exact h)
          rw [drop_step hlt hx, cntL_cons] at ha8
          have HC : Hid (∀ W, Below wr.heap.size wr W → Calls Tryz.prog 87 #[u0, .agg #[.int .i64 k1, .string nm1, .int .i64 m1, .int .i64 u1, .slice A1 l1.length cap1]] W (fun e w' => ∃ v', e = .returned v' ∧ PS (fun _ => False) W w' u0 v' ∧ OwnRows tmE 55 w' base v' (coll (.mk k1 ⟨nm1, ⟨m1, u1⟩⟩ l1) ak))) := Lib.hid (fun W hb1 =>
            IH.out d1 (by omega) (.mk k1 ⟨nm1, ⟨m1, u1⟩⟩ l1) A1 cap1 B base u0 ak W (HX1.out.below hb1) hB (by omega) (ownA HAT.out hb1))
          have hlen := coll_len (.mk k1 ⟨nm1, ⟨m1, u1⟩⟩ l1) ak
          generalize coll (.mk k1 ⟨nm1, ⟨m1, u1⟩⟩ l1) ak = r1 at HS HC hlen
          generalize (Ex.mk k1 ⟨nm1, ⟨m1, u1⟩⟩ l1).cnt = cn at *
          clear hx hbl hr1
          go_wp2_with fail
          refine (HC.out _ (by (repeat (first | (with_reducible exact Below.refl _ _) | (with_reducible assumption) | (with_reducible refine below_drewN ?_ _) | (with_reducible refine Below.drew ?_) | (with_reducible refine Below.al ?_ _) | (with_reducible refine Below.st ?_ (by simp; try omega)) | (with_reducible refine Below.tr ?_ (Hid.out (by assumption))) | (with_reducible exact Hid.out (by assumption)))))).mono ?_
          rintro e w2 ⟨v2, rfl, hp2, ho2⟩
          have HP2 : Hid (PS (fun _ => False) w w2 v v2) := Lib.hid (HP.out.trans ((PS.of _ (by (repeat (first | (with_reducible exact Below.refl _ _) | (with_reducible assumption) | (with_reducible refine below_drewN ?_ _) | (with_reducible refine Below.drew ?_) | (with_reducible refine Below.al ?_ _) | (with_reducible refine Below.st ?_ (by simp; try omega)) | (with_reducible refine Below.tr ?_ (Hid.out (by assumption))) | (with_reducible exact Hid.out (by assumption)))))).trans hp2))
          have HO2 := Lib.hid ho2
          clear hp2 ho2
          go_wp2_with fail
          go_roundg (gk - 1)
          case measure => omega
          case rel => exact ⟨kk + 1, r1, by go_num, by omega, by omega, by omega, HS, HP2, HO2⟩
        · have HE : Hid (ak = r) := Lib.hid (by have h := HI.out; rw [drop_end hlt] at h; exact h)
          have hlti : ¬ (kk : Int) < (l.length : Int) := by omega
          go_wp2_with fail
          go_ret
          exact ⟨u0, rfl, HP.out, by rw [← HE.out]; exact HAT.out⟩
set_option maxHeartbeats 1600000 in
theorem Atoms_any (d : Nat) (x : Ex) (A : Option Addr) (cap B : Nat) (w : World) (hx : ExF w B d A x) :
    Calls Tryz.prog 50 #[x.val A cap] w (RetRow tmE 55 w (atS x)) := by
  have HV := Lib.hid (fun W (hb : Below w.heap.size w W) => ValidExpr_any d x A cap B W (hx.below hb))
  have HA := Lib.hid (fun (h : veB x = true) W (hb : Below w.heap.size w W) => collect_any d x A cap B w.heap.size (.slice none 0 0) [] W (hx.below hb) hx.hB (by unfold veB okB at h; simp at h; simp; omega) (OwnRows.nil _ _ _ _ hb.size))
  have HE : Hid (atS x = bif veB x then coll x [] else []) := Lib.hid rfl
  clear hx
  obtain ⟨k, ⟨nm, ⟨m, u⟩⟩, l⟩ := x
  unfold Ex.val at *
  dsimp only [Ex.k, Ex.atom, Ex.kids] at HA HV ⊢
  generalize atS (.mk k ⟨nm, ⟨m, u⟩⟩ l) = R at *
  generalize coll (.mk k ⟨nm, ⟨m, u⟩⟩ l) [] = CL at *
  generalize veB (.mk k ⟨nm, ⟨m, u⟩⟩ l) = V at *
  go_enter Tryz.func50, Tryz.ntmps50
  go_wp2_with fail
  refine (HV.out _ (by (repeat (first | (with_reducible exact Below.refl _ _) | (with_reducible assumption) | (with_reducible refine below_drewN ?_ _) | (with_reducible refine Below.drew ?_) | (with_reducible refine Below.al ?_ _) | (with_reducible refine Below.st ?_ (by simp; try omega)) | (with_reducible refine Below.tr ?_ (Hid.out (by assumption))) | (with_reducible exact Hid.out (by assumption)))))).mono ?_
  rintro e w2 ⟨rfl, hb2⟩
  have HB2 : Hid (Below w.heap.size w w2) := Lib.hid (Below.tr (Below.al (Below.refl _ _) _) hb2)
  obtain ⟨hc_w2, hf_w2⟩ := bcell hb2
  have hs_w2 := hb2.size
  (try simp at hs_w2)
  have hz_w2_0 : w.heap.size < w2.heap.size := (by omega)
  clear hs_w2
  clear hb2
  cases V with
  | false =>
    go_wp2_with fail
    go_ret
    exact ⟨_, rfl, by rw [HE.out]; exact OwnRows.nil _ _ _ _ HB2.out.size, HB2.out⟩
  | true =>
    go_wp2_with fail
    refine (HA.out (by trivial) _ HB2.out).mono ?_
    rintro e w3 ⟨v3, rfl, hp3, ho3⟩
    have HB3 : Hid (Below w.heap.size w w3) := Lib.hid (HB2.out.trans (hp3.below (fun k hk => by cases hk) (fun k hk => hk.elim) HB2.out.size))
    have HO3 := Lib.hid ho3
    clear hp3 ho3
    go_wp2_with fail
    go_ret
    exact ⟨v3, rfl, by rw [HE.out]; exact HO3.out, HB3.out⟩
end Go.Proofs.YtogeihdfmnohnaaGreatDoor
