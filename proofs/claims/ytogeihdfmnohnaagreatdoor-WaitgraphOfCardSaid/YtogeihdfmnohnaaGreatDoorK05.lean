/- Part 5 of 49 of the proof of waitgraphOf_holds (no condition). -/
import Derived.Test.YtogeihdfmnohnaaGreatDoorK04
import Derived.Test.YtogeihdfmnohnaaGreatDoorK03
import Derived.Handy
set_option linter.unusedVariables false
set_option linter.unusedSimpArgs false
namespace Go.Proofs.YtogeihdfmnohnaaGreatDoor
open Go.RowKit
theorem drop_step {α : Type} {l : List α} {k : Nat} {x : α} (h : k < l.length) (hx : l[k] = x) : l.drop k = x :: l.drop (k + 1) := by rw [List.drop_eq_getElem_cons h, hx]
theorem drop_end {α : Type} {l : List α} {k : Nat} (h : ¬ k < l.length) : l.drop k = [] := List.drop_eq_nil_of_le (by omega)
def getH : List Ho → Pr → Am
  | [], _ => ⟨0, 0⟩
  | h :: l, p => bif decide (h.proc = p) then h.am else getH l p
set_option maxHeartbeats 1600000 in
theorem Get_any (A : Option Addr) (B cap : Nat) (l : List Ho) (x y z : Int) (w : World) (hm : l.length ≤ maxLen) (hB : B ≤ w.heap.size) (hr : RowsAt hoE w (Lo B) A l) :
    Calls Tryz.prog 190 #[.slice A l.length cap, .agg #[.int .i64 x, .int .i64 y, .int .i64 z]] w (Ret w (getH l ⟨x, y, z⟩).val) := by
  unfold maxLen at hm
  have HR := Lib.hid hr
  clear hr
  obtain ⟨v, hv⟩ : ∃ v, getH l ⟨x, y, z⟩ = v := ⟨_, rfl⟩
  rw [hv]
  have HV := Lib.hid hv
  clear hv
  go_enter Tryz.func190, Tryz.ntmps190
  go_wp2_with fail
  go_loopg [9] l.length (fun m v9 wq => ∃ k : Nat, v9 = .int .i64 (k : Int) ∧ k ≤ l.length ∧ l.length ≤ k + m ∧ Hid (getH (l.drop k) ⟨x, y, z⟩ = v) ∧ Hid (Below ((w.alloc (.cells #[.int .i64 x, .int .i64 y, .int .i64 z] 51)).alloc (.cells #[.int .i64 0, .int .i64 0] 53)).heap.size ((w.alloc (.cells #[.int .i64 x, .int .i64 y, .int .i64 z] 51)).alloc (.cells #[.int .i64 0, .int .i64 0] 53)) wq))
  case atStart => exact ⟨0, rfl, Nat.zero_le _, by omega, HV, Lib.hid (Below.refl _ _)⟩
  case round =>
    obtain ⟨k, rfl, hk, hkm, HI, HB⟩ := hrel
    have hb := HB.out
    have hbw : Below w.heap.size w wr := by (repeat (first | (with_reducible exact Below.refl _ _) | (with_reducible assumption) | (with_reducible refine below_drewN ?_ _) | (with_reducible refine Below.drew ?_) | (with_reducible refine Below.al ?_ _) | (with_reducible refine Below.st ?_ (by simp; try omega)) | (with_reducible refine Below.tr ?_ (Hid.out (by assumption))) | (with_reducible exact Hid.out (by assumption))))
    obtain ⟨hc_wr, hf_wr⟩ := bcell hb
    have hs_wr := hb.size
    (try simp at hs_wr)
    have hz_wr_0 : w.heap.size < wr.heap.size := (by omega)
    have hz_wr_1 : w.heap.size + 1 < wr.heap.size := (by omega)
    clear hs_wr
    clear hb
    by_cases hlt : k < l.length
    · obtain ⟨⟨⟨a, b, c⟩, ⟨m, u⟩⟩, hx⟩ : ∃ x, l[k] = x := ⟨_, rfl⟩
      obtain ⟨g, off, rfl, hbl, c0, c1, c2, c3, c4⟩ := ho_cells (HR.out.below (B'' := w.heap.size) hbw hB hB) hlt hx
      have hbl2 : g < wr.heap.size := Nat.lt_of_lt_of_le hbl hbw.size
      have hlti : (k : Int) < (l.length : Int) := by omega
      obtain ⟨_, k1, k2⟩ := cmpPr a b c x y z
      obtain ⟨q, hq⟩ : ∃ q, decide ((⟨a, b, c⟩ : Pr) = ⟨x, y, z⟩) = q := ⟨_, rfl⟩
      have HS : Hid ((bif q then ⟨m, u⟩ else getH (l.drop (k + 1)) ⟨x, y, z⟩) = v) := Lib.hid (by have h := HI.out; rw [drop_step hlt hx] at h; rw [← hq]; exact h)
      rw [hq] at k1
      clear hq hx hbl hbw
      cases q <;> (go_wp2_with fail; first
        | (go_roundg (gk - 1); (case measure => omega); (case rel => exact ⟨k + 1, by go_num, by omega, by omega, HS, Lib.hid (by (repeat (first | (with_reducible exact Below.refl _ _) | (with_reducible assumption) | (with_reducible refine below_drewN ?_ _) | (with_reducible refine Below.drew ?_) | (with_reducible refine Below.al ?_ _) | (with_reducible refine Below.st ?_ (by simp; try omega)) | (with_reducible refine Below.tr ?_ (Hid.out (by assumption))) | (with_reducible exact Hid.out (by assumption)))))⟩))
        | (refine bodyPost_ret_by (v := _) ?_ rfl ⟨rfl, by (repeat (first | (with_reducible exact Below.refl _ _) | (with_reducible assumption) | (with_reducible refine below_drewN ?_ _) | (with_reducible refine Below.drew ?_) | (with_reducible refine Below.al ?_ _) | (with_reducible refine Below.st ?_ (by simp; try omega)) | (with_reducible refine Below.tr ?_ (Hid.out (by assumption))) | (with_reducible exact Hid.out (by assumption))))⟩; rw [results_cell rfl, ← HS.out]; go_simp; rfl))
    · have HS : Hid (⟨0, 0⟩ = v) := Lib.hid (by have h := HI.out; rw [drop_end hlt] at h; exact h)
      clear hbw
      go_wp2_with fail
      refine bodyPost_ret_by (v := _) ?_ rfl ⟨rfl, by (repeat (first | (with_reducible exact Below.refl _ _) | (with_reducible assumption) | (with_reducible refine below_drewN ?_ _) | (with_reducible refine Below.drew ?_) | (with_reducible refine Below.al ?_ _) | (with_reducible refine Below.st ?_ (by simp; try omega)) | (with_reducible refine Below.tr ?_ (Hid.out (by assumption))) | (with_reducible exact Hid.out (by assumption))))⟩
      rw [results_cell rfl, ← HS.out]
      go_simp
      rfl
set_option maxHeartbeats 1600000 in
theorem rGet_any (A : Option Addr) (B cap : Nat) (l : List Ho) (x y z : Int) (w : World) (hm : l.length ≤ maxLen) (hB : B ≤ w.heap.size) (hr : RowsAt hoE w (Lo B) A l) :
    Calls Tryz.prog 170 #[.slice A l.length cap, .agg #[.int .i64 x, .int .i64 y, .int .i64 z]] w (Ret w (getH l ⟨x, y, z⟩).val) := by
  unfold maxLen at hm
  have HR := Lib.hid hr
  clear hr
  obtain ⟨v, hv⟩ : ∃ v, getH l ⟨x, y, z⟩ = v := ⟨_, rfl⟩
  rw [hv]
  have HV := Lib.hid hv
  clear hv
  go_enter Tryz.func170, Tryz.ntmps170
  go_wp2_with fail
  go_loopg [5] l.length (fun m v5 wq => ∃ k : Nat, v5 = .int .i64 (k : Int) ∧ k ≤ l.length ∧ l.length ≤ k + m ∧ Hid (getH (l.drop k) ⟨x, y, z⟩ = v) ∧ Hid (Below ((w.alloc (.cells #[.int .i64 x, .int .i64 y, .int .i64 z] 51)).alloc (.cells #[.int .i64 0, .int .i64 0] 53)).heap.size ((w.alloc (.cells #[.int .i64 x, .int .i64 y, .int .i64 z] 51)).alloc (.cells #[.int .i64 0, .int .i64 0] 53)) wq))
  case atStart => exact ⟨0, rfl, Nat.zero_le _, by omega, HV, Lib.hid (Below.refl _ _)⟩
  case round =>
    obtain ⟨k, rfl, hk, hkm, HI, HB⟩ := hrel
    have hb := HB.out
    have hbw : Below w.heap.size w wr := by (repeat (first | (with_reducible exact Below.refl _ _) | (with_reducible assumption) | (with_reducible refine below_drewN ?_ _) | (with_reducible refine Below.drew ?_) | (with_reducible refine Below.al ?_ _) | (with_reducible refine Below.st ?_ (by simp; try omega)) | (with_reducible refine Below.tr ?_ (Hid.out (by assumption))) | (with_reducible exact Hid.out (by assumption))))
    obtain ⟨hc_wr, hf_wr⟩ := bcell hb
    have hs_wr := hb.size
    (try simp at hs_wr)
    have hz_wr_0 : w.heap.size < wr.heap.size := (by omega)
    have hz_wr_1 : w.heap.size + 1 < wr.heap.size := (by omega)
    clear hs_wr
    clear hb
    by_cases hlt : k < l.length
    · obtain ⟨⟨⟨a, b, c⟩, ⟨m, u⟩⟩, hx⟩ : ∃ x, l[k] = x := ⟨_, rfl⟩
      obtain ⟨g, off, rfl, hbl, c0, c1, c2, c3, c4⟩ := ho_cells (HR.out.below (B'' := w.heap.size) hbw hB hB) hlt hx
      have hbl2 : g < wr.heap.size := Nat.lt_of_lt_of_le hbl hbw.size
      have hlti : (k : Int) < (l.length : Int) := by omega
      obtain ⟨_, k1, k2⟩ := cmpPr a b c x y z
      obtain ⟨q, hq⟩ : ∃ q, decide ((⟨a, b, c⟩ : Pr) = ⟨x, y, z⟩) = q := ⟨_, rfl⟩
      have HS : Hid ((bif q then ⟨m, u⟩ else getH (l.drop (k + 1)) ⟨x, y, z⟩) = v) := Lib.hid (by have h := HI.out; rw [drop_step hlt hx] at h; rw [← hq]; exact h)
      rw [hq] at k1
      clear hq hx hbl hbw
      cases q <;> (go_wp2_with fail; go_quiet (fail); go_wp2_with fail; first
        | (go_roundg (gk - 1); (case measure => omega); (case rel => exact ⟨k + 1, by go_num, by omega, by omega, HS, Lib.hid (by (repeat (first | (with_reducible exact Below.refl _ _) | (with_reducible assumption) | (with_reducible refine below_drewN ?_ _) | (with_reducible refine Below.drew ?_) | (with_reducible refine Below.al ?_ _) | (with_reducible refine Below.st ?_ (by simp; try omega)) | (with_reducible refine Below.tr ?_ (Hid.out (by assumption))) | (with_reducible exact Hid.out (by assumption)))))⟩))
        | (refine bodyPost_ret_by (v := _) ?_ rfl ⟨rfl, by (repeat (first | (with_reducible exact Below.refl _ _) | (with_reducible assumption) | (with_reducible refine below_drewN ?_ _) | (with_reducible refine Below.drew ?_) | (with_reducible refine Below.al ?_ _) | (with_reducible refine Below.st ?_ (by simp; try omega)) | (with_reducible refine Below.tr ?_ (Hid.out (by assumption))) | (with_reducible exact Hid.out (by assumption))))⟩; rw [results_cell rfl, ← HS.out]; go_simp; rfl))
    · have HS : Hid (⟨0, 0⟩ = v) := Lib.hid (by have h := HI.out; rw [drop_end hlt] at h; exact h)
      clear hbw
      go_wp2_with fail
      refine bodyPost_ret_by (v := _) ?_ rfl ⟨rfl, by (repeat (first | (with_reducible exact Below.refl _ _) | (with_reducible assumption) | (with_reducible refine below_drewN ?_ _) | (with_reducible refine Below.drew ?_) | (with_reducible refine Below.al ?_ _) | (with_reducible refine Below.st ?_ (by simp; try omega)) | (with_reducible refine Below.tr ?_ (Hid.out (by assumption))) | (with_reducible exact Hid.out (by assumption))))⟩
      rw [results_cell rfl, ← HS.out]
      go_simp
      rfl
def amsL (l : List Ho) : List Am := l.map (·.am)
def prsL (l : List Ho) : List Pr := l.map (·.proc)
set_option maxHeartbeats 1600000 in
theorem rAmounts_any (A : Option Addr) (B cap : Nat) (l : List Ho) (w : World) (hm : l.length ≤ 68719476736) (hB : B ≤ w.heap.size) (hr : RowsAt hoE w (Lo B) A l) :
    Calls Tryz.prog 146 #[.slice A l.length cap] w (RetRow amE 53 w (amsL l)) := by
  have HR := Lib.hid hr
  clear hr
  go_enter Tryz.func146, Tryz.ntmps146
  go_wp2_with fail
  go_loopg [3, 4] l.length (fun m v3 v4 wq => ∃ k : Nat, v4 = .int .i64 (k : Int) ∧ k ≤ l.length ∧ l.length ≤ k + m ∧ Hid (OwnRows amE 53 wq w.heap.size v3 (amsL (l.take k))) ∧ Hid (Below w.heap.size w wq))
  case atStart => exact ⟨0, rfl, Nat.zero_le _, by omega, Lib.hid (OwnRows.nil _ _ _ _ (Nat.le_refl _)), Lib.hid (Below.refl _ _)⟩
  case round =>
    obtain ⟨k, rfl, hk, hkm, HO, HB⟩ := hrel
    by_cases hlt : k < l.length
    · obtain ⟨⟨⟨a, b, c⟩, ⟨m, u⟩⟩, hx⟩ : ∃ x, l[k] = x := ⟨_, rfl⟩
      obtain ⟨g, off, rfl, hbl, c0, c1, c2, c3, c4⟩ := ho_cells (HR.out.below (B'' := w.heap.size) HB.out hB hB) hlt hx
      have hbl2 : g < wr.heap.size := Nat.lt_of_lt_of_le hbl HB.out.size
      have hlti : (k : Int) < (l.length : Int) := by omega
      have HE : Hid (amsL (l.take k) ++ [⟨m, u⟩] = amsL (l.take (k + 1))) := Lib.hid (by unfold amsL; rw [List.take_add_one, List.map_append, List.getElem?_eq_getElem hlt, hx]; rfl)
      have HL : Hid ((amsL (l.take k)).length = k) := Lib.hid (by simp [amsL]; omega)
      clear hx hbl
      go_wp2_with (at_builtin; refine pushOneB amTB rfl (.tmp 11) (.tmp 17) rfl wr w.heap.size u3 _ ⟨m, u⟩ [.int .i64 m, .int .i64 u] _ rfl rfl HO.out wr.heap.size rfl rfl rfl (by rw [HL.out]; unfold maxLen; omega) (by rw [HL.out]; omega) ?_; intro v7 w7 hown7 hb7 hsp7; have HB7 : Hid (Below w.heap.size w w7) := Lib.hid (HB.out.trans hb7); have HO7 := Lib.hid hown7; clear hown7 hb7 hsp7)
      rw [HE.out] at HO7
      go_roundg (gk - 1)
      case measure => omega
      case rel => exact ⟨k + 1, by go_num, by omega, by omega, HO7, HB7⟩
    · have HE : Hid (amsL (l.take k) = amsL l) := Lib.hid (by rw [List.take_of_length_le (by omega)])
      rw [HE.out] at HO
      go_wp2_with fail
      go_ret
      exact ⟨_, rfl, HO.out, HB.out⟩
end Go.Proofs.YtogeihdfmnohnaaGreatDoor
namespace Go.Proofs.YtogeihdfmnohnaaGreatDoor
open Go.RowKit
set_option maxRecDepth 100000 in
set_option maxHeartbeats 1600000 in
theorem compare_any (a b c x y z : Int) (w : World) : Calls Tryz.prog 77 #[.agg #[.int .i64 a, .int .i64 b, .int .i64 c], .agg #[.int .i64 x, .int .i64 y, .int .i64 z]] w (Ret w (.int .i64 (cmpP ⟨a, b, c⟩ ⟨x, y, z⟩))) := by
  have i0 : ∀ w : World, (Instr.index 113 (.agg #[.int .i64 a, .int .i64 b, .int .i64 c]) (.int .i64 0)).run Tryz.prog w = .ok (.int .i64 a) w := fun _ => by kernel_rfl
  have i1 : ∀ w : World, (Instr.index 113 (.agg #[.int .i64 a, .int .i64 b, .int .i64 c]) (.int .i64 1)).run Tryz.prog w = .ok (.int .i64 b) w := fun _ => by kernel_rfl
  have i2 : ∀ w : World, (Instr.index 113 (.agg #[.int .i64 a, .int .i64 b, .int .i64 c]) (.int .i64 2)).run Tryz.prog w = .ok (.int .i64 c) w := fun _ => by kernel_rfl
  obtain ⟨r, hr⟩ : ∃ r, cmpP ⟨a, b, c⟩ ⟨x, y, z⟩ = r := ⟨_, rfl⟩
  rw [hr]
  have HR := Lib.hid hr
  clear hr
  go_enter Tryz.func77, Tryz.ntmps77
  go_wp2
  go_rounds 4
  all_goals go_ret
  all_goals refine ⟨ret_int ?_, ((Below.refl _ _).alloc (Nat.le_refl _) _).alloc (by simp) _⟩
  all_goals rw [← HR.out]
  all_goals rcases cmpP_cases ⟨a, b, c⟩ ⟨x, y, z⟩ with ⟨h, e⟩ | ⟨h, e⟩ | ⟨h, e⟩ <;> rw [e] <;> first | rfl | (exfalso; unfold LtP at h; simp only at h; omega) | (exfalso; simp only [Pr.mk.injEq] at h; omega)
set_option maxRecDepth 100000 in
set_option maxHeartbeats 1600000 in
theorem CProc_any (p q : Pr) (w : World) : Calls Tryz.prog 41 #[p.val, q.val] w (Ret w (.int .i64 (cmpP p q))) := by
  obtain ⟨a, b, c⟩ := p
  obtain ⟨x, y, z⟩ := q
  have HC := Lib.hid (fun w => compare_any a b c x y z w)
  obtain ⟨r, hr⟩ : ∃ r, cmpP ⟨a, b, c⟩ ⟨x, y, z⟩ = r := ⟨_, rfl⟩
  rw [hr] at HC ⊢
  clear hr
  unfold Pr.val
  go_enter Tryz.func41, Tryz.ntmps41
  go_wp2_with fail
  refine (HC.out _).mono ?_
  rintro e w1 ⟨rfl, hb⟩
  have HB := Lib.hid (((Below.refl w.heap.size w).alloc (Nat.le_refl _) _).alloc (by simp) _ |>.trans (hb.mono (by simp; omega)))
  go_wp2
  go_ret
  exact ⟨rfl, HB.out⟩
end Go.Proofs.YtogeihdfmnohnaaGreatDoor
namespace Go.Proofs.YtogeihdfmnohnaaGreatDoor
open Go.RowKit
def usableB (a : Am) : Bool := modeB a.mode && decide (a.units = 0) || decide (a.mode = 0) && decide (1 ≤ a.units) && decide (a.units ≤ 8)
def vwB (x : Wt) : Bool := vpB x.proc && usableB x.am && decide (0 ≤ x.prio) && decide (x.prio ≤ 7) && decide (0 ≤ x.passed) && decide (x.passed ≤ 3)
def findGo (p : Pr) : Nat → List Wt → Int
  | _, [] => -1
  | k, x :: l => bif decide (x.proc = p) then (k : Int) else findGo p (k + 1) l
def findW (l : List Wt) (p : Pr) : Int := findGo p 0 l
def lnGo (all : List Wt) : Nat → List Wt → Bool
  | _, [] => true
  | k, x :: l => vwB x && decide (findW all x.proc = (k : Int)) && lnGo all (k + 1) l
def lineB (l : List Wt) : Bool := decide (l.length ≤ 8) && lnGo l 0 l
theorem lnGo_cons (all : List Wt) (k : Nat) (x : Wt) (l : List Wt) : lnGo all k (x :: l) = (vwB x && decide (findW all x.proc = (k : Int)) && lnGo all (k + 1) l) := rfl
theorem findGo_cons (p : Pr) (k : Nat) (x : Wt) (l : List Wt) : findGo p k (x :: l) = bif decide (x.proc = p) then (k : Int) else findGo p (k + 1) l := rfl
set_option maxHeartbeats 1600000 in
theorem Usable_any (m u : Int) (w : World) : Calls Tryz.prog 175 #[.agg #[.int .i64 m, .int .i64 u]] w (Ret w (.bool (usableB ⟨m, u⟩))) := by
  have HM := Lib.hid (fun W => rmodeValid_any m W)
  go_enter Tryz.func175, Tryz.ntmps175
  go_wp2_with fail
  repeat' (first
    | (go_at_call 147; refine (HM.out _).mono ?_; rintro e wa1 ⟨rfl, hwa1⟩; obtain rfl := hwa1.symm; clear hwa1; go_wp2_with fail)
    | (go_ret; refine ⟨ret_bool ?_, by (repeat (first | (with_reducible exact Below.refl _ _) | (with_reducible assumption) | (with_reducible refine below_drewN ?_ _) | (with_reducible refine Below.drew ?_) | (with_reducible refine Below.al ?_ _) | (with_reducible refine Below.st ?_ (by simp; try omega)) | (with_reducible refine Below.tr ?_ (Hid.out (by assumption))) | (with_reducible exact Hid.out (by assumption))))⟩; (first | (simp_all [usableB]; done) | (simp_all [usableB]; omega) | (rw [Bool.eq_iff_iff]; simp_all [usableB]; done) | (rw [Bool.eq_iff_iff]; simp_all [usableB]; omega))))
set_option maxHeartbeats 3200000 in
theorem rValidWait_any (a b c m u pr pa : Int) (w : World) : Calls Tryz.prog 185 #[.agg #[.int .i64 a, .int .i64 b, .int .i64 c, .int .i64 m, .int .i64 u, .int .i64 pr, .int .i64 pa]] w (Ret w (.bool (vwB ⟨⟨a, b, c⟩, ⟨m, u⟩, pr, pa⟩))) := by
  have HV := Lib.hid (fun W => rVProc_any ⟨a, b, c⟩ W)
  have HU := Lib.hid (fun W => Usable_any m u W)
  go_enter Tryz.func185, Tryz.ntmps185
  go_wp2_with fail
  repeat' (first
    | (go_at_call 58; refine (HV.out _).mono ?_; rintro e wa1 ⟨rfl, hb_wa1⟩; obtain ⟨hc_wa1, hf_wa1⟩ := bcell hb_wa1; have hs_wa1 := hb_wa1.size; (try simp at hs_wa1); have hz_wa1_w_0 : w.heap.size < wa1.heap.size := (by omega); clear hs_wa1; have HB_wa1 := Lib.hid hb_wa1; clear hb_wa1; go_wp2_with fail)
    | (go_at_call 175; refine (HU.out _).mono ?_; rintro e wa2 ⟨rfl, hb_wa2⟩; obtain ⟨hc_wa2, hf_wa2⟩ := bcell hb_wa2; have hs_wa2 := hb_wa2.size; (try simp at hs_wa2); have hz_wa2_w_0 : w.heap.size < wa2.heap.size := (by omega); clear hs_wa2; have HB_wa2 := Lib.hid hb_wa2; clear hb_wa2; go_wp2_with fail)
    | (go_ret; refine ⟨ret_bool ?_, by (repeat (first | (with_reducible exact Below.refl _ _) | (with_reducible assumption) | (with_reducible refine below_drewN ?_ _) | (with_reducible refine Below.drew ?_) | (with_reducible refine Below.al ?_ _) | (with_reducible refine Below.st ?_ (by simp; try omega)) | (with_reducible refine Below.tr ?_ (Hid.out (by assumption))) | (with_reducible exact Hid.out (by assumption))))⟩; (first | (simp_all [vwB]; done) | (simp_all [vwB]; omega) | (rw [Bool.eq_iff_iff]; simp_all [vwB]; done) | (rw [Bool.eq_iff_iff]; simp_all [vwB]; omega))))
theorem usable_fits (m u : Int) : usableB ⟨m, u⟩ = (fitsB ⟨⟨#[]⟩, 1, 1, 0⟩ ⟨m, u⟩ || fitsB ⟨⟨#[]⟩, 2, 8, 0⟩ ⟨m, u⟩) := by
  unfold usableB fitsB shapedB
  simp
set_option maxHeartbeats 3200000 in
theorem ValidWait_any (a b c m u pr pa : Int) (w : World) : Calls Tryz.prog 192 #[.agg #[.int .i64 a, .int .i64 b, .int .i64 c, .int .i64 m, .int .i64 u, .int .i64 pr, .int .i64 pa]] w (Ret w (.bool (vwB ⟨⟨a, b, c⟩, ⟨m, u⟩, pr, pa⟩))) := by
  have HV := Lib.hid (fun W => VProc_any ⟨a, b, c⟩ W)
  have HF := Lib.hid (fun nm kd un h W => Fits_any ⟨nm, kd, un, h⟩ m u W)
  unfold Rs.val at HF
  have HU := Lib.hid (usable_fits m u)
  go_enter Tryz.func192, Tryz.ntmps192
  go_wp2_with fail
  repeat' (first
    | (go_at_call 39; refine (HV.out _).mono ?_; rintro e wa1 ⟨rfl, hb_wa1⟩; obtain ⟨hc_wa1, hf_wa1⟩ := bcell hb_wa1; have hs_wa1 := hb_wa1.size; (try simp at hs_wa1); have hz_wa1_w_0 : w.heap.size < wa1.heap.size := (by omega); have hz_wa1_w_1 : w.heap.size + 1 < wa1.heap.size := (by omega); have hz_wa1_w_2 : w.heap.size + 1 + 1 < wa1.heap.size := (by omega); clear hs_wa1; have HB_wa1 := Lib.hid hb_wa1; clear hb_wa1; go_wp2_with fail)
    | (go_at_call 137; refine (HF.out _ _ _ _ _).mono ?_; rintro e wa2 ⟨rfl, hb_wa2⟩; obtain ⟨hc_wa2, hf_wa2⟩ := bcell hb_wa2; have hs_wa2 := hb_wa2.size; (try simp at hs_wa2); have hz_wa2_w_0 : w.heap.size < wa2.heap.size := (by omega); have hz_wa2_w_1 : w.heap.size + 1 < wa2.heap.size := (by omega); have hz_wa2_w_2 : w.heap.size + 1 + 1 < wa2.heap.size := (by omega); clear hs_wa2; have HB_wa2 := Lib.hid hb_wa2; clear hb_wa2; go_wp2_with fail)
    | (go_ret; refine ⟨ret_bool ?_, by (repeat (first | (with_reducible exact Below.refl _ _) | (with_reducible assumption) | (with_reducible refine below_drewN ?_ _) | (with_reducible refine Below.drew ?_) | (with_reducible refine Below.al ?_ _) | (with_reducible refine Below.st ?_ (by simp; try omega)) | (with_reducible refine Below.tr ?_ (Hid.out (by assumption))) | (with_reducible exact Hid.out (by assumption))))⟩; unfold vwB; have hu := HU.out; (first | (simp_all []; done) | (simp_all []; omega) | (rw [Bool.eq_iff_iff]; simp_all []; done) | (rw [Bool.eq_iff_iff]; simp_all []; omega))))
set_option maxHeartbeats 1600000 in
theorem WFind_any (A : Option Addr) (B cap : Nat) (l : List Wt) (x y z : Int) (w : World) (hm : l.length ≤ maxLen) (hB : B ≤ w.heap.size) (hr : RowsAt wtE w (Lo B) A l) :
    Calls Tryz.prog 177 #[.slice A l.length cap, .agg #[.int .i64 x, .int .i64 y, .int .i64 z]] w (Ret w (.int .i64 (findW l ⟨x, y, z⟩))) := by
  unfold maxLen at hm
  have HR := Lib.hid hr
  clear hr
  obtain ⟨v, hv⟩ : ∃ v, findW l ⟨x, y, z⟩ = v := ⟨_, rfl⟩
  rw [hv]
  have HV : Hid (findGo ⟨x, y, z⟩ 0 (l.drop 0) = v) := Lib.hid hv
  clear hv
  go_enter Tryz.func177, Tryz.ntmps177
  go_wp2_with fail
  go_loopg [9] l.length (fun m0 v9 wq => ∃ k : Nat, v9 = .int .i64 (k : Int) ∧ k ≤ l.length ∧ l.length ≤ k + m0 ∧ Hid (findGo ⟨x, y, z⟩ k (l.drop k) = v) ∧ Hid (Below (w.alloc (.cells #[.int .i64 x, .int .i64 y, .int .i64 z] 51)).heap.size (w.alloc (.cells #[.int .i64 x, .int .i64 y, .int .i64 z] 51)) wq))
  case atStart => exact ⟨0, rfl, Nat.zero_le _, by omega, HV, Lib.hid (Below.refl _ _)⟩
  case round =>
    obtain ⟨k, rfl, hk, hkm, HI, HB⟩ := hrel
    have hb := HB.out
    have hbw : Below w.heap.size w wr := by (repeat (first | (with_reducible exact Below.refl _ _) | (with_reducible assumption) | (with_reducible refine below_drewN ?_ _) | (with_reducible refine Below.drew ?_) | (with_reducible refine Below.al ?_ _) | (with_reducible refine Below.st ?_ (by simp; try omega)) | (with_reducible refine Below.tr ?_ (Hid.out (by assumption))) | (with_reducible exact Hid.out (by assumption))))
    obtain ⟨hc_wr, hf_wr⟩ := bcell hb
    have hs_wr := hb.size
    (try simp at hs_wr)
    have hz_wr_0 : w.heap.size < wr.heap.size := (by omega)
    clear hs_wr
    clear hb
    by_cases hlt : k < l.length
    · obtain ⟨⟨⟨a, b, c⟩, ⟨m, u⟩, pr, pa⟩, hx⟩ : ∃ x, l[k] = x := ⟨_, rfl⟩
      obtain ⟨g, off, rfl, hbl, c0, c1, c2, c3, c4, c5, c6⟩ := wt_cells (HR.out.below (B'' := w.heap.size) hbw hB hB) hlt hx
      have hbl2 : g < wr.heap.size := Nat.lt_of_lt_of_le hbl hbw.size
      have hlti : (k : Int) < (l.length : Int) := by omega
      obtain ⟨_, k1, k2⟩ := cmpPr a b c x y z
      obtain ⟨q, hq⟩ : ∃ q, decide ((⟨a, b, c⟩ : Pr) = ⟨x, y, z⟩) = q := ⟨_, rfl⟩
      have HS : Hid ((bif q then (k : Int) else findGo ⟨x, y, z⟩ (k + 1) (l.drop (k + 1))) = v) := Lib.hid (by have h := HI.out; rw [drop_step hlt hx, findGo_cons] at h; rw [← hq]; exact h)
      rw [hq] at k1
      clear hq hx hbl hbw
      cases q <;> (go_wp2_with fail; first
        | (go_roundg (gk - 1); (case measure => omega); (case rel => exact ⟨k + 1, by go_num, by omega, by omega, Lib.hid HS.out, Lib.hid (by (repeat (first | (with_reducible exact Below.refl _ _) | (with_reducible assumption) | (with_reducible refine below_drewN ?_ _) | (with_reducible refine Below.drew ?_) | (with_reducible refine Below.al ?_ _) | (with_reducible refine Below.st ?_ (by simp; try omega)) | (with_reducible refine Below.tr ?_ (Hid.out (by assumption))) | (with_reducible exact Hid.out (by assumption)))))⟩))
        | (go_ret; exact ⟨ret_int (show (k : Int) = v from HS.out), by (repeat (first | (with_reducible exact Below.refl _ _) | (with_reducible assumption) | (with_reducible refine below_drewN ?_ _) | (with_reducible refine Below.drew ?_) | (with_reducible refine Below.al ?_ _) | (with_reducible refine Below.st ?_ (by simp; try omega)) | (with_reducible refine Below.tr ?_ (Hid.out (by assumption))) | (with_reducible exact Hid.out (by assumption))))⟩))
    · have HS : Hid (-1 = v) := Lib.hid (by have h := HI.out; rw [drop_end hlt] at h; exact h)
      clear hbw
      go_wp2_with fail
      go_ret
      exact ⟨ret_int HS.out, by (repeat (first | (with_reducible exact Below.refl _ _) | (with_reducible assumption) | (with_reducible refine below_drewN ?_ _) | (with_reducible refine Below.drew ?_) | (with_reducible refine Below.al ?_ _) | (with_reducible refine Below.st ?_ (by simp; try omega)) | (with_reducible refine Below.tr ?_ (Hid.out (by assumption))) | (with_reducible exact Hid.out (by assumption))))⟩
set_option maxHeartbeats 1600000 in
theorem rWFind_any (A : Option Addr) (B cap : Nat) (l : List Wt) (x y z : Int) (w : World) (hm : l.length ≤ maxLen) (hB : B ≤ w.heap.size) (hr : RowsAt wtE w (Lo B) A l) :
    Calls Tryz.prog 102 #[.slice A l.length cap, .agg #[.int .i64 x, .int .i64 y, .int .i64 z]] w (Ret w (.int .i64 (findW l ⟨x, y, z⟩))) := by
  unfold maxLen at hm
  have HR := Lib.hid hr
  clear hr
  obtain ⟨v, hv⟩ : ∃ v, findW l ⟨x, y, z⟩ = v := ⟨_, rfl⟩
  rw [hv]
  have HV : Hid (findGo ⟨x, y, z⟩ 0 (l.drop 0) = v) := Lib.hid hv
  clear hv
  go_enter Tryz.func102, Tryz.ntmps102
  go_wp2_with fail
  go_loopg [5] l.length (fun m0 v5 wq => ∃ k : Nat, v5 = .int .i64 (k : Int) ∧ k ≤ l.length ∧ l.length ≤ k + m0 ∧ Hid (findGo ⟨x, y, z⟩ k (l.drop k) = v) ∧ Hid (Below (w.alloc (.cells #[.int .i64 x, .int .i64 y, .int .i64 z] 51)).heap.size (w.alloc (.cells #[.int .i64 x, .int .i64 y, .int .i64 z] 51)) wq))
  case atStart => exact ⟨0, rfl, Nat.zero_le _, by omega, HV, Lib.hid (Below.refl _ _)⟩
  case round =>
    obtain ⟨k, rfl, hk, hkm, HI, HB⟩ := hrel
    have hb := HB.out
    have hbw : Below w.heap.size w wr := by (repeat (first | (with_reducible exact Below.refl _ _) | (with_reducible assumption) | (with_reducible refine below_drewN ?_ _) | (with_reducible refine Below.drew ?_) | (with_reducible refine Below.al ?_ _) | (with_reducible refine Below.st ?_ (by simp; try omega)) | (with_reducible refine Below.tr ?_ (Hid.out (by assumption))) | (with_reducible exact Hid.out (by assumption))))
    obtain ⟨hc_wr, hf_wr⟩ := bcell hb
    have hs_wr := hb.size
    (try simp at hs_wr)
    have hz_wr_0 : w.heap.size < wr.heap.size := (by omega)
    clear hs_wr
    clear hb
    by_cases hlt : k < l.length
    · obtain ⟨⟨⟨a, b, c⟩, ⟨m, u⟩, pr, pa⟩, hx⟩ : ∃ x, l[k] = x := ⟨_, rfl⟩
      obtain ⟨g, off, rfl, hbl, c0, c1, c2, c3, c4, c5, c6⟩ := wt_cells (HR.out.below (B'' := w.heap.size) hbw hB hB) hlt hx
      have hbl2 : g < wr.heap.size := Nat.lt_of_lt_of_le hbl hbw.size
      have hlti : (k : Int) < (l.length : Int) := by omega
      obtain ⟨_, k1, k2⟩ := cmpPr a b c x y z
      obtain ⟨q, hq⟩ : ∃ q, decide ((⟨a, b, c⟩ : Pr) = ⟨x, y, z⟩) = q := ⟨_, rfl⟩
      have HS : Hid ((bif q then (k : Int) else findGo ⟨x, y, z⟩ (k + 1) (l.drop (k + 1))) = v) := Lib.hid (by have h := HI.out; rw [drop_step hlt hx, findGo_cons] at h; rw [← hq]; exact h)
      rw [hq] at k1
      clear hq hx hbl hbw
      cases q <;> (go_wp2_with fail; go_quiet (fail); go_wp2_with fail; first
        | (go_roundg (gk - 1); (case measure => omega); (case rel => exact ⟨k + 1, by go_num, by omega, by omega, Lib.hid HS.out, Lib.hid (by (repeat (first | (with_reducible exact Below.refl _ _) | (with_reducible assumption) | (with_reducible refine below_drewN ?_ _) | (with_reducible refine Below.drew ?_) | (with_reducible refine Below.al ?_ _) | (with_reducible refine Below.st ?_ (by simp; try omega)) | (with_reducible refine Below.tr ?_ (Hid.out (by assumption))) | (with_reducible exact Hid.out (by assumption)))))⟩))
        | (go_ret; exact ⟨ret_int (show (k : Int) = v from HS.out), by (repeat (first | (with_reducible exact Below.refl _ _) | (with_reducible assumption) | (with_reducible refine below_drewN ?_ _) | (with_reducible refine Below.drew ?_) | (with_reducible refine Below.al ?_ _) | (with_reducible refine Below.st ?_ (by simp; try omega)) | (with_reducible refine Below.tr ?_ (Hid.out (by assumption))) | (with_reducible exact Hid.out (by assumption))))⟩))
    · have HS : Hid (-1 = v) := Lib.hid (by have h := HI.out; rw [drop_end hlt] at h; exact h)
      clear hbw
      go_wp2_with fail
      go_ret
      exact ⟨ret_int HS.out, by (repeat (first | (with_reducible exact Below.refl _ _) | (with_reducible assumption) | (with_reducible refine below_drewN ?_ _) | (with_reducible refine Below.drew ?_) | (with_reducible refine Below.al ?_ _) | (with_reducible refine Below.st ?_ (by simp; try omega)) | (with_reducible refine Below.tr ?_ (Hid.out (by assumption))) | (with_reducible exact Hid.out (by assumption))))⟩
set_option maxHeartbeats 3200000 in
theorem WValid_any (A : Option Addr) (B cap : Nat) (l : List Wt) (w : World) (hm : l.length ≤ maxLen) (hB : B ≤ w.heap.size) (hr : RowsAt wtE w (Lo B) A l) :
    Calls Tryz.prog 179 #[.slice A l.length cap] w (Ret w (.bool (lineB l))) := by
  have HF := Lib.hid (fun x y z W (hb : Below w.heap.size w W) => WFind_any A B cap l x y z W hm (Nat.le_trans hB hb.size) (hr.below hb hB (Nat.le_refl _)))
  have HW := Lib.hid (fun a b c m u pr pa W => ValidWait_any a b c m u pr pa W)
  unfold maxLen at hm
  have HR := Lib.hid hr
  clear hr
  obtain ⟨q, hq⟩ : ∃ q, lineB l = q := ⟨_, rfl⟩
  rw [hq]
  by_cases h8 : l.length ≤ 8
  · have h8i : ¬ (8 : Int) < (l.length : Int) := by omega
    have HQ : Hid (lnGo l 0 (l.drop 0) = q) := Lib.hid (by rw [← hq]; unfold lineB; rw [decide_eq_true h8]; rfl)
    clear hq
    go_enter Tryz.func179, Tryz.ntmps179
    go_wp2_with fail
    go_loopg [10] l.length (fun m0 v10 wq => ∃ k : Nat, v10 = .int .i64 (k : Int) ∧ k ≤ l.length ∧ l.length ≤ k + m0 ∧ Hid (lnGo l k (l.drop k) = q) ∧ Hid (Below w.heap.size w wq))
    case atStart => exact ⟨0, rfl, Nat.zero_le _, by omega, HQ, Lib.hid (Below.refl _ _)⟩
    case round =>
      obtain ⟨k, rfl, hk, hkm, HI, HB⟩ := hrel
      by_cases hlt : k < l.length
      · obtain ⟨⟨⟨a, b, c⟩, ⟨m, u⟩, pr, pa⟩, hx⟩ : ∃ x, l[k] = x := ⟨_, rfl⟩
        obtain ⟨g, off, rfl, hbl, c0, c1, c2, c3, c4, c5, c6⟩ := wt_cells (HR.out.below (B'' := w.heap.size) HB.out hB hB) hlt hx
        have hbl2 : g < wr.heap.size := Nat.lt_of_lt_of_le hbl HB.out.size
        have hlti : (k : Int) < (l.length : Int) := by omega
        have HS : Hid ((vwB ⟨⟨a, b, c⟩, ⟨m, u⟩, pr, pa⟩ && decide (findW l ⟨a, b, c⟩ = (k : Int)) && lnGo l (k + 1) (l.drop (k + 1))) = q) := Lib.hid (by have h := HI.out; rw [drop_step hlt hx, lnGo_cons] at h; exact h)
        have HW1 := Lib.hid (fun W => HW.out a b c m u pr pa W)
        have HF1 := Lib.hid (fun W hb => HF.out a b c W hb)
        obtain ⟨p1, hp1⟩ : ∃ p, vwB ⟨⟨a, b, c⟩, ⟨m, u⟩, pr, pa⟩ = p := ⟨_, rfl⟩
        obtain ⟨n, hn⟩ : ∃ n, findW l ⟨a, b, c⟩ = n := ⟨_, rfl⟩
        rw [hp1] at HW1 HS
        rw [hn] at HF1 HS
        clear hp1 hn hx hbl
        go_wp2_with fail
        repeat' (first
          | (go_at_call 192; refine (HW1.out _).mono ?_; rintro e wa1 ⟨rfl, hb_wa1⟩; obtain ⟨hc_wa1, hf_wa1⟩ := bcell hb_wa1; have hs_wa1 := hb_wa1.size; (try simp at hs_wa1); have hz_wa1_wr_0 : wr.heap.size < wa1.heap.size := (by omega); clear hs_wa1; have HB_wa1 := Lib.hid hb_wa1; clear hb_wa1; go_wp2_with fail)
          | (go_at_call 177; refine (HF1.out _ (by (repeat (first | (with_reducible exact Below.refl _ _) | (with_reducible assumption) | (with_reducible refine below_drewN ?_ _) | (with_reducible refine Below.drew ?_) | (with_reducible refine Below.al ?_ _) | (with_reducible refine Below.st ?_ (by simp; try omega)) | (with_reducible refine Below.tr ?_ (Hid.out (by assumption))) | (with_reducible exact Hid.out (by assumption)))))).mono ?_; rintro e wa2 ⟨rfl, hb_wa2⟩; obtain ⟨hc_wa2, hf_wa2⟩ := bcell hb_wa2; have hs_wa2 := hb_wa2.size; (try simp at hs_wa2); have hz_wa2_wr_0 : wr.heap.size < wa2.heap.size := (by omega); clear hs_wa2; have HB_wa2 := Lib.hid hb_wa2; clear hb_wa2; go_wp2_with fail)
          | (go_ret; exact ⟨ret_bool (by rw [← HS.out]; simp_all), by (repeat (first | (with_reducible exact Below.refl _ _) | (with_reducible assumption) | (with_reducible refine below_drewN ?_ _) | (with_reducible refine Below.drew ?_) | (with_reducible refine Below.al ?_ _) | (with_reducible refine Below.st ?_ (by simp; try omega)) | (with_reducible refine Below.tr ?_ (Hid.out (by assumption))) | (with_reducible exact Hid.out (by assumption))))⟩)
          | (go_roundg (gk - 1); (case measure => omega); (case rel => exact ⟨k + 1, by go_num, by omega, by omega, Lib.hid (by have h1 := HS.out; simp_all), Lib.hid (by (repeat (first | (with_reducible exact Below.refl _ _) | (with_reducible assumption) | (with_reducible refine below_drewN ?_ _) | (with_reducible refine Below.drew ?_) | (with_reducible refine Below.al ?_ _) | (with_reducible refine Below.st ?_ (by simp; try omega)) | (with_reducible refine Below.tr ?_ (Hid.out (by assumption))) | (with_reducible exact Hid.out (by assumption)))))⟩)))
      · have HS : Hid (true = q) := Lib.hid (by have h := HI.out; rw [drop_end hlt] at h; exact h)
        have hlti : ¬ (k : Int) < (l.length : Int) := by omega
        go_wp2_with fail
        go_ret
        exact ⟨ret_bool HS.out, by (repeat (first | (with_reducible exact Below.refl _ _) | (with_reducible assumption) | (with_reducible refine below_drewN ?_ _) | (with_reducible refine Below.drew ?_) | (with_reducible refine Below.al ?_ _) | (with_reducible refine Below.st ?_ (by simp; try omega)) | (with_reducible refine Below.tr ?_ (Hid.out (by assumption))) | (with_reducible exact Hid.out (by assumption))))⟩
  · have h8i : (8 : Int) < (l.length : Int) := by omega
    have HQ : Hid (false = q) := Lib.hid (by rw [← hq]; unfold lineB; rw [decide_eq_false h8]; rfl)
    clear hq
    go_enter Tryz.func179, Tryz.ntmps179
    go_wp2_with fail
    go_ret
    exact ⟨ret_bool HQ.out, by (repeat (first | (with_reducible exact Below.refl _ _) | (with_reducible assumption) | (with_reducible refine below_drewN ?_ _) | (with_reducible refine Below.drew ?_) | (with_reducible refine Below.al ?_ _) | (with_reducible refine Below.st ?_ (by simp; try omega)) | (with_reducible refine Below.tr ?_ (Hid.out (by assumption))) | (with_reducible exact Hid.out (by assumption))))⟩
set_option maxHeartbeats 3200000 in
theorem rWValid_any (A : Option Addr) (B cap : Nat) (l : List Wt) (w : World) (hm : l.length ≤ maxLen) (hB : B ≤ w.heap.size) (hr : RowsAt wtE w (Lo B) A l) :
    Calls Tryz.prog 169 #[.slice A l.length cap] w (Ret w (.bool (lineB l))) := by
  have HF := Lib.hid (fun x y z W (hb : Below w.heap.size w W) => rWFind_any A B cap l x y z W hm (Nat.le_trans hB hb.size) (hr.below hb hB (Nat.le_refl _)))
  have HW := Lib.hid (fun a b c m u pr pa W => rValidWait_any a b c m u pr pa W)
  unfold maxLen at hm
  have HR := Lib.hid hr
  clear hr
  obtain ⟨q, hq⟩ : ∃ q, lineB l = q := ⟨_, rfl⟩
  rw [hq]
  by_cases h8 : l.length ≤ 8
  · have h8i : ¬ (8 : Int) < (l.length : Int) := by omega
    have HQ : Hid (lnGo l 0 (l.drop 0) = q) := Lib.hid (by rw [← hq]; unfold lineB; rw [decide_eq_true h8]; rfl)
    clear hq
    go_enter Tryz.func169, Tryz.ntmps169
    go_wp2_with fail
    go_loopg [3] l.length (fun m0 v3 wq => ∃ k : Nat, v3 = .int .i64 (k : Int) ∧ k ≤ l.length ∧ l.length ≤ k + m0 ∧ Hid (lnGo l k (l.drop k) = q) ∧ Hid (Below w.heap.size w wq))
    case atStart => exact ⟨0, rfl, Nat.zero_le _, by omega, HQ, Lib.hid (Below.refl _ _)⟩
    case round =>
      obtain ⟨k, rfl, hk, hkm, HI, HB⟩ := hrel
      by_cases hlt : k < l.length
      · obtain ⟨⟨⟨a, b, c⟩, ⟨m, u⟩, pr, pa⟩, hx⟩ : ∃ x, l[k] = x := ⟨_, rfl⟩
        obtain ⟨g, off, rfl, hbl, c0, c1, c2, c3, c4, c5, c6⟩ := wt_cells (HR.out.below (B'' := w.heap.size) HB.out hB hB) hlt hx
        have hbl2 : g < wr.heap.size := Nat.lt_of_lt_of_le hbl HB.out.size
        have hlti : (k : Int) < (l.length : Int) := by omega
        have HS : Hid ((vwB ⟨⟨a, b, c⟩, ⟨m, u⟩, pr, pa⟩ && decide (findW l ⟨a, b, c⟩ = (k : Int)) && lnGo l (k + 1) (l.drop (k + 1))) = q) := Lib.hid (by have h := HI.out; rw [drop_step hlt hx, lnGo_cons] at h; exact h)
        have HW1 := Lib.hid (fun W => HW.out a b c m u pr pa W)
        have HF1 := Lib.hid (fun W hb => HF.out a b c W hb)
        obtain ⟨p1, hp1⟩ : ∃ p, vwB ⟨⟨a, b, c⟩, ⟨m, u⟩, pr, pa⟩ = p := ⟨_, rfl⟩
        obtain ⟨n, hn⟩ : ∃ n, findW l ⟨a, b, c⟩ = n := ⟨_, rfl⟩
        rw [hp1] at HW1 HS
        rw [hn] at HF1 HS
        clear hp1 hn hx hbl
        go_wp2_with fail
        repeat' (first
          | (go_at_call 185; refine (HW1.out _).mono ?_; rintro e wa1 ⟨rfl, hb_wa1⟩; obtain ⟨hc_wa1, hf_wa1⟩ := bcell hb_wa1; have hs_wa1 := hb_wa1.size; (try simp at hs_wa1); clear hs_wa1; have HB_wa1 := Lib.hid hb_wa1; clear hb_wa1; go_wp2_with fail)
          | (go_at_call 102; refine (HF1.out _ (by (repeat (first | (with_reducible exact Below.refl _ _) | (with_reducible assumption) | (with_reducible refine below_drewN ?_ _) | (with_reducible refine Below.drew ?_) | (with_reducible refine Below.al ?_ _) | (with_reducible refine Below.st ?_ (by simp; try omega)) | (with_reducible refine Below.tr ?_ (Hid.out (by assumption))) | (with_reducible exact Hid.out (by assumption)))))).mono ?_; rintro e wa2 ⟨rfl, hb_wa2⟩; obtain ⟨hc_wa2, hf_wa2⟩ := bcell hb_wa2; have hs_wa2 := hb_wa2.size; (try simp at hs_wa2); clear hs_wa2; have HB_wa2 := Lib.hid hb_wa2; clear hb_wa2; go_wp2_with fail)
          | (go_ret; exact ⟨ret_bool (by rw [← HS.out]; simp_all), by (repeat (first | (with_reducible exact Below.refl _ _) | (with_reducible assumption) | (with_reducible refine below_drewN ?_ _) | (with_reducible refine Below.drew ?_) | (with_reducible refine Below.al ?_ _) | (with_reducible refine Below.st ?_ (by simp; try omega)) | (with_reducible refine Below.tr ?_ (Hid.out (by assumption))) | (with_reducible exact Hid.out (by assumption))))⟩)
          | (go_roundg (gk - 1); (case measure => omega); (case rel => exact ⟨k + 1, by go_num, by omega, by omega, Lib.hid (by have h1 := HS.out; simp_all), Lib.hid (by (repeat (first | (with_reducible exact Below.refl _ _) | (with_reducible assumption) | (with_reducible refine below_drewN ?_ _) | (with_reducible refine Below.drew ?_) | (with_reducible refine Below.al ?_ _) | (with_reducible refine Below.st ?_ (by simp; try omega)) | (with_reducible refine Below.tr ?_ (Hid.out (by assumption))) | (with_reducible exact Hid.out (by assumption)))))⟩)))
      · have HS : Hid (true = q) := Lib.hid (by have h := HI.out; rw [drop_end hlt] at h; exact h)
        have hlti : ¬ (k : Int) < (l.length : Int) := by omega
        go_wp2_with fail
        go_ret
        exact ⟨ret_bool HS.out, by (repeat (first | (with_reducible exact Below.refl _ _) | (with_reducible assumption) | (with_reducible refine below_drewN ?_ _) | (with_reducible refine Below.drew ?_) | (with_reducible refine Below.al ?_ _) | (with_reducible refine Below.st ?_ (by simp; try omega)) | (with_reducible refine Below.tr ?_ (Hid.out (by assumption))) | (with_reducible exact Hid.out (by assumption))))⟩
  · have h8i : (8 : Int) < (l.length : Int) := by omega
    have HQ : Hid (false = q) := Lib.hid (by rw [← hq]; unfold lineB; rw [decide_eq_false h8]; rfl)
    clear hq
    go_enter Tryz.func169, Tryz.ntmps169
    go_wp2_with fail
    go_ret
    exact ⟨ret_bool HQ.out, by (repeat (first | (with_reducible exact Below.refl _ _) | (with_reducible assumption) | (with_reducible refine below_drewN ?_ _) | (with_reducible refine Below.drew ?_) | (with_reducible refine Below.al ?_ _) | (with_reducible refine Below.st ?_ (by simp; try omega)) | (with_reducible refine Below.tr ?_ (Hid.out (by assumption))) | (with_reducible exact Hid.out (by assumption))))⟩
end Go.Proofs.YtogeihdfmnohnaaGreatDoor
