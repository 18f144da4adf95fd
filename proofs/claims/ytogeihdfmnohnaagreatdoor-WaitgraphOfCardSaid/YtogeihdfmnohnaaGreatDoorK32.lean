/- Part 32 of 49 of the proof of waitgraphOf_holds (no condition). -/
import Derived.Test.YtogeihdfmnohnaaGreatDoorK31
import Derived.Test.YtogeihdfmnohnaaGreatDoorK30
import Derived.Test.YtogeihdfmnohnaaGreatDoorK28
set_option linter.unusedVariables false
set_option linter.unusedSimpArgs false
namespace Go.Proofs.YtogeihdfmnohnaaGreatDoor
open Go.RowKit
def kidHas (a : Tm) : List Ex → Bool
  | [] => false
  | y :: l => bif decide (y.atom = a) then true else kidHas a l
theorem kidHas_cons (a : Tm) (y : Ex) (l : List Ex) : kidHas a (y :: l) = bif decide (y.atom = a) then true else kidHas a l := rfl
def idxK (a : Tm) : Nat → List Ex → Int
  | _, [] => -1
  | k, y :: l => bif decide (y.atom = a) then (k : Int) else idxK a (k + 1) l
theorem idxK_cons (a : Tm) (k : Nat) (y : Ex) (l : List Ex) : idxK a k (y :: l) = bif decide (y.atom = a) then (k : Int) else idxK a (k + 1) l := rfl
theorem idxK_spec (a : Tm) : ∀ (l : List Ex) (k : Nat), (idxK a k l = -1 ∧ kidHas a l = false) ∨ (0 ≤ idxK a k l ∧ kidHas a l = true)
  | [], _ => .inl ⟨rfl, rfl⟩
  | y :: l, k => by
    rw [idxK_cons, kidHas_cons]
    by_cases h : y.atom = a
    · rw [decide_eq_true h]
      exact .inr ⟨by simp, rfl⟩
    · rw [decide_eq_false h]
      exact idxK_spec a l (k + 1)
def plainGo (all : List Ex) : Nat → List Ex → Bool
  | _, [] => true
  | k, y :: l => decide (y.k = 0) && !kidHas y.atom (all.take k) && plainGo all (k + 1) l
theorem plainGo_cons (all : List Ex) (k : Nat) (y : Ex) (l : List Ex) : plainGo all k (y :: l) = (decide (y.k = 0) && !kidHas y.atom (all.take k) && plainGo all (k + 1) l) := rfl
def plainS (x : Ex) : Bool := plainGo x.kids 0 x.kids
def zeroK : List Ex → Bool
  | [] => true
  | y :: l => decide (y.k = 0) && zeroK l
theorem zeroK_cons (y : Ex) (l : List Ex) : zeroK (y :: l) = (decide (y.k = 0) && zeroK l) := rfl
def flatS (x : Ex) : Bool := decide (x.k = 0) || (zeroK x.kids && decide ((atS x).length = x.kids.length))
set_option maxHeartbeats 1600000 in
theorem plainC_any (k m u k2 m2 u2 : Int) (nm nm2 : ByteArray) (A A2 : Option Addr) (n cap n2 cap2 pb : Nat) (w : World) (hb : Blk w pb 58 #[.int .i64 k2, .string nm2, .int .i64 m2, .int .i64 u2, .slice A2 n2 cap2]) :
    Calls Tryz.prog 44 #[.agg #[.int .i64 k, .string nm, .int .i64 m, .int .i64 u, .slice A n cap], .pointer (some ⟨pb, 0, none⟩)] w (Ret w (.bool (decide ((⟨nm, ⟨m, u⟩⟩ : Tm) = ⟨nm2, ⟨m2, u2⟩⟩)))) := by
  have p1 := hb.cellx 1 (v := .string nm2) rfl
  have p2 := hb.cellx 2 (v := .int .i64 m2) rfl
  have p3 := hb.cellx 3 (v := .int .i64 u2) rfl
  have pl := hb.lt
  obtain ⟨_, k1, k3⟩ := cmpTm nm m u nm2 m2 u2
  generalize decide ((⟨nm, ⟨m, u⟩⟩ : Tm) = ⟨nm2, ⟨m2, u2⟩⟩) = q at *
  clear hb
  go_enter Tryz.func44, Tryz.ntmps44
  go_wp2_with fail
  go_ret
  exact ⟨rfl, by (repeat (first | (with_reducible exact Below.refl _ _) | (with_reducible assumption) | (with_reducible refine below_drewN ?_ _) | (with_reducible refine Below.drew ?_) | (with_reducible refine Below.al ?_ _) | (with_reducible refine Below.st ?_ (by simp; try omega)) | (with_reducible refine Below.tr ?_ (Hid.out (by assumption))) | (with_reducible exact Hid.out (by assumption))))⟩
set_option maxHeartbeats 1600000 in
theorem IndexKid_any (d : Nat) (A A2 : Option Addr) (B cap pb : Nat) (l : List Ex) (k2 m2 u2 : Int) (nm2 : ByteArray) (n2 cap2 : Nat) (w : World) (hm : l.length ≤ maxLen) (hB : B ≤ w.heap.size) (hr : RowsAt (exE d) w (Lo B) A l) (hb : Blk w pb 58 #[.int .i64 k2, .string nm2, .int .i64 m2, .int .i64 u2, .slice A2 n2 cap2]) :
    Calls Tryz.prog 79 #[.slice A l.length cap, .func (.func 44) #[] #[.pointer (some ⟨pb, 0, none⟩)]] w (Ret w (.int .i64 (idxK ⟨nm2, ⟨m2, u2⟩⟩ 0 l))) := by
  unfold maxLen at hm
  have HR := Lib.hid hr
  have HBK := Lib.hid hb
  clear hr hb
  obtain ⟨v, hv⟩ : ∃ v, idxK ⟨nm2, ⟨m2, u2⟩⟩ 0 l = v := ⟨_, rfl⟩
  rw [hv]
  have HV : Hid (idxK ⟨nm2, ⟨m2, u2⟩⟩ 0 (l.drop 0) = v) := Lib.hid hv
  clear hv
  go_enter Tryz.func79, Tryz.ntmps79
  go_wp2_with fail
  go_loopg [8] l.length (fun m0 v8 wq => ∃ k : Nat, v8 = .int .i64 (k : Int) ∧ k ≤ l.length ∧ l.length ≤ k + m0 ∧ Hid (idxK ⟨nm2, ⟨m2, u2⟩⟩ k (l.drop k) = v) ∧ Hid (Below w.heap.size w wq))
  case atStart => exact ⟨0, rfl, Nat.zero_le _, by omega, HV, Lib.hid (Below.refl _ _)⟩
  case round =>
    obtain ⟨k, rfl, hk, hkm, HI, HB⟩ := hrel
    by_cases hlt : k < l.length
    · obtain ⟨⟨k1, ⟨nm1, ⟨m1, u1⟩⟩, l1⟩, hx⟩ : ∃ x, l[k] = x := ⟨_, rfl⟩
      obtain ⟨g, off, A1, cap1, rfl, hbl, c0, c1, c2, c3, c4, _⟩ := ex_cells (HR.out.below (B'' := B) HB.out hB (Nat.le_refl _)) hlt hx
      have hbl2 : g < wr.heap.size := Nat.lt_of_lt_of_le hbl (Nat.le_trans hB HB.out.size)
      have hlti : (k : Int) < (l.length : Int) := by omega
      have HC := Lib.hid (plainC_any k1 m1 u1 k2 m2 u2 nm1 nm2 A1 A2 l1.length cap1 n2 cap2 pb wr (HBK.out.below HB.out HBK.out.lt))
      obtain ⟨q, hq⟩ : ∃ q, decide ((⟨nm1, ⟨m1, u1⟩⟩ : Tm) = ⟨nm2, ⟨m2, u2⟩⟩) = q := ⟨_, rfl⟩
      have HS : Hid ((bif q then (k : Int) else idxK ⟨nm2, ⟨m2, u2⟩⟩ (k + 1) (l.drop (k + 1))) = v) := Lib.hid (by have h := HI.out; rw [drop_step hlt hx, idxK_cons] at h; rw [← hq]; exact h)
      rw [hq] at HC
      clear hq hx hbl
      go_wp2_with fail
      refine HC.out.mono ?_
      rintro e w2 ⟨rfl, hb2⟩
      have HB2 := Lib.hid hb2
      clear hb2
      cases q <;> (go_wp2_with fail; first
        | (go_roundg (gk - 1); (case measure => omega); (case rel => exact ⟨k + 1, by go_num, by omega, by omega, HS, Lib.hid (by (repeat (first | (with_reducible exact Below.refl _ _) | (with_reducible assumption) | (with_reducible refine below_drewN ?_ _) | (with_reducible refine Below.drew ?_) | (with_reducible refine Below.al ?_ _) | (with_reducible refine Below.st ?_ (by simp; try omega)) | (with_reducible refine Below.tr ?_ (Hid.out (by assumption))) | (with_reducible exact Hid.out (by assumption)))))⟩))
        | (go_ret; exact ⟨ret_int (show (k : Int) = v from HS.out), by (repeat (first | (with_reducible exact Below.refl _ _) | (with_reducible assumption) | (with_reducible refine below_drewN ?_ _) | (with_reducible refine Below.drew ?_) | (with_reducible refine Below.al ?_ _) | (with_reducible refine Below.st ?_ (by simp; try omega)) | (with_reducible refine Below.tr ?_ (Hid.out (by assumption))) | (with_reducible exact Hid.out (by assumption))))⟩))
    · have HS : Hid (-1 = v) := Lib.hid (by have h := HI.out; rw [drop_end hlt] at h; exact h)
      have hlti : ¬ (k : Int) < (l.length : Int) := by omega
      go_wp2_with fail
      go_ret
      exact ⟨ret_int HS.out, by (repeat (first | (with_reducible exact Below.refl _ _) | (with_reducible assumption) | (with_reducible refine below_drewN ?_ _) | (with_reducible refine Below.drew ?_) | (with_reducible refine Below.al ?_ _) | (with_reducible refine Below.st ?_ (by simp; try omega)) | (with_reducible refine Below.tr ?_ (Hid.out (by assumption))) | (with_reducible exact Hid.out (by assumption))))⟩
set_option maxHeartbeats 1600000 in
theorem ContainsKid_any (d : Nat) (A A2 : Option Addr) (B cap pb : Nat) (l : List Ex) (k2 m2 u2 : Int) (nm2 : ByteArray) (n2 cap2 : Nat) (w : World) (hm : l.length ≤ maxLen) (hB : B ≤ w.heap.size) (hr : RowsAt (exE d) w (Lo B) A l) (hb : Blk w pb 58 #[.int .i64 k2, .string nm2, .int .i64 m2, .int .i64 u2, .slice A2 n2 cap2]) :
    Calls Tryz.prog 43 #[.slice A l.length cap, .func (.func 44) #[] #[.pointer (some ⟨pb, 0, none⟩)]] w (Ret w (.bool (kidHas ⟨nm2, ⟨m2, u2⟩⟩ l))) := by
  have HC := Lib.hid (IndexKid_any d A A2 B cap pb l k2 m2 u2 nm2 n2 cap2 w hm hB hr hb)
  have HS := Lib.hid (idxK_spec ⟨nm2, ⟨m2, u2⟩⟩ l 0)
  clear hr hb
  generalize idxK ⟨nm2, ⟨m2, u2⟩⟩ 0 l = i at *
  generalize kidHas ⟨nm2, ⟨m2, u2⟩⟩ l = q at *
  go_enter Tryz.func43, Tryz.ntmps43
  go_wp2_with fail
  refine HC.out.mono ?_
  rintro e w2 ⟨rfl, hb2⟩
  have HB2 := Lib.hid hb2
  clear hb2
  go_wp2_with fail
  go_ret
  refine ⟨ret_bool ?_, by (repeat (first | (with_reducible exact Below.refl _ _) | (with_reducible assumption) | (with_reducible refine below_drewN ?_ _) | (with_reducible refine Below.drew ?_) | (with_reducible refine Below.al ?_ _) | (with_reducible refine Below.st ?_ (by simp; try omega)) | (with_reducible refine Below.tr ?_ (Hid.out (by assumption))) | (with_reducible exact Hid.out (by assumption))))⟩
  rcases HS.out with ⟨h1, h2⟩ | ⟨h1, h2⟩ <;> rw [h2] <;> simp <;> omega
set_option maxHeartbeats 3200000 in
theorem plain_any (d : Nat) (x : Ex) (A : Option Addr) (cap B : Nat) (w : World) (hx : ExF w B d A x) (hcap : x.kids.length ≤ cap) (hc2 : cap ≤ maxLen) :
    Calls Tryz.prog 16 #[x.val A cap] w (Ret w (.bool (plainS x))) := by
  obtain ⟨k, ⟨nm, ⟨m, u⟩⟩, l⟩ := x
  obtain ⟨hm, hBw, hr⟩ := hx
  unfold Ex.val plainS
  dsimp only [Ex.k, Ex.atom, Ex.kids] at hm hr hcap ⊢
  have HR := Lib.hid hr
  clear hr
  obtain ⟨v, hv⟩ : ∃ v, plainGo l 0 l = v := ⟨_, rfl⟩
  rw [hv]
  have HV : Hid (plainGo l 0 (l.drop 0) = v) := Lib.hid hv
  clear hv
  unfold maxLen at hm hc2
  go_enter Tryz.func16, Tryz.ntmps16
  go_wp2_with fail
  go_loopg [8] l.length (fun m0 v8 wq => ∃ j : Nat, v8 = .int .i64 (j : Int) ∧ j ≤ l.length ∧ l.length ≤ j + m0 ∧ Hid (plainGo l j (l.drop j) = v) ∧ Hid (Below (w.alloc (.cells #[.int .i64 k, .string nm, .int .i64 m, .int .i64 u, .slice A l.length cap] 58)).heap.size (w.alloc (.cells #[.int .i64 k, .string nm, .int .i64 m, .int .i64 u, .slice A l.length cap] 58)) wq))
  case atStart => exact ⟨0, rfl, Nat.zero_le _, by omega, HV, Lib.hid (Below.refl _ _)⟩
  case round =>
    obtain ⟨j, rfl, hj, hjm, HI, HB⟩ := hrel
    have HBW : Hid (Below w.heap.size w wr) := Lib.hid (Below.tr (Below.al (Below.refl _ _) _) HB.out)
    have x4 : wr.cell? ⟨w.heap.size, 4, none⟩ = some (.slice A l.length cap) := (HB.out.cell (p := ⟨w.heap.size, 4, none⟩) (by simp)).trans (cellNewA w _ _ 4)
    have hz0 : w.heap.size < wr.heap.size := by have := HB.out.size; simp at this; omega
    by_cases hlt : j < l.length
    · obtain ⟨⟨k1, ⟨nm1, ⟨m1, u1⟩⟩, l1⟩, hx⟩ : ∃ x, l[j] = x := ⟨_, rfl⟩
      have HRW : Hid (RowsAt (exE d) wr (Lo B) A l) := Lib.hid (HR.out.below HBW.out hBw (Nat.le_refl _))
      have HBR : Hid (B ≤ wr.heap.size) := Lib.hid (Nat.le_trans hBw HBW.out.size)
      obtain ⟨g, off, A1, cap1, rfl, hbl, c0, c1, c2, c3, c4, _⟩ := ex_cells HRW.out hlt hx
      have hbl2 : g < wr.heap.size := Nat.lt_of_lt_of_le hbl HBR.out
      have hlti : (j : Int) < (l.length : Int) := by omega
      have HS : Hid ((decide (k1 = 0) && !kidHas ⟨nm1, ⟨m1, u1⟩⟩ (l.take j) && plainGo l (j + 1) (l.drop (j + 1))) = v) := Lib.hid (by have h := HI.out; rw [drop_step hlt hx, plainGo_cons] at h; exact h)
      have htl : (l.take j).length = j := by rw [List.length_take]; omega
      have HC := Lib.hid (ContainsKid_any d (some ⟨g, off, none⟩) A1 B cap wr.heap.size (l.take j) k1 m1 u1 nm1 l1.length cap1 (wr.alloc (.cells #[.int .i64 k1, .string nm1, .int .i64 m1, .int .i64 u1, .slice A1 l1.length cap1] 58)) (by rw [htl]; unfold maxLen; omega) (Nat.le_trans HBR.out (by simp)) ((HRW.out.take j).below (Below.al (Below.refl _ _) _) HBR.out (Nat.le_refl _)) (Blk.new _ _ _))
      rw [htl] at HC
      generalize kidHas ⟨nm1, ⟨m1, u1⟩⟩ (l.take j) = q at *
      clear hx hbl htl
      by_cases hk : k1 = 0
      · subst hk
        go_wp2_with fail
        refine HC.out.mono ?_
        rintro e w2 ⟨rfl, hb2⟩
        have HB2 := Lib.hid hb2
        clear hb2
        cases q with
        | true =>
          have HE : Hid (false = v) := Lib.hid (by have h := HS.out; simpa using h)
          go_wp2_with fail
          go_ret
          exact ⟨ret_bool HE.out, Below.tr HBW.out (Below.tr (Below.al (Below.refl _ _) _) HB2.out)⟩
        | false =>
          have HE : Hid (plainGo l (j + 1) (l.drop (j + 1)) = v) := Lib.hid (by have h := HS.out; simpa using h)
          go_wp2_with fail
          go_roundg (gk - 1)
          case measure => omega
          case rel => exact ⟨j + 1, by go_num, by omega, by omega, HE, Lib.hid (Below.tr (Below.al HB.out _) HB2.out)⟩
      · have hk2 : (k1 == 0) = false := by simpa using hk
        have HE : Hid (false = v) := Lib.hid (by have h := HS.out; rw [decide_eq_false hk] at h; exact h)
        go_wp2_with fail
        go_ret
        exact ⟨ret_bool HE.out, by (repeat (first | (with_reducible exact Below.refl _ _) | (with_reducible assumption) | (with_reducible refine below_drewN ?_ _) | (with_reducible refine Below.drew ?_) | (with_reducible refine Below.al ?_ _) | (with_reducible refine Below.st ?_ (by simp; try omega)) | (with_reducible refine Below.tr ?_ (Hid.out (by assumption))) | (with_reducible exact Hid.out (by assumption))))⟩
    · have HE : Hid (true = v) := Lib.hid (by have h := HI.out; rw [drop_end hlt] at h; exact h)
      have hlti : ¬ (j : Int) < (l.length : Int) := by omega
      go_wp2_with fail
      go_ret
      exact ⟨ret_bool HE.out, by (repeat (first | (with_reducible exact Below.refl _ _) | (with_reducible assumption) | (with_reducible refine below_drewN ?_ _) | (with_reducible refine Below.drew ?_) | (with_reducible refine Below.al ?_ _) | (with_reducible refine Below.st ?_ (by simp; try omega)) | (with_reducible refine Below.tr ?_ (Hid.out (by assumption))) | (with_reducible exact Hid.out (by assumption))))⟩
set_option maxRecDepth 100000 in
set_option maxHeartbeats 3200000 in
theorem flat_any (d : Nat) (x : Ex) (A : Option Addr) (cap B : Nat) (w : World) (hx : ExF w B d A x) :
    Calls Tryz.prog 22 #[x.val A cap] w (Ret w (.bool (flatS x))) := by
  have HA := Lib.hid (fun W (hb : Below w.heap.size w W) => r08Atoms_any d x A cap B W (hx.below hb))
  have HK : Hid (∀ b W, Sem.run Tryz.prog (callFunc 61 b) W = .ok (.enter 61 b) W) := Lib.hid (fun b W => by kernel_rfl)
  obtain ⟨k, ⟨nm, ⟨m, u⟩⟩, l⟩ := x
  obtain ⟨hm, hBw, hr⟩ := hx
  unfold Ex.val at *
  dsimp only [Ex.k, Ex.atom, Ex.kids] at hm hr HA ⊢
  have HF : Hid (flatS (.mk k ⟨nm, ⟨m, u⟩⟩ l) = (decide (k = 0) || (zeroK l && decide ((atS (.mk k ⟨nm, ⟨m, u⟩⟩ l)).length = l.length)))) := Lib.hid rfl
  have HR := Lib.hid hr
  clear hr
  generalize atS (.mk k ⟨nm, ⟨m, u⟩⟩ l) = L at *
  generalize flatS (.mk k ⟨nm, ⟨m, u⟩⟩ l) = v at *
  unfold maxLen at hm
  by_cases hk : k = 0
  · subst hk
    have HE : Hid (true = v) := Lib.hid (by rw [HF.out]; simp)
    go_enter Tryz.func22, Tryz.ntmps22
    go_wp2_with fail
    go_ret
    exact ⟨ret_bool HE.out, by (repeat (first | (with_reducible exact Below.refl _ _) | (with_reducible assumption) | (with_reducible refine below_drewN ?_ _) | (with_reducible refine Below.drew ?_) | (with_reducible refine Below.al ?_ _) | (with_reducible refine Below.st ?_ (by simp; try omega)) | (with_reducible refine Below.tr ?_ (Hid.out (by assumption))) | (with_reducible exact Hid.out (by assumption))))⟩
  · have hk2 : (k == 0) = false := by simpa using hk
    have HV : Hid ((zeroK (l.drop 0) && decide (L.length = l.length)) = v) := Lib.hid (by rw [HF.out, decide_eq_false hk]; rfl)
    clear hk
    go_enter Tryz.func22, Tryz.ntmps22
    go_wp2_with fail
    go_loopg [3] l.length (fun m0 v3 wq => ∃ j : Nat, v3 = .int .i64 (j : Int) ∧ j ≤ l.length ∧ l.length ≤ j + m0 ∧ Hid ((zeroK (l.drop j) && decide (L.length = l.length)) = v) ∧ Hid (Below (w.alloc (.cells #[.int .i64 k, .string nm, .int .i64 m, .int .i64 u, .slice A l.length cap] 58)).heap.size (w.alloc (.cells #[.int .i64 k, .string nm, .int .i64 m, .int .i64 u, .slice A l.length cap] 58)) wq))
    case atStart => exact ⟨0, rfl, Nat.zero_le _, by omega, HV, Lib.hid (Below.refl _ _)⟩
    case round =>
      obtain ⟨j, rfl, hj, hjm, HI, HB⟩ := hrel
      have HBW : Hid (Below w.heap.size w wr) := Lib.hid (Below.tr (Below.al (Below.refl _ _) _) HB.out)
      have x0 : wr.cell? ⟨w.heap.size, 0, none⟩ = some (.int .i64 k) := (HB.out.cell (p := ⟨w.heap.size, 0, none⟩) (by simp)).trans (cellNewA w _ _ 0)
      have x1 : wr.cell? ⟨w.heap.size, 1, none⟩ = some (.string nm) := (HB.out.cell (p := ⟨w.heap.size, 1, none⟩) (by simp)).trans (cellNewA w _ _ 1)
      have x2 : wr.cell? ⟨w.heap.size, 2, none⟩ = some (.int .i64 m) := (HB.out.cell (p := ⟨w.heap.size, 2, none⟩) (by simp)).trans (cellNewA w _ _ 2)
      have x3 : wr.cell? ⟨w.heap.size, 3, none⟩ = some (.int .i64 u) := (HB.out.cell (p := ⟨w.heap.size, 3, none⟩) (by simp)).trans (cellNewA w _ _ 3)
      have x4 : wr.cell? ⟨w.heap.size, 4, none⟩ = some (.slice A l.length cap) := (HB.out.cell (p := ⟨w.heap.size, 4, none⟩) (by simp)).trans (cellNewA w _ _ 4)
      have hz0 : w.heap.size < wr.heap.size := by have := HB.out.size; simp at this; omega
      by_cases hlt : j < l.length
      · obtain ⟨⟨k1, ⟨nm1, ⟨m1, u1⟩⟩, l1⟩, hx⟩ : ∃ x, l[j] = x := ⟨_, rfl⟩
        obtain ⟨g, off, A1, cap1, rfl, hbl, c0, c1, c2, c3, c4, _⟩ := ex_cells (HR.out.below (B'' := B) HBW.out hBw (Nat.le_refl _)) hlt hx
        have hbl2 : g < wr.heap.size := Nat.lt_of_lt_of_le hbl (Nat.le_trans hBw HBW.out.size)
        have hlti : (j : Int) < (l.length : Int) := by omega
        have HS : Hid ((decide (k1 = 0) && zeroK (l.drop (j + 1)) && decide (L.length = l.length)) = v) := Lib.hid (by have h := HI.out; rw [drop_step hlt hx, zeroK_cons] at h; exact h)
        clear hx hbl
        by_cases hk : k1 = 0
        · subst hk
          have HE : Hid ((zeroK (l.drop (j + 1)) && decide (L.length = l.length)) = v) := Lib.hid (by have h := HS.out; simpa using h)
          go_wp2_with fail
          go_roundg (gk - 1)
          case measure => omega
          case rel => exact ⟨j + 1, by go_num, by omega, by omega, HE, HB⟩
        · have hk3 : (k1 == 0) = false := by simpa using hk
          have HE : Hid (false = v) := Lib.hid (by have h := HS.out; rw [decide_eq_false hk] at h; exact h)
          go_wp2_with fail
          go_ret
          exact ⟨ret_bool HE.out, by (repeat (first | (with_reducible exact Below.refl _ _) | (with_reducible assumption) | (with_reducible refine below_drewN ?_ _) | (with_reducible refine Below.drew ?_) | (with_reducible refine Below.al ?_ _) | (with_reducible refine Below.st ?_ (by simp; try omega)) | (with_reducible refine Below.tr ?_ (Hid.out (by assumption))) | (with_reducible exact Hid.out (by assumption))))⟩
      · have HE : Hid (decide (L.length = l.length) = v) := Lib.hid (by have h := HI.out; rw [drop_end hlt] at h; simpa [zeroK] using h)
        have hlti : ¬ (j : Int) < (l.length : Int) := by omega
        go_wp2_with fail
        go_region_law (refine stepCall rfl 61 #[.tmp 21] _ rfl #[.agg #[.int .i64 k, .string nm, .int .i64 m, .int .i64 u, .slice A l.length cap]] rfl HK.out (HA.out _ (by (repeat (first | (with_reducible exact Below.refl _ _) | (with_reducible assumption) | (with_reducible refine below_drewN ?_ _) | (with_reducible refine Below.drew ?_) | (with_reducible refine Below.al ?_ _) | (with_reducible refine Below.st ?_ (by simp; try omega)) | (with_reducible refine Below.tr ?_ (Hid.out (by assumption))) | (with_reducible exact Hid.out (by assumption)))))) ?_; rintro e w9 ⟨v9, rfl, ho9, hb9⟩; refine ⟨_, rfl, ?_⟩; have HB9 : Hid (Below wr.heap.size wr w9) := Lib.hid (Below.tr (by (repeat (first | (with_reducible exact Below.refl _ _) | (with_reducible assumption) | (with_reducible refine below_drewN ?_ _) | (with_reducible refine Below.drew ?_) | (with_reducible refine Below.al ?_ _) | (with_reducible refine Below.st ?_ (by simp; try omega)) | (with_reducible refine Below.tr ?_ (Hid.out (by assumption))) | (with_reducible exact Hid.out (by assumption))))) hb9); obtain ⟨A9, c9, rfl, _, _, _⟩ := ho9.form; have x4' := (HB9.out.cell (p := ⟨w.heap.size, 4, none⟩) hz0).trans x4; have hz9 : w.heap.size < w9.heap.size := Nat.lt_of_lt_of_le hz0 HB9.out.size; clear hb9 ho9)
        all_goals (
          go_wp2_with fail
          go_ret
          exact ⟨ret_bool (by rw [← HE.out, Bool.eq_iff_iff]; simp; omega), Below.tr HBW.out HB9.out⟩)
end Go.Proofs.YtogeihdfmnohnaaGreatDoor
namespace Go.Proofs.YtogeihdfmnohnaaGreatDoor
open Go.RowKit
set_option maxHeartbeats 1600000 in
theorem SameInts_any (A1 A2 : Option Addr) (c1 c2 B : Nat) (l : List Int) (w : World) (hm : l.length ≤ 100000) (hB : B ≤ w.heap.size) (h1 : RowsAt intE w (Lo B) A1 l) (h2 : RowsAt intE w (Lo B) A2 l) :
    Calls Tryz.prog 29 #[.slice A1 l.length c1, .slice A2 l.length c2] w (Ret w (.bool true)) := by
  have HR1 := Lib.hid h1
  have HR2 := Lib.hid h2
  clear h1 h2
  go_enter Tryz.func29, Tryz.ntmps29
  go_wp2_with fail
  go_loopg [5] l.length (fun m0 v5 wq => ∃ k : Nat, v5 = .int .i64 (k : Int) ∧ k ≤ l.length ∧ l.length ≤ k + m0 ∧ Hid (Below w.heap.size w wq))
  case atStart => exact ⟨0, rfl, Nat.zero_le _, by omega, Lib.hid (Below.refl _ _)⟩
  case round =>
    obtain ⟨k, rfl, hk, hkm, HB⟩ := hrel
    by_cases hlt : k < l.length
    · have hlti : (k : Int) < (l.length : Int) := by omega
      obtain ⟨x, hx⟩ : ∃ x, l[k] = x := ⟨_, rfl⟩
      obtain ⟨g, off, rfl, hgl, d0⟩ := in_cell (HR1.out.below (B'' := w.heap.size) HB.out hB hB) hlt hx
      obtain ⟨g2, off2, rfl, hgl2, d1⟩ := in_cell (HR2.out.below (B'' := w.heap.size) HB.out hB hB) hlt hx
      have hgl3 : g < wr.heap.size := Nat.lt_of_lt_of_le hgl HB.out.size
      have hgl4 : g2 < wr.heap.size := Nat.lt_of_lt_of_le hgl2 HB.out.size
      clear hx hgl hgl2
      go_wp2_with fail
      go_quiet (fail)
      go_wp2_with fail
      go_roundg (gk - 1)
      case measure => omega
      case rel => exact ⟨k + 1, by go_num, by omega, by omega, Lib.hid (below_drewN HB.out _)⟩
    · have hlti : ¬ (k : Int) < (l.length : Int) := by omega
      go_wp2_with fail
      go_ret
      exact ⟨rfl, HB.out⟩
set_option maxHeartbeats 1600000 in
theorem SameProcs_any (A1 A2 : Option Addr) (c1 c2 B : Nat) (l : List Pr) (w : World) (hm : l.length ≤ 100000) (hB : B ≤ w.heap.size) (h1 : RowsAt prE w (Lo B) A1 l) (h2 : RowsAt prE w (Lo B) A2 l) :
    Calls Tryz.prog 8 #[.slice A1 l.length c1, .slice A2 l.length c2] w (Ret w (.bool true)) := by
  have HR1 := Lib.hid h1
  have HR2 := Lib.hid h2
  clear h1 h2
  go_enter Tryz.func8, Tryz.ntmps8
  go_wp2_with fail
  go_loopg [5] l.length (fun m0 v5 wq => ∃ k : Nat, v5 = .int .i64 (k : Int) ∧ k ≤ l.length ∧ l.length ≤ k + m0 ∧ Hid (Below w.heap.size w wq))
  case atStart => exact ⟨0, rfl, Nat.zero_le _, by omega, Lib.hid (Below.refl _ _)⟩
  case round =>
    obtain ⟨k, rfl, hk, hkm, HB⟩ := hrel
    by_cases hlt : k < l.length
    · have hlti : (k : Int) < (l.length : Int) := by omega
      obtain ⟨⟨a, b, c⟩, hx⟩ : ∃ x, l[k] = x := ⟨_, rfl⟩
      obtain ⟨g, off, rfl, hgl, d0, d1, d2⟩ := pr_cells (HR1.out.below (B'' := w.heap.size) HB.out hB hB) hlt hx
      obtain ⟨g2, off2, rfl, hgl2, e0, e1, e2⟩ := pr_cells (HR2.out.below (B'' := w.heap.size) HB.out hB hB) hlt hx
      have hgl3 : g < wr.heap.size := Nat.lt_of_lt_of_le hgl HB.out.size
      have hgl4 : g2 < wr.heap.size := Nat.lt_of_lt_of_le hgl2 HB.out.size
      obtain ⟨k1, k0, k2⟩ := cmpPr a b c a b c
      rw [decide_eq_true rfl] at k1
      clear hx hgl hgl2 k0
      go_wp2_with fail
      go_quiet (fail)
      go_wp2_with fail
      go_roundg (gk - 1)
      case measure => omega
      case rel => exact ⟨k + 1, by go_num, by omega, by omega, Lib.hid (below_drewN HB.out _)⟩
    · have hlti : ¬ (k : Int) < (l.length : Int) := by omega
      go_wp2_with fail
      go_ret
      exact ⟨rfl, HB.out⟩
structure No where
  k : Int
  next : List Int
def noE : El No where
  n := 2
  pos := by decide
  rep := fun w S x cs => ∃ A cap, cs = [.int .i64 x.k, .slice A x.next.length cap] ∧ x.next.length ≤ 100000 ∧ RowsAt intE w S A x.next
  len := fun h => by obtain ⟨A, cap, rfl, _⟩ := h; rfl
  one := fun h => by obtain ⟨A, cap, rfl, _⟩ := h; intro u hu; simp at hu; rcases hu with rfl | rfl <;> rfl
  same := fun h hk hS => by
    obtain ⟨A, cap, e, h1, h2⟩ := h
    exact ⟨A, cap, e, h1, h2.same hk hS⟩
theorem no_cells {w : World} {S : Nat → Prop} {A : Option Addr} {l : List No} {i : Nat} {k : Int} {nx : List Int} (h : RowsAt noE w S A l) (hi : i < l.length) (hx : l[i] = ⟨k, nx⟩) :
    ∃ g off A1 c1, A = some ⟨g, off, none⟩ ∧ S g ∧ w.cell? ⟨g, off + i * 2, none⟩ = some (.int .i64 k) ∧ w.cell? ⟨g, off + i * 2 + 1, none⟩ = some (.slice A1 nx.length c1) ∧ nx.length ≤ 100000 ∧ RowsAt intE w S A1 nx := by
  obtain ⟨g, off, cs, hA, hS, hc, hd⟩ := h.getx hi hx
  obtain ⟨A1, c1, rfl, h1, h2⟩ := hc
  exact ⟨g, off, A1, c1, hA, hS, hd 0 (show 0 < 2 by decide), hd 1 (show 1 < 2 by decide), h1, h2⟩
theorem noTB : ElTB Tryz.prog noE 27 37 32 := ElTB.mk' Tryz.underlying27 (.agg #[.int .i64 0, .slice none 0 0]) 2 32 (by kernel_rfl) rfl rfl
set_option maxHeartbeats 1600000 in
theorem SameG_any (A1 A2 : Option Addr) (c1 c2 B : Nat) (l : List No) (w : World) (hm : l.length ≤ 100000) (hB : B ≤ w.heap.size) (h1 : RowsAt noE w (Lo B) A1 l) (h2 : RowsAt noE w (Lo B) A2 l) :
    Calls Tryz.prog 7 #[.slice A1 l.length c1, .slice A2 l.length c2] w (Ret w (.bool true)) := by
  have HR1 := Lib.hid h1
  have HR2 := Lib.hid h2
  clear h1 h2
  go_enter Tryz.func7, Tryz.ntmps7
  go_wp2_with fail
  go_loopg [5] l.length (fun m0 v5 wq => ∃ k : Nat, v5 = .int .i64 (k : Int) ∧ k ≤ l.length ∧ l.length ≤ k + m0 ∧ Hid (Below w.heap.size w wq))
  case atStart => exact ⟨0, rfl, Nat.zero_le _, by omega, Lib.hid (Below.refl _ _)⟩
  case round =>
    obtain ⟨k, rfl, hk, hkm, HB⟩ := hrel
    by_cases hlt : k < l.length
    · have hlti : (k : Int) < (l.length : Int) := by omega
      obtain ⟨⟨kk, nx⟩, hx⟩ : ∃ x, l[k] = x := ⟨_, rfl⟩
      obtain ⟨g, off, B1, e1, rfl, hgl, d0, d1, hn, r1⟩ := no_cells (HR1.out.below (B'' := wr.heap.size) HB.out hB (Nat.le_trans hB HB.out.size)) hlt hx
      obtain ⟨g2, off2, B2, e2, rfl, hgl2, d2, d3, _, r2⟩ := no_cells (HR2.out.below (B'' := wr.heap.size) HB.out hB (Nat.le_trans hB HB.out.size)) hlt hx
      have HC := Lib.hid (fun n : Ext wr => SameInts_any B1 B2 e1 e2 wr.heap.size nx n.w hn n.below.size (r1.below n.below (Nat.le_refl _) (Nat.le_refl _)) (r2.below n.below (Nat.le_refl _) (Nat.le_refl _)))
      have g0 := Ext.cell d0
      have g1 := Ext.cell d1
      have g3 := Ext.cell d2
      have g4 := Ext.cell d3
      clear hx hgl hgl2 r1 r2 d0 d1 d2 d3
      go_wp2_with fail
      refine wp_region_grow (by kernel_rfl) (by kernel_rfl) ?_; (repeat (go_big_quiet_step ((go_at_call 29; exact Ext.call _ (HC.out _))))); refine wpQuiet_nil ?_; rintro w2 ⟨n2, rfl⟩; have hb2 := n2.below; generalize n2.w = w2 at hb2 ⊢; clear n2
      have HB2 := Lib.hid hb2
      clear hb2
      go_wp2_with fail
      go_roundg (gk - 1)
      case measure => omega
      case rel => exact ⟨k + 1, by go_num, by omega, by omega, Lib.hid (Below.tr HB.out HB2.out)⟩
    · have hlti : ¬ (k : Int) < (l.length : Int) := by omega
      go_wp2_with fail
      go_ret
      exact ⟨rfl, HB.out⟩
end Go.Proofs.YtogeihdfmnohnaaGreatDoor
namespace Go.Proofs.YtogeihdfmnohnaaGreatDoor
open Go.RowKit
def RetNo (w : World) (x : No) (e : Ending) (w' : World) : Prop := ∃ A cap, e = .returned (.agg #[.int .i64 x.k, .slice A x.next.length cap]) ∧ RowsAt intE w' (New w.heap.size w') A x.next ∧ Below w.heap.size w w'
theorem sizeNo : (Tryz.prog.info? 37).map (·.size) = some 2 := by kernel_rfl
def amOf (q : Qu) (p : Pr) : Am := (wantedS q p).getD Am.zero
theorem wantV_eq (q : Qu) (p : Pr) : ∃ b, wantV (wantedS q p) = .tuple #[.agg #[.int .i64 (amOf q p).mode, .int .i64 (amOf q p).units], .bool b] := by
  unfold amOf
  cases wantedS q p with
  | none => exact ⟨_, rfl⟩
  | some a => exact ⟨_, rfl⟩
end Go.Proofs.YtogeihdfmnohnaaGreatDoor
