/- Part 15 of 49 of the proof of waitgraphOf_holds (no condition). -/
import Derived.Test.YtogeihdfmnohnaaGreatDoorK14
set_option linter.unusedVariables false
set_option linter.unusedSimpArgs false
namespace Go.Proofs.YtogeihdfmnohnaaGreatDoor
open Go.RowKit
def prwL (l : List Wt) : List Pr := l.map (·.proc)
def getW : List Wt → Pr → Option Am
  | [], _ => none
  | x :: l, p => bif decide (x.proc = p) then some x.am else getW l p
def wantV : Option Am → Value
  | some a => .tuple #[.agg #[.int .i64 a.mode, .int .i64 a.units], .bool true]
  | none => .tuple #[.agg #[.int .i64 0, .int .i64 0], .bool false]
def wantedS (q : Qu) (p : Pr) : Option Am := getW (q.convs ++ q.waits) p
theorem getW_cons (x : Wt) (l : List Wt) (p : Pr) : getW (x :: l) p = bif decide (x.proc = p) then some x.am else getW l p := rfl
set_option maxHeartbeats 3200000 in
theorem QOrder_any (q : Qu) (A1 A2 A3 : Option Addr) (c1 c2 c3 : Nat) (w : World) (B : Nat) (hq : QF w B A1 A2 A3 q) (h8 : q.convs.length ≤ 8) (h8' : q.waits.length ≤ 8) :
    Calls Tryz.prog 15 #[q.val A1 A2 A3 c1 c2 c3] w (RetRow prE 51 w (ordL q)) := by
  have HC := Lib.hid (fun W (hb : Below w.heap.size w W) => order_any q A1 A2 A3 c1 c2 c3 W B (hq.below hb) h8 h8')
  have HOL : Hid (ordL q = prwL (q.convs ++ q.waits)) := Lib.hid rfl
  clear hq
  generalize ordL q = R at *
  obtain ⟨⟨nm, kd, un, h⟩, hs, cs, ws, gen⟩ := q
  unfold Qu.val at *
  dsimp only at HC HOL h8 h8' ⊢
  have hll : (cs ++ ws).length ≤ 16 := by simp; omega
  generalize cs ++ ws = l at *
  go_enter Tryz.func15, Tryz.ntmps15
  go_wp2_with fail
  refine (HC.out _ (by (repeat (first | (with_reducible exact Below.refl _ _) | (with_reducible assumption) | (with_reducible refine below_drewN ?_ _) | (with_reducible refine Below.drew ?_) | (with_reducible refine Below.al ?_ _) | (with_reducible refine Below.st ?_ (by simp; try omega)) | (with_reducible refine Below.tr ?_ (Hid.out (by assumption))) | (with_reducible exact Hid.out (by assumption)))))).mono ?_
  rintro e w1 ⟨v1, rfl, hown1, hb1⟩
  obtain ⟨A, cap, rfl, _, hr, _, _⟩ := hown1.form2
  have HR := Lib.hid hr
  have HBW1 : Hid (Below w.heap.size w w1) := Lib.hid (Below.tr (Below.al (Below.refl _ _) _) hb1)
  clear hown1 hb1 hr
  go_wp2_with fail
  go_loopg [3, 9] l.length (fun m0 v3 v9 wq => ∃ k : Nat, v9 = .int .i64 (k : Int) ∧ k ≤ l.length ∧ l.length ≤ k + m0 ∧ Hid (OwnRows prE 51 wq w1.heap.size v3 (prwL (l.take k))) ∧ Hid (Below w1.heap.size w1 wq))
  case atStart => exact ⟨0, rfl, Nat.zero_le _, by omega, Lib.hid (OwnRows.nil _ _ _ _ (Nat.le_refl _)), Lib.hid (Below.refl _ _)⟩
  case round =>
    obtain ⟨k, rfl, hk, hkm, HO, HB⟩ := hrel
    by_cases hlt : k < l.length
    · obtain ⟨⟨⟨a, b, c⟩, ⟨m, u⟩, pr, pa⟩, hx⟩ : ∃ x, l[k] = x := ⟨_, rfl⟩
      obtain ⟨g, off, rfl, hbl, d0, d1, d2, d3, d4, d5, d6⟩ := wt_cells (HR.out.below (B'' := w1.heap.size) HB.out (Nat.le_refl _) (Nat.le_refl _)) hlt hx
      have hbl2 : g < wr.heap.size := Nat.lt_of_lt_of_le hbl HB.out.size
      have hlti : (k : Int) < (l.length : Int) := by omega
      have HE : Hid (prwL (l.take k) ++ [⟨a, b, c⟩] = prwL (l.take (k + 1))) := Lib.hid (by unfold prwL; rw [List.take_add_one, List.map_append, List.getElem?_eq_getElem hlt, hx]; rfl)
      have HL : Hid ((prwL (l.take k)).length = k) := Lib.hid (by simp [prwL]; omega)
      clear hx hbl
      go_wp2_with (at_builtin; refine pushOneB prTB rfl (.tmp 13) (.tmp 16) rfl (wr.alloc (.cells #[.int .i64 a, .int .i64 b, .int .i64 c, .int .i64 m, .int .i64 u, .int .i64 pr, .int .i64 pa] 87)) w1.heap.size u3 _ ⟨a, b, c⟩ [.int .i64 a, .int .i64 b, .int .i64 c] _ rfl rfl (HO.out.alloc _) (wr.heap.size + 1) rfl (by simp) rfl (by rw [HL.out]; unfold maxLen; omega) (by rw [HL.out]; omega) ?_; intro v7 w7 hown7 hb7 hsp7; have HB7 : Hid (Below w1.heap.size w1 w7) := Lib.hid ((Below.al HB.out _).trans hb7); have HO7 := Lib.hid hown7; clear hown7 hb7 hsp7)
      rw [HE.out] at HO7
      go_roundg (gk - 1)
      case measure => omega
      case rel => exact ⟨k + 1, by go_num, by omega, by omega, HO7, HB7⟩
    · have HE : Hid (prwL (l.take k) = R) := Lib.hid (by rw [List.take_of_length_le (by omega), HOL.out])
      rw [HE.out] at HO
      go_wp2_with fail
      go_ret
      exact ⟨_, rfl, HO.out.older HBW1.out.size, Below.tr HBW1.out HB.out⟩
set_option maxHeartbeats 3200000 in
theorem QWanted_any (q : Qu) (A1 A2 A3 : Option Addr) (c1 c2 c3 : Nat) (x y z : Int) (w : World) (B : Nat) (hq : QF w B A1 A2 A3 q) (h8 : q.convs.length ≤ 8) (h8' : q.waits.length ≤ 8) :
    Calls Tryz.prog 53 #[q.val A1 A2 A3 c1 c2 c3, .agg #[.int .i64 x, .int .i64 y, .int .i64 z]] w (Ret w (wantV (wantedS q ⟨x, y, z⟩))) := by
  have HC := Lib.hid (fun W (hb : Below w.heap.size w W) => order_any q A1 A2 A3 c1 c2 c3 W B (hq.below hb) h8 h8')
  have HOL : Hid (wantV (wantedS q ⟨x, y, z⟩) = wantV (getW (q.convs ++ q.waits) ⟨x, y, z⟩)) := Lib.hid rfl
  clear hq
  generalize wantV (wantedS q ⟨x, y, z⟩) = R at *
  obtain ⟨⟨nm, kd, un, h⟩, hs, cs, ws, gen⟩ := q
  unfold Qu.val at *
  dsimp only at HC HOL h8 h8' ⊢
  have hll : (cs ++ ws).length ≤ 16 := by simp; omega
  generalize cs ++ ws = l at *
  have HPX : Hid (Blk (((w.alloc (.cells #[.string nm, .int .i64 kd, .int .i64 un, .int .i64 h, .slice A1 hs.length c1, .slice A2 cs.length c2, .slice A3 ws.length c3, .int .i64 gen] 48)).alloc (.cells #[.int .i64 x, .int .i64 y, .int .i64 z] 51)).alloc (.cells #[.int .i64 0, .int .i64 0] 53)) (w.heap.size + 1) 51 #[.int .i64 x, .int .i64 y, .int .i64 z]) := Lib.hid ((by have := Blk.new (w.alloc (.cells #[.string nm, .int .i64 kd, .int .i64 un, .int .i64 h, .slice A1 hs.length c1, .slice A2 cs.length c2, .slice A3 ws.length c3, .int .i64 gen] 48)) 51 #[.int .i64 x, .int .i64 y, .int .i64 z]; simpa using this : Blk _ (w.heap.size + 1) 51 #[.int .i64 x, .int .i64 y, .int .i64 z]).alloc _)
  have HAX : Hid (Blk (((w.alloc (.cells #[.string nm, .int .i64 kd, .int .i64 un, .int .i64 h, .slice A1 hs.length c1, .slice A2 cs.length c2, .slice A3 ws.length c3, .int .i64 gen] 48)).alloc (.cells #[.int .i64 x, .int .i64 y, .int .i64 z] 51)).alloc (.cells #[.int .i64 0, .int .i64 0] 53)) (w.heap.size + 1 + 1) 53 #[.int .i64 0, .int .i64 0]) := Lib.hid (by have := Blk.new ((w.alloc (.cells #[.string nm, .int .i64 kd, .int .i64 un, .int .i64 h, .slice A1 hs.length c1, .slice A2 cs.length c2, .slice A3 ws.length c3, .int .i64 gen] 48)).alloc (.cells #[.int .i64 x, .int .i64 y, .int .i64 z] 51)) 53 #[.int .i64 0, .int .i64 0]; simpa using this)
  go_enter Tryz.func53, Tryz.ntmps53
  go_wp2_with fail
  refine (HC.out _ (by (repeat (first | (with_reducible exact Below.refl _ _) | (with_reducible assumption) | (with_reducible refine below_drewN ?_ _) | (with_reducible refine Below.drew ?_) | (with_reducible refine Below.al ?_ _) | (with_reducible refine Below.st ?_ (by simp; try omega)) | (with_reducible refine Below.tr ?_ (Hid.out (by assumption))) | (with_reducible exact Hid.out (by assumption)))))).mono ?_
  rintro e w1 ⟨v1, rfl, hown1, hb1⟩
  obtain ⟨A, cap, rfl, _, hr, _, _⟩ := hown1.form2
  have HR := Lib.hid hr
  have HBW1 : Hid (Below w.heap.size w w1) := Lib.hid (Below.tr (Below.al (Below.al (Below.al (Below.refl _ _) _) _) _) hb1)
  have HP1 := Lib.hid (HPX.out.below hb1 HPX.out.lt)
  have HA1 := Lib.hid (HAX.out.below hb1 HAX.out.lt)
  clear hown1 hb1 hr
  go_wp2_with fail
  go_loopg [11] l.length (fun m0 v11 wq => ∃ k : Nat, v11 = .int .i64 (k : Int) ∧ k ≤ l.length ∧ l.length ≤ k + m0 ∧ Hid (R = wantV (getW (l.drop k) ⟨x, y, z⟩)) ∧ Hid (Below w1.heap.size w1 wq))
  case atStart => exact ⟨0, rfl, Nat.zero_le _, by omega, HOL, Lib.hid (Below.refl _ _)⟩
  case round =>
    obtain ⟨k, rfl, hk, hkm, HI, HB⟩ := hrel
    have HBW : Hid (Below w.heap.size w wr) := Lib.hid (Below.tr HBW1.out HB.out)
    have HPW := Lib.hid (HP1.out.below HB.out HP1.out.lt)
    have HAW := Lib.hid (HA1.out.below HB.out HA1.out.lt)
    have p0 := HPW.out.cellx 0 (v := .int .i64 x) rfl
    have p1 := HPW.out.cellx 1 (v := .int .i64 y) rfl
    have p2 := HPW.out.cellx 2 (v := .int .i64 z) rfl
    have a0 := HAW.out.cellx 0 (v := .int .i64 0) rfl
    have a1 := HAW.out.cellx 1 (v := .int .i64 0) rfl
    have f0 := HAW.out.frozen 0
    have f1 := HAW.out.frozen 1
    have pl := HPW.out.lt
    have al := HAW.out.lt
    have hsz := HBW1.out.size
    by_cases hlt : k < l.length
    · obtain ⟨⟨⟨a, b, c⟩, ⟨m, u⟩, pr, pa⟩, hx⟩ : ∃ x, l[k] = x := ⟨_, rfl⟩
      obtain ⟨g, off, rfl, hbl, d0, d1, d2, d3, d4, d5, d6⟩ := wt_cells (HR.out.below (B'' := w1.heap.size) HB.out (Nat.le_refl _) (Nat.le_refl _)) hlt hx
      have hbl2 : g < wr.heap.size := Nat.lt_of_lt_of_le hbl HB.out.size
      have hlti : (k : Int) < (l.length : Int) := by omega
      obtain ⟨_, k1, k2⟩ := cmpPr a b c x y z
      obtain ⟨q, hq⟩ : ∃ q, decide ((⟨a, b, c⟩ : Pr) = ⟨x, y, z⟩) = q := ⟨_, rfl⟩
      have HS : Hid (R = wantV (bif q then some ⟨m, u⟩ else getW (l.drop (k + 1)) ⟨x, y, z⟩)) := Lib.hid (by have h1 := HI.out; rw [drop_step hlt hx, getW_cons] at h1; rw [← hq]; exact h1)
      rw [hq] at k1
      clear hq hx hbl
      cases q with
      | false =>
        go_wp2_with fail
        go_roundg (gk - 1)
        case measure => omega
        case rel => exact ⟨k + 1, by go_num, by omega, by omega, Lib.hid HS.out, Lib.hid (Below.al HB.out _)⟩
      | true =>
        have HS2 : Hid (R = .tuple #[.agg #[.int .i64 m, .int .i64 u], .bool true]) := Lib.hid HS.out
        go_wp2_with fail
        refine bodyPost_ret_by (v := R) ?_ rfl ⟨rfl, by (repeat (first | (with_reducible exact Below.refl _ _) | (with_reducible assumption) | (with_reducible refine below_drewN ?_ _) | (with_reducible refine Below.drew ?_) | (with_reducible refine Below.al ?_ _) | (with_reducible refine Below.st ?_ (by simp; try omega)) | (with_reducible refine Below.tr ?_ (Hid.out (by assumption))) | (with_reducible exact Hid.out (by assumption))))⟩
        rw [results_cell_tmp rfl, HS2.out]
        go_simp
    · have HS : Hid (R = .tuple #[.agg #[.int .i64 0, .int .i64 0], .bool false]) := Lib.hid (by have h1 := HI.out; rw [drop_end hlt] at h1; exact h1)
      have hlti : ¬ (k : Int) < (l.length : Int) := by omega
      go_wp2_with fail
      refine bodyPost_ret_by (v := R) ?_ rfl ⟨rfl, by (repeat (first | (with_reducible exact Below.refl _ _) | (with_reducible assumption) | (with_reducible refine below_drewN ?_ _) | (with_reducible refine Below.drew ?_) | (with_reducible refine Below.al ?_ _) | (with_reducible refine Below.st ?_ (by simp; try omega)) | (with_reducible refine Below.tr ?_ (Hid.out (by assumption))) | (with_reducible exact Hid.out (by assumption))))⟩
      rw [results_cell_tmp rfl, HS.out]
      go_simp
end Go.Proofs.YtogeihdfmnohnaaGreatDoor
namespace Go.Proofs.YtogeihdfmnohnaaGreatDoor
open Go.RowKit
theorem find_spec (p : Pr) : ∀ (l : List Wt) (k : Nat), (findGo p k l = -1 ∧ getW l p = none) ∨ ∃ i, ∃ h : i < l.length, findGo p k l = ((k + i : Nat) : Int) ∧ getW l p = some l[i].am
  | [], k => Or.inl ⟨rfl, rfl⟩
  | x :: l, k => by
    rw [findGo_cons, getW_cons]
    cases decide (x.proc = p) with
    | true => exact Or.inr ⟨0, by simp, rfl, rfl⟩
    | false =>
      rcases find_spec p l (k + 1) with ⟨h1, h2⟩ | ⟨i, hi, h1, h2⟩
      · exact Or.inl ⟨h1, h2⟩
      · exact Or.inr ⟨i + 1, by simpa using hi, by simp only [cond_false]; rw [h1]; congr 1; omega, by simpa using h2⟩
theorem getW_append (p : Pr) : ∀ (l l' : List Wt), getW (l ++ l') p = match getW l p with | some a => some a | none => getW l' p
  | [], l' => rfl
  | x :: l, l' => by
    rw [List.cons_append, getW_cons, getW_cons, getW_append p l l']
    cases decide (x.proc = p) <;> rfl
set_option maxHeartbeats 3200000 in
theorem rQWanted_any (q : Qu) (A1 A2 A3 : Option Addr) (c1 c2 c3 : Nat) (x y z : Int) (w : World) (B : Nat) (hq : QF w B A1 A2 A3 q) :
    Calls Tryz.prog 68 #[q.val A1 A2 A3 c1 c2 c3, .agg #[.int .i64 x, .int .i64 y, .int .i64 z]] w (Ret w (wantV (wantedS q ⟨x, y, z⟩))) := by
  have HF2 := Lib.hid (fun W (hb : Below w.heap.size w W) => rWFind_any A2 B c2 q.convs x y z W hq.m2 (Nat.le_trans hq.hB hb.size) (hq.r2.below hb hq.hB (Nat.le_refl _)))
  have HF3 := Lib.hid (fun W (hb : Below w.heap.size w W) => rWFind_any A3 B c3 q.waits x y z W hq.m3 (Nat.le_trans hq.hB hb.size) (hq.r3.below hb hq.hB (Nat.le_refl _)))
  have HW : Hid (wantV (wantedS q ⟨x, y, z⟩) = wantV (match getW q.convs ⟨x, y, z⟩ with | some a => some a | none => getW q.waits ⟨x, y, z⟩)) := Lib.hid (by unfold wantedS; rw [getW_append])
  have HQF := Lib.hid hq
  have hm2 := hq.m2
  have hm3 := hq.m3
  unfold maxLen at hm2 hm3
  clear hq
  generalize wantV (wantedS q ⟨x, y, z⟩) = R at *
  obtain ⟨⟨nm, kd, un, h⟩, hs, cs, ws, gen⟩ := q
  unfold Qu.val at *
  dsimp only at HF2 HF3 HW HQF hm2 hm3 ⊢
  have HPX : Hid (Blk (((w.alloc (.cells #[.string nm, .int .i64 kd, .int .i64 un, .int .i64 h, .slice A1 hs.length c1, .slice A2 cs.length c2, .slice A3 ws.length c3, .int .i64 gen] 48)).alloc (.cells #[.int .i64 x, .int .i64 y, .int .i64 z] 51)).alloc (.cells #[.int .i64 0, .int .i64 0] 53)) (w.heap.size + 1) 51 #[.int .i64 x, .int .i64 y, .int .i64 z]) := Lib.hid ((by have := Blk.new (w.alloc (.cells #[.string nm, .int .i64 kd, .int .i64 un, .int .i64 h, .slice A1 hs.length c1, .slice A2 cs.length c2, .slice A3 ws.length c3, .int .i64 gen] 48)) 51 #[.int .i64 x, .int .i64 y, .int .i64 z]; simpa using this : Blk _ (w.heap.size + 1) 51 #[.int .i64 x, .int .i64 y, .int .i64 z]).alloc _)
  have HAX : Hid (Blk (((w.alloc (.cells #[.string nm, .int .i64 kd, .int .i64 un, .int .i64 h, .slice A1 hs.length c1, .slice A2 cs.length c2, .slice A3 ws.length c3, .int .i64 gen] 48)).alloc (.cells #[.int .i64 x, .int .i64 y, .int .i64 z] 51)).alloc (.cells #[.int .i64 0, .int .i64 0] 53)) (w.heap.size + 1 + 1) 53 #[.int .i64 0, .int .i64 0]) := Lib.hid (by have := Blk.new ((w.alloc (.cells #[.string nm, .int .i64 kd, .int .i64 un, .int .i64 h, .slice A1 hs.length c1, .slice A2 cs.length c2, .slice A3 ws.length c3, .int .i64 gen] 48)).alloc (.cells #[.int .i64 x, .int .i64 y, .int .i64 z] 51)) 53 #[.int .i64 0, .int .i64 0]; simpa using this)
  rcases find_spec ⟨x, y, z⟩ cs 0 with ⟨hf, hg⟩ | ⟨i, hi, hf, hg⟩
  · rw [hg] at HW
    have hf' : findW cs ⟨x, y, z⟩ = -1 := hf
    rw [hf'] at HF2
    rcases find_spec ⟨x, y, z⟩ ws 0 with ⟨hf3, hg3⟩ | ⟨i, hi, hf3, hg3⟩
    · dsimp only at HW
      rw [hg3] at HW
      have hf3' : findW ws ⟨x, y, z⟩ = -1 := hf3
      rw [hf3'] at HF3
      have HS : Hid (R = .tuple #[.agg #[.int .i64 0, .int .i64 0], .bool false]) := Lib.hid HW.out
      clear hf hg hf' hf3 hg3 hf3'
      go_enter Tryz.func68, Tryz.ntmps68
      go_wp2_with fail
      refine (HF2.out _ (by (repeat (first | (with_reducible exact Below.refl _ _) | (with_reducible assumption) | (with_reducible refine below_drewN ?_ _) | (with_reducible refine Below.drew ?_) | (with_reducible refine Below.al ?_ _) | (with_reducible refine Below.st ?_ (by simp; try omega)) | (with_reducible refine Below.tr ?_ (Hid.out (by assumption))) | (with_reducible exact Hid.out (by assumption)))))).mono ?_
      rintro e w1 ⟨rfl, hb1⟩
      obtain ⟨hc_w1, hf_w1⟩ := bcell hb1
      have hs_w1 := hb1.size
      (try simp at hs_w1)
      have hz_w1_0 : w.heap.size < w1.heap.size := (by omega)
      have hz_w1_1 : w.heap.size + 1 < w1.heap.size := (by omega)
      have hz_w1_2 : w.heap.size + 1 + 1 < w1.heap.size := (by omega)
      clear hs_w1
      have HB1 := Lib.hid hb1
      clear hb1
      go_wp2_with fail
      refine (HF3.out _ (by (repeat (first | (with_reducible exact Below.refl _ _) | (with_reducible assumption) | (with_reducible refine below_drewN ?_ _) | (with_reducible refine Below.drew ?_) | (with_reducible refine Below.al ?_ _) | (with_reducible refine Below.st ?_ (by simp; try omega)) | (with_reducible refine Below.tr ?_ (Hid.out (by assumption))) | (with_reducible exact Hid.out (by assumption)))))).mono ?_
      rintro e w2 ⟨rfl, hb2⟩
      obtain ⟨hc_w2, hf_w2⟩ := bcell hb2
      have hs_w2 := hb2.size
      (try simp at hs_w2)
      have hz_w2_0 : w.heap.size < w2.heap.size := (by omega)
      have hz_w2_1 : w.heap.size + 1 < w2.heap.size := (by omega)
      have hz_w2_2 : w.heap.size + 1 + 1 < w2.heap.size := (by omega)
      clear hs_w2
      have HB2 := Lib.hid hb2
      clear hb2
      go_wp2_with fail
      refine bodyPost_ret_by (v := R) ?_ rfl ⟨rfl, by (repeat (first | (with_reducible exact Below.refl _ _) | (with_reducible assumption) | (with_reducible refine below_drewN ?_ _) | (with_reducible refine Below.drew ?_) | (with_reducible refine Below.al ?_ _) | (with_reducible refine Below.st ?_ (by simp; try omega)) | (with_reducible refine Below.tr ?_ (Hid.out (by assumption))) | (with_reducible exact Hid.out (by assumption))))⟩
      rw [results_cell_tmp rfl, HS.out]
      go_simp
    · dsimp only at HW
      rw [hg3] at HW
      rw [Nat.zero_add] at hf3
      have hf3' : findW ws ⟨x, y, z⟩ = (i : Int) := hf3
      rw [hf3'] at HF3
      obtain ⟨⟨⟨a, b, c⟩, ⟨m, u⟩, pr, pa⟩, hx⟩ : ∃ x, ws[i] = x := ⟨_, rfl⟩
      rw [hx] at HW
      have HS : Hid (R = .tuple #[.agg #[.int .i64 m, .int .i64 u], .bool true]) := Lib.hid HW.out
      have HX := Lib.hid hx
      have hii : (i : Int) < (ws.length : Int) := by omega
      clear hf hg hf' hf3 hg3 hf3' hx
      go_enter Tryz.func68, Tryz.ntmps68
      go_wp2_with fail
      refine (HF2.out _ (by (repeat (first | (with_reducible exact Below.refl _ _) | (with_reducible assumption) | (with_reducible refine below_drewN ?_ _) | (with_reducible refine Below.drew ?_) | (with_reducible refine Below.al ?_ _) | (with_reducible refine Below.st ?_ (by simp; try omega)) | (with_reducible refine Below.tr ?_ (Hid.out (by assumption))) | (with_reducible exact Hid.out (by assumption)))))).mono ?_
      rintro e w1 ⟨rfl, hb1⟩
      obtain ⟨hc_w1, hf_w1⟩ := bcell hb1
      have hs_w1 := hb1.size
      (try simp at hs_w1)
      have hz_w1_0 : w.heap.size < w1.heap.size := (by omega)
      have hz_w1_1 : w.heap.size + 1 < w1.heap.size := (by omega)
      have hz_w1_2 : w.heap.size + 1 + 1 < w1.heap.size := (by omega)
      clear hs_w1
      have HB1 := Lib.hid hb1
      clear hb1
      go_wp2_with fail
      refine (HF3.out _ (by (repeat (first | (with_reducible exact Below.refl _ _) | (with_reducible assumption) | (with_reducible refine below_drewN ?_ _) | (with_reducible refine Below.drew ?_) | (with_reducible refine Below.al ?_ _) | (with_reducible refine Below.st ?_ (by simp; try omega)) | (with_reducible refine Below.tr ?_ (Hid.out (by assumption))) | (with_reducible exact Hid.out (by assumption)))))).mono ?_
      rintro e w2 ⟨rfl, hb2⟩
      obtain ⟨hc_w2, hf_w2⟩ := bcell hb2
      have hs_w2 := hb2.size
      (try simp at hs_w2)
      have hz_w2_0 : w.heap.size < w2.heap.size := (by omega)
      have hz_w2_1 : w.heap.size + 1 < w2.heap.size := (by omega)
      have hz_w2_2 : w.heap.size + 1 + 1 < w2.heap.size := (by omega)
      clear hs_w2
      have HB2 := Lib.hid hb2
      clear hb2
      have HBW2 : Hid (Below w.heap.size w w2) := Lib.hid (by (repeat (first | (with_reducible exact Below.refl _ _) | (with_reducible assumption) | (with_reducible refine below_drewN ?_ _) | (with_reducible refine Below.drew ?_) | (with_reducible refine Below.al ?_ _) | (with_reducible refine Below.st ?_ (by simp; try omega)) | (with_reducible refine Below.tr ?_ (Hid.out (by assumption))) | (with_reducible exact Hid.out (by assumption)))))
      obtain ⟨g, off, rfl, hbl, d0, d1, d2, d3, d4, d5, d6⟩ := wt_cells (HQF.out.r3.below (B'' := w.heap.size) HBW2.out HQF.out.hB HQF.out.hB) hi HX.out
      have hgl : g < w2.heap.size := Nat.lt_of_lt_of_le hbl HBW2.out.size
      clear hbl
      go_wp2_with fail
      refine bodyPost_ret_by (v := R) ?_ rfl ⟨rfl, by (repeat (first | (with_reducible exact Below.refl _ _) | (with_reducible assumption) | (with_reducible refine below_drewN ?_ _) | (with_reducible refine Below.drew ?_) | (with_reducible refine Below.al ?_ _) | (with_reducible refine Below.st ?_ (by simp; try omega)) | (with_reducible refine Below.tr ?_ (Hid.out (by assumption))) | (with_reducible exact Hid.out (by assumption))))⟩
      rw [results_cell_tmp rfl, HS.out]
      go_simp
  · rw [hg] at HW
    rw [Nat.zero_add] at hf
    have hf' : findW cs ⟨x, y, z⟩ = (i : Int) := hf
    rw [hf'] at HF2
    obtain ⟨⟨⟨a, b, c⟩, ⟨m, u⟩, pr, pa⟩, hx⟩ : ∃ x, cs[i] = x := ⟨_, rfl⟩
    rw [hx] at HW
    have HS : Hid (R = .tuple #[.agg #[.int .i64 m, .int .i64 u], .bool true]) := Lib.hid HW.out
    have HX := Lib.hid hx
    have hii : (i : Int) < (cs.length : Int) := by omega
    clear hf hg hf' hx
    go_enter Tryz.func68, Tryz.ntmps68
    go_wp2_with fail
    refine (HF2.out _ (by (repeat (first | (with_reducible exact Below.refl _ _) | (with_reducible assumption) | (with_reducible refine below_drewN ?_ _) | (with_reducible refine Below.drew ?_) | (with_reducible refine Below.al ?_ _) | (with_reducible refine Below.st ?_ (by simp; try omega)) | (with_reducible refine Below.tr ?_ (Hid.out (by assumption))) | (with_reducible exact Hid.out (by assumption)))))).mono ?_
    rintro e w1 ⟨rfl, hb1⟩
    obtain ⟨hc_w1, hf_w1⟩ := bcell hb1
    have hs_w1 := hb1.size
    (try simp at hs_w1)
    have hz_w1_0 : w.heap.size < w1.heap.size := (by omega)
    have hz_w1_1 : w.heap.size + 1 < w1.heap.size := (by omega)
    have hz_w1_2 : w.heap.size + 1 + 1 < w1.heap.size := (by omega)
    clear hs_w1
    have HB1 := Lib.hid hb1
    clear hb1
    have HBW2 : Hid (Below w.heap.size w w1) := Lib.hid (by (repeat (first | (with_reducible exact Below.refl _ _) | (with_reducible assumption) | (with_reducible refine below_drewN ?_ _) | (with_reducible refine Below.drew ?_) | (with_reducible refine Below.al ?_ _) | (with_reducible refine Below.st ?_ (by simp; try omega)) | (with_reducible refine Below.tr ?_ (Hid.out (by assumption))) | (with_reducible exact Hid.out (by assumption)))))
    obtain ⟨g, off, rfl, hbl, d0, d1, d2, d3, d4, d5, d6⟩ := wt_cells (HQF.out.r2.below (B'' := w.heap.size) HBW2.out HQF.out.hB HQF.out.hB) hi HX.out
    have hgl : g < w1.heap.size := Nat.lt_of_lt_of_le hbl HBW2.out.size
    clear hbl
    go_wp2_with fail
    refine bodyPost_ret_by (v := R) ?_ rfl ⟨rfl, by (repeat (first | (with_reducible exact Below.refl _ _) | (with_reducible assumption) | (with_reducible refine below_drewN ?_ _) | (with_reducible refine Below.drew ?_) | (with_reducible refine Below.al ?_ _) | (with_reducible refine Below.st ?_ (by simp; try omega)) | (with_reducible refine Below.tr ?_ (Hid.out (by assumption))) | (with_reducible exact Hid.out (by assumption))))⟩
    rw [results_cell_tmp rfl, HS.out]
    go_simp
set_option maxRecDepth 100000 in
set_option maxHeartbeats 6400000 in
theorem rQOrder_any (q : Qu) (A1 A2 A3 : Option Addr) (c1 c2 c3 : Nat) (w : World) (B : Nat) (hq : QF w B A1 A2 A3 q) (h8 : q.convs.length ≤ 8) (h8' : q.waits.length ≤ 8) :
    Calls Tryz.prog 21 #[q.val A1 A2 A3 c1 c2 c3] w (RetRow prE 51 w (ordL q)) := by
  have HQF := Lib.hid hq
  have HOL : Hid (ordL q = prwL (q.convs ++ q.waits)) := Lib.hid rfl
  clear hq
  generalize ordL q = R at *
  obtain ⟨⟨nm, kd, un, h⟩, hs, cs, ws, gen⟩ := q
  unfold Qu.val at *
  dsimp only at HQF HOL h8 h8' ⊢
  have HX0 := Lib.hid (BoxQ.made (w := w) (nm := nm) (kd := kd) (un := un) (h := h) (A1 := A1) (n1 := hs.length) (c1 := c1) (A2 := A2) (n2 := cs.length) (c2 := c2) (A3 := A3) (n3 := ws.length) (c3 := c3) (gen := gen))
  obtain ⟨W0, hW0⟩ : ∃ W, W = (w.alloc (.cells #[.string nm, .int .i64 kd, .int .i64 un, .int .i64 h, .slice A1 hs.length c1, .slice A2 cs.length c2, .slice A3 ws.length c3, .int .i64 gen] 48)) := ⟨_, rfl⟩
  rw [← hW0] at HX0
  have HW0 := Lib.hid hW0
  have hws : w.heap.size ≤ W0.heap.size := by rw [hW0]; simp
  clear hW0
  go_enter Tryz.func21, Tryz.ntmps21
  go_wp2_with fail
  go_loopg [3, 4] cs.length (fun m0 v3 v4 wq => ∃ k : Nat, v4 = .int .i64 (k : Int) ∧ k ≤ cs.length ∧ cs.length ≤ k + m0 ∧ Hid (OwnRows prE 51 wq W0.heap.size v3 (prwL (cs.take k))) ∧ Hid (Below W0.heap.size W0 wq))
  case atStart => exact ⟨0, rfl, Nat.zero_le _, by omega, Lib.hid (OwnRows.nil _ _ _ _ (by rw [HW0.out]; exact Nat.le_refl _)), Lib.hid (by rw [HW0.out]; exact Below.refl _ _)⟩
  case round =>
    obtain ⟨k, rfl, hk, hkm, HO, HB⟩ := hrel
    have HX := Lib.hid (HX0.out.next HB.out)
    have HBW : Hid (Below w.heap.size w wr) := Lib.hid HX.out.below
    obtain ⟨q0, q1, q2, q3, q4, q5, q6, q7, ql⟩ := HX.out.cel
    by_cases hlt : k < cs.length
    · obtain ⟨⟨⟨a, b, c⟩, ⟨m, u⟩, pr, pa⟩, hx⟩ : ∃ x, cs[k] = x := ⟨_, rfl⟩
      obtain ⟨g, off, rfl, hbl, d0, d1, d2, d3, d4, d5, d6⟩ := wt_cells (HQF.out.r2.below (B'' := w.heap.size) HBW.out HQF.out.hB HQF.out.hB) hlt hx
      have hbl2 : g < wr.heap.size := Nat.lt_of_lt_of_le hbl HBW.out.size
      have hlti : (k : Int) < (cs.length : Int) := by omega
      have HE : Hid (prwL (cs.take (k)) ++ [⟨a, b, c⟩] = prwL (cs.take (k + 1))) := Lib.hid (by unfold prwL; rw [List.take_add_one, List.getElem?_eq_getElem hlt, hx]; simp)
      have HL : Hid ((prwL (cs.take (k))).length ≤ 16) := Lib.hid (by simp [prwL]; omega)
      clear hx hbl
      go_wp2_with (at_builtin; refine pushOneB prTB rfl (.tmp 13) (.tmp 20) rfl wr W0.heap.size u3 _ ⟨a, b, c⟩ [.int .i64 a, .int .i64 b, .int .i64 c] _ rfl rfl HO.out wr.heap.size rfl rfl rfl (by have := HL.out; unfold maxLen; omega) (by have := HL.out; omega) ?_; intro v7 w7 hown7 hb7 hsp7; have HB7 : Hid (Below W0.heap.size W0 w7) := Lib.hid (HB.out.trans hb7); have HO7 := Lib.hid hown7; clear hown7 hb7 hsp7)
      rw [HE.out] at HO7
      go_roundg (gk - 1)
      case measure => omega
      case rel => exact ⟨k + 1, by go_num, by omega, by omega, HO7, HB7⟩
    · have hlti : ¬ (k : Int) < (cs.length : Int) := by omega
      have HE : Hid (prwL (cs.take k) = prwL (cs ++ ws.take 0)) := Lib.hid (by rw [List.take_of_length_le (by omega)]; simp)
      rw [HE.out] at HO
      obtain ⟨G, hG⟩ : ∃ G, G = gk := ⟨_, rfl⟩
      subst hG
      obtain ⟨wo, hwo⟩ : ∃ x, x = wr := ⟨_, rfl⟩
      subst hwo
      go_wp2_with fail
      clear q0 q1 q2 q3 q4 q5 q6 q7 ql
      go_loopg [3, 5] ws.length (fun m0 v3 v5 wq => ∃ k : Nat, v5 = .int .i64 (k : Int) ∧ k ≤ ws.length ∧ ws.length ≤ k + m0 ∧ Hid (OwnRows prE 51 wq W0.heap.size v3 (prwL (cs ++ ws.take k))) ∧ Hid (Below W0.heap.size W0 wq))
      case atStart => exact ⟨0, rfl, Nat.zero_le _, by omega, HO, HB⟩
      case round =>
        clear HO HB HX HBW hk hkm hlt hlti HE
        obtain ⟨j, rfl, hk, hkm, HO, HB⟩ := hrel
        have HX := Lib.hid (HX0.out.next HB.out)
        have HBW : Hid (Below w.heap.size w wr) := Lib.hid HX.out.below
        obtain ⟨q0, q1, q2, q3, q4, q5, q6, q7, ql⟩ := HX.out.cel
        by_cases hlt : j < ws.length
        · obtain ⟨⟨⟨a, b, c⟩, ⟨m, u⟩, pr, pa⟩, hx⟩ : ∃ x, ws[j] = x := ⟨_, rfl⟩
          obtain ⟨g, off, rfl, hbl, d0, d1, d2, d3, d4, d5, d6⟩ := wt_cells (HQF.out.r3.below (B'' := w.heap.size) HBW.out HQF.out.hB HQF.out.hB) hlt hx
          have hbl2 : g < wr.heap.size := Nat.lt_of_lt_of_le hbl HBW.out.size
          have hlti : (j : Int) < (ws.length : Int) := by omega
          have HE : Hid (prwL (cs ++ ws.take (j)) ++ [⟨a, b, c⟩] = prwL (cs ++ ws.take (j + 1))) := Lib.hid (by unfold prwL; rw [List.take_add_one, List.getElem?_eq_getElem hlt, hx]; simp)
          have HL : Hid ((prwL (cs ++ ws.take (j))).length ≤ 16) := Lib.hid (by simp [prwL]; omega)
          clear hx hbl
          go_wp2_with (at_builtin; refine pushOneB prTB rfl (.tmp 29) (.tmp 36) rfl wr W0.heap.size u3 _ ⟨a, b, c⟩ [.int .i64 a, .int .i64 b, .int .i64 c] _ rfl rfl HO.out wr.heap.size rfl rfl rfl (by have := HL.out; unfold maxLen; omega) (by have := HL.out; omega) ?_; intro v7 w7 hown7 hb7 hsp7; have HB7 : Hid (Below W0.heap.size W0 w7) := Lib.hid (HB.out.trans hb7); have HO7 := Lib.hid hown7; clear hown7 hb7 hsp7)
          rw [HE.out] at HO7
          go_roundg (gk - 1)
          case measure => omega
          case rel => exact ⟨j + 1, by go_num, by omega, by omega, HO7, HB7⟩
        · have hlti : ¬ (j : Int) < (ws.length : Int) := by omega
          have HE : Hid (prwL (cs ++ ws.take j) = R) := Lib.hid (by rw [List.take_of_length_le (by omega), HOL.out])
          rw [HE.out] at HO
          go_wp2_with fail
          go_ret
          exact ⟨_, rfl, HO.out.older hws, HBW.out⟩
end Go.Proofs.YtogeihdfmnohnaaGreatDoor
