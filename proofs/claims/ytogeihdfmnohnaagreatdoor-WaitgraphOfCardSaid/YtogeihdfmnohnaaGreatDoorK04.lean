/- Part 4 of 49 of the proof of waitgraphOf_holds (no condition). -/
import Derived.Test.YtogeihdfmnohnaaGreatDoorCards
import Derived.Test.YtogeihdfmnohnaaGreatDoorTie
import Derived.Test.YtogeihdfmnohnaaGreatDoorK03
import Derived.Test.YtogeihdfmnohnaaGreatDoorK02
import Derived.Lib.LaidTab
import Derived.Shelf.Vars
import Derived.LaidMore
import Derived.Lay
import Derived.LaidSub
import Derived.MakeChecks
import Derived.OpenShut
import Derived.Stop.Joined
import Derived.SevenTiedAt
import Derived.SizedLaws
import Derived.Carry
set_option linter.unusedVariables false
set_option linter.unusedSimpArgs false
namespace Go.Proofs.YtogeihdfmnohnaaGreatDoor
open Go.ChangeShapes Go.WideShapes Go.ChangeAt Go.RowKit Go.OpenShut
def laidA : List (String × DataW Unit) := Rows.waitgraphOfRow.laid
set_option maxRecDepth 100000
theorem door_metA (os : Os) (args : Array Value) : laidMetH Tryz.prog laidA ((World.laidAll Tryz.prog os laidA).forCall (fun _ _ => 0) ⟨#[], args, []⟩).memory := by
  rw [Go.MakeChecks.laidMetH_plain _ _ _ (by kernel_rfl)]
  exact laidMet_laidAll _ (by kernel_rfl) (by kernel_rfl)
theorem laidVars_reads {P : Program} {w : World} : ∀ {l : List (String × DataW Unit)} {ps : List MemPlace}, DataW.LaidVars P w l ps → ∀ n d, (n, d) ∈ l →
    ∃ g t cs fuel p, P.globalNamed n = some g ∧ (P.globals[g]?).map (·.type) = some t ∧ w.var? P n = some cs ∧ DataW.trod (fun _ => ()) P w 0 (fun _ => true) false fuel t cs.toList = some (d, p)
  | [], _, _, _, _, hm => by cases hm
  | (n', d') :: r, ps, h, n, d, hm => by
    obtain ⟨g, t, cs, fuel, p, q, h1, h2, h3, h4, h5, _⟩ := h
    rcases List.mem_cons.1 hm with e | e
    · cases e
      exact ⟨g, t, cs, fuel, p, h1, h2, h3, h4⟩
    · exact laidVars_reads h5 n d e
theorem var_cells {P : Program} {w : World} {n : String} {g : Nat} {cs : Array Value} (hg : P.globalNamed n = some g) (h : w.var? P n = some cs) (i : Nat) : w.cell? ⟨g, i, none⟩ = cs[i]? := by
  unfold World.var? at h
  rw [hg] at h
  simp only [Option.bind_some] at h
  unfold World.cell?
  rcases ho : w.heap[g]? with _ | o
  · rw [ho] at h; cases h
  · rw [ho] at h
    simp only at h ⊢
    cases o <;> simp_all
section
variable {H : Type} {enc : TypeId × Value → H} {P : Program} {w : World} {base : Nat} {sp : Nat → Bool} {held : Bool} {fuel : Nat} {t e : TypeId} {n : Nat} {cs : List Value}
theorem bools_at {bs : List Bool} {p : List MemPlace} (ht : P.underlying t = some (.array n e)) (he : P.underlying e = some .bool) (hc : P.cellsOf e = 1) (h : DataW.trod enc P w base sp held fuel t cs = some (.agg (bs.map fun b => .lit (.bool b)), p)) : ∀ j (hj : j < bs.length), cs[j]? = some (.bool bs[j]) := by
  obtain ⟨xs, m, _, hx, hl, hn, hi⟩ := DataW.trod_array ht h
  injection hx with hx _
  injection hx with hx
  intro j hj
  have hlen : bs.length = xs.length := by have := congrArg List.length hx; simpa using this
  have h1 := hi j (by omega)
  rw [hc, Nat.mul_one, List.getElem?_eq_getElem (by omega)] at h1
  obtain ⟨b, h2, h3⟩ := DataW.trod_bool he h1
  have h4 : (xs.map (·.1))[j]? = some (.lit (.bool b)) := by rw [List.getElem?_map, List.getElem?_eq_getElem (by omega), h3]; rfl
  rw [← hx, List.getElem?_map, List.getElem?_eq_getElem hj] at h4
  injection h4 with h4
  injection h4 with h4
  injection h4 with h4
  have h5 : (cs.drop j)[0]? = some (.bool b) := by
    have := congrArg (·[0]?) h2
    simpa [List.getElem?_take] using this
  rw [List.getElem?_drop, Nat.add_zero] at h5
  rw [h5, h4]
theorem table_at {bs : List (List Bool)} {p : List MemPlace} {t2 : TypeId} {k : Nat} (ht : P.underlying t2 = some (.array k t)) (ht2 : P.underlying t = some (.array n e)) (he : P.underlying e = some .bool) (hc : P.cellsOf e = 1) (hn5 : P.cellsOf t = n) (hbs : ∀ r ∈ bs, r.length = n)
    (h : DataW.trod enc P w base sp held fuel t2 cs = some (.agg (bs.map fun r => .agg (r.map fun b => .lit (.bool b))), p)) : ∀ i j (hi : i < bs.length) (hj : j < bs[i].length), cs[i * n + j]? = some (.bool bs[i][j]) := by
  obtain ⟨xs, m, _, hx, hl, hn, hi⟩ := DataW.trod_array ht h
  injection hx with hx _
  injection hx with hx
  intro i j hil hj
  have hlen : bs.length = xs.length := by have := congrArg List.length hx; simpa using this
  have h1 := hi i (by omega)
  rw [hn5, List.getElem?_eq_getElem (by omega)] at h1
  have h4 : (xs.map (·.1))[i]? = some xs[i].1 := by rw [List.getElem?_map, List.getElem?_eq_getElem (by omega)]; rfl
  rw [← hx, List.getElem?_map, List.getElem?_eq_getElem hil] at h4
  injection h4 with h4
  have h5 : DataW.trod enc P w base sp held m t ((cs.drop (i * n)).take n) = some (.agg (bs[i].map fun b => .lit (.bool b)), xs[i].2) := by rw [h1]; exact congrArg some (Prod.ext h4.symm rfl)
  have h6 := bools_at ht2 he hc h5 j hj
  have h7 : j < n := by have := hbs _ (List.getElem_mem hil); omega
  rw [List.getElem?_take, if_pos h7, List.getElem?_drop] at h6
  exact h6
end
theorem tog_of {W : World} (h : laidMetH Tryz.prog laidA W) : Tog W := by
  rw [Go.MakeChecks.laidMetH_plain _ _ _ (by kernel_rfl)] at h
  obtain ⟨_, hv, _⟩ := h
  obtain ⟨g', t', cs, fuel, p, h1, h2, h3, h4⟩ := laidVars_reads hv "clusterlocks/mode.together" Rows.laid_clusterlocks_mode_together (by simp [laidA, Rows.waitgraphOfRow])
  have hg : Tryz.prog.globalNamed "clusterlocks/mode.together" = some 0 := by kernel_rfl
  have ht : (Tryz.prog.globals[0]?).map (·.type) = some 171 := by kernel_rfl
  obtain rfl := Option.some.inj (hg.symm.trans h1)
  obtain rfl := Option.some.inj (ht.symm.trans h2)
  have h5 := table_at (bs := [[true, true, true, true, false], [true, true, false, false, false], [true, false, true, false, false], [true, false, false, false, false], [false, false, false, false, false]]) (k := 5) (n := 5) (e := 4) (t := 170) Tryz.underlying171 Tryz.underlying170 Tryz.underlying4 (by kernel_rfl) (by kernel_rfl) (by decide) h4
  refine ⟨fun i j hi hj => ?_⟩
  rw [var_cells hg h3, ← Array.getElem?_toList]
  match i, hi, j, hj with
  | 0, _, 0, _ => exact h5 0 0 (by decide) (by decide)
  | 0, _, 1, _ => exact h5 0 1 (by decide) (by decide)
  | 0, _, 2, _ => exact h5 0 2 (by decide) (by decide)
  | 0, _, 3, _ => exact h5 0 3 (by decide) (by decide)
  | 0, _, 4, _ => exact h5 0 4 (by decide) (by decide)
  | 1, _, 0, _ => exact h5 1 0 (by decide) (by decide)
  | 1, _, 1, _ => exact h5 1 1 (by decide) (by decide)
  | 1, _, 2, _ => exact h5 1 2 (by decide) (by decide)
  | 1, _, 3, _ => exact h5 1 3 (by decide) (by decide)
  | 1, _, 4, _ => exact h5 1 4 (by decide) (by decide)
  | 2, _, 0, _ => exact h5 2 0 (by decide) (by decide)
  | 2, _, 1, _ => exact h5 2 1 (by decide) (by decide)
  | 2, _, 2, _ => exact h5 2 2 (by decide) (by decide)
  | 2, _, 3, _ => exact h5 2 3 (by decide) (by decide)
  | 2, _, 4, _ => exact h5 2 4 (by decide) (by decide)
  | 3, _, 0, _ => exact h5 3 0 (by decide) (by decide)
  | 3, _, 1, _ => exact h5 3 1 (by decide) (by decide)
  | 3, _, 2, _ => exact h5 3 2 (by decide) (by decide)
  | 3, _, 3, _ => exact h5 3 3 (by decide) (by decide)
  | 3, _, 4, _ => exact h5 3 4 (by decide) (by decide)
  | 4, _, 0, _ => exact h5 4 0 (by decide) (by decide)
  | 4, _, 1, _ => exact h5 4 1 (by decide) (by decide)
  | 4, _, 2, _ => exact h5 4 2 (by decide) (by decide)
  | 4, _, 3, _ => exact h5 4 3 (by decide) (by decide)
  | 4, _, 4, _ => exact h5 4 4 (by decide) (by decide)
theorem tog_of2 {W : World} (h : laidMetH Tryz.prog laidA W) (_ : W.ShapedOpen Tryz.prog) : Tog W := tog_of h
end Go.Proofs.YtogeihdfmnohnaaGreatDoor
namespace Go.Proofs.YtogeihdfmnohnaaGreatDoor
open Go.RowKit Go.WideShapes Go.ChangeShapes Go.Deep Go.Joins
set_option maxRecDepth 100000
theorem opens_pr : Opens Tryz.prog prE 51 Pr.Fit := by
  intro H enc w base spare held fuel cs x h
  obtain ⟨y0, y1, y2, n, _, hl, h0, h1, h2⟩ := trod_struct3 Tryz.underlying51 h
  have hl3 : cs.length = 3 := hl.trans (by kernel_rfl)
  match cs, hl3 with
  | [c0, c1, c2], _ =>
    have e1 : Tryz.prog.cellsOf 3 = 1 := by kernel_rfl
    obtain ⟨a, g0, w0⟩ := opens_int Tryz.underlying3 h0
    obtain ⟨b, g1, w1⟩ := opens_int Tryz.underlying3 h1
    obtain ⟨c, g2, w2⟩ := opens_int Tryz.underlying3 h2
    refine ⟨⟨a, b, c⟩, ?_, w0, w1, w2⟩
    have g0' : ([c0, c1, c2].drop 0).take (Tryz.prog.cellsOf 3) = [.int .i64 a] := g0
    have g1' : ([c0, c1, c2].drop 1).take (Tryz.prog.cellsOf 3) = [.int .i64 b] := g1
    have g2' : ([c0, c1, c2].drop 2).take (Tryz.prog.cellsOf 3) = [.int .i64 c] := g2
    rw [e1] at g0' g1' g2'
    simp at g0' g1' g2'
    show [c0, c1, c2] = [.int .i64 a, .int .i64 b, .int .i64 c]
    rw [g0', g1', g2']
section
variable {H : Type} {enc : TypeId × Value → H} {w : World} {base : Nat} {spare : Nat → Bool} {held : Bool}
end
end Go.Proofs.YtogeihdfmnohnaaGreatDoor
namespace Go.Proofs.YtogeihdfmnohnaaGreatDoor
open Go.RowKit Go.WideShapes Go.ChangeShapes Go.Deep Go.Joins
set_option maxRecDepth 100000
theorem opens_res : Opens Tryz.prog resE 44 Rs.Fit := by
  intro H enc w base spare held fuel cs x h
  obtain ⟨y0, y1, y2, y3, n, _, hl, h0, h1, h2, h3⟩ := trod_struct4 Tryz.underlying44 h
  have hl4 : cs.length = 4 := hl.trans (by kernel_rfl)
  match cs, hl4 with
  | [c0, c1, c2, c3], _ =>
    have e0 : Tryz.prog.cellsOf 9 = 1 := by kernel_rfl
    have e1 : Tryz.prog.cellsOf 3 = 1 := by kernel_rfl
    obtain ⟨s, g0, w0⟩ := opens_str Tryz.underlying9 h0
    obtain ⟨k, g1, w1⟩ := opens_int Tryz.underlying3 h1
    obtain ⟨u, g2, w2⟩ := opens_int Tryz.underlying3 h2
    obtain ⟨hm, g3, w3⟩ := opens_int Tryz.underlying3 h3
    refine ⟨⟨s, k, u, hm⟩, ?_, w0, w1, w2, w3⟩
    have g0' : ([c0, c1, c2, c3].drop 0).take (Tryz.prog.cellsOf 9) = [.string s] := g0
    have g1' : ([c0, c1, c2, c3].drop 1).take (Tryz.prog.cellsOf 3) = [.int .i64 k] := g1
    have g2' : ([c0, c1, c2, c3].drop 2).take (Tryz.prog.cellsOf 3) = [.int .i64 u] := g2
    have g3' : ([c0, c1, c2, c3].drop 3).take (Tryz.prog.cellsOf 3) = [.int .i64 hm] := g3
    rw [e0] at g0'
    rw [e1] at g1' g2' g3'
    simp at g0' g1' g2' g3'
    show [c0, c1, c2, c3] = [.string s, .int .i64 k, .int .i64 u, .int .i64 hm]
    rw [g0', g1', g2', g3']
section
variable {H : Type} {enc : TypeId × Value → H} {w : World} {base : Nat} {spare : Nat → Bool} {held : Bool}
end
end Go.Proofs.YtogeihdfmnohnaaGreatDoor
namespace Go.Proofs.YtogeihdfmnohnaaGreatDoor
open Go.RowKit
def zeroB (a : Am) : Bool := decide (a = ⟨0, 0⟩)
def fitsB (r : Rs) (a : Am) : Bool := shapedB r && (if r.kind = 1 then modeB a.mode && decide (a.units = 0) else decide (a.mode = 0) && decide (1 ≤ a.units) && decide (a.units ≤ r.units))
def permB (r : Rs) (a : Am) : Bool := shapedB r && (zeroB a || fitsB r a)
def covB (r : Rs) (a b : Am) : Bool := permB r a && permB r b && (zeroB b || !zeroB a && (if r.kind = 1 then covM a.mode b.mode else decide (b.units ≤ a.units)))
theorem Zero_any (m u : Int) (w : World) : Calls Tryz.prog 139 #[.agg #[.int .i64 m, .int .i64 u]] w (Ret w (.bool (zeroB ⟨m, u⟩))) := by
  obtain ⟨_, k1, k2⟩ := cmpAm m u 0 0
  go_enter Tryz.func139, Tryz.ntmps139
  go_wp2_with fail
  repeat' (first
    | (go_ret; refine ⟨ret_bool ?_, by (repeat (first | (with_reducible exact Below.refl _ _) | (with_reducible assumption) | (with_reducible refine below_drewN ?_ _) | (with_reducible refine Below.drew ?_) | (with_reducible refine Below.al ?_ _) | (with_reducible refine Below.st ?_ (by simp; try omega)) | (with_reducible refine Below.tr ?_ (Hid.out (by assumption))) | (with_reducible exact Hid.out (by assumption))))⟩; simp [zeroB]))
theorem rZero_any (m u : Int) (w : World) : Calls Tryz.prog 108 #[.agg #[.int .i64 m, .int .i64 u]] w (Ret w (.bool (zeroB ⟨m, u⟩))) := by
  obtain ⟨_, k1, k2⟩ := cmpAm m u 0 0
  go_enter Tryz.func108, Tryz.ntmps108
  go_wp2_with fail
  repeat' (first
    | (go_ret; refine ⟨ret_bool ?_, by (repeat (first | (with_reducible exact Below.refl _ _) | (with_reducible assumption) | (with_reducible refine below_drewN ?_ _) | (with_reducible refine Below.drew ?_) | (with_reducible refine Below.al ?_ _) | (with_reducible refine Below.st ?_ (by simp; try omega)) | (with_reducible refine Below.tr ?_ (Hid.out (by assumption))) | (with_reducible exact Hid.out (by assumption))))⟩; simp [zeroB]))
set_option maxHeartbeats 1600000 in
theorem Fits_any (r : Rs) (m n : Int) (w : World) : Calls Tryz.prog 137 #[r.val, .agg #[.int .i64 m, .int .i64 n]] w (Ret w (.bool (fitsB r ⟨m, n⟩))) := by
  obtain ⟨nm, kd, u, h⟩ := r
  have HS := Lib.hid (fun W => Shaped_any ⟨nm, kd, u, h⟩ W)
  have HM := Lib.hid (fun W => modeValid_any m W)
  unfold Rs.val
  go_enter Tryz.func137, Tryz.ntmps137
  go_wp2_with fail
  repeat' (first
    | (go_at_call 92; refine (HS.out _).mono ?_; rintro e wa1 ⟨rfl, hb_wa1⟩; obtain ⟨hc_wa1, hf_wa1⟩ := bcell hb_wa1; have hs_wa1 := hb_wa1.size; (try simp at hs_wa1); have hz_wa1_w_0 : w.heap.size < wa1.heap.size := (by omega); have hz_wa1_w_1 : w.heap.size + 1 < wa1.heap.size := (by omega); clear hs_wa1; have HB_wa1 := Lib.hid hb_wa1; clear hb_wa1; go_wp2_with fail)
    | (go_at_call 140; refine (HM.out _).mono ?_; rintro e wa2 ⟨rfl, hwa2⟩; obtain rfl := hwa2.symm; clear hwa2; go_wp2_with fail)
    | (go_ret; refine ⟨ret_bool ?_, by (repeat (first | (with_reducible exact Below.refl _ _) | (with_reducible assumption) | (with_reducible refine below_drewN ?_ _) | (with_reducible refine Below.drew ?_) | (with_reducible refine Below.al ?_ _) | (with_reducible refine Below.st ?_ (by simp; try omega)) | (with_reducible refine Below.tr ?_ (Hid.out (by assumption))) | (with_reducible exact Hid.out (by assumption))))⟩; (first | (simp_all [fitsB]; done) | (simp_all [fitsB]; omega) | (rw [Bool.eq_iff_iff]; simp_all [fitsB]; done) | (rw [Bool.eq_iff_iff]; simp_all [fitsB]; omega))))
set_option maxHeartbeats 1600000 in
theorem rFits_any (r : Rs) (m n : Int) (w : World) : Calls Tryz.prog 104 #[r.val, .agg #[.int .i64 m, .int .i64 n]] w (Ret w (.bool (fitsB r ⟨m, n⟩))) := by
  obtain ⟨nm, kd, u, h⟩ := r
  have HS := Lib.hid (fun W => rShaped_any ⟨nm, kd, u, h⟩ W)
  have HM := Lib.hid (fun W => rmodeValid_any m W)
  unfold Rs.val
  go_enter Tryz.func104, Tryz.ntmps104
  go_wp2_with fail
  repeat' (first
    | (go_at_call 106; refine (HS.out _).mono ?_; rintro e wa1 ⟨rfl, hb_wa1⟩; obtain ⟨hc_wa1, hf_wa1⟩ := bcell hb_wa1; have hs_wa1 := hb_wa1.size; (try simp at hs_wa1); have hz_wa1_w_0 : w.heap.size < wa1.heap.size := (by omega); have hz_wa1_w_1 : w.heap.size + 1 < wa1.heap.size := (by omega); clear hs_wa1; have HB_wa1 := Lib.hid hb_wa1; clear hb_wa1; go_wp2_with fail)
    | (go_at_call 147; refine (HM.out _).mono ?_; rintro e wa2 ⟨rfl, hwa2⟩; obtain rfl := hwa2.symm; clear hwa2; go_wp2_with fail)
    | (go_ret; refine ⟨ret_bool ?_, by (repeat (first | (with_reducible exact Below.refl _ _) | (with_reducible assumption) | (with_reducible refine below_drewN ?_ _) | (with_reducible refine Below.drew ?_) | (with_reducible refine Below.al ?_ _) | (with_reducible refine Below.st ?_ (by simp; try omega)) | (with_reducible refine Below.tr ?_ (Hid.out (by assumption))) | (with_reducible exact Hid.out (by assumption))))⟩; (first | (simp_all [fitsB]; done) | (simp_all [fitsB]; omega) | (rw [Bool.eq_iff_iff]; simp_all [fitsB]; done) | (rw [Bool.eq_iff_iff]; simp_all [fitsB]; omega))))
set_option maxHeartbeats 1600000 in
theorem permitted_any (r : Rs) (m n : Int) (w : World) : Calls Tryz.prog 93 #[r.val, .agg #[.int .i64 m, .int .i64 n]] w (Ret w (.bool (permB r ⟨m, n⟩))) := by
  obtain ⟨nm, kd, u, h⟩ := r
  have HS := Lib.hid (fun W => Shaped_any ⟨nm, kd, u, h⟩ W)
  have HZ := Lib.hid (fun W => Zero_any m n W)
  have HM := Lib.hid (fun W => Fits_any ⟨nm, kd, u, h⟩ m n W)
  unfold Rs.val
  go_enter Tryz.func93, Tryz.ntmps93
  go_wp2_with fail
  repeat' (first
    | (go_at_call 92; refine (HS.out _).mono ?_; rintro e wa1 ⟨rfl, hb_wa1⟩; obtain ⟨hc_wa1, hf_wa1⟩ := bcell hb_wa1; have hs_wa1 := hb_wa1.size; (try simp at hs_wa1); have hz_wa1_w_0 : w.heap.size < wa1.heap.size := (by omega); have hz_wa1_w_1 : w.heap.size + 1 < wa1.heap.size := (by omega); clear hs_wa1; have HB_wa1 := Lib.hid hb_wa1; clear hb_wa1; go_wp2_with fail)
    | (go_at_call 139; refine (HZ.out _).mono ?_; rintro e wa2 ⟨rfl, hb_wa2⟩; obtain ⟨hc_wa2, hf_wa2⟩ := bcell hb_wa2; have hs_wa2 := hb_wa2.size; (try simp at hs_wa2); have hz_wa2_w_0 : w.heap.size < wa2.heap.size := (by omega); have hz_wa2_w_1 : w.heap.size + 1 < wa2.heap.size := (by omega); clear hs_wa2; have HB_wa2 := Lib.hid hb_wa2; clear hb_wa2; go_wp2_with fail)
    | (go_at_call 137; refine (HM.out _).mono ?_; rintro e wa3 ⟨rfl, hb_wa3⟩; obtain ⟨hc_wa3, hf_wa3⟩ := bcell hb_wa3; have hs_wa3 := hb_wa3.size; (try simp at hs_wa3); have hz_wa3_w_0 : w.heap.size < wa3.heap.size := (by omega); have hz_wa3_w_1 : w.heap.size + 1 < wa3.heap.size := (by omega); clear hs_wa3; have HB_wa3 := Lib.hid hb_wa3; clear hb_wa3; go_wp2_with fail)
    | (go_ret; refine ⟨ret_bool ?_, by (repeat (first | (with_reducible exact Below.refl _ _) | (with_reducible assumption) | (with_reducible refine below_drewN ?_ _) | (with_reducible refine Below.drew ?_) | (with_reducible refine Below.al ?_ _) | (with_reducible refine Below.st ?_ (by simp; try omega)) | (with_reducible refine Below.tr ?_ (Hid.out (by assumption))) | (with_reducible exact Hid.out (by assumption))))⟩; (first | (simp_all [permB]; done) | (simp_all [permB]; omega) | (rw [Bool.eq_iff_iff]; simp_all [permB]; done) | (rw [Bool.eq_iff_iff]; simp_all [permB]; omega))))
set_option maxHeartbeats 1600000 in
theorem rPermitted_any (r : Rs) (m n : Int) (w : World) : Calls Tryz.prog 107 #[r.val, .agg #[.int .i64 m, .int .i64 n]] w (Ret w (.bool (permB r ⟨m, n⟩))) := by
  obtain ⟨nm, kd, u, h⟩ := r
  have HS := Lib.hid (fun W => rShaped_any ⟨nm, kd, u, h⟩ W)
  have HZ := Lib.hid (fun W => rZero_any m n W)
  have HM := Lib.hid (fun W => rFits_any ⟨nm, kd, u, h⟩ m n W)
  unfold Rs.val
  go_enter Tryz.func107, Tryz.ntmps107
  go_wp2_with fail
  repeat' (first
    | (go_at_call 106; refine (HS.out _).mono ?_; rintro e wa1 ⟨rfl, hb_wa1⟩; obtain ⟨hc_wa1, hf_wa1⟩ := bcell hb_wa1; have hs_wa1 := hb_wa1.size; (try simp at hs_wa1); have hz_wa1_w_0 : w.heap.size < wa1.heap.size := (by omega); have hz_wa1_w_1 : w.heap.size + 1 < wa1.heap.size := (by omega); clear hs_wa1; have HB_wa1 := Lib.hid hb_wa1; clear hb_wa1; go_wp2_with fail)
    | (go_at_call 108; refine (HZ.out _).mono ?_; rintro e wa2 ⟨rfl, hb_wa2⟩; obtain ⟨hc_wa2, hf_wa2⟩ := bcell hb_wa2; have hs_wa2 := hb_wa2.size; (try simp at hs_wa2); have hz_wa2_w_0 : w.heap.size < wa2.heap.size := (by omega); have hz_wa2_w_1 : w.heap.size + 1 < wa2.heap.size := (by omega); clear hs_wa2; have HB_wa2 := Lib.hid hb_wa2; clear hb_wa2; go_wp2_with fail)
    | (go_at_call 104; refine (HM.out _).mono ?_; rintro e wa3 ⟨rfl, hb_wa3⟩; obtain ⟨hc_wa3, hf_wa3⟩ := bcell hb_wa3; have hs_wa3 := hb_wa3.size; (try simp at hs_wa3); have hz_wa3_w_0 : w.heap.size < wa3.heap.size := (by omega); have hz_wa3_w_1 : w.heap.size + 1 < wa3.heap.size := (by omega); clear hs_wa3; have HB_wa3 := Lib.hid hb_wa3; clear hb_wa3; go_wp2_with fail)
    | (go_ret; refine ⟨ret_bool ?_, by (repeat (first | (with_reducible exact Below.refl _ _) | (with_reducible assumption) | (with_reducible refine below_drewN ?_ _) | (with_reducible refine Below.drew ?_) | (with_reducible refine Below.al ?_ _) | (with_reducible refine Below.st ?_ (by simp; try omega)) | (with_reducible refine Below.tr ?_ (Hid.out (by assumption))) | (with_reducible exact Hid.out (by assumption))))⟩; (first | (simp_all [permB]; done) | (simp_all [permB]; omega) | (rw [Bool.eq_iff_iff]; simp_all [permB]; done) | (rw [Bool.eq_iff_iff]; simp_all [permB]; omega))))
set_option maxHeartbeats 3200000 in
theorem Covers_any (r : Rs) (a b c d : Int) (w : World) : Calls Tryz.prog 178 #[r.val, .agg #[.int .i64 a, .int .i64 b], .agg #[.int .i64 c, .int .i64 d]] w (Ret w (.bool (covB r ⟨a, b⟩ ⟨c, d⟩))) := by
  obtain ⟨nm, kd, u, h⟩ := r
  have HP := Lib.hid (fun m n W => permitted_any ⟨nm, kd, u, h⟩ m n W)
  have HZ := Lib.hid (fun m n W => Zero_any m n W)
  have HM := Lib.hid (fun W => modeCovers_any a c W)
  unfold Rs.val
  go_enter Tryz.func178, Tryz.ntmps178
  go_wp2_with fail
  repeat' (first
    | (go_at_call 93; refine (HP.out _ _ _).mono ?_; rintro e wa1 ⟨rfl, hb_wa1⟩; obtain ⟨hc_wa1, hf_wa1⟩ := bcell hb_wa1; have hs_wa1 := hb_wa1.size; (try simp at hs_wa1); have hz_wa1_w_0 : w.heap.size < wa1.heap.size := (by omega); have hz_wa1_w_1 : w.heap.size + 1 < wa1.heap.size := (by omega); have hz_wa1_w_2 : w.heap.size + 1 + 1 < wa1.heap.size := (by omega); clear hs_wa1; have HB_wa1 := Lib.hid hb_wa1; clear hb_wa1; go_wp2_with fail)
    | (go_at_call 139; refine (HZ.out _ _ _).mono ?_; rintro e wa2 ⟨rfl, hb_wa2⟩; obtain ⟨hc_wa2, hf_wa2⟩ := bcell hb_wa2; have hs_wa2 := hb_wa2.size; (try simp at hs_wa2); have hz_wa2_w_0 : w.heap.size < wa2.heap.size := (by omega); have hz_wa2_w_1 : w.heap.size + 1 < wa2.heap.size := (by omega); have hz_wa2_w_2 : w.heap.size + 1 + 1 < wa2.heap.size := (by omega); clear hs_wa2; have HB_wa2 := Lib.hid hb_wa2; clear hb_wa2; go_wp2_with fail)
    | (go_at_call 191; refine (HM.out _).mono ?_; rintro e wa3 ⟨rfl, hb_wa3⟩; obtain ⟨hc_wa3, hf_wa3⟩ := bcell hb_wa3; have hs_wa3 := hb_wa3.size; (try simp at hs_wa3); have hz_wa3_w_0 : w.heap.size < wa3.heap.size := (by omega); have hz_wa3_w_1 : w.heap.size + 1 < wa3.heap.size := (by omega); have hz_wa3_w_2 : w.heap.size + 1 + 1 < wa3.heap.size := (by omega); clear hs_wa3; have HB_wa3 := Lib.hid hb_wa3; clear hb_wa3; go_wp2_with fail)
    | (go_ret; refine ⟨ret_bool ?_, by (repeat (first | (with_reducible exact Below.refl _ _) | (with_reducible assumption) | (with_reducible refine below_drewN ?_ _) | (with_reducible refine Below.drew ?_) | (with_reducible refine Below.al ?_ _) | (with_reducible refine Below.st ?_ (by simp; try omega)) | (with_reducible refine Below.tr ?_ (Hid.out (by assumption))) | (with_reducible exact Hid.out (by assumption))))⟩; (first | (simp_all [covB]; done) | (simp_all [covB]; omega) | (rw [Bool.eq_iff_iff]; simp_all [covB]; done) | (rw [Bool.eq_iff_iff]; simp_all [covB]; omega))))
set_option maxHeartbeats 3200000 in
theorem rCovers_any (r : Rs) (a b c d : Int) (w : World) : Calls Tryz.prog 171 #[r.val, .agg #[.int .i64 a, .int .i64 b], .agg #[.int .i64 c, .int .i64 d]] w (Ret w (.bool (covB r ⟨a, b⟩ ⟨c, d⟩))) := by
  obtain ⟨nm, kd, u, h⟩ := r
  have HP := Lib.hid (fun m n W => rPermitted_any ⟨nm, kd, u, h⟩ m n W)
  have HZ := Lib.hid (fun m n W => rZero_any m n W)
  have HM := Lib.hid (fun W => rmodeCovers_any a c W)
  unfold Rs.val
  go_enter Tryz.func171, Tryz.ntmps171
  go_wp2_with fail
  repeat' (first
    | (go_at_call 107; refine (HP.out _ _ _).mono ?_; rintro e wa1 ⟨rfl, hb_wa1⟩; obtain ⟨hc_wa1, hf_wa1⟩ := bcell hb_wa1; have hs_wa1 := hb_wa1.size; (try simp at hs_wa1); have hz_wa1_w_0 : w.heap.size < wa1.heap.size := (by omega); have hz_wa1_w_1 : w.heap.size + 1 < wa1.heap.size := (by omega); have hz_wa1_w_2 : w.heap.size + 1 + 1 < wa1.heap.size := (by omega); clear hs_wa1; have HB_wa1 := Lib.hid hb_wa1; clear hb_wa1; go_wp2_with fail)
    | (go_at_call 108; refine (HZ.out _ _ _).mono ?_; rintro e wa2 ⟨rfl, hb_wa2⟩; obtain ⟨hc_wa2, hf_wa2⟩ := bcell hb_wa2; have hs_wa2 := hb_wa2.size; (try simp at hs_wa2); have hz_wa2_w_0 : w.heap.size < wa2.heap.size := (by omega); have hz_wa2_w_1 : w.heap.size + 1 < wa2.heap.size := (by omega); have hz_wa2_w_2 : w.heap.size + 1 + 1 < wa2.heap.size := (by omega); clear hs_wa2; have HB_wa2 := Lib.hid hb_wa2; clear hb_wa2; go_wp2_with fail)
    | (go_at_call 186; refine (HM.out _).mono ?_; rintro e wa3 ⟨rfl, hwa3⟩; obtain rfl := hwa3.symm; clear hwa3; go_wp2_with fail)
    | (go_ret; refine ⟨ret_bool ?_, by (repeat (first | (with_reducible exact Below.refl _ _) | (with_reducible assumption) | (with_reducible refine below_drewN ?_ _) | (with_reducible refine Below.drew ?_) | (with_reducible refine Below.al ?_ _) | (with_reducible refine Below.st ?_ (by simp; try omega)) | (with_reducible refine Below.tr ?_ (Hid.out (by assumption))) | (with_reducible exact Hid.out (by assumption))))⟩; (first | (simp_all [covB]; done) | (simp_all [covB]; omega) | (rw [Bool.eq_iff_iff]; simp_all [covB]; done) | (rw [Bool.eq_iff_iff]; simp_all [covB]; omega))))
end Go.Proofs.YtogeihdfmnohnaaGreatDoor
