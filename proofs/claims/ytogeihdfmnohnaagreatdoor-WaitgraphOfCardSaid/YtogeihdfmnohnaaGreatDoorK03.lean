/- Part 3 of 49 of the proof of waitgraphOf_holds (no condition). -/
import Derived.Test.YtogeihdfmnohnaaGreatDoorChecked
import Derived.Test.YtogeihdfmnohnaaGreatDoorK02
import Derived.Test.YtogeihdfmnohnaaGreatDoorRows
import Derived.Laws.StructEq
import Derived.Laws.ResultCell
import Derived.Laws.NewBlocks
import Derived.HandedShaped
import Derived.ProofKit
import Derived.Lib.SmallJoins
set_option linter.unusedVariables false
set_option linter.unusedSimpArgs false
namespace Go.Proofs.YtogeihdfmnohnaaGreatDoor
open Go.RowKit
def Pr.val (p : Pr) : Value := .agg #[.int .i64 p.site, .int .i64 p.inc, .int .i64 p.num]
def St.val (s : St) : Value := .agg #[.int .i64 s.time, .int .i64 s.site]
theorem between_any (n a b : Int) (w : World) : Calls Tryz.prog 74 #[.int .i64 n, .int .i64 a, .int .i64 b] w (Same w (.bool (decide (a ≤ n) && decide (n ≤ b)))) := by
  go_enter Tryz.func74, Tryz.ntmps74
  go_wp2
  all_goals go_ret
  all_goals refine ⟨ret_bool ?_, rfl⟩
  all_goals (first | rfl | (simp_all; done) | (simp_all; omega) | (rw [Bool.eq_iff_iff]; simp_all; done) | (rw [Bool.eq_iff_iff]; simp_all; omega))
theorem Order_any (a b : Int) (w : World) : Calls Tryz.prog 97 #[.int .i64 a, .int .i64 b] w (Same w (.int .i64 (ordI a b))) := by
  unfold ordI
  go_enter Tryz.func97, Tryz.ntmps97
  go_wp2
  all_goals go_ret
  all_goals refine ⟨ret_int ?_, rfl⟩
  all_goals first | (simp_all; done) | (repeat (first | rw [if_pos (by omega)] | rw [if_neg (by omega)]))
set_option maxHeartbeats 400000 in
theorem rVProc_any (p : Pr) (w : World) : Calls Tryz.prog 58 #[p.val] w (Ret w (.bool (vpB p))) := by
  obtain ⟨a, b, c⟩ := p
  unfold vpB Pr.val
  go_enter Tryz.func58, Tryz.ntmps58
  go_wp2
  all_goals go_ret
  all_goals refine ⟨ret_bool ?_, (Below.refl _ _).alloc (Nat.le_refl _) _⟩
  all_goals (first | rfl | (simp_all; done) | (simp_all; omega) | (rw [Bool.eq_iff_iff]; simp_all; done) | (rw [Bool.eq_iff_iff]; simp_all; omega))
set_option maxHeartbeats 400000 in
theorem VProc_any (p : Pr) (w : World) : Calls Tryz.prog 39 #[p.val] w (Ret w (.bool (vpB p))) := by
  have H1 := Lib.hid (fun n a b w => between_any n a b w)
  obtain ⟨a, b, c⟩ := p
  unfold vpB Pr.val
  go_enter Tryz.func39, Tryz.ntmps39
  go_wp2_with (first | (refine (H1.out _ _ _ _).mono ?_; rintro e w' ⟨rfl, rfl⟩) | fail)
  all_goals go_ret
  all_goals refine ⟨ret_bool ?_, (Below.refl _ _).alloc (Nat.le_refl _) _⟩
  all_goals (first | rfl | (simp_all; done) | (simp_all; omega) | (rw [Bool.eq_iff_iff]; simp_all; done) | (rw [Bool.eq_iff_iff]; simp_all; omega))
end Go.Proofs.YtogeihdfmnohnaaGreatDoor
namespace Go.Proofs.YtogeihdfmnohnaaGreatDoor
open Go.RowKit
section
variable {α : Type} {E : El α} {w w' : World} {l : List α} {v : Value} {base : Nat} {e : TypeId}
theorem OwnRows.addr (h : OwnRows E e w base v l) (h0 : 0 < l.length) :
    ∃ g cap, v = .slice (some ⟨g, 0, none⟩) l.length cap ∧ base ≤ g ∧ g < w.heap.size ∧ l.length ≤ cap ∧ cap ≤ maxLen ∧ (∀ j, w.frozen? ⟨g, j, none⟩ = false) ∧ RowsAt E w (Lo w.heap.size) (some ⟨g, 0, none⟩) l := by
  obtain ⟨A, cap, hA, hr, hc, hm⟩ := h.form
  have h2 := h
  obtain ⟨_, xs, h1, _⟩ := h2
  rcases h1.2 with ⟨hv, hn⟩ | ⟨g, cap', cur, hv, hg, hh, hnc, hcm, hcs, ht⟩
  · omega
  · rw [hv] at hA
    injection hA with e1 e2 e3
    subst e1
    subst e3
    exact ⟨g, cap', hv, hg, (Array.getElem?_eq_some_iff.1 hh).1, hc, hm, fun j => frozen_of_row w g j cur e hh, hr⟩
theorem OwnRows.form2 (h : OwnRows E e w base v l) :
    ∃ A cap, v = .slice A l.length cap ∧ (A = none → l.length = 0 ∧ cap = 0) ∧ RowsAt E w (Lo w.heap.size) A l ∧ l.length ≤ cap ∧ cap ≤ maxLen := by
  obtain ⟨A, cap, hA, hr, hc, hm⟩ := h.form
  refine ⟨A, cap, hA, fun hn => ?_, hr, hc, hm⟩
  subst hn
  obtain ⟨_, xs, h1, _⟩ := h
  rcases h1.2 with ⟨hv, hn⟩ | ⟨g, cap', cur, hv, _⟩
  · rw [hv] at hA
    injection hA with _ e2 e3
    exact ⟨e2.symm, e3.symm⟩
  · rw [hv] at hA
    injection hA with e1
    cases e1
theorem OwnRows.set1 {g cap : Nat} (h : OwnRows E e w base (.slice (some ⟨g, 0, none⟩) l.length cap) l) (hn : E.n = 1) {i : Nat} (hi : i < l.length) {y : α} {u : Value}
    (hy : E.rep (w.setCell ⟨g, i, none⟩ u) (Oth (w.setCell ⟨g, i, none⟩ u) (.slice (some ⟨g, 0, none⟩) l.length cap)) y [u]) :
    OwnRows E e (w.setCell ⟨g, i, none⟩ u) base (.slice (some ⟨g, 0, none⟩) l.length cap) (l.set i y) := by
  refine h.setAll hi hy (by simp [World.setCell]) (fun b hb => ?_) fun xs hx => ?_
  · have : b ≠ g := fun e => hb.2 (by rw [e]; rfl)
    exact heap_setCell_other w ⟨g, i, none⟩ b u this
  · have hl : i < xs.length := by rw [hx.1, hn]; omega
    rw [hn, Nat.mul_one] at *
    have := (hx.stored i u).1
    rwa [List.set_eq_take_append_cons_drop, if_pos hl, ← List.singleton_append, ← List.append_assoc] at this
end
theorem Below.al {a w : World} (h : Below a.heap.size a w) (o : Obj) : Below a.heap.size a (w.alloc o) := h.alloc h.size o
theorem Below.tr {a b c : World} (h : Below a.heap.size a b) (k : Below b.heap.size b c) : Below a.heap.size a c := h.trans (k.mono h.size)
theorem Below.st {a w : World} {p : Addr} {u : Value} (h : Below a.heap.size a w) (hp : a.heap.size ≤ p.block) : Below a.heap.size a (w.setCell p u) := h.setCell hp u
theorem bcell {W w1 : World} (hb : Below W.heap.size W w1) : (∀ b o, b < W.heap.size → w1.cell? ⟨b, o, none⟩ = W.cell? ⟨b, o, none⟩) ∧ (∀ b o, b < W.heap.size → w1.frozen? ⟨b, o, none⟩ = W.frozen? ⟨b, o, none⟩) :=
  ⟨fun b o h => hb.cell (p := ⟨b, o, none⟩) h, fun b o h => hb.frozen (p := ⟨b, o, none⟩) h⟩
end Go.Proofs.YtogeihdfmnohnaaGreatDoor
namespace Go.Proofs.YtogeihdfmnohnaaGreatDoor
open Go.RowKit
def Pr.cells (p : Pr) : List Value := [.int .i64 p.site, .int .i64 p.inc, .int .i64 p.num]
def St.cells (p : St) : List Value := [.int .i64 p.time, .int .i64 p.site]
def Pr.Fit (p : Pr) : Prop := I64 p.site ∧ I64 p.inc ∧ I64 p.num
def St.Fit (p : St) : Prop := I64 p.time ∧ I64 p.site
def prE : El Pr := El.plain 3 (by decide) Pr.cells (fun _ => rfl) (by intro x u hu; simp [Pr.cells] at hu; rcases hu with rfl | rfl | rfl <;> rfl)
theorem pr_cells {w : World} {S : Nat → Prop} {A : Option Addr} {l : List Pr} {i : Nat} {a b c : Int} (h : RowsAt prE w S A l) (hi : i < l.length) (hx : l[i] = ⟨a, b, c⟩) :
    ∃ k off, A = some ⟨k, off, none⟩ ∧ S k ∧ w.cell? ⟨k, off + i * 3, none⟩ = some (.int .i64 a) ∧ w.cell? ⟨k, off + i * 3 + 1, none⟩ = some (.int .i64 b) ∧ w.cell? ⟨k, off + i * 3 + 2, none⟩ = some (.int .i64 c) := by
  obtain ⟨k, off, cs, hA, hS, hc, hd⟩ := h.getx hi hx
  have hc' : cs = [.int .i64 a, .int .i64 b, .int .i64 c] := hc
  subst hc'
  exact ⟨k, off, hA, hS, hd 0 (show 0 < 3 by decide), hd 1 (show 1 < 3 by decide), hd 2 (show 2 < 3 by decide)⟩
theorem prTB : ElTB Tryz.prog prE 28 51 24 := ElTB.mk' Tryz.underlying28 (.agg #[.int .i64 0, .int .i64 0, .int .i64 0]) 3 24 (by kernel_rfl) rfl rfl
end Go.Proofs.YtogeihdfmnohnaaGreatDoor
namespace Go.Proofs.YtogeihdfmnohnaaGreatDoor
open Go.RowKit
theorem equalPr (a b : Pr) (w : World) : (Op.equalIn 10000 51 a.val b.val).run Tryz.prog w = .ok (decide (a = b)) w := by
  have hS : Tryz.prog.underlying 51 = some (.struct (Tryz.prog.fieldsOf 51)) := by kernel_rfl
  have hp : Tryz.prog.stoodInHeld 51 = false := by kernel_rfl
  unfold Pr.val
  rw [show (10000 : Nat) = 9999 + 1 from rfl, run_equalIn_agg w 9999 51 _ _ hS hp]
  have u3 := Tryz.underlying3
  simp only [Program.fieldsOf, Tryz.underlying51]
  go_simp
  obtain ⟨a1, a2, a3⟩ := a
  obtain ⟨b1, b2, b3⟩ := b
  by_cases h1 : a1 = b1 <;> by_cases h2 : a2 = b2 <;> by_cases h3 : a3 = b3 <;> simp [h1, h2, h3]
structure Cmps (t : TypeId) (x y : Array Value) (r : Bool) : Prop where
  neq : ∀ w, (binOp .neq t (.agg x) (.agg y)).run Tryz.prog w = .ok (.bool (!r)) w
  eql : ∀ w, (binOp .eql t (.agg x) (.agg y)).run Tryz.prog w = .ok (.bool r) w
  guard : ∀ (op : BinOp) (a b : Operand) (xs ys : Array Value) w, (eqGuard op t a b (.agg xs) (.agg ys)).run Tryz.prog w = .ok () w
theorem Cmps.mk' {t : TypeId} {x y : Array Value} {r : Bool} (h : ∀ w, (Op.equalIn 10000 t (.agg x) (.agg y)).run Tryz.prog w = .ok r w) (hg : ∀ (op : BinOp) (a b : Operand) (xs ys : Array Value) w, (eqGuard op t a b (.agg xs) (.agg ys)).run Tryz.prog w = .ok () w) : Cmps t x y r where
  neq := fun w => (run_neq_struct (P := Tryz.prog) w t x y).trans (by rw [h w]; rfl)
  eql := fun w => (run_eql_struct (P := Tryz.prog) w t x y).trans (by rw [h w]; rfl)
  guard := hg
theorem cmpPr (a b c x y z : Int) : Cmps 51 #[.int .i64 a, .int .i64 b, .int .i64 c] #[.int .i64 x, .int .i64 y, .int .i64 z] (decide ((⟨a, b, c⟩ : Pr) = ⟨x, y, z⟩)) := Cmps.mk' (equalPr ⟨a, b, c⟩ ⟨x, y, z⟩) (fun op a b xs ys w => run_eqGuard_agg w op 51 a b xs ys (by kernel_rfl))
end Go.Proofs.YtogeihdfmnohnaaGreatDoor
namespace Go.Proofs.YtogeihdfmnohnaaGreatDoor
open Go.RowKit
structure Am where
  mode : Int
  units : Int
deriving DecidableEq
def Am.cells (a : Am) : List Value := [.int .i64 a.mode, .int .i64 a.units]
def Am.val (a : Am) : Value := .agg #[.int .i64 a.mode, .int .i64 a.units]
def Am.zero : Am := ⟨0, 0⟩
structure Tm where
  name : ByteArray
  am : Am
deriving DecidableEq
def Tm.cells (a : Tm) : List Value := [.string a.name, .int .i64 a.am.mode, .int .i64 a.am.units]
def Tm.val (a : Tm) : Value := .agg #[.string a.name, .int .i64 a.am.mode, .int .i64 a.am.units]
structure Ho where
  proc : Pr
  am : Am
deriving DecidableEq
def Ho.cells (a : Ho) : List Value := [.int .i64 a.proc.site, .int .i64 a.proc.inc, .int .i64 a.proc.num, .int .i64 a.am.mode, .int .i64 a.am.units]
def Ho.val (a : Ho) : Value := .agg #[.int .i64 a.proc.site, .int .i64 a.proc.inc, .int .i64 a.proc.num, .int .i64 a.am.mode, .int .i64 a.am.units]
structure Wt where
  proc : Pr
  am : Am
  prio : Int
  passed : Int
deriving DecidableEq
def Wt.cells (a : Wt) : List Value := [.int .i64 a.proc.site, .int .i64 a.proc.inc, .int .i64 a.proc.num, .int .i64 a.am.mode, .int .i64 a.am.units, .int .i64 a.prio, .int .i64 a.passed]
def Wt.val (a : Wt) : Value := .agg #[.int .i64 a.proc.site, .int .i64 a.proc.inc, .int .i64 a.proc.num, .int .i64 a.am.mode, .int .i64 a.am.units, .int .i64 a.prio, .int .i64 a.passed]
def amE : El Am := El.plain 2 (by decide) Am.cells (fun _ => rfl) (by intro x u hu; simp [Am.cells] at hu; rcases hu with rfl | rfl <;> rfl)
def tmE : El Tm := El.plain 3 (by decide) Tm.cells (fun _ => rfl) (by intro x u hu; simp [Tm.cells] at hu; rcases hu with rfl | rfl | rfl <;> rfl)
def hoE : El Ho := El.plain 5 (by decide) Ho.cells (fun _ => rfl) (by intro x u hu; simp [Ho.cells] at hu; rcases hu with rfl | rfl | rfl | rfl | rfl <;> rfl)
def wtE : El Wt := El.plain 7 (by decide) Wt.cells (fun _ => rfl) (by intro x u hu; simp [Wt.cells] at hu; rcases hu with rfl | rfl | rfl | rfl | rfl | rfl | rfl <;> rfl)
section
variable {w : World} {S : Nat → Prop} {A : Option Addr} {i : Nat}
theorem am_cells {l : List Am} {m u : Int} (h : RowsAt amE w S A l) (hi : i < l.length) (hx : l[i] = ⟨m, u⟩) :
    ∃ k off, A = some ⟨k, off, none⟩ ∧ S k ∧ w.cell? ⟨k, off + i * 2, none⟩ = some (.int .i64 m) ∧ w.cell? ⟨k, off + i * 2 + 1, none⟩ = some (.int .i64 u) := by
  obtain ⟨k, off, cs, hA, hS, hc, hd⟩ := h.getx hi hx
  obtain rfl : cs = [.int .i64 m, .int .i64 u] := hc
  exact ⟨k, off, hA, hS, hd 0 (show 0 < 2 by decide), hd 1 (show 1 < 2 by decide)⟩
theorem tm_cells {l : List Tm} {n : ByteArray} {m u : Int} (h : RowsAt tmE w S A l) (hi : i < l.length) (hx : l[i] = ⟨n, ⟨m, u⟩⟩) :
    ∃ k off, A = some ⟨k, off, none⟩ ∧ S k ∧ w.cell? ⟨k, off + i * 3, none⟩ = some (.string n) ∧ w.cell? ⟨k, off + i * 3 + 1, none⟩ = some (.int .i64 m) ∧ w.cell? ⟨k, off + i * 3 + 2, none⟩ = some (.int .i64 u) := by
  obtain ⟨k, off, cs, hA, hS, hc, hd⟩ := h.getx hi hx
  obtain rfl : cs = [.string n, .int .i64 m, .int .i64 u] := hc
  exact ⟨k, off, hA, hS, hd 0 (show 0 < 3 by decide), hd 1 (show 1 < 3 by decide), hd 2 (show 2 < 3 by decide)⟩
theorem ho_cells {l : List Ho} {a b c m u : Int} (h : RowsAt hoE w S A l) (hi : i < l.length) (hx : l[i] = ⟨⟨a, b, c⟩, ⟨m, u⟩⟩) :
    ∃ k off, A = some ⟨k, off, none⟩ ∧ S k ∧ w.cell? ⟨k, off + i * 5, none⟩ = some (.int .i64 a) ∧ w.cell? ⟨k, off + i * 5 + 1, none⟩ = some (.int .i64 b) ∧ w.cell? ⟨k, off + i * 5 + 2, none⟩ = some (.int .i64 c) ∧ w.cell? ⟨k, off + i * 5 + 3, none⟩ = some (.int .i64 m) ∧ w.cell? ⟨k, off + i * 5 + 4, none⟩ = some (.int .i64 u) := by
  obtain ⟨k, off, cs, hA, hS, hc, hd⟩ := h.getx hi hx
  obtain rfl : cs = [.int .i64 a, .int .i64 b, .int .i64 c, .int .i64 m, .int .i64 u] := hc
  exact ⟨k, off, hA, hS, hd 0 (show 0 < 5 by decide), hd 1 (show 1 < 5 by decide), hd 2 (show 2 < 5 by decide), hd 3 (show 3 < 5 by decide), hd 4 (show 4 < 5 by decide)⟩
theorem wt_cells {l : List Wt} {a b c m u p q : Int} (h : RowsAt wtE w S A l) (hi : i < l.length) (hx : l[i] = ⟨⟨a, b, c⟩, ⟨m, u⟩, p, q⟩) :
    ∃ k off, A = some ⟨k, off, none⟩ ∧ S k ∧ w.cell? ⟨k, off + i * 7, none⟩ = some (.int .i64 a) ∧ w.cell? ⟨k, off + i * 7 + 1, none⟩ = some (.int .i64 b) ∧ w.cell? ⟨k, off + i * 7 + 2, none⟩ = some (.int .i64 c) ∧ w.cell? ⟨k, off + i * 7 + 3, none⟩ = some (.int .i64 m) ∧ w.cell? ⟨k, off + i * 7 + 4, none⟩ = some (.int .i64 u) ∧ w.cell? ⟨k, off + i * 7 + 5, none⟩ = some (.int .i64 p) ∧ w.cell? ⟨k, off + i * 7 + 6, none⟩ = some (.int .i64 q) := by
  obtain ⟨k, off, cs, hA, hS, hc, hd⟩ := h.getx hi hx
  obtain rfl : cs = [.int .i64 a, .int .i64 b, .int .i64 c, .int .i64 m, .int .i64 u, .int .i64 p, .int .i64 q] := hc
  exact ⟨k, off, hA, hS, hd 0 (show 0 < 7 by decide), hd 1 (show 1 < 7 by decide), hd 2 (show 2 < 7 by decide), hd 3 (show 3 < 7 by decide), hd 4 (show 4 < 7 by decide), hd 5 (show 5 < 7 by decide), hd 6 (show 6 < 7 by decide)⟩
end
theorem amTB : ElTB Tryz.prog amE 102 53 16 := ElTB.mk' Tryz.underlying102 (.agg #[.int .i64 0, .int .i64 0]) 2 16 (by kernel_rfl) rfl rfl
theorem tmTB : ElTB Tryz.prog tmE 95 55 32 := ElTB.mk' Tryz.underlying95 (.agg #[.string { data := #[] }, .int .i64 0, .int .i64 0]) 3 32 (by kernel_rfl) rfl rfl
theorem hoTB : ElTB Tryz.prog hoE 45 126 40 := ElTB.mk' Tryz.underlying45 (.agg #[.int .i64 0, .int .i64 0, .int .i64 0, .int .i64 0, .int .i64 0]) 5 40 (by kernel_rfl) rfl rfl
theorem wtTB : ElTB Tryz.prog wtE 46 87 56 := ElTB.mk' Tryz.underlying46 (.agg #[.int .i64 0, .int .i64 0, .int .i64 0, .int .i64 0, .int .i64 0, .int .i64 0, .int .i64 0]) 7 56 (by kernel_rfl) rfl rfl
theorem equalAm (a b : Am) (w : World) : (Op.equalIn 10000 53 a.val b.val).run Tryz.prog w = .ok (decide (a = b)) w := by
  have hS : Tryz.prog.underlying 53 = some (.struct (Tryz.prog.fieldsOf 53)) := by kernel_rfl
  have hp : Tryz.prog.stoodInHeld 53 = false := by kernel_rfl
  unfold Am.val
  rw [show (10000 : Nat) = 9999 + 1 from rfl, run_equalIn_agg w 9999 53 _ _ hS hp]
  have u3 := Tryz.underlying3
  simp only [Program.fieldsOf, Tryz.underlying53]
  go_simp
  obtain ⟨a1, a2⟩ := a
  obtain ⟨b1, b2⟩ := b
  by_cases h1 : a1 = b1 <;> by_cases h2 : a2 = b2 <;> simp [h1, h2]
theorem cmpAm (a b x y : Int) : Cmps 53 #[.int .i64 a, .int .i64 b] #[.int .i64 x, .int .i64 y] (decide ((⟨a, b⟩ : Am) = ⟨x, y⟩)) := Cmps.mk' (equalAm ⟨a, b⟩ ⟨x, y⟩) (fun op a b xs ys w => run_eqGuard_agg w op 53 a b xs ys (by kernel_rfl))
end Go.Proofs.YtogeihdfmnohnaaGreatDoor
namespace Go.Proofs.YtogeihdfmnohnaaGreatDoor
open Go.RowKit
def modeB (m : Int) : Bool := decide (1 ≤ m) && decide (m ≤ 5)
def covM (a b : Int) : Bool := modeB a && modeB b && (decide (a = b) || decide (a = 5) || decide (b = 1) || decide (a = 4) && !decide (b = 5))
def comM (a b : Int) : Bool := modeB a && modeB b && !decide (a = 5) && !decide (b = 5) && (decide (a = 1) || decide (b = 1) || decide (a = b) && !decide (a = 4))
theorem mode_five {a : Int} (h : modeB a = true) : a = 1 ∨ a = 2 ∨ a = 3 ∨ a = 4 ∨ a = 5 := by
  unfold modeB at h
  simp at h
  omega
theorem modeValid_any (m : Int) (w : World) : Calls Tryz.prog 140 #[.int .i64 m] w (Same w (.bool (modeB m))) := by
  go_enter Tryz.func140, Tryz.ntmps140
  go_wp2
  all_goals go_ret
  all_goals refine ⟨ret_bool ?_, rfl⟩
  all_goals unfold modeB
  all_goals (first | rfl | (simp_all; done) | (simp_all; omega) | (rw [Bool.eq_iff_iff]; simp_all; done) | (rw [Bool.eq_iff_iff]; simp_all; omega))
theorem rmodeValid_any (m : Int) (w : World) : Calls Tryz.prog 147 #[.int .i64 m] w (Same w (.bool (modeB m))) := by
  go_enter Tryz.func147, Tryz.ntmps147
  go_wp2
  all_goals go_ret
  all_goals refine ⟨ret_bool ?_, rfl⟩
  all_goals unfold modeB
  all_goals (first | rfl | (simp_all; done) | (simp_all; omega) | (rw [Bool.eq_iff_iff]; simp_all; done) | (rw [Bool.eq_iff_iff]; simp_all; omega))
set_option maxHeartbeats 1600000 in
theorem rmodeCovers_any (a b : Int) (w : World) : Calls Tryz.prog 186 #[.int .i64 a, .int .i64 b] w (Same w (.bool (covM a b))) := by
  have H := Lib.hid (fun m W => rmodeValid_any m W)
  go_enter Tryz.func186, Tryz.ntmps186
  go_wp2_with fail
  repeat' (first
    | (go_at_call 147; refine (H.out _ _).mono ?_; rintro e wa1 ⟨rfl, hwa1⟩; obtain rfl := hwa1.symm; clear hwa1; go_wp2_with fail)
    | (go_ret; refine ⟨ret_bool ?_, rfl⟩; (first | (simp_all [covM]; done) | (simp_all [covM]; omega) | (rw [Bool.eq_iff_iff]; simp_all [covM]; done) | (rw [Bool.eq_iff_iff]; simp_all [covM]; omega))))
set_option maxHeartbeats 1600000 in
theorem rmodeCompatible_any (a b : Int) (w : World) : Calls Tryz.prog 109 #[.int .i64 a, .int .i64 b] w (Same w (.bool (comM a b))) := by
  have H := Lib.hid (fun m W => rmodeValid_any m W)
  go_enter Tryz.func109, Tryz.ntmps109
  go_wp2_with fail
  repeat' (first
    | (go_at_call 147; refine (H.out _ _).mono ?_; rintro e wa1 ⟨rfl, hwa1⟩; obtain rfl := hwa1.symm; clear hwa1; go_wp2_with fail)
    | (go_ret; refine ⟨ret_bool ?_, rfl⟩; (first | (simp_all [comM]; done) | (simp_all [comM]; omega) | (rw [Bool.eq_iff_iff]; simp_all [comM]; done) | (rw [Bool.eq_iff_iff]; simp_all [comM]; omega))))
theorem results_cell {fn : Func} {p : Tmp} {ty : TypeId} (h : fn.results = #[.cell p ty]) (tmps : Array Value) (P : Program) (w : World) : (results fn tmps).run P w = ((asAddr (tmps.getD p undef)).run P w).andThen fun a w₁ => (loadVar ty a).run P w₁ := by
  simp only [results, h]
  simp [Sem.run_bind, Result.andThen]
def covV (m : Int) : Value := .agg #[.bool false, .bool (modeB m), .bool (decide (m = 5) || decide (m = 4) || decide (m = 2)), .bool (decide (m = 5) || decide (m = 4) || decide (m = 3)), .bool (decide (m = 5) || decide (m = 4)), .bool (decide (m = 5))]
set_option maxHeartbeats 1600000 in
theorem covered_any (m : Int) (hm : modeB m = true) (w : World) : Calls Tryz.prog 194 #[.int .i64 m] w (Ret w (covV m)) := by
  rcases mode_five hm with rfl | rfl | rfl | rfl | rfl
  all_goals
    clear hm
    go_enter Tryz.func194, Tryz.ntmps194
    go_wp2
    (try simp only [Exit.inBlock, Exit.then])
    refine bodyPost_ret_by (v := _) ?_ rfl ⟨rfl, by (repeat (first | (with_reducible exact Below.refl _ _) | (with_reducible assumption) | (with_reducible refine below_drewN ?_ _) | (with_reducible refine Below.drew ?_) | (with_reducible refine Below.al ?_ _) | (with_reducible refine Below.st ?_ (by simp; try omega)) | (with_reducible refine Below.tr ?_ (Hid.out (by assumption))) | (with_reducible exact Hid.out (by assumption))))⟩
    rw [results_cell rfl]
    go_simp
    rfl
theorem cov_index {a b : Int} (ha : modeB a = true) (hb : modeB b = true) (w : World) : (Instr.index 128 (covV a) (.int .i64 b)).run Tryz.prog w = .ok (.bool (covM a b)) w := by
  rcases mode_five ha with rfl | rfl | rfl | rfl | rfl <;> rcases mode_five hb with rfl | rfl | rfl | rfl | rfl <;> kernel_rfl
set_option maxHeartbeats 1600000 in
theorem modeCovers_any (a b : Int) (w : World) : Calls Tryz.prog 191 #[.int .i64 a, .int .i64 b] w (Ret w (.bool (covM a b))) := by
  have H := Lib.hid (fun m W => modeValid_any m W)
  have HI := Lib.hid (fun ha hb W => cov_index (a := a) (b := b) ha hb W)
  have HU : Hid ((modeB a && modeB b) = false → covM a b = false) := Lib.hid (fun h => by unfold covM; rw [h]; rfl)
  generalize covM a b = q at *
  go_enter Tryz.func191, Tryz.ntmps191
  go_wp2_with fail
  repeat' (first
    | (go_at_call 140; refine (H.out _ _).mono ?_; rintro e wa1 ⟨rfl, hwa1⟩; obtain rfl := hwa1.symm; clear hwa1; go_wp2_with fail)
    | (go_at_call 194; refine (covered_any a (by assumption) _).mono ?_; rintro e w2 ⟨rfl, hb2⟩; have k := HI.out (by assumption) (by assumption); generalize covV a = v at *; have HB2 := Lib.hid hb2; clear hb2; go_wp2_with fail)
    | (go_ret; refine ⟨ret_bool ?_, by (repeat (first | (with_reducible exact Below.refl _ _) | (with_reducible assumption) | (with_reducible refine below_drewN ?_ _) | (with_reducible refine Below.drew ?_) | (with_reducible refine Below.al ?_ _) | (with_reducible refine Below.st ?_ (by simp; try omega)) | (with_reducible refine Below.tr ?_ (Hid.out (by assumption))) | (with_reducible exact Hid.out (by assumption))))⟩; first | rfl | (rw [HU.out (by simp_all)])))
structure Tog (w : World) : Prop where
  at_ : ∀ i j : Nat, i < 5 → j < 5 → w.cell? ⟨0, i * 5 + j, none⟩ = some (.bool (comM (i + 1 : Nat) (j + 1 : Nat)))
theorem Tog.below {w w' : World} (h : Tog w) (hb : Below w.heap.size w w') : Tog w' where
  at_ := fun i j hi hj => (hb.cell (p := ⟨0, i * 5 + j, none⟩) (World.block_lt_of_cell? w _ (h.at_ i j hi hj))).trans (h.at_ i j hi hj)
set_option maxHeartbeats 1600000 in
theorem modeCompatible_any (a b : Int) (w : World) (hT : Tog w) : Calls Tryz.prog 94 #[.int .i64 a, .int .i64 b] w (Same w (.bool (comM a b))) := by
  have H := Lib.hid (fun m W => modeValid_any m W)
  by_cases hab : modeB a = true ∧ modeB b = true
  · obtain ⟨ha, hb⟩ := hab
    obtain ⟨i, hi, ei⟩ : ∃ i : Nat, i < 5 ∧ a = ((i + 1 : Nat) : Int) := ⟨(a - 1).toNat, by have := mode_five ha; omega, by have := mode_five ha; omega⟩
    obtain ⟨j, hj, ej⟩ : ∃ i : Nat, i < 5 ∧ b = ((i + 1 : Nat) : Int) := ⟨(b - 1).toNat, by have := mode_five hb; omega, by have := mode_five hb; omega⟩
    have hc := hT.at_ i j hi hj
    rw [← ei, ← ej] at hc
    have w1 : IntKind.i64.wrap (a - 1) = (i : Int) := by rw [IntWalk.i64_in _ (by omega)]; omega
    have w2 : IntKind.i64.wrap (b - 1) = (j : Int) := by rw [IntWalk.i64_in _ (by omega)]; omega
    have H1 : Hid (∀ m W, m = a ∨ m = b → Calls Tryz.prog 140 #[.int .i64 m] W (Same W (.bool true))) := Lib.hid (fun m W h => by rcases h with rfl | rfl; exact ha ▸ modeValid_any _ W; exact hb ▸ modeValid_any _ W)
    generalize comM a b = q at *
    clear ha hb H hT ei ej
    go_enter Tryz.func94, Tryz.ntmps94
    go_wp2_with fail
    repeat' (first
      | (go_at_call 140; refine (H1.out _ _ (by simp)).mono ?_; rintro e wa1 ⟨rfl, hwa1⟩; obtain rfl := hwa1.symm; clear hwa1; go_wp2_with fail)
      | (go_ret; exact ⟨ret_bool rfl, rfl⟩))
  · have HF : Hid (comM a b = false) := Lib.hid (by unfold comM; simp only [Bool.and_eq_false_imp]; intros; simp_all)
    have HN := Lib.hid hab
    clear hab hT
    go_enter Tryz.func94, Tryz.ntmps94
    go_wp2_with fail
    repeat' (first
      | (go_at_call 140; refine (H.out _ _).mono ?_; rintro e wa1 ⟨rfl, hwa1⟩; obtain rfl := hwa1.symm; clear hwa1; go_wp2_with fail)
      | (go_ret; first | exact ⟨ret_bool HF.out.symm, rfl⟩ | (exact absurd ⟨by assumption, by assumption⟩ HN.out))
      | (exact absurd ⟨by assumption, by assumption⟩ HN.out))
end Go.Proofs.YtogeihdfmnohnaaGreatDoor
namespace Go.Proofs.YtogeihdfmnohnaaGreatDoor
variable {H : Type} {enc : TypeId × Value → H}
theorem wrapShaped {a : Assume} {C : Checked} {os : Os} {f : FuncId} {fn : Func} {s : ChangeSpec} {conds : List PathCond} {apart fresh handsOn again : Bool} {X : World → Array Value → Prop}
    (hX : ∀ (w w' : World) (args : Array Value), w.heap = w'.heap → X w args → X w' args)
    (own : ownKnob C.prog.godebug = none) (started : os.Started) (noInit : C.prog.inits.idxOf? f = none) (hfn : C.prog.funcs[f]? = some fn)
    (witness : ∃ (w : World) (tape : Tape) (i : Input), w.os = os ∧ (w.forCall tape i).Shaped C.prog ∧ i.vars = [] ∧ Input.okWide C.prog (w.forCall tape i) .any w.heap.size f i ∧
      ((s.pre enc C.prog fn conds apart (w.forCall tape i).memory i.args ∧ X (w.forCall tape i).memory i.args) ∧ sizedMet enc C.prog fn (OpenSpec.ofChange s) apart (w.forCall tape i).memory i.args) ∧ a.holds C.prog (lone (Frame.enter C.prog f i.args .normal) [] (w.forCall tape i)))
    (contract : ∀ (W : World) (base : Nat) (args : Array Value) (ds gs : List (DataW H)) (before : List MemPlace),
      (∀ (j : Nat) t v, fn.params[j]? = some t → args[j]? = some v → Value.okWide C.prog W .any base t v) →
      DataW.Whole enc C.prog fn.params.toList s.vars apart W args.toList ds gs before →
      conds.all (PathCond.test C.prog ⟨fn.params.toList, ds, s.plain.varTypes C.prog, gs⟩) = true →
      (DataW.weightsEach C.prog (fn.params.toList ++ s.plain.varTypes C.prog) (ds ++ gs)).all (· ≤ reachBytes) = true → X W args →
      W.ShapedOpen C.prog →
      Calls C.prog f args W fun e W' => ∃ v, e = .returned v ∧ s.post enc C.prog fn apart fresh handsOn again W args v W') :
    ReturnsInHanded a C os f .any (fun w args => (s.pre enc C.prog fn conds apart w args ∧ X w args) ∧ sizedMet enc C.prog fn (OpenSpec.ofChange s) apart w args) (s.post enc C.prog fn apart fresh handsOn again) := by
  refine returnsInHanded_of_calls own started noInit witness ?_
  intro w tape i _ hsh _ hok hpre _
  obtain ⟨_, _, _, fn', hfn', _, _, _, _, hval⟩ := hok
  have e : fn' = fn := Option.some.inj (hfn'.symm.trans hfn)
  subst e
  obtain ⟨⟨⟨ds, gs, before, hw, hc⟩, hx⟩, hz⟩ := hpre
  have hw' := DataW.Whole.of_heap (w' := w.forCall tape i) (by rfl) hw
  refine (contract (w.forCall tape i) w.heap.size i.args ds gs before hval hw' hc (hz.weights hw) (hX _ _ _ (by rfl) hx) hsh).mono fun e W' ⟨v, he, hp⟩ => ?_
  subst he
  exact ChangeSpec.post_blind hp
end Go.Proofs.YtogeihdfmnohnaaGreatDoor
namespace Go.Proofs.YtogeihdfmnohnaaGreatDoor
open Go.RowKit Go.WideShapes Go.ChangeShapes Go.Deep
section
variable {H : Type} {enc : TypeId × Value → H} {P : Program}
theorem post_of_below {f : Func} {s : ChangeSpec} {apart fresh handsOn again : Bool} {W W' : World} {args : Array Value} {v : Value} {ds gs : List (DataW H)} {before pa pv : List MemPlace}
    (hW : DataW.Whole enc P f.params.toList s.vars apart W args.toList ds gs before)
    (hres : ∀ (b : Nat) (sp : Nat → Bool) (hd : Bool), DataW.TrodAll enc P W' b sp hd f.resultTypes.toList (v.resultList f.resultTypes.size) (s.fn H (ds ++ gs)).results [])
    (hargs : ∀ sp : Nat → Bool, (∀ p ∈ before, sp p.block = true) → DataW.TrodAll enc P W' 0 sp true f.params.toList args.toList (s.fn H (ds ++ gs)).args pa)
    (hvars : ∀ sp : Nat → Bool, (∀ p ∈ before, sp p.block = true) → DataW.TrodVars enc P W' sp s.vars (s.fn H (ds ++ gs)).vars pv)
    (hps : before = pa ++ pv) (hb : Below W.heap.size W W')
    (hok : ∀ (j : Nat) (t : TypeId) (r : Value), f.resultTypes[j]? = some t → (v.resultList f.resultTypes.size)[j]? = some r → Value.okWide P W' .any 0 t r) :
    s.post enc P f apart fresh handsOn again W args v W' := by
  have hlt : ∀ p ∈ before, p.block < W.heap.size := fun p hp => hW.lt p hp
  have hold : ∀ p ∈ before, (fun b => decide (b < W.heap.size)) p.block = true := fun p hp => by simpa using hlt p hp
  refine ⟨ds, gs, before, [], pa, pv, hW, hres _ _ _, hargs _ hold, hvars _ hold, World.keptBut_mono (fun p hp => ⟨hp, ?_⟩) (hb.frame (· ∈ before)), fun _ => ?_⟩
  · rw [hps, List.mem_append] at hp
    exact Or.inr hp
  · obtain ⟨_, _, _, _, _, hz, hn⟩ := hW
    refine ⟨hok, _, _, ([] ++ pa) ++ pv, ⟨[] ++ pa, pv, trodAll_append (hargs _ (fun _ _ => rfl)) (hres _ _ _), hvars _ (fun _ _ => rfl), rfl, ?_, ?_⟩, ?_⟩
    · intro b off hp
      have hin : MemPlace.cell b off ∈ before := by rw [hps]; simpa using hp
      rw [hb.frozen (hlt _ hin)]
      exact hz b off hin
    · intro ha
      have := hn ha
      rw [hps] at this
      simpa using this
    · intro p hp _
      rw [hps]
      simpa using hp
end
theorem Tryz.own : ownKnob Tryz.prog.godebug = none := by kernel_rfl
theorem Tryz.laidOut : laidOutB Tryz.prog = true := by kernel_rfl
end Go.Proofs.YtogeihdfmnohnaaGreatDoor
