/- Part 9 of 49 of the proof of waitgraphOf_holds (no condition). -/
import Derived.Test.YtogeihdfmnohnaaGreatDoorK03
import Derived.Test.YtogeihdfmnohnaaGreatDoorChecked
import Derived.Test.YtogeihdfmnohnaaGreatDoorK02
import Derived.Laws.OwnMore
import Derived.Laws.IdiomCopy
set_option linter.unusedVariables false
set_option linter.unusedSimpArgs false
namespace Go.Proofs.YtogeihdfmnohnaaGreatDoor
open Go.RowKit
section
variable {α : Type} {E : El α} {w w' : World} {l : List α} {base : Nat} {e : TypeId} {size : Nat} {xs : List Value} {g n cap : Nat}
theorem set_in {xs : List Value} {j : Nat} {v : Value} (r : List Value) (h : j + 1 + r.length ≤ xs.length) : (xs.set j v).take (j + 1) ++ r ++ (xs.set j v).drop (j + 1 + r.length) = xs.take j ++ v :: r ++ xs.drop (j + (v :: r).length) := by
  have h1 : (xs.set j v).take (j + 1) = xs.take j ++ [v] := by
    rw [List.set_eq_take_append_cons_drop, if_pos (by omega), List.take_append, List.length_take, Nat.min_eq_left (by omega), List.take_of_length_le (by rw [List.length_take]; omega), show j + 1 - j = 1 by omega]
    rfl
  have h2 : (xs.set j v).drop (j + 1 + r.length) = xs.drop (j + (v :: r).length) := by
    rw [List.drop_set_of_lt (by omega), List.length_cons]
    congr 1
    omega
  rw [h1, h2]
  simp
theorem ownsRow_in : ∀ (vs : List Value) (j : Nat) (w : World) (xs : List Value), w.ownsRow base e size (.slice (some ⟨g, 0, none⟩) n cap) n xs → j + vs.length ≤ xs.length →
    (w.setCells g j vs).ownsRow base e size (.slice (some ⟨g, 0, none⟩) n cap) n (xs.take j ++ vs ++ xs.drop (j + vs.length))
  | [], j, w, xs, h, _ => by simpa [World.setCells] using h
  | v :: r, j, w, xs, h, hl => by
    have hl' : j + 1 + r.length ≤ xs.length := by simp at hl; omega
    rw [World.setCells, ← set_in r hl']
    exact ownsRow_in r (j + 1) _ _ (h.stored j v).1 (by simpa using hl')
theorem ownsRow_off : ∀ (vs : List Value) (j : Nat) (w : World) (xs : List Value), w.ownsRow base e size (.slice (some ⟨g, 0, none⟩) n cap) n xs → xs.length ≤ j →
    (w.setCells g j vs).ownsRow base e size (.slice (some ⟨g, 0, none⟩) n cap) n xs
  | [], j, w, xs, h, _ => by simpa [World.setCells] using h
  | v :: r, j, w, xs, h, hl => by
    rw [World.setCells]
    have := (h.stored j v).1
    rw [List.set_eq_of_length_le hl] at this
    exact ownsRow_off r (j + 1) _ _ this (by omega)
theorem setCells_other : ∀ (vs : List Value) (j : Nat) (w : World) (b : Nat), b ≠ g → (w.setCells g j vs).heap[b]? = w.heap[b]?
  | [], _, _, _, _ => rfl
  | v :: r, j, w, b, h => by
    rw [World.setCells, setCells_other r (j + 1) _ b h]
    exact heap_setCell_other w ⟨g, j, none⟩ b v h
theorem setCells_size : ∀ (vs : List Value) (j : Nat) (w : World), (w.setCells g j vs).heap.size = w.heap.size
  | [], _, _ => rfl
  | v :: r, j, w => by
    rw [World.setCells, setCells_size r (j + 1)]
    simp [World.setCell]
theorem setCells_below {B : Nat} (hg : B ≤ g) : ∀ (vs : List Value) (j : Nat) (w' : World), Below B w w' → Below B w (w'.setCells g j vs)
  | [], _, _, h => h
  | v :: r, j, w', h => by
    rw [World.setCells]
    exact setCells_below hg r (j + 1) _ (h.setCell hg v)
theorem OwnRows.cut (h : OwnRows E e w base (.slice (some ⟨g, 0, none⟩) l.length cap) l) {k : Nat} (hk : k ≤ l.length) : OwnRows E e w base (.slice (some ⟨g, 0, none⟩) k cap) (l.take k) := by
  obtain ⟨h0, xs, ⟨h1, h2⟩, h3⟩ := h
  refine ⟨h0, xs.take (k * E.n), ?_, h3.take k⟩
  rw [List.length_take, Nat.min_eq_left hk]
  have hle : k * E.n ≤ l.length * E.n := Nat.mul_le_mul_right _ hk
  refine ⟨by rw [List.length_take, h1, Nat.min_eq_left hle], ?_⟩
  rcases h2 with ⟨hv, _⟩ | ⟨g', cap', cur, hv, hg, hh, hnc, hcm, hcs, ht⟩
  · cases hv
  · injection hv with e1 _ e3
    injection e1 with e1
    injection e1 with e1
    subst e1
    subst e3
    refine .inr ⟨_, _, cur, rfl, hg, hh, by omega, hcm, hcs, ?_⟩
    rw [← ht, List.take_take, Nat.min_eq_left hle]
theorem OwnRows.setRow (h : OwnRows E e w base (.slice (some ⟨g, 0, none⟩) l.length cap) l) {i : Nat} (hi : i < l.length) {y : α} {cs : List Value}
    (hy : E.rep (w.setCells g (i * E.n) cs) (Oth (w.setCells g (i * E.n) cs) (.slice (some ⟨g, 0, none⟩) l.length cap)) y cs) :
    OwnRows E e (w.setCells g (i * E.n) cs) base (.slice (some ⟨g, 0, none⟩) l.length cap) (l.set i y) := by
  have hl := E.len hy
  refine h.setAll hi hy (setCells_size _ _ _) (fun b hb => setCells_other _ _ _ _ fun e => hb.2 (by rw [e]; rfl)) fun xs hx => ?_
  have := ownsRow_in cs (i * E.n) w xs hx (by
    rw [hl, hx.1]
    have := Nat.mul_le_mul_right E.n (show i + 1 ≤ l.length from hi)
    rw [Nat.add_mul, Nat.one_mul] at this
    exact this)
  rwa [hl] at this
theorem OwnRows.off (h : OwnRows E e w base (.slice (some ⟨g, 0, none⟩) l.length cap) l) (vs : List Value) {j : Nat} (hj : l.length * E.n ≤ j) : OwnRows E e (w.setCells g j vs) base (.slice (some ⟨g, 0, none⟩) l.length cap) l := by
  obtain ⟨h0, xs, h1, h3⟩ := h
  refine ⟨by rw [setCells_size]; exact h0, xs, ownsRow_off vs j w xs h1 (by rw [h1.1]; exact hj), h3.same (fun b hb => setCells_other _ _ _ _ fun e => hb.2 (by rw [e]; rfl)) fun b hb => ⟨by rw [setCells_size]; exact hb.1, hb.2⟩⟩
theorem OwnRows.cellAt (h : OwnRows E e w base (.slice (some ⟨g, 0, none⟩) l.length cap) l) {j : Nat} (hj : j < cap * E.n) : (w.cell? ⟨g, j, none⟩).isSome = true ∧ w.frozen? ⟨g, j, none⟩ = false := by
  obtain ⟨h0, xs, ⟨h1, h2⟩, h3⟩ := h
  rcases h2 with ⟨hv, _⟩ | ⟨g', cap', cur, hv, hg, hh, hnc, hcm, hcs, ht⟩
  · cases hv
  · injection hv with e1 _ e3
    injection e1 with e1
    injection e1 with e1
    subst e1
    subst e3
    refine ⟨?_, frozen_of_row w _ j cur e hh⟩
    have : w.cell? ⟨g, j, none⟩ = cur[j]? := by simp [World.cell?, hh]
    rw [this, Array.getElem?_eq_getElem (by rw [hcs]; exact hj)]
    rfl
end
end Go.Proofs.YtogeihdfmnohnaaGreatDoor
namespace Go.Proofs.YtogeihdfmnohnaaGreatDoor
open Go.RowKit
section
variable {α : Type} {E : El α} {w w' : World} {l ys : List α} {base : Nat} {e : TypeId} {g cap : Nat}
theorem run_copyN {P : Program} (w : World) (t ty e : TypeId) (k : Nat) (b o dLen dCap : Nat) (a : Addr) (sLen sCap : Nat) (cs : List Value)
    (hu : P.underlying t = some (.slice e)) (hs : (P.info? e).map (·.size) = some k) (hn : cs.length = Nat.min sLen dLen * k)
    (hsrc : ∀ j v, cs[j]? = some v → w.cell? (a.add j) = some v) (hc : ∀ j, j < cs.length → (w.cell? ⟨b, o + j, none⟩).isSome = true) (hf : ∀ j, j < cs.length → w.frozen? ⟨b, o + j, none⟩ = false) (h1 : ∀ v ∈ cs, v.oneCell' = true) :
    (Builtin.copy_ #[t, t] ty #[.slice (some ⟨b, o, none⟩) dLen dCap, .slice (some a) sLen sCap]).run P w = .ok (goInt (Nat.min sLen dLen)) (w.setCells b o cs) := by
  have hl := run_loadCells_list (P := P) w a cs hsrc
  have hst := run_storeCells_cells (P := P) b o cs 0 w (by simpa using hc) (by simpa using hf) h1
  cases hq : P.info? e with
  | none => simp [hq] at hs
  | some i =>
    have hi : i.size = k := by simpa [hq] using hs
    simp [Builtin.copy_, run_underlying hu, Builtin.lenOf, Builtin.firstCells, sizeOf, typeInfo, hq, hi, ← hn, hl, hst]
theorem run_copyN_none {P : Program} (w : World) (t ty e : TypeId) (k : Nat) (d a : Option Addr) (dLen dCap sLen sCap : Nat) (hu : P.underlying t = some (.slice e)) (hs : (P.info? e).map (·.size) = some k) (hn : Nat.min sLen dLen = 0) :
    (Builtin.copy_ #[t, t] ty #[.slice d dLen dCap, .slice a sLen sCap]).run P w = .ok (goInt 0) w := by
  cases hq : P.info? e with
  | none => simp [hq] at hs
  | some i =>
    have hl : ∀ (x : Addr), (loadCells x 0).run P w = .ok #[] w := fun x => by simpa using run_loadCells_list (P := P) w x [] (by simp)
    cases d <;> cases a <;> simp [Builtin.copy_, run_underlying hu, Builtin.lenOf, Builtin.firstCells, sizeOf, typeInfo, hq, hn, storeCells, hl]
theorem Reps.mid {S : Nat → Prop} {l ys : List α} {xs cs : List Value} {j : Nat} (h : Reps E w S l xs) (hy : Reps E w S ys cs) : Reps E w S (l.take j ++ ys ++ l.drop (j + ys.length)) (xs.take (j * E.n) ++ cs ++ xs.drop (j * E.n + cs.length)) := by
  rw [hy.length, ← Nat.add_mul]
  exact ((h.take j).append hy).append (h.drop _)
theorem OwnRows.mid (h : OwnRows E e w base (.slice (some ⟨g, 0, none⟩) l.length cap) l) {j : Nat} (hj : j + ys.length ≤ l.length) {cs : List Value} (hy : Reps E w (Oth w (.slice (some ⟨g, 0, none⟩) l.length cap)) ys cs) :
    OwnRows E e (w.setCells g (j * E.n) cs) base (.slice (some ⟨g, 0, none⟩) l.length cap) (l.take j ++ ys ++ l.drop (j + ys.length)) := by
  obtain ⟨h0, xs, h1, h3⟩ := h
  have hl := hy.length
  have hle : j * E.n + cs.length ≤ xs.length := by rw [hl, h1.1, ← Nat.add_mul]; exact Nat.mul_le_mul_right _ hj
  have hln : (l.take j ++ ys ++ l.drop (j + ys.length)).length = l.length := by simp; omega
  refine ⟨by rw [setCells_size]; exact h0, _, by rw [hln]; exact ownsRow_in cs _ w xs h1 hle, ?_⟩
  exact (h3.mid hy).same (fun b hb => setCells_other _ _ _ _ fun e => hb.2 (by rw [e]; rfl)) fun b hb => ⟨by rw [setCells_size]; exact hb.1, hb.2⟩
theorem OwnRows.part (h : OwnRows E e w base (.slice (some ⟨g, 0, none⟩) l.length cap) l) (k n : Nat) : ∃ cs, Reps E w (Oth w (.slice (some ⟨g, 0, none⟩) l.length cap)) ((l.drop k).take n) cs ∧ ∀ i v, cs[i]? = some v → w.cell? ⟨g, k * E.n + i, none⟩ = some v := by
  obtain ⟨h0, xs, h1, h3⟩ := h
  refine ⟨_, (h3.drop k).take n, fun i v hv => ?_⟩
  rw [List.getElem?_take] at hv
  split at hv
  · rw [List.getElem?_drop] at hv
    have := h1.cells rfl _ _ hv
    rwa [addr_add, Nat.zero_add] at this
  · cases hv
theorem set_in_row {l ys r : List α} {k : Nat} {x : α} (hk : k < l.length) : (l.take (k + 1) ++ ys ++ r).set k x = l.take k ++ x :: (ys ++ r) := by
  rw [List.take_add_one, List.getElem?_eq_getElem hk]
  have hl : (l.take k).length = k := by rw [List.length_take]; omega
  simp only [Option.toList_some, List.append_assoc]
  rw [List.set_append_right _ _ (by omega), hl, Nat.sub_self]
  rfl
theorem copyRow {P : Program} {t : TypeId} {by_ : Nat} (T : ElTB P E t e by_) {ops : Array Oper} {rest : List Oper} {o : Oper} {a : Act} {Q : Exit → Act → World → Prop} (hgd : o.guard = none) (d s : Operand)
    (ho : o.op = .call { callee := .builtin .copy, args := #[d, s], argTypes := #[t, t] })
    (w : World) (base g cap : Nat) (l ys : List α) (j dLen dCap sLen sCap : Nat) (dp sp : Option Addr) (hd : a.eval d = .slice dp dLen dCap) (hs : a.eval s = .slice sp sLen sCap)
    (hown : OwnRows E e w base (.slice (some ⟨g, 0, none⟩) l.length cap) l) (hg : base ≤ g) (hn : ys.length = Nat.min sLen dLen) (hj : j + ys.length ≤ l.length) (hcap : l.length ≤ cap) (cs : List Value) (hy : Reps E w (Oth w (.slice (some ⟨g, 0, none⟩) l.length cap)) ys cs)
    (hpos : 0 < ys.length → dp = some ⟨g, j * E.n, none⟩ ∧ ∃ b off, sp = some ⟨b, off, none⟩ ∧ ∀ i v, cs[i]? = some v → w.cell? ⟨b, off + i, none⟩ = some v)
    (h : ∀ w', OwnRows E e w' base (.slice (some ⟨g, 0, none⟩) l.length cap) (l.take j ++ ys ++ l.drop (j + ys.length)) → Below base w w' → wpList P ops Q rest (a.put o.dst (goInt ys.length)) w') :
    wpList P ops Q (o :: rest) a w := by
  refine wpList_plain hgd fun K hK => ?_
  obtain ⟨i0, z, hi, hz0, hz1, hz2, hz3⟩ := T.info
  have hsz : (P.info? e).map (·.size) = some E.n := by rw [hi]; exact congrArg some hz1
  by_cases h0 : ys.length = 0
  · obtain rfl : ys = [] := List.eq_nil_of_length_eq_zero h0
    have hrun := run_copyN_none (P := P) w t o.type e E.n dp sp dLen dCap sLen sCap T.under hsz (by simpa using hn.symm)
    unfold Oper.wp
    simp [execOp, ho, resolve, invoke, builtin, hd, hs, hrun, Result.andThen]
    have := h w (by simpa using hown) (Below.refl _ _)
    exact hK _ _ (by simpa using this)
  · obtain ⟨rfl, b, off, rfl, hsrc⟩ := hpos (by omega)
    have hl := hy.length
    have hadd : ∀ i, (⟨b, off, none⟩ : Addr).add i = ⟨b, off + i, none⟩ := fun i => addr_add b off i
    have hlt : ∀ i, i < cs.length → j * E.n + i < cap * E.n := fun i hi => by
      have h2 : (j + ys.length) * E.n ≤ cap * E.n := Nat.mul_le_mul_right _ (by omega)
      rw [Nat.add_mul] at h2
      omega
    have hrun := run_copyN (P := P) w t o.type e E.n g (j * E.n) dLen dCap ⟨b, off, none⟩ sLen sCap cs T.under hsz (by rw [hl, hn]) (fun i v hv => by rw [hadd]; exact hsrc i v hv)
      (fun i hi => (hown.cellAt (hlt i hi)).1) (fun i hi => (hown.cellAt (hlt i hi)).2) hy.one
    rw [← hn] at hrun
    unfold Oper.wp
    simp [execOp, ho, resolve, invoke, builtin, hd, hs, hrun, Result.andThen]
    exact hK _ _ (h _ (hown.mid hj hy) (setCells_below hg _ _ _ (Below.refl _ _)))
end
end Go.Proofs.YtogeihdfmnohnaaGreatDoor
namespace Go.Proofs.YtogeihdfmnohnaaGreatDoor
open Go.RowKit
def cutA (A : Option Addr) (cap k size : Nat) : Option Addr := if cap = k then A else A.map (·.add (k * size))
theorem RowsAt.cut {α : Type} {E : El α} {w : World} {S : Nat → Prop} {A : Option Addr} {l : List α} {k cap : Nat} (h : RowsAt E w S A l) (hk : k ≤ l.length) (hc : l.length ≤ cap) : RowsAt E w S (cutA A cap k E.n) (l.drop k) := by
  unfold cutA
  rcases Nat.eq_or_lt_of_le hk with e | e
  · rw [e, List.drop_length]
    exact RowsAt.nil _ _ _ _
  · rw [if_neg (by omega)]
    obtain ⟨b, off, _, hA, _⟩ := h.get e
    subst hA
    simp only [Option.map_some, addr_add]
    exact h.drop k
theorem run_head {P : Program} {t e : TypeId} {i : TypeInfo} (ht : P.underlying t = some (.slice e)) (hi : P.info? e = some i) (A : Option Addr) (n cap k : Nat) (hk : k ≤ cap) (w : World) :
    (Instr.slice t (.slice A n cap) none (some (.int .i64 (k : Int))) none).run P w = .ok (.slice A k cap) w := by
  have he : P.elem t = e := by simp [Program.elem, ht]
  have hh : ((k : Int)).toNat = k := by omega
  rw [run_slice_h w t A n cap (by rw [he]; exact ht) .i64 k (by omega) (by omega), he, hh]
  have h0 : ∀ a : Addr, a.add 0 = a := fun a => by unfold Addr.add; simp
  cases A <;> simp [sizeOf, typeInfo, hi, sliced, Result.andThen, h0]
theorem run_tail {P : Program} {t e : TypeId} {i : TypeInfo} (ht : P.underlying t = some (.slice e)) (hi : P.info? e = some i) (A : Option Addr) (n cap k : Nat) (hk : k ≤ n) (w : World) :
    (Instr.slice t (.slice A n cap) (some (.int .i64 (k : Int))) none none).run P w = .ok (.slice (cutA A cap k i.size) (n - k) (cap - k)) w := by
  have he : P.elem t = e := by simp [Program.elem, ht]
  have hh : ((k : Int)).toNat = k := by omega
  rw [run_slice_l w t A n cap (by rw [he]; exact ht) .i64 k (by omega) (by omega), he, hh]
  simp [sizeOf, typeInfo, hi, sliced, Result.andThen, cutA]
theorem cuts {t e : TypeId} {z : Value} {sz by_ : Nat} (ht : Tryz.prog.underlying t = some (.slice e)) (hi : (Tryz.prog.info? e).map (fun i => (i.zero, i.size, i.bytes)) = some (some z, sz, by_)) (A : Option Addr) (n cap k : Nat) (hk : k ≤ n) (hc : n ≤ cap) :
    (∀ w, (Instr.sliceAt t (.slice A n cap) none (some (.int .i64 (k : Int))) none).run Tryz.prog w = .ok (.slice A k cap) w) ∧
    ∀ w, (Instr.sliceAt t (.slice A n cap) (some (.int .i64 (k : Int))) none none).run Tryz.prog w = .ok (.slice (cutA A cap k sz) (n - k) (cap - k)) w := by
  obtain ⟨i0, hi0, hz0, hz1, hz2⟩ := info_parts hi
  have he : Tryz.prog.elem t = e := by simp [Program.elem, ht]
  constructor
  · intro w
    rw [run_sliceAt_slice w t _ _ _ _ (by rw [he]; exact ht)]
    exact run_head ht hi0 A n cap k (by omega) w
  · intro w
    rw [run_sliceAt_slice w t _ _ _ _ (by rw [he]; exact ht), run_tail ht hi0 A n cap k hk w, hz1]
end Go.Proofs.YtogeihdfmnohnaaGreatDoor
