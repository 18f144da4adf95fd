/- Part 17 of 49 of the proof of waitgraphOf_holds (no condition). -/
import Derived.Test.YtogeihdfmnohnaaGreatDoorK09
import Derived.Test.YtogeihdfmnohnaaGreatDoorProg
import Derived.Test.YtogeihdfmnohnaaGreatDoorK03
import Derived.Test.YtogeihdfmnohnaaGreatDoorK05
import Derived.Test.YtogeihdfmnohnaaGreatDoorK16
import Derived.Deep.RegionHeld3
import Derived.Shelf.SlSortCmp.NoneTotal
import Derived.Ground.SlsfProg
import Derived.Shelf.SlGeneric
import Derived.Shelf.SlLaysF0
import Derived.Shelf.RegionOpenPlain
import Derived.Deep.LoopGhost
import Derived.Lib.SliceRun
set_option linter.unusedVariables false
set_option linter.unusedSimpArgs false
namespace Go.Proofs.YtogeihdfmnohnaaGreatDoor
open Go.RowKit
variable {α : Type} {E : El α} {e : TypeId}
theorem stepPushRB {P : Program} {t : TypeId} {by_ : Nat} (T : ElTB P E t e by_) {ops : Array Oper} {o : Oper} {a : Act} {w : World} {K : Act → World → Prop} {Q : Exit → Act → World → Prop} {E' : Prop} (hgd : o.guard = none) (s x : Operand)
    (ho : o.op = .call { callee := .builtin .append, args := #[s, x], argTypes := #[t, t] })
    (base : Nat) (v : Value) (l ns : List α) (n : Nat) (hn : ns.length = n) (A : Option Addr) (c : Nat) (hs : a.eval s = v) (hown : OwnRows E e w base v l) (hx : a.eval x = .slice A n c) (hr : RowsAt E w (Oth w v) A ns) (hl : l.length + n ≤ maxLen) (hlb : (l.length + n) * by_ ≤ 140737488355328)
    (h : ∀ v' w', OwnRows E e w' base v' (l ++ ns) → Below base w w' → Spares w w' v v' → K (a.put o.dst v') w') :
    if Region.wanted o (yielded ops a.tmps) = true then Oper.wp P o a w K Q else E' := by
  have hw : Region.wanted o (yielded ops a.tmps) = true := by simp [Region.wanted, hgd]
  rw [if_pos hw]
  subst hn
  obtain ⟨xs, hx1, hx2⟩ := hr
  obtain ⟨v', w', hrun, h1, h2, h3⟩ := run_pushR T w o.type base v l ns A c hown xs hx1 (fun h0 => by
    obtain ⟨b, off, hA, _, hc⟩ := hx2 h0
    exact ⟨b, off, hA, hc⟩) hl hlb
  unfold Oper.wp execOp
  simp only [ho, resolve, invoke, builtin, Sem.run_bind, Sem.run_pure, Result.andThen_ok, List.map_toArray, List.map_cons, List.map_nil, hs, hx, hrun]
  exact h v' w' h1 h2 h3
theorem stepCall {P : Program} {ops : Array Oper} {o : Oper} {a : Act} {w : World} {K : Act → World → Prop} {Q : Exit → Act → World → Prop} {E' : Prop} (hgd : o.guard = none) (f : FuncId) (args : Array Operand) (tys : Array TypeId)
    (ho : o.op = .call { callee := .value (.func f), args := args, argTypes := tys }) (vals : Array Value) (hv : args.toList.map a.eval = vals.toList) (hcall : ∀ b W, Sem.run P (callFunc f b) W = .ok (.enter f b) W) {R : Ending → World → Prop} (hc : Calls P f vals w R)
    (h : ∀ e w', R e w' → ∃ v, e = .returned v ∧ K (a.put o.dst v) w') : if Region.wanted o (yielded ops a.tmps) = true then Oper.wp P o a w K Q else E' := by
  have hw : Region.wanted o (yielded ops a.tmps) = true := by simp [Region.wanted, hgd]
  rw [if_pos hw]
  obtain rfl : args.map a.eval = vals := by apply Array.toList_inj.1; rw [Array.toList_map]; exact hv
  unfold Oper.wp execOp
  simp only [ho, resolve, Act.eval, Deferred.ofValue, invoke, Sem.run_bind, Sem.run_pure, Result.andThen_ok, Array.append_empty]
  have h2 := hcall (args.map a.eval) w
  have h3 : (Calls P f (args.map a.eval) w fun
      | .returned v, w'' => K (a.put o.dst v) w''
      | .panicked chain, w'' => Q (.panic chain) a w''
      | .outgrown, _ => LetsOut Q) := hc.mono fun e w' hr => by
    obtain ⟨v, rfl, hk⟩ := h e w' hr
    exact hk
  rw [Array.empty_append, h2]
  exact h3
section
variable {n : Nat} {pos : 0 < n} {f : α → List Value} {len : ∀ x, (f x).length = n} {one : ∀ x, ∀ u ∈ f x, u.oneCell' = true}
theorem reps_plain {w : World} {S S' : Nat → Prop} : ∀ {l : List α} {xs : List Value}, Reps (El.plain n pos f len one) w S l xs → Reps (El.plain n pos f len one) w S' l xs
  | [], _, h => h
  | _ :: _, _, h => by
    obtain ⟨cs, rest, rfl, h1, h2⟩ := h
    exact ⟨cs, rest, rfl, h1, reps_plain h2⟩
theorem OwnRows.oth_of {w : World} {base : Nat} {v v0 : Value} {l : List α} (h : OwnRows (El.plain n pos f len one) e w base v l) (h0 : ∀ k, v0.ownBlock = some k → k < base) :
    ∃ A cap, v = .slice A l.length cap ∧ RowsAt (El.plain n pos f len one) w (Oth w v0) A l ∧ l.length ≤ cap := by
  rcases Nat.eq_zero_or_pos l.length with hl | hl
  · obtain ⟨A, cap, hv, _, hc, _⟩ := h.form
    obtain rfl : l = [] := List.eq_nil_of_length_eq_zero hl
    exact ⟨A, cap, hv, RowsAt.nil _ _ _ _, hc⟩
  · obtain ⟨g, cap, hv, hg, hg2, hc, _, _, hr⟩ := h.addr hl
    obtain ⟨xs, h1, h2⟩ := hr
    refine ⟨_, cap, hv, ⟨xs, reps_plain h1, fun hp => ?_⟩, hc⟩
    obtain ⟨b, off, hA, _, hcells⟩ := h2 hp
    injection hA with hA
    injection hA with e1 e2
    subst e1
    subst e2
    exact ⟨_, _, rfl, ⟨hg2, fun e => by have := h0 _ e; omega⟩, hcells⟩
end
end Go.Proofs.YtogeihdfmnohnaaGreatDoor
namespace Go.Proofs.YtogeihdfmnohnaaGreatDoor
open Go.RowKit Go.Sort Go.Lib
section
variable {α : Type}
theorem flat_get (f : α → List Value) (k : Nat) (hk : ∀ x, (f x).length = k) (h0 : 0 < k) : ∀ (l : List α) (t : Nat), ((l.map f).flatten)[t]? = (l[t / k]?).bind fun x => (f x)[t % k]?
  | [], t => by simp
  | x :: l, t => by
    rw [List.map_cons, List.flatten_cons]
    rcases Nat.lt_or_ge t k with h | h
    · rw [List.getElem?_append_left (by rw [hk]; exact h), Nat.div_eq_of_lt h, Nat.mod_eq_of_lt h]
      rfl
    · rw [List.getElem?_append_right (by rw [hk]; exact h), hk, flat_get f k hk h0 l (t - k)]
      obtain ⟨u, rfl⟩ : ∃ u, t = u + k := ⟨t - k, by omega⟩
      rw [Nat.add_sub_cancel, Nat.add_div_right _ h0, Nat.add_mod_right]
      rfl
theorem flatK_toList [Inhabited α] (f : α → List Value) (k : Nat) (hk : ∀ x, (f x).length = k) (h0 : 0 < k) (l : List α) : (flatK f k l.toArray).toList = (l.map f).flatten := by
  apply List.ext_getElem?
  intro t
  rw [flat_get f k hk h0]
  rcases Nat.lt_or_ge t (l.length * k) with h | h
  · have hd : t / k < l.length := (Nat.div_lt_iff_lt_mul h0).2 h
    have hm : t % k < k := Nat.mod_lt _ h0
    rw [Array.getElem?_toList, Array.getElem?_eq_getElem (by simpa using h), ← getElem!_pos _ t (by simpa using h), get_flatK _ _ _ _ (by simpa using h), getElem!_pos _ (t / k) (by simpa using hd), List.getElem?_eq_getElem hd, Option.bind_some, getElem!_pos _ (t % k) (by rw [hk]; exact hm), List.getElem?_eq_getElem (by rw [hk]; exact hm)]
    rfl
  · have hd : l.length ≤ t / k := by
      rw [Nat.le_div_iff_mul_le h0]
      exact h
    rw [List.getElem?_eq_none hd, Array.getElem?_toList, Array.getElem?_eq_none (by simpa using h)]
    rfl
variable {n : Nat} {pos : 0 < n} {f : α → List Value} {len : ∀ x, (f x).length = n} {one : ∀ x, ∀ u ∈ f x, u.oneCell' = true} {w : World} {S : Nat → Prop} {base : Nat} {e : TypeId} {g cap : Nat} {l : List α}
theorem Reps.plain : ∀ {l : List α} {xs : List Value}, Reps (El.plain n pos f len one) w S l xs → xs = (l.map f).flatten
  | [], xs, h => h
  | x :: l, xs, h => by
    obtain ⟨cs, rest, rfl, h1, h2⟩ := h
    rw [Reps.plain h2, show cs = f x from h1]
    rfl
theorem Reps.plain_mk : ∀ (l : List α), Reps (El.plain n pos f len one) w S l (l.map f).flatten
  | [] => rfl
  | x :: l => ⟨f x, (l.map f).flatten, rfl, rfl, Reps.plain_mk l⟩
theorem OwnRows.holdsK [Inhabited α] (h : OwnRows (El.plain n pos f len one) e w base (.slice (some ⟨g, 0, none⟩) l.length cap) l) : HoldsK f n w g 0 l.toArray := by
  intro t ht
  rw [size_flatK] at ht
  have ht' : t < l.length * n := ht
  have hcapn : l.length ≤ cap := by
    obtain ⟨A, cap', hA, _, hc, _⟩ := h.form
    injection hA with _ _ e3
    omega
  have hcell := h.cellAt (j := t) (Nat.lt_of_lt_of_le ht' (Nat.mul_le_mul_right _ hcapn))
  rw [Nat.zero_add]
  refine ⟨?_, hcell.2⟩
  obtain ⟨h0, xs, ⟨h1, h2⟩, h3⟩ := h
  rcases h2 with ⟨hv, _⟩ | ⟨g', cap', cur, hv, hg, hh, hnc, hcm, hcs, htk⟩
  · cases hv
  · injection hv with e1 _ e3
    injection e1 with e1
    injection e1 with e1
    subst e1
    subst e3
    have hx := Reps.plain h3
    have hlt : t < cur.size := by rw [hcs]; exact Nat.lt_of_lt_of_le ht' (Nat.mul_le_mul_right _ hcapn)
    have hc : w.cell? ⟨g, t, none⟩ = cur[t]? := by simp [World.cell?, hh]
    have hxt : cur[t]? = xs[t]? := by
      rw [← htk, List.getElem?_take, if_pos (show t < l.length * (El.plain n pos f len one).n from ht'), Array.getElem?_toList]
    rw [hc, hxt, hx, ← flatK_toList f n len pos l, Array.getElem?_toList, Array.getElem?_eq_getElem (by simpa using ht'), ← getElem!_pos _ t (by simpa using ht')]
    rfl
theorem OwnRows.sorted [Inhabited α] (h : OwnRows (El.plain n pos f len one) e w base (.slice (some ⟨g, 0, none⟩) l.length cap) l) (hg : g < w.heap.size) {l' : List α} (hl : l'.length = l.length) (m : Nat) (os : Array Obj) :
    OwnRows (El.plain n pos f len one) e (sortWorldK f n w g 0 m l'.toArray os) base (.slice (some ⟨g, 0, none⟩) l.length cap) l' := by
  obtain ⟨h0, xs, ⟨h1, h2⟩, h3⟩ := h
  have hsz : w.heap.size ≤ (sortWorldK f n w g 0 m l'.toArray os).heap.size := by
    simp [sortWorldK, grow, putRowK, putRow, mapBlock]
  refine ⟨Nat.le_trans h0 hsz, (l'.map f).flatten, ?_, Reps.plain_mk l'⟩
  rw [hl]
  have hfl : ((l'.map f).flatten).length = l.length * n := by
    rw [← flatK_toList f n len pos l', Array.length_toList, size_flatK]
    simp [hl]
  refine ⟨hfl, ?_⟩
  rcases h2 with ⟨hv, _⟩ | ⟨g', cap', cur, hv, hgb, hh, hnc, hcm, hcs, htk⟩
  · cases hv
  · injection hv with e1 _ e3
    injection e1 with e1
    injection e1 with e1
    subst e1
    subst e3
    have hF : (flatK f n l'.toArray).size = l.length * n := by simp [hl]
    have hle : l.length * n ≤ cap * n := Nat.mul_le_mul_right _ hnc
    refine .inr ⟨g, cap, putCells id 0 (flatK f n l'.toArray) cur, rfl, hgb, ?_, hnc, hcm, by simp [putCells, hcs], ?_⟩
    · show (w.heap.modify g (onCells (putCells id 0 (flatK f n l'.toArray))) ++ os)[g]? = _
      rw [Array.getElem?_append_left (by simpa using hg), Array.getElem?_modify, if_pos rfl, hh]
      rfl
    · rw [← flatK_toList f n len pos l']
      apply List.ext_getElem?
      intro t
      rw [List.getElem?_take]
      show (if t < l.length * n then _ else _) = _
      split
      · next ht =>
        rw [Array.getElem?_toList, Array.getElem?_toList]
        unfold putCells
        rw [Array.getElem?_mapIdx, Array.getElem?_eq_getElem (by rw [hcs]; exact Nat.lt_of_lt_of_le ht hle), Option.map_some, if_pos ⟨Nat.zero_le _, by rw [hF]; omega⟩, Array.getElem?_eq_getElem (by rw [hF]; exact ht), Nat.sub_zero, ← getElem!_pos _ t (by rw [hF]; exact ht)]
        rfl
      · next ht =>
        rw [Array.getElem?_toList, Array.getElem?_eq_none (by rw [hF]; omega)]
theorem below_sorted [Inhabited α] {w0 : World} {B : Nat} (hb : Go.RowKit.Below B w0 w) (hg : B ≤ g) (hg2 : g < w.heap.size) (m : Nat) (d : Array α) (os : Array Obj) : Go.RowKit.Below B w0 (sortWorldK f n w g 0 m d os) := by
  refine hb.trans ⟨rfl, rfl, rfl, by simp [sortWorldK, grow, putRowK, putRow, mapBlock], fun k hk => ?_⟩
  show (w.heap.modify g (onCells (putCells id 0 (flatK f n d))) ++ os)[k]? = _
  rw [Array.getElem?_append_left (by simp; omega), Array.getElem?_modify, if_neg (by omega)]
end
end Go.Proofs.YtogeihdfmnohnaaGreatDoor
namespace Go.Proofs
open Go.Shelf
def Tryz.sortProcs_ren : Go.Shelf.Ren := ⟨fun | 6 => 81 | 15 => 89 | 14 => 118 | 28 => 134 | 29 => 135 | 20 => 153 | 21 => 154 | 22 => 155 | 23 => 156 | 24 => 157 | 25 => 158 | 26 => 159 | 27 => 160 | 46 => 181 | 47 => 163 | 48 => 164 | 49 => 182 | 50 => 183 | 57 => 193 | n => n, fun | 22 => 28 | 24 => 51 | 25 => 84 | 3 => 3 | 39 => 123 | 0 => 0 | 53 => 166 | 55 => 168 | 4 => 4 | 46 => 159 | 45 => 158 | 50 => 163 | 5 => 5 | 9 => 9 | 66 => 181 | 70 => 143 | 76 => 194 | 77 => 189 | n => n, fun | n => n⟩
theorem Tryz.sortProcs : Go.Proofs.SlLaysF0.n6 Tryz.prog Tryz.sortProcs_ren := {
  mixed := by kernel_rfl
  f6 := ⟨Tryz.f81.name, by decide, Tryz.func81.trans (congrArg some (by kernel_rfl))⟩
  f14 := ⟨Tryz.f118.name, by decide, Tryz.func118.trans (congrArg some (by kernel_rfl))⟩
  f15 := Tryz.func89.trans (congrArg some (by kernel_rfl))
  f20 := ⟨Tryz.f153.name, by decide, Tryz.func153.trans (congrArg some (by kernel_rfl))⟩
  f21 := ⟨Tryz.f154.name, by decide, Tryz.func154.trans (congrArg some (by kernel_rfl))⟩
  f22 := ⟨Tryz.f155.name, by decide, Tryz.func155.trans (congrArg some (by kernel_rfl))⟩
  f23 := ⟨Tryz.f156.name, by decide, Tryz.func156.trans (congrArg some (by kernel_rfl))⟩
  f24 := ⟨Tryz.f157.name, by decide, Tryz.func157.trans (congrArg some (by kernel_rfl))⟩
  f25 := ⟨Tryz.f158.name, by decide, Tryz.func158.trans (congrArg some (by kernel_rfl))⟩
  f26 := ⟨Tryz.f159.name, by decide, Tryz.func159.trans (congrArg some (by kernel_rfl))⟩
  f27 := ⟨Tryz.f160.name, by decide, Tryz.func160.trans (congrArg some (by kernel_rfl))⟩
  f28 := Tryz.func134.trans (congrArg some (by kernel_rfl))
  f29 := Tryz.func135.trans (congrArg some (by kernel_rfl))
  f46 := ⟨Tryz.f181.name, by decide, Tryz.func181.trans (congrArg some (by kernel_rfl))⟩
  f47 := Tryz.func163.trans (congrArg some (by kernel_rfl))
  f48 := Tryz.func164.trans (congrArg some (by kernel_rfl))
  f49 := ⟨Tryz.f182.name, by decide, Tryz.func182.trans (congrArg some (by kernel_rfl))⟩
  f50 := ⟨Tryz.f183.name, by decide, Tryz.func183.trans (congrArg some (by kernel_rfl))⟩
  f57 := ⟨Tryz.f193.name, by decide, Tryz.func193.trans (congrArg some (by kernel_rfl))⟩
  t0 := Tryz.underlying0
  a0 := Tryz.isAgg0
  z0 := Tryz.sizeOf0
  v0 := Tryz.zeroValue0
  t3 := Tryz.underlying3
  a3 := Tryz.isAgg3
  z3 := Tryz.sizeOf3
  v3 := Tryz.zeroValue3
  t4 := Tryz.underlying4
  a4 := Tryz.isAgg4
  z4 := Tryz.sizeOf4
  v4 := Tryz.zeroValue4
  t5 := Tryz.underlying5
  a5 := Tryz.isAgg5
  z5 := Tryz.sizeOf5
  v5 := Tryz.zeroValue5
  t9 := Tryz.underlying9
  a9 := Tryz.isAgg9
  z9 := Tryz.sizeOf9
  v9 := Tryz.zeroValue9
  t22 := Tryz.underlying28
  a22 := Tryz.isAgg28
  z22 := Tryz.sizeOf28
  v22 := Tryz.zeroValue28
  t25 := Tryz.underlying84
  a25 := Tryz.isAgg84
  z25 := Tryz.sizeOf84
  v25 := Tryz.zeroValue84
  t39 := Tryz.underlying123
  a39 := Tryz.isAgg123
  z39 := Tryz.sizeOf123
  v39 := Tryz.zeroValue123
  t45 := Tryz.underlying158
  a45 := Tryz.isAgg158
  z45 := Tryz.sizeOf158
  v45 := Tryz.zeroValue158
  t46 := Tryz.underlying159
  a46 := Tryz.isAgg159
  z46 := Tryz.sizeOf159
  v46 := Tryz.zeroValue159
  t50 := Tryz.underlying163
  a50 := Tryz.isAgg163
  z50 := Tryz.sizeOf163
  v50 := Tryz.zeroValue163
  t53 := Tryz.underlying166
  a53 := Tryz.isAgg166
  z53 := Tryz.sizeOf166
  v53 := Tryz.zeroValue166
  t55 := Tryz.underlying168
  a55 := Tryz.isAgg168
  z55 := Tryz.sizeOf168
  v55 := Tryz.zeroValue168
  t66 := Tryz.underlying181
  a66 := Tryz.isAgg181
  z66 := Tryz.sizeOf181
  v66 := Tryz.zeroValue181
  t70 := Tryz.underlying143
  a70 := Tryz.isAgg143
  z70 := Tryz.sizeOf143
  v70 := Tryz.zeroValue143
  t76 := Tryz.underlying194
  a76 := Tryz.isAgg194
  z76 := Tryz.sizeOf194
  v76 := Tryz.zeroValue194
  t77 := Tryz.underlying189
  a77 := Tryz.isAgg189
  z77 := Tryz.sizeOf189
  v77 := Tryz.zeroValue189 }
end Go.Proofs
namespace Go.Proofs.YtogeihdfmnohnaaGreatDoor
open Go.RowKit Go.Shelf
set_option maxRecDepth 100000 in
set_option maxHeartbeats 1600000 in
theorem compare_gr (a b c x y z : Int) (w : World) : Calls Tryz.prog 77 #[.agg #[.int .i64 a, .int .i64 b, .int .i64 c], .agg #[.int .i64 x, .int .i64 y, .int .i64 z]] w fun e w' => e = .returned (.int .i64 (cmpP ⟨a, b, c⟩ ⟨x, y, z⟩)) ∧ ∃ os, w' = Go.Sort.grow w os := by
  have i0 : ∀ w : World, (Instr.index 113 (.agg #[.int .i64 a, .int .i64 b, .int .i64 c]) (.int .i64 0)).run Tryz.prog w = .ok (.int .i64 a) w := fun _ => by kernel_rfl
  have i1 : ∀ w : World, (Instr.index 113 (.agg #[.int .i64 a, .int .i64 b, .int .i64 c]) (.int .i64 1)).run Tryz.prog w = .ok (.int .i64 b) w := fun _ => by kernel_rfl
  have i2 : ∀ w : World, (Instr.index 113 (.agg #[.int .i64 a, .int .i64 b, .int .i64 c]) (.int .i64 2)).run Tryz.prog w = .ok (.int .i64 c) w := fun _ => by kernel_rfl
  obtain ⟨r, hr⟩ : ∃ r, cmpP ⟨a, b, c⟩ ⟨x, y, z⟩ = r := ⟨_, rfl⟩
  rw [hr]
  have HR := Lib.hid hr
  clear hr
  go_enter Tryz.func77, Tryz.ntmps77
  go_wp2
  go_rounds 4
  all_goals go_ret
  all_goals refine ⟨ret_int ?_, _, by rw [Go.Sort.alloc_eq_grow, Go.Sort.alloc_eq_grow, Go.Sort.grow_grow]⟩
  all_goals rw [← HR.out]
  all_goals rcases cmpP_cases ⟨a, b, c⟩ ⟨x, y, z⟩ with ⟨h, e⟩ | ⟨h, e⟩ | ⟨h, e⟩ <;> rw [e] <;> first | rfl | (exfalso; unfold LtP at h; simp only at h; omega) | (exfalso; simp only [Pr.mk.injEq] at h; omega)
set_option maxRecDepth 100000 in
set_option maxHeartbeats 1600000 in
theorem CProc_gr (p q : Pr) (w : World) : Calls Tryz.prog 41 #[p.val, q.val] w fun e w' => e = .returned (.int .i64 (cmpP p q)) ∧ ∃ os, w' = Go.Sort.grow w os := by
  obtain ⟨a, b, c⟩ := p
  obtain ⟨x, y, z⟩ := q
  have HC := Lib.hid (fun w => compare_gr a b c x y z w)
  obtain ⟨r, hr⟩ : ∃ r, cmpP ⟨a, b, c⟩ ⟨x, y, z⟩ = r := ⟨_, rfl⟩
  rw [hr] at HC ⊢
  clear hr
  unfold Pr.val
  go_enter Tryz.func41, Tryz.ntmps41
  go_wp2_with fail
  refine (HC.out _).mono ?_
  rintro e w1 ⟨rfl, os, rfl⟩
  go_wp2
  go_ret
  exact ⟨rfl, _, by rw [Go.Sort.alloc_eq_grow, Go.Sort.alloc_eq_grow, Go.Sort.grow_grow, Go.Sort.grow_grow]⟩
theorem ltP_true {x y : Pr} : ltOf cmpP x y = true ↔ LtP x y := by
  unfold ltOf
  rw [decide_eq_true_iff, cmpP_lt]
theorem ltP_false {x y : Pr} : ltOf cmpP x y = false ↔ ¬ LtP x y := by
  unfold ltOf
  rw [decide_eq_false_iff_not, cmpP_lt]
theorem cmpP_swo : Go.Sort.SWO (ltOf cmpP) where
  irrefl x := ltP_false.2 (LtP_irrefl x)
  trans x y z h1 h2 := ltP_true.2 (LtP_trans (ltP_true.1 h1) (ltP_true.1 h2))
  ntrans x y z h1 h2 := by
    rw [ltP_false] at *
    intro h3
    rcases LtP_tri x y with h | h | h
    · exact h1 h
    · subst h; exact h2 h3
    · exact h2 (LtP_trans h h3)
theorem cmpP_total (x y : Pr) (h1 : ltOf cmpP x y = false) (h2 : ltOf cmpP y x = false) : x = y := by
  unfold ltOf at h1 h2
  rw [decide_eq_false_iff_not, cmpP_lt] at h1 h2
  rcases LtP_tri x y with h | h | h
  · exact absurd h h1
  · exact h
  · exact absurd h h2
theorem SortFunc_own {w0 : World} {base : Nat} {v : Value} {l : List Pr} (w : World) (hown : OwnRows prE 51 w base v l) (hb : Below base w0 w) (hsz : l.length < 4611686018427387904) :
    Calls Tryz.prog 81 #[v, .func (.func 41) #[] #[]] w fun e w' => e = .returned (.tuple #[]) ∧ OwnRows prE 51 w' base v (l.mergeSort fun x y => !decide (cmpP y x < 0)) ∧ Below base w0 w' := by
  rcases Nat.eq_zero_or_pos l.length with h0 | h0
  · obtain ⟨A, cap, rfl, _, _, _, _⟩ := hown.form2
    obtain rfl := List.eq_nil_of_length_eq_zero h0
    refine (AnyF.slices_SortFunc_none { Tryz.sortProcs with } A cap _ w).mono ?_
    rintro e w' ⟨rfl, rfl⟩
    exact ⟨rfl, by simpa using hown, hb⟩
  · obtain ⟨g, cap, rfl, hg, hg2, _, _, _, _⟩ := hown.addr h0
    have eg : ∀ args w, (callFunc 41 args).run Tryz.prog w = .ok (.enter 41 args) w := enters_of Tryz.func41 (by kernel_rfl) rfl
    have hcmp : CmpLays Tryz.prog 41 #[] Pr.cells 3 cmpP g 0 l.toArray.size w := fun _ _ _ _ x y => (CProc_gr x y _).mono fun e w' ⟨he, os, hw⟩ => ⟨he, 0, os, hw⟩
    have := AnyQ.slices_SortFunc_total Tryz.sortProcs 3 Tryz.isAgg51 Tryz.sizeOf51 Pr.cells (fun _ => rfl) (by intro x u hu; simp [Pr.cells] at hu; rcases hu with rfl | rfl | rfl <;> rfl) cmpP cmpP_swo 41 #[] g 0 cap l.toArray w eg hcmp hown.holdsK hg2 hsz cmpP_total
    refine Calls.mono this ?_
    rintro e w' ⟨rfl, n, os, rfl⟩
    exact ⟨rfl, hown.sorted hg2 (by simp) n os, below_sorted hb hg hg2 n _ os⟩
end Go.Proofs.YtogeihdfmnohnaaGreatDoor
namespace Go.Proofs.YtogeihdfmnohnaaGreatDoor
open Go.RowKit Go.Lib
theorem run_clear_cells {P : Program} (w : World) (t e : TypeId) (z : Value) (ht : P.underlying t = some (.slice e)) (hv : ∀ w, (zeroValue e).run P w = .ok z w) (h1 : ∀ u ∈ z.cells.toList, u.oneCell' = true) (h0 : 0 < z.cells.size) (b o n c : Nat) (hn : 0 < n)
    (hc : ∀ j, j < n * z.cells.size → (w.cell? ⟨b, o + j, none⟩).isSome = true ∧ w.frozen? ⟨b, o + j, none⟩ = false) :
    ∃ vs, ∀ ty, (Builtin.clear_ #[t] ty #[.slice (some ⟨b, o, none⟩) n c]).run P w = .ok (.tuple #[]) (w.setCells b o vs) := by
  have hl : (Builtin.zeroCells z.cells n).toList.length = n * z.cells.size := by simp [Builtin.zeroCells]
  have hm : ∀ v ∈ (Builtin.zeroCells z.cells n).toList, v.oneCell' = true := by
    intro v hv
    simp only [Builtin.zeroCells, Array.toList_map, List.mem_map] at hv
    obtain ⟨i, _, rfl⟩ := hv
    have hi : i % z.cells.size < z.cells.size := Nat.mod_lt _ h0
    rw [getElem!_pos z.cells _ hi]
    exact h1 _ (by simp)
  have hst := run_storeCells_cells (P := P) b o (Builtin.zeroCells z.cells n).toList 0 w (fun j hj => (hc j (by rw [← hl]; exact hj)).1) (fun j hj => (hc j (by rw [← hl]; exact hj)).2) hm
  simp only [Nat.add_zero] at hst
  obtain ⟨m, rfl⟩ : ∃ m, n = m + 1 := ⟨n - 1, by omega⟩
  exact ⟨_, fun ty => by simp [Builtin.clear_, run_underlying ht, hv, hst]; rfl⟩
theorem take_of_inv {d dk : List Pr} {k : Nat} (h : CompInv d.toArray d.length k dk.toArray) : dk.take k = compact d := by
  have hs : dk.length = d.length := by simpa using h.size
  apply List.ext_getElem?
  intro j
  unfold compact
  have hk := h.lt
  rcases Nat.lt_or_ge j k with hj | hj
  · rw [h.low j hj, List.getElem?_take, if_pos hj, List.getElem?_eq_getElem (by omega), getElem!_pos _ j (by simp; omega)]
    simp
  · rw [List.getElem?_eq_none (by rw [List.length_take]; omega), List.getElem?_eq_none (by rw [h.len]; exact hj)]
theorem keeps_of {d : List Pr} {j : Nat} (hj : j < d.length) (h0 : 0 < j) {x y : Pr} (hx : d[j] = x) (hy : d[j - 1] = y) : keeps d.toArray j = decide (x ≠ y) := by
  unfold keeps
  rw [getElem!_pos _ j (by simpa using hj), getElem!_pos _ (j - 1) (by simp; omega)]
  have : j ≠ 0 := by omega
  simp [this, hx, hy]
theorem inv_keeps {d dk : List Pr} {m k : Nat} (h : CompInv d.toArray m k dk.toArray) (hm : m < dk.length) {x y : Pr} (hx : dk[m] = x) (hy : dk[m - 1]'(by omega) = y) : keeps d.toArray m = decide (x ≠ y) := by
  have hs : dk.length = d.length := by simpa using h.size
  have hk := h.lt
  have e1 := h.high m (by omega)
  have e2 := h.high (m - 1) (by omega)
  rw [getElem!_pos _ m (by simpa using hm), getElem!_pos _ m (by simp; omega)] at e1
  rw [getElem!_pos _ (m - 1) (by simp; omega), getElem!_pos _ (m - 1) (by simp; omega)] at e2
  simp only [List.getElem_toArray] at e1 e2
  exact keeps_of (by omega) (by omega) (e1.symm.trans hx) (e2.symm.trans hy)
set_option maxHeartbeats 6400000 in
set_option maxRecDepth 100000 in
theorem Compact_own {w0 : World} {base : Nat} {v : Value} {l : List Pr} (w : World) (hown : OwnRows prE 51 w base v l) (hb : Below base w0 w) (hsz : l.length ≤ 281474976710656) :
    Calls Tryz.prog 82 #[v] w fun e w' => ∃ v', e = .returned v' ∧ OwnRows prE 51 w' base v' (compact l) ∧ Below base w0 w' := by
  rcases Nat.lt_or_ge l.length 2 with h2 | h2
  · have hc : compact l = l := compact_all l fun j hj => keeps_lt_one _ j (by omega)
    obtain ⟨A, cap, rfl, _, _, _, _⟩ := hown.form2
    rw [hc]
    have HOWN := Lib.hid hown
    have h2i : (l.length : Int) < 2 := by omega
    have HB := Lib.hid hb
    clear hown hc hb
    go_enter Tryz.func82, Tryz.ntmps82
    go_wp2_with fail
    go_ret
    exact ⟨_, rfl, HOWN.out, HB.out⟩
  · obtain ⟨g, cap, rfl, hg, hg2, hncap, hcm, hfz, hr⟩ := hown.addr (by omega)
    have HR := Lib.hid hr
    have HOWN := Lib.hid hown
    have HB := Lib.hid hb
    have HG := Lib.hid hg
    have h2i : ¬ (l.length : Int) < 2 := by omega
    clear hr hown hb hfz hg
    go_enter Tryz.func82, Tryz.ntmps82
    go_wp2_with fail
    go_loopg [3] l.length (fun m v wq => ∃ k q : Nat, 1 ≤ k ∧ k ≤ l.length ∧ l.length - k ≤ m ∧ v = .int .i64 (k : Int) ∧ wq = w.drewN q ∧ Hid (∀ j, j < k → keeps l.toArray j = true))
    case atStart => exact ⟨1, 0, Nat.le_refl _, by omega, by omega, rfl, rfl, Lib.hid (keeps_lt_one _)⟩
    case round =>
      obtain ⟨k, q, hk1, hk, hm, rfl, rfl, hall⟩ := hrel
      by_cases hlt : k < l.length
      · obtain ⟨⟨a, b, c⟩, hx⟩ : ∃ x, l[k] = x := ⟨_, rfl⟩
        obtain ⟨⟨x, y, z⟩, hy⟩ : ∃ x, l[k - 1] = x := ⟨_, rfl⟩
        obtain ⟨g', off, hA, _, hc0, hc1, hc2⟩ := pr_cells HR.out hlt hx
        injection hA with hA
        injection hA with e1 e2
        subst e1
        subst e2
        obtain ⟨g', off, hA, _, hd0, hd1, hd2⟩ := pr_cells HR.out (by omega) hy
        injection hA with hA
        injection hA with e1 e2
        subst e1
        subst e2
        simp only [Nat.zero_add] at hc0 hc1 hc2 hd0 hd1 hd2
        have HK := Lib.hid (keeps_of hlt (by omega) hx hy)
        clear hx hy
        have hlti : (k : Int) < (l.length : Int) := by omega
        have hw1 : IntKind.i64.wrap ((k : Int) - 1) = ((k - 1 : Nat) : Int) := by rw [IntWalk.i64_in _ (by omega)]; omega
        obtain ⟨_, k2, k3⟩ := cmpPr a b c x y z
        obtain ⟨qq, hq⟩ : ∃ q, decide ((⟨a, b, c⟩ : Pr) = ⟨x, y, z⟩) = q := ⟨_, rfl⟩
        rw [hq] at k2
        have HQ := Lib.hid hq
        clear hq
        cases qq with
        | false =>
          go_wp2_with fail
          go_quiet (fail)
          go_wp2_with fail
          go_roundg (l.length - (k + 1))
          case measure => omega
          case rel => exact ⟨k + 1, _, by omega, by omega, Nat.le_refl _, by go_num, rfl, Lib.hid (fun j hj => by
            rcases Nat.lt_or_ge j k with h | h
            · exact hall.out j h
            · obtain rfl : j = k := by omega
              rw [HK.out]
              exact decide_eq_true (of_decide_eq_false HQ.out))⟩
        | true =>
          have HEQ : (⟨a, b, c⟩ : Pr) = ⟨x, y, z⟩ := of_decide_eq_true HQ.out
          have HKF : Hid (keeps l.toArray k = false) := Lib.hid (by rw [HK.out]; exact decide_eq_false fun h => h HEQ)
          have hct := (cuts Tryz.underlying28 (e := 51) (z := .agg #[.int .i64 0, .int .i64 0, .int .i64 0]) (sz := 3) (by_ := 24) (by kernel_rfl) (some ⟨g, 0, none⟩) l.length cap k hk hncap).2
          rw [show cutA (some ⟨g, 0, none⟩) cap k 3 = some ⟨g, k * 3, none⟩ by unfold cutA; rw [if_neg (by omega), Option.map_some, addr_add, Nat.zero_add]] at hct
          go_wp2_with fail
          go_quiet (fail)
          go_wp2_with fail
          clear hc0 hc1 hc2 hd0 hd1 hd2 k2 k3 HEQ hw1
          go_loopg [3, 5] l.length (fun m v5 v6 wq => ∃ (kk k2 : Nat) (dk : List Pr), v5 = .int .i64 (kk : Int) ∧ v6 = .int .i64 (k2 : Int) ∧ 1 ≤ k2 ∧ k + k2 ≤ l.length ∧ l.length - (k + k2) ≤ m ∧ g < wq.heap.size ∧ dk.length = l.length ∧ Hid (OwnRows prE 51 wq base (.slice (some ⟨g, 0, none⟩) l.length cap) dk) ∧ Hid (Below base w0 wq) ∧ Hid (CompInv l.toArray (k + k2) kk dk.toArray))
          case atStart => exact ⟨k, 1, l, rfl, rfl, Nat.le_refl _, by omega, by omega, hg2, rfl, Lib.hid (HOWN.out.below (B := w.heap.size) (below_drewN (Below.refl _ _) _) (Nat.le_refl _)), Lib.hid (below_drewN HB.out _), Lib.hid (CompInv.start hall.out HKF.out)⟩
          case round =>
            obtain ⟨kk, k2, dk, rfl, rfl, h1, hle, hm2, hgw, hdk, HO, HBW, HI⟩ := hrel
            have hkk := HI.out.lt
            have HO' : OwnRows prE 51 wr base (.slice (some ⟨g, 0, none⟩) dk.length cap) dk := by rw [hdk]; exact HO.out
            obtain ⟨g', cap', hv, _, _, _, _, hfz, hr⟩ := HO'.addr (by omega)
            injection hv with hv _ hv3
            injection hv with hv
            injection hv with hv
            subst hv
            subst hv3
            by_cases hlt2 : k + k2 < l.length
            · obtain ⟨⟨a', b', c'⟩, hx⟩ : ∃ x, dk[k + k2] = x := ⟨_, rfl⟩
              obtain ⟨⟨x', y', z'⟩, hy⟩ : ∃ x, dk[k + k2 - 1] = x := ⟨_, rfl⟩
              obtain ⟨⟨s', t', u'⟩, hz⟩ : ∃ x, dk[kk] = x := ⟨_, rfl⟩
              obtain ⟨_, _, hA, _, hc0, hc1, hc2⟩ := pr_cells hr (by omega) hx
              injection hA with hA
              injection hA with e1 e2
              subst e1
              subst e2
              obtain ⟨_, _, hA, _, hd0, hd1, hd2⟩ := pr_cells hr (by omega) hy
              injection hA with hA
              injection hA with e1 e2
              subst e1
              subst e2
              obtain ⟨_, _, hA, _, he0, he1, he2⟩ := pr_cells hr (by omega) hz
              injection hA with hA
              injection hA with e1 e2
              subst e1
              subst e2
              rw [show 0 + (k + k2) * 3 = k * 3 + k2 * 3 by omega] at hc0 hc1 hc2
              rw [show 0 + (k + k2 - 1) * 3 = k * 3 + (k2 - 1) * 3 by omega] at hd0 hd1 hd2
              simp only [Nat.zero_add] at he0 he1 he2
              have hfz0 := hfz (kk * 3)
              have hfz1 := hfz (kk * 3 + 1)
              have hfz2 := hfz (kk * 3 + 2)
              have HX := Lib.hid (And.intro hx hy)
              clear hr hx hy hz hfz HO'
              have hlti2 : (k2 : Int) < ((l.length - k : Nat) : Int) := by omega
              have hw1 : IntKind.i64.wrap ((k2 : Int) - 1) = ((k2 - 1 : Nat) : Int) := by rw [IntWalk.i64_in _ (by omega)]; omega
              obtain ⟨k1, _, k3⟩ := cmpPr a' b' c' x' y' z'
              obtain ⟨qq, hq⟩ : ∃ q, decide ((⟨a', b', c'⟩ : Pr) = ⟨x', y', z'⟩) = q := ⟨_, rfl⟩
              rw [hq] at k1
              have HQ2 := Lib.hid hq
              clear hq
              cases qq with
              | true =>
                simp only [Bool.not_true] at k1
                go_wp2_with fail
                go_quiet (fail)
                go_wp2_with fail
                go_roundg (l.length - (k + (k2 + 1)))
                case measure => omega
                case rel =>
                  have HKF2 : Hid (keeps l.toArray (k + k2) = false) := Lib.hid (by
                    rw [inv_keeps HI.out (by omega) HX.out.1 HX.out.2]
                    exact decide_eq_false fun h => h (of_decide_eq_true HQ2.out))
                  exact ⟨kk, k2 + 1, dk, rfl, by go_num, by omega, by omega, Nat.le_refl _, by simpa using hgw, hdk, Lib.hid (HO.out.below (B := wr.heap.size) (below_drewN (Below.refl _ _) _) (Nat.le_refl _)), Lib.hid (below_drewN HBW.out _), Lib.hid (HI.out.skip HKF2.out)⟩
              | false =>
                simp only [Bool.not_false] at k1
                go_wp2_with fail
                go_quiet (fail)
                go_wp2_with fail
                go_roundg (l.length - (k + (k2 + 1)))
                case measure => omega
                case rel =>
                  have HKT : Hid (keeps l.toArray (k + k2) = true) := Lib.hid (by
                    rw [inv_keeps HI.out (by omega) HX.out.1 HX.out.2]
                    exact decide_eq_true (of_decide_eq_false HQ2.out))
                  have HO2 : Hid (OwnRows prE 51 ((wr.drewN nq).setCells g (kk * 3) [.int .i64 a', .int .i64 b', .int .i64 c']) base (.slice (some ⟨g, 0, none⟩) l.length cap) (dk.set kk ⟨a', b', c'⟩)) := Lib.hid (by
                    have h1 : OwnRows prE 51 (wr.drewN nq) base (.slice (some ⟨g, 0, none⟩) dk.length cap) dk := by
                      rw [hdk]
                      exact HO.out.below (B := wr.heap.size) (below_drewN (Below.refl _ _) _) (Nat.le_refl _)
                    rw [← hdk]
                    exact h1.setRow (by omega) rfl)
                  have HB2 : Hid (Below base w0 ((wr.drewN nq).setCells g (kk * 3) [.int .i64 a', .int .i64 b', .int .i64 c'])) := Lib.hid (setCells_below HG.out _ _ _ (below_drewN HBW.out _))
                  have HI2 : Hid (CompInv l.toArray (k + (k2 + 1)) (kk + 1) (dk.set kk ⟨a', b', c'⟩).toArray) := Lib.hid (by
                    have := HI.out.keep (by simp; omega) HKT.out
                    rw [← HI.out.high (k + k2) (by omega), getElem!_pos _ (k + k2) (by simp; omega), List.getElem_toArray, HX.out.1, List.setIfInBounds_toArray] at this
                    exact this)
                  exact ⟨kk + 1, k2 + 1, _, by go_num, by go_num, by omega, by omega, Nat.le_refl _, by simpa using hgw, by rw [List.length_set]; exact hdk, HO2, HB2, HI2⟩
            · have hend : k + k2 = l.length := by omega
              have hlti2 : ¬ (k2 : Int) < ((l.length - k : Nat) : Int) := by omega
              obtain ⟨vs, hcl⟩ := run_clear_cells (P := Tryz.prog) wr 28 51 (.agg #[.int .i64 0, .int .i64 0, .int .i64 0]) Tryz.underlying28 (fun w => by kernel_rfl) (by intro u hu; simp [Value.cells] at hu; rcases hu with rfl | rfl | rfl <;> rfl) (by decide) g (kk * 3) (l.length - kk) (cap - kk) (by omega) (fun j hj => by
                have hj' : j < (l.length - kk) * 3 := hj
                exact HO'.cellAt (by show kk * 3 + j < cap * 3; omega))
              have hct1 := (cuts Tryz.underlying28 (e := 51) (z := .agg #[.int .i64 0, .int .i64 0, .int .i64 0]) (sz := 3) (by_ := 24) (by kernel_rfl) (some ⟨g, 0, none⟩) l.length cap kk (by omega) hncap)
              obtain ⟨hct1, hct2⟩ := hct1
              rw [show cutA (some ⟨g, 0, none⟩) cap kk 3 = some ⟨g, kk * 3, none⟩ by unfold cutA; rw [if_neg (by omega), Option.map_some, addr_add, Nat.zero_add]] at hct2
              have HEND : Hid (OwnRows prE 51 (wr.setCells g (kk * 3) vs) base (.slice (some ⟨g, 0, none⟩) kk cap) (compact l)) := Lib.hid (by
                have h1 := HO'.cut (k := kk) (by omega)
                have h2 : (dk.take kk).length = kk := by rw [List.length_take]; omega
                have h3 := OwnRows.off (g := g) (cap := cap) (l := dk.take kk) (by rw [h2]; exact h1) vs (j := kk * 3) (by rw [h2]; exact Nat.le_refl _)
                rw [h2] at h3
                rw [← take_of_inv (by rw [← hend]; exact HI.out)]
                exact h3)
              have HBE : Hid (Below base w0 (wr.setCells g (kk * 3) vs)) := Lib.hid (setCells_below HG.out _ _ _ HBW.out)
              clear hfz hr HO'
              go_wp2_with fail
              go_ret
              exact ⟨_, rfl, HEND.out, HBE.out⟩
      · have hkl : k = l.length := by omega
        have HC : Hid (compact l = l) := Lib.hid (compact_all l fun j hj => hall.out j (by omega))
        have hlti : ¬ (k : Int) < (l.length : Int) := by omega
        have HOQ := Lib.hid (HOWN.out.below (B := w.heap.size) (below_drewN (Below.refl _ _) q) (Nat.le_refl _))
        have HBQ := Lib.hid (below_drewN HB.out q)
        go_wp2_with fail
        go_ret
        exact ⟨_, rfl, by rw [HC.out]; exact HOQ.out, HBQ.out⟩
end Go.Proofs.YtogeihdfmnohnaaGreatDoor
