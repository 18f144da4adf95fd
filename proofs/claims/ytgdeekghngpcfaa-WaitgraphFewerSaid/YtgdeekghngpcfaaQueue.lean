/- A row of the call's own that is read at its head and written at its end: line = line[1:]; line = append(line, x). -/
import Derived.Test.YtgdeekghngpcfaaOwn
import Derived.ArgAppend
namespace Go.Proofs.Ytgdeekghngpcfaa
open Go.RowKit

def OwnQ (w : World) (base : Nat) (v : Value) (l : List Int) : Prop :=
  base ≤ w.heap.size ∧ ∃ g off cap cur, v = .slice (some ⟨g, off, none⟩) l.length cap ∧ base ≤ g ∧ w.heap[g]? = some (.cells cur 3 (0, 0)) ∧ l.length ≤ cap ∧ cap ≤ maxLen ∧ off + cap ≤ cur.size ∧
    ∀ j (h : j < l.length), cur[off + j]? = some (.int .i64 l[j])

theorem OwnQ.below {w w' : World} {base base' : Nat} {v : Value} {l : List Int} (h : OwnQ w base v l) (hb : Below base' w w') (hB : w.heap.size ≤ base') : OwnQ w' base v l := by
  obtain ⟨h0, g, off, cap, cur, hv, hg, hh, rest⟩ := h
  have hlt := (Array.getElem?_eq_some_iff.1 hh).1
  exact ⟨Nat.le_trans h0 hb.size, g, off, cap, cur, hv, hg, by rw [hb.block g (by omega)]; exact hh, rest⟩
theorem OwnQ.alloc {w : World} {base : Nat} {v : Value} {l : List Int} (h : OwnQ w base v l) (o : Obj) : OwnQ (w.alloc o) base v l := h.below ((Below.refl w.heap.size w).alloc (Nat.le_refl _) o) (Nat.le_refl _)
theorem OwnQ.setCell {w : World} {base : Nat} {v : Value} {l : List Int} (h : OwnQ w base v l) {a : Addr} (ha : a.block < base) (u : Value) : OwnQ (w.setCell a u) base v l := by
  obtain ⟨h0, g, off, cap, cur, hv, hg, hh, rest⟩ := h
  exact ⟨by simpa [World.setCell] using h0, g, off, cap, cur, hv, hg, by rw [Below.heap_setCell _ _ _ _ (by omega)]; exact hh, rest⟩
theorem OwnQ.one (w : World) (base nb : Nat) (x : Int) (hnb : nb = w.heap.size) (hb : base ≤ w.heap.size) : OwnQ (w.alloc (.cells #[.int .i64 x] 3)) base (.slice (some ⟨nb, 0, none⟩) 1 1) [x] := by
  subst hnb
  exact ⟨by simp; omega, w.heap.size, 0, 1, #[.int .i64 x], rfl, hb, heap_alloc_new w _, by simp, by unfold maxLen; omega, by simp, fun j hj => by
    have : j = 0 := by simpa using hj
    subst this; rfl⟩
/-- The head, and what is left. -/
theorem OwnQ.head {w : World} {base : Nat} {v : Value} {x : Int} {l : List Int} (h : OwnQ w base v (x :: l)) :
    ∃ g off cap, v = .slice (some ⟨g, off, none⟩) (l.length + 1) cap ∧ base ≤ g ∧ g < w.heap.size ∧ l.length + 1 ≤ cap ∧ cap ≤ 9223372036854775807 ∧ w.cell? ⟨g, off, none⟩ = some (.int .i64 x) ∧
      (cap = 1 → OwnQ w base (.slice (some ⟨g, off, none⟩) l.length 0) l) ∧ (cap ≠ 1 → OwnQ w base (.slice (some ⟨g, off + 1, none⟩) l.length (cap - 1)) l) := by
  obtain ⟨h0, g, off, cap, cur, hv, hg, hh, hlc, hcm, hsz, hc⟩ := h
  simp only [List.length_cons] at hlc hv
  refine ⟨g, off, cap, hv, hg, (Array.getElem?_eq_some_iff.1 hh).1, hlc, by unfold maxLen at hcm; omega, ?_, ?_, ?_⟩
  · have h1 : w.cell? ⟨g, off, none⟩ = cur[off]? := by simp [World.cell?, hh]
    rw [h1]
    exact hc 0 (by simp)
  · intro h1
    refine ⟨h0, g, off, 0, cur, rfl, hg, hh, by omega, by omega, by omega, fun j hj => by omega⟩
  · intro h1
    refine ⟨h0, g, off + 1, cap - 1, cur, rfl, hg, hh, by omega, by omega, by omega, fun j hj => ?_⟩
    rw [show off + 1 + j = off + (j + 1) by omega]
    exact hc (j + 1) (by simp; omega)
theorem OwnQ.nil_form {w : World} {base : Nat} {v : Value} (h : OwnQ w base v []) : ∃ A cap, v = .slice A 0 cap := by
  obtain ⟨_, g, off, cap, cur, hv, _⟩ := h
  exact ⟨_, cap, hv⟩

theorem run_pushQ (w : World) (ty : TypeId) (base : Nat) (v : Value) (l : List Int) (n : Int) (A : Addr) (hown : OwnQ w base v l) (hx : w.cell? A = some (.int .i64 n)) (hl : l.length < 1099511627776) :
    ∃ v' w', (Builtin.append_ #[26, 26] ty #[v, .slice (some A) 1 1]).run Try.prog w = .ok v' w' ∧ OwnQ w' base v' (l ++ [n]) ∧ Below base w w' ∧
      ∀ b, b < w.heap.size → v.ownBlock ≠ some b → w'.heap[b]? = w.heap[b]? ∧ v'.ownBlock ≠ some b := by
  obtain ⟨i0, hi, hz0, hz1, hz2⟩ := info_parts intInfo
  obtain ⟨h0, g, off, cap, cur, rfl, hg, hh, hlc, hcm, hsz, hc⟩ := hown
  have hnews : ∀ j u, [Value.int .i64 n][j]? = some u → w.cell? (A.add j) = some u := by
    intro j u hu
    cases j with
    | zero => simp at hu; subst hu; exact hx
    | succ j => simp at hu
  have h1c : ∀ u ∈ [Value.int .i64 n], u.oneCell' = true := by intro u hu; simp at hu; subst hu; rfl
  by_cases hroom : l.length + 1 ≤ cap
  · have hcell : w.cell? ⟨g, off + l.length * i0.size + 0, none⟩ = cur[off + l.length]? := by rw [hz1]; simp [World.cell?, hh]
    have hlt : off + l.length < cur.size := by omega
    have hrun := run_append_room_cells (P := Try.prog) w 26 ty 3 i0 Try.underlying26 hi g off l.length cap A 1 1 [.int .i64 n] (by simp [hz1]) hnews h1c hroom
      (fun j hj => by obtain rfl : j = 0 := by simpa using hj
                      rw [hcell]; simp [hlt]) (fun j hj => by simp [World.frozen?, hh])
    rw [hz1, Nat.mul_one] at hrun
    have hset : w.setCells g (off + l.length) [.int .i64 n] = w.setCell ⟨g, off + l.length, none⟩ (.int .i64 n) := rfl
    rw [hset] at hrun
    have hh' : (w.setCell ⟨g, off + l.length, none⟩ (.int .i64 n)).heap[g]? = some (.cells (cur.setIfInBounds (off + l.length) (.int .i64 n)) 3 (0, 0)) := by
      simp [World.setCell, Array.getElem?_modify, hh]
    refine ⟨_, _, hrun, ⟨by simpa [World.setCell] using h0, g, off, cap, _, by simp, hg, hh', by simpa using hroom, hcm, by simpa using hsz, fun j hj => ?_⟩, (Below.refl base w).setCell hg _, fun b hb hne => ⟨Below.heap_setCell w _ _ b (fun e => hne (by simp [Value.ownBlock, e])), by simpa [Value.ownBlock] using hne⟩⟩
    have hj2 : j < l.length + 1 := by simpa using hj
    rw [Array.getElem?_setIfInBounds]
    by_cases e : j = l.length
    · subst e
      simp [hlt]
    · rw [if_neg (by omega), hc j (by omega), List.getElem_append_left]
  · obtain ⟨v', w', hrun, r1, r2⟩ := run_append_arg_grows (P := Try.prog) w 26 ty 3 i0 (.int .i64 0) 1 8 Try.underlying26 hi hz0 hz1 hz2 rfl (by decide) ⟨g, off, none⟩ l.length cap (l.map (Value.int .i64)) (by simp)
      (fun j u hu => by
        rw [addr_add]
        have h1 : w.cell? ⟨g, off + j, none⟩ = cur[off + j]? := by simp [World.cell?, hh]
        rw [h1]
        rcases Nat.lt_or_ge j l.length with hj | hj
        · rw [hc j hj]; simpa [List.getElem?_eq_getElem hj] using hu
        · simp [List.getElem?_eq_none hj] at hu) A 1 1 [.int .i64 n] (by simp) hnews (by omega) (by unfold maxLen; omega) (by omega)
    have hb : Below base w w' := (Below.refl base w).grown r2 h0 (fun k hk => by cases hk)
    have hgl := (Array.getElem?_eq_some_iff.1 hh).1
    rcases r1.2 with ⟨_, hn⟩ | ⟨g2, cap2, cur2, hv, hg2, hh2, hnc, hcm2, hcs, ht⟩
    · omega
    · refine ⟨v', w', hrun, ⟨Nat.le_trans h0 hb.size, g2, 0, cap2, cur2, by simpa using hv, by omega, hh2, by simpa using hnc, hcm2, by omega, fun j hj => ?_⟩, hb, fun b hb hne => ⟨r2.block b hb (by simp), by rw [hv]; simp [Value.ownBlock]; omega⟩⟩
      have hj2 : j < l.length + 1 := by simpa using hj
      have h2 : (cur2.toList.take ((l.length + 1) * 1))[j]? = (l.map (Value.int .i64) ++ [Value.int .i64 n])[j]? := by rw [ht]
      rw [List.getElem?_take_of_lt (by omega)] at h2
      rw [Nat.zero_add, ← Array.getElem?_toList, h2, show l.map (Value.int .i64) ++ [Value.int .i64 n] = (l ++ [n]).map (Value.int .i64) by simp, List.getElem?_map, List.getElem?_eq_getElem hj]
      rfl

theorem pushQ {ops : Array Oper} {rest : List Oper} {o : Oper} {a : Act} {Q : Exit → Act → World → Prop} (hgd : o.guard = none) (s x : Operand)
    (ho : o.op = .call { callee := .builtin .append, args := #[s, x], argTypes := #[26, 26] })
    (w : World) (base : Nat) (v : Value) (l : List Int) (n : Int) (hs : a.eval s = v) (hown : OwnQ w base v l) (nb : Nat) (hx : a.eval x = .slice (some ⟨nb, 0, none⟩) 1 1) (hnb : nb = w.heap.size) (hl : l.length < 1099511627776)
    (h : ∀ v' w', OwnQ w' base v' (l ++ [n]) → Below base w w' → Spares w w' v v' → wpList Try.prog ops Q rest (a.put o.dst v') w') :
    wpList Try.prog ops Q (o :: rest) a (w.alloc (.cells #[.int .i64 n] 3)) := by
  subst hnb
  refine wpList_plain hgd fun K hK => ?_
  obtain ⟨v', w', hrun, h1, h2, h3⟩ := run_pushQ (w.alloc (.cells #[.int .i64 n] 3)) o.type base v l n ⟨w.heap.size, 0, none⟩ (hown.alloc _) (cell_one_new _ _ _ 0 _ rfl) hl
  unfold Oper.wp execOp
  simp only [ho, resolve, invoke, builtin, Sem.run_bind, Sem.run_pure, Result.andThen_ok, List.map_toArray, List.map_cons, List.map_nil, hs, hx, hrun]
  refine hK _ _ (h v' w' h1 (((Below.refl base w).alloc hown.1 _).trans h2) fun b hb hne => ?_)
  obtain ⟨e1, e2⟩ := h3 b (by simp; omega) hne
  exact ⟨e1.trans (Below.heap_alloc w _ b hb), e2⟩
end Go.Proofs.Ytgdeekghngpcfaa
