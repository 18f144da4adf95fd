/- Part 43 of 49 of the proof of waitgraphOf_holds (no condition). -/
import Derived.Test.YtogeihdfmnohnaaGreatDoorRows
import Derived.WalkKit
import Derived.WalkSpells
import Derived.WalkLawsBesides
import Derived.Lib.Hide
import Derived.Deep.QuietTactic
import Derived.BigQuiet
import Derived.Deep.LoopGhost
import Derived.Maps.AppendAt
set_option linter.unusedVariables false
set_option linter.unusedSimpArgs false
namespace Go.Proofs.YtogeihdfmnohnaaGreatDoor.Wg
open Go.RowKit
theorem below_drewN {B : Nat} {a w : World} (h : Below B a w) (n : Nat) : Below B a (w.drewN n) := ⟨h.os, h.tape, h.output, h.size, h.block⟩
theorem ret_bool {a b : Bool} (h : a = b) : Ending.returned (.bool a) = .returned (.bool b) := by rw [h]
theorem ret_int {k : IntKind} {a b : Int} (h : a = b) : Ending.returned (.int k a) = .returned (.int k b) := by rw [h]
def Seq (w : World) (B : Nat) (A : Option Addr) (n : Nat) (f : (j : Nat) → j < n → Value) : Prop :=
  ∀ j (h : j < n), ∃ b off, A = some ⟨b, off, none⟩ ∧ b < B ∧ w.cell? ⟨b, off + j, none⟩ = some (f j h)
theorem Seq.below {w w' : World} {B B' B'' n : Nat} {A : Option Addr} {f : (j : Nat) → j < n → Value} (h : Seq w B A n f) (hb : Below B' w w') (hB : B ≤ B') (hB2 : B ≤ B'') : Seq w' B'' A n f := by
  intro j hj
  obtain ⟨b, off, hA, hbB, hc⟩ := h j hj
  exact ⟨b, off, hA, by omega, by rw [hb.cell (p := ⟨b, off + j, none⟩) (show b < B' by omega)]; exact hc⟩
def IntsAt (w : World) (B : Nat) (A : Option Addr) (l : List Int) : Prop := Seq w B A l.length fun j h => .int .i64 l[j]
def BoolsAt (w : World) (B : Nat) (A : Option Addr) (l : List Bool) : Prop := Seq w B A l.length fun j h => .bool l[j]
theorem IntsAt.below {w w' : World} {B B' B'' : Nat} {A : Option Addr} {l : List Int} (h : IntsAt w B A l) (hb : Below B' w w') (hB : B ≤ B') (hB2 : B ≤ B'') : IntsAt w' B'' A l := Seq.below h hb hB hB2
theorem BoolsAt.below {w w' : World} {B B' B'' : Nat} {A : Option Addr} {l : List Bool} (h : BoolsAt w B A l) (hb : Below B' w w') (hB : B ≤ B') (hB2 : B ≤ B'') : BoolsAt w' B'' A l := Seq.below h hb hB hB2
theorem BoolsAt.get {w : World} {B : Nat} {A : Option Addr} {l : List Bool} (h : BoolsAt w B A l) {j : Nat} (hj : j < l.length) {x : Bool} (hx : l[j] = x) :
    ∃ b off, A = some ⟨b, off, none⟩ ∧ b < B ∧ w.cell? ⟨b, off + j, none⟩ = some (.bool x) := by subst hx; exact h j hj
theorem IntsAt.get {w : World} {B : Nat} {A : Option Addr} {l : List Int} (h : IntsAt w B A l) {j : Nat} (hj : j < l.length) {x : Int} (hx : l[j] = x) :
    ∃ b off, A = some ⟨b, off, none⟩ ∧ b < B ∧ w.cell? ⟨b, off + j, none⟩ = some (.int .i64 x) := by subst hx; exact h j hj
theorem IntsAt.nil (w : World) (B : Nat) (A : Option Addr) : IntsAt w B A [] := fun j h => absurd h (by simp)
theorem BoolsAt.nil (w : World) (B : Nat) (A : Option Addr) : BoolsAt w B A [] := fun j h => absurd h (by simp)
structure Nd where
  k : Int
  next : List Int
abbrev Gr := List Nd
def GraphAt (w : World) (B : Nat) (A : Option Addr) (g : Gr) : Prop :=
  ∀ i (h : i < g.length), ∃ b off nA ncap, A = some ⟨b, off, none⟩ ∧ b < B ∧ w.cell? ⟨b, off + i * 2, none⟩ = some (.int .i64 g[i].k) ∧
    w.cell? ⟨b, off + i * 2 + 1, none⟩ = some (.slice nA g[i].next.length ncap) ∧ IntsAt w B nA g[i].next
theorem GraphAt.below {w w' : World} {B B' B'' : Nat} {A : Option Addr} {g : Gr} (h : GraphAt w B A g) (hb : Below B' w w') (hB : B ≤ B') (hB2 : B ≤ B'') : GraphAt w' B'' A g := by
  intro i hi
  obtain ⟨b, off, nA, ncap, hA, hbB, hc1, hc2, hn⟩ := h i hi
  exact ⟨b, off, nA, ncap, hA, by omega, by rw [hb.cell (p := ⟨b, _, none⟩) (show b < B' by omega)]; exact hc1,
    by rw [hb.cell (p := ⟨b, _, none⟩) (show b < B' by omega)]; exact hc2, hn.below hb hB hB2⟩
def FitsG (g : Gr) : Prop := g.length ≤ 40 ∧ ∀ i (h : i < g.length), g[i].next.length ≤ 40 ∧ (-9223372036854775808 ≤ g[i].k ∧ g[i].k ≤ 9223372036854775807) ∧
  ∀ j (h2 : j < g[i].next.length), -9223372036854775808 ≤ g[i].next[j] ∧ g[i].next[j] ≤ 9223372036854775807
def Ret (w : World) (v : Value) (e : Ending) (w' : World) : Prop := e = .returned v ∧ Below w.heap.size w w'
def RetB (w : World) (P : Prop) (e : Ending) (w' : World) : Prop := ∃ r : Bool, e = .returned (.bool r) ∧ (r = true ↔ P) ∧ Below w.heap.size w w'
def RetBQ (w : World) (P : Prop) (e : Ending) (w' : World) : Prop := ∃ r : Bool, e = .returned (.bool r) ∧ (r = true ↔ P) ∧ ∃ n, w' = w.drewN n
theorem RetBQ.true_ {w w' : World} {P : Prop} {e : Ending} (he : e = .returned (.bool true)) (hP : P) (hb : ∃ n, w' = w.drewN n) : RetBQ w P e w' := ⟨true, he, by simp [hP], hb⟩
theorem RetBQ.false_ {w w' : World} {P : Prop} {e : Ending} (he : e = .returned (.bool false)) (hP : ¬ P) (hb : ∃ n, w' = w.drewN n) : RetBQ w P e w' := ⟨false, he, by simp [hP], hb⟩
theorem RetBQ.below {w w' : World} {P : Prop} {e : Ending} (h : RetBQ w P e w') : RetB w P e w' := by
  obtain ⟨r, h1, h2, n, rfl⟩ := h
  exact ⟨r, h1, h2, below_drewN (Below.refl _ _) n⟩
theorem RetBQ.yes {w w' : World} {P : Prop} {e : Ending} (h : RetBQ w P e w') (hP : P) : e = .returned (.bool true) ∧ ∃ n, w' = w.drewN n := by
  obtain ⟨r, h1, h2, h3⟩ := h
  rw [h2.2 hP] at h1
  exact ⟨h1, h3⟩
theorem RetBQ.no {w w' : World} {P : Prop} {e : Ending} (h : RetBQ w P e w') (hP : ¬ P) : e = .returned (.bool false) ∧ ∃ n, w' = w.drewN n := by
  obtain ⟨r, h1, h2, h3⟩ := h
  cases r with
  | false => exact ⟨h1, h3⟩
  | true => exact absurd (h2.1 rfl) hP
def NewInts (w w' : World) (A : Option Addr) (l : List Int) : Prop := IntsAt w' w'.heap.size A l ∧ (0 < l.length → ∀ a, A = some a → w.heap.size ≤ a.block)
theorem NewInts.nil (w w' : World) (A : Option Addr) : NewInts w w' A [] := ⟨IntsAt.nil _ _ _, fun h => absurd h (by simp)⟩
theorem NewInts.older {w0 w w' : World} {A : Option Addr} {l : List Int} (h : NewInts w w' A l) (hs : w0.heap.size ≤ w.heap.size) : NewInts w0 w' A l := ⟨h.1, fun h0 a ha => Nat.le_trans hs (h.2 h0 a ha)⟩
def RetInts (w : World) (P : List Int → Prop) (e : Ending) (w' : World) : Prop :=
  ∃ A l cap, e = .returned (.slice A l.length cap) ∧ NewInts w w' A l ∧ P l ∧ l.length ≤ 4611686018427387904 ∧ Below w.heap.size w w'
def RetIntsL (w : World) (B0 : Nat) (l : List Int) (e : Ending) (w' : World) : Prop :=
  ∃ A cap, e = .returned (.slice A l.length cap) ∧ IntsAt w' w'.heap.size A l ∧ (0 < l.length → ∀ a, A = some a → a.block < B0 ∨ w.heap.size ≤ a.block) ∧ Below w.heap.size w w'
theorem IntsAt.same {w w' : World} {B B' : Nat} {A : Option Addr} {l : List Int} (h : IntsAt w B A l) (hk : ∀ a, A = some a → a.block < B → w'.heap[a.block]? = w.heap[a.block]?) (hB : B ≤ B') : IntsAt w' B' A l := by
  intro j hj
  obtain ⟨b, off, hA, hb, hc⟩ := h.get hj rfl
  exact ⟨b, off, hA, by omega, (World.cell?_of_block (w := w) (a := ⟨b, off + j, none⟩) (hk ⟨b, off, none⟩ hA hb)).trans hc⟩
theorem IntsAt.mono {w : World} {B B' : Nat} {A : Option Addr} {l : List Int} (h : IntsAt w B A l) (hB : B ≤ B') : IntsAt w B' A l := h.same (fun _ _ _ => rfl) hB
theorem RetB.true_ {w w' : World} {P : Prop} {e : Ending} (he : e = .returned (.bool true)) (hP : P) (hb : Below w.heap.size w w') : RetB w P e w' := ⟨true, he, by simp [hP], hb⟩
theorem RetB.false_ {w w' : World} {P : Prop} {e : Ending} (he : e = .returned (.bool false)) (hP : ¬ P) (hb : Below w.heap.size w w') : RetB w P e w' := ⟨false, he, by simp [hP], hb⟩
end Go.Proofs.YtogeihdfmnohnaaGreatDoor.Wg
namespace Go.Proofs.YtogeihdfmnohnaaGreatDoor.Wg
open Go.RowKit
set_option maxRecDepth 20000
theorem size_setCell (w : World) (a : Addr) (v : Value) : (w.setCell a v).heap.size = w.heap.size := by simp [World.setCell]
theorem intInfo : (Tryz.prog.info? 3).map (fun i => (i.zero, i.size, i.bytes)) = some (some (.int .i64 0), 1, 8) := by kernel_rfl
theorem boolInfo : (Tryz.prog.info? 4).map (fun i => (i.zero, i.size, i.bytes)) = some (some (.bool false), 1, 1) := by kernel_rfl
def OwnInts (w : World) (base : Nat) (v : Value) (l : List Int) : Prop := w.ownsRow base 3 1 v l.length (l.map (Value.int .i64)) ∧ base ≤ w.heap.size
theorem OwnInts.nil (w : World) (base : Nat) (hb : base ≤ w.heap.size) : OwnInts w base (.slice none 0 0) [] := ⟨World.ownsRow_nil _ _ _ _, hb⟩
theorem OwnInts.below {w w' : World} {base base' : Nat} {v : Value} {l : List Int} (h : OwnInts w base v l) (hb : Below base' w w') (hB : w.heap.size ≤ base') : OwnInts w' base v l := by
  refine ⟨⟨h.1.1, ?_⟩, Nat.le_trans h.2 hb.size⟩
  rcases h.1.2 with hn | ⟨g, cap, cur, hv, hg, hh, rest⟩
  · exact .inl hn
  · have hlt := (Array.getElem?_eq_some_iff.1 hh).1
    exact .inr ⟨g, cap, cur, hv, hg, by rw [hb.block g (by omega)]; exact hh, rest⟩
theorem OwnInts.drewN {w : World} {base : Nat} {v : Value} {l : List Int} (h : OwnInts w base v l) (n : Nat) : OwnInts (w.drewN n) base v l := h
theorem OwnInts.alloc {w : World} {base : Nat} {v : Value} {l : List Int} (h : OwnInts w base v l) (o : Obj) : OwnInts (w.alloc o) base v l := ⟨h.1.alloc o, Nat.le_trans h.2 (by simp)⟩
theorem OwnInts.setCell {w : World} {base : Nat} {v : Value} {l : List Int} (h : OwnInts w base v l) {a : Addr} (ha : a.block < base) (u : Value) : OwnInts (w.setCell a u) base v l :=
  ⟨ownsRow_setCell_below h.1 ha u, by simpa [World.setCell] using h.2⟩
theorem OwnInts.form {w : World} {base : Nat} {v : Value} {l : List Int} (h : OwnInts w base v l) :
    ∃ A cap, v = .slice A l.length cap ∧ IntsAt w w.heap.size A l ∧ l.length ≤ cap ∧ l.length ≤ 9223372036854775807 := by
  rcases h.1.2 with ⟨hv, hn⟩ | ⟨g, cap, cur, hv, hg, hh, hnc, hcm, hcs, ht⟩
  · exact ⟨none, 0, by rw [hv, hn], fun j hj => absurd hj (by omega), by omega, by omega⟩
  · refine ⟨_, cap, hv, fun j hj => ⟨g, 0, rfl, (Array.getElem?_eq_some_iff.1 hh).1, ?_⟩, hnc, by unfold maxLen at hcm; omega⟩
    have h1 : w.cell? ⟨g, 0 + j, none⟩ = cur[0 + j]? := by simp [World.cell?, hh]
    rw [h1, Nat.zero_add]
    have h2 : (cur.toList.take (l.length * 1))[j]? = (l.map (Value.int .i64))[j]? := by rw [ht]
    rw [List.getElem?_take_of_lt (by omega)] at h2
    simpa [List.getElem?_eq_getElem hj] using h2
theorem OwnInts.last {w : World} {base : Nat} {v : Value} {l : List Int} {x : Int} (h : OwnInts w base v (l ++ [x])) :
    ∃ g cap, v = .slice (some ⟨g, 0, none⟩) (l.length + 1) cap ∧ base ≤ g ∧ g < w.heap.size ∧ l.length + 1 ≤ cap ∧ l.length + 1 ≤ 9223372036854775807 ∧ w.cell? ⟨g, l.length, none⟩ = some (.int .i64 x) ∧
      OwnInts w base (.slice (some ⟨g, 0, none⟩) l.length cap) l := by
  have hl : (l ++ [x]).length = l.length + 1 := by simp
  have h0 := h.1
  rw [hl, List.map_append] at h0
  rcases h0.2 with ⟨hv, hn⟩ | ⟨g, cap, cur, hv, hg, hh, hnc, hcm, hcs, ht⟩
  · omega
  · have hc : w.cell? ⟨g, l.length, none⟩ = some (.int .i64 x) := by
      have h1 : w.cell? ⟨g, l.length, none⟩ = cur[l.length]? := by simp [World.cell?, hh]
      rw [h1]
      have h2 : (cur.toList.take ((l.length + 1) * 1))[l.length]? = (l.map (Value.int .i64) ++ [x].map (Value.int .i64))[l.length]? := by rw [ht]
      rw [List.getElem?_take_of_lt (by omega), List.getElem?_append_right (by simp)] at h2
      simpa using h2
    refine ⟨g, cap, hv, hg, (Array.getElem?_eq_some_iff.1 hh).1, hnc, by unfold maxLen at hcm; omega, hc, ?_, h.2⟩
    rw [hv] at h0
    exact ownsRow_pop (by simp) h0
theorem run_append_of_nil {P : Program} (w : World) (base : Nat) (t ty e : TypeId) (i : TypeInfo) (size : Nat) (ht : P.underlying t = some (.slice e)) (hi : P.info? e = some i)
    (v : Value) (n : Nat) (xs : List Value) (hown : w.ownsRow base e size v n xs) (c : Nat) : (Builtin.append_ #[t, t] ty #[v, .slice none 0 c]).run P w = .ok v w := by
  rcases hown.2 with ⟨rfl, rfl⟩ | ⟨g, cap, cur, rfl, _, _, hnc, _⟩
  · simp [Builtin.append_, run_underlying ht, sizeOf, typeInfo, hi, Builtin.lenOf, Builtin.firstCells]
  · simp [Builtin.append_, run_underlying ht, sizeOf, typeInfo, hi, Builtin.lenOf, Builtin.firstCells, hnc, storeCells]
theorem addr_add (b off j : Nat) : (Addr.mk b off none).add j = ⟨b, off + j, none⟩ := by
  unfold Addr.add
  by_cases h : j = 0 <;> simp [h]
def Spares (w w' : World) (v v' : Value) : Prop := ∀ b, b < w.heap.size → v.ownBlock ≠ some b → w'.heap[b]? = w.heap[b]? ∧ v'.ownBlock ≠ some b
theorem run_push (w : World) (ty : TypeId) (base : Nat) (v : Value) (l ns : List Int) (B : Nat) (A : Option Addr) (c : Nat) (hown : OwnInts w base v l) (hx : IntsAt w B A ns) (hl : l.length + ns.length ≤ 1099511627776) :
    ∃ v' w', (Builtin.append_ #[35, 35] ty #[v, .slice A ns.length c]).run Tryz.prog w = .ok v' w' ∧ OwnInts w' base v' (l ++ ns) ∧ Below base w w' ∧ Spares w w' v v' := by
  obtain ⟨i0, hi, hz0, hz1, hz2⟩ := info_parts intInfo
  rcases A with _ | ad
  · have hn : ns = [] := by
      cases ns with
      | nil => rfl
      | cons a r => obtain ⟨_, _, h, _⟩ := hx 0 (by simp); cases h
    subst hn
    exact ⟨v, w, run_append_of_nil w base 35 ty 3 i0 1 Tryz.underlying35 hi v l.length _ hown.1 c, by simpa using hown, Below.refl _ _, fun b _ h => ⟨rfl, h⟩⟩
  · have hcells : ∀ j u, (ns.map (Value.int .i64))[j]? = some u → w.cell? (ad.add j) = some u := by
      intro j u hu
      rw [List.getElem?_map] at hu
      rcases Nat.lt_or_ge j ns.length with hj | hj
      · obtain ⟨b, off, h, _, hc⟩ := hx.get hj rfl
        injection h with h
        subst h
        rw [addr_add, hc]
        simpa [List.getElem?_eq_getElem hj] using hu
      · simp [List.getElem?_eq_none hj] at hu
    obtain ⟨v', w', hrun, h1, h2, _, h4⟩ := run_append_own_at (P := Tryz.prog) w base 35 ty 3 i0 (.int .i64 0) 1 8 Tryz.underlying35 hi hz0 hz1 hz2 rfl (by decide) v l.length _ hown.1 ad ns.length c (ns.map (Value.int .i64))
      (by simp) hcells (by intro u hu; simp at hu; obtain ⟨a, _, rfl⟩ := hu; rfl) (by unfold maxLen; omega) (by omega) hown.2
    have hb : Below base w w' := (Below.refl base w).grown h2 hown.2 (fun k hk => (hown.1.lt k hk).1)
    refine ⟨v', w', hrun, ⟨by simpa using h1, Nat.le_trans hown.2 hb.size⟩, hb, fun b hb2 hne => ⟨h2.block b hb2 (fun e => hne e.symm), ?_⟩⟩
    rcases h4 with e | e
    · rw [e]; exact hne
    · rw [e]; intro h; injection h with h; omega
theorem pushInts {ops : Array Oper} {rest : List Oper} {o : Oper} {a : Act} {Q : Exit → Act → World → Prop} (hgd : o.guard = none) (s x : Operand)
    (ho : o.op = .call { callee := .builtin .append, args := #[s, x], argTypes := #[35, 35] })
    (w : World) (base : Nat) (v : Value) (l ns : List Int) (B : Nat) (A : Option Addr) (c : Nat) (hs : a.eval s = v) (hown : OwnInts w base v l) (hx : a.eval x = .slice A ns.length c) (hr : IntsAt w B A ns) (hl : l.length + ns.length ≤ 1099511627776)
    (h : ∀ v' w', OwnInts w' base v' (l ++ ns) → Below base w w' → Spares w w' v v' → wpList Tryz.prog ops Q rest (a.put o.dst v') w') :
    wpList Tryz.prog ops Q (o :: rest) a w := by
  refine wpList_plain hgd fun K hK => ?_
  obtain ⟨v', w', hrun, h1, h2, h3⟩ := run_push w o.type base v l ns B A c hown hr hl
  unfold Oper.wp execOp
  simp only [ho, resolve, invoke, builtin, Sem.run_bind, Sem.run_pure, Result.andThen_ok, List.map_toArray, List.map_cons, List.map_nil, hs, hx, hrun]
  exact hK _ _ (h v' w' h1 h2 h3)
theorem IntsAt.one (w : World) (n : Int) : IntsAt (w.alloc (.cells #[.int .i64 n] 3)) (w.heap.size + 1) (some ⟨w.heap.size, 0, none⟩) [n] := by
  intro j hj
  have : j = 0 := by simpa using hj
  subst this
  exact ⟨w.heap.size, 0, rfl, by omega, cell_one_new _ _ _ 0 _ rfl⟩
theorem pushInt {ops : Array Oper} {rest : List Oper} {o : Oper} {a : Act} {Q : Exit → Act → World → Prop} (hgd : o.guard = none) (s x : Operand)
    (ho : o.op = .call { callee := .builtin .append, args := #[s, x], argTypes := #[35, 35] })
    (w : World) (base : Nat) (v : Value) (l : List Int) (n : Int) (hs : a.eval s = v) (hown : OwnInts w base v l) (nb : Nat) (hx : a.eval x = .slice (some ⟨nb, 0, none⟩) 1 1) (hnb : nb = w.heap.size) (hl : l.length < 1099511627776)
    (h : ∀ v' w', OwnInts w' base v' (l ++ [n]) → Below base w w' → Spares w w' v v' → wpList Tryz.prog ops Q rest (a.put o.dst v') w') :
    wpList Tryz.prog ops Q (o :: rest) a (w.alloc (.cells #[.int .i64 n] 3)) := by
  subst hnb
  refine pushInts hgd s x ho _ base v l [n] _ _ 1 hs (hown.alloc _) hx (IntsAt.one w n) (by simp; omega) ?_
  intro v' w' h1 h2 h3
  refine h v' w' h1 (((Below.refl base w).alloc hown.2 _).trans h2) fun b hb hne => ?_
  obtain ⟨e1, e2⟩ := h3 b (by simp; omega) hne
  exact ⟨e1.trans (Below.heap_alloc w _ b hb), e2⟩
theorem OwnInts.one (w : World) (base : Nat) (x : Int) (hb : base ≤ w.heap.size) : OwnInts (w.alloc (.cells #[.int .i64 x] 3)) base (.slice (some ⟨w.heap.size, 0, none⟩) 1 1) [x] :=
  ⟨⟨by simp, .inr ⟨w.heap.size, 1, #[.int .i64 x], rfl, hb, heap_alloc_new w _, by simp, by unfold maxLen; omega, rfl, rfl⟩⟩, by simp; omega⟩
theorem OwnInts.zero (w : World) (base nb : Nat) (hnb : nb = w.heap.size) (hb : base ≤ w.heap.size) : OwnInts (w.alloc (.cells #[] 3)) base (.slice (some ⟨nb, 0, none⟩) 0 0) [] := by
  subst hnb
  exact ⟨⟨by simp, .inr ⟨w.heap.size, 0, #[], rfl, hb, heap_alloc_new w _, by simp, by unfold maxLen; omega, rfl, rfl⟩⟩, by simp; omega⟩
theorem OwnInts.block_ge {w : World} {base : Nat} {v : Value} {l : List Int} (h : OwnInts w base v l) : ∀ k, v.ownBlock = some k → base ≤ k ∧ k < w.heap.size := h.1.lt
theorem OwnInts.new {w w' : World} {base : Nat} {v : Value} {l : List Int} {A : Option Addr} {cap : Nat} (h : OwnInts w' base v l) (hv : v = .slice A l.length cap) (hb : w.heap.size ≤ base) : NewInts w w' A l := by
  obtain ⟨A', cap', e, hi, _⟩ := h.form
  have ea : A = A' := by rw [hv] at e; injection e
  subst ea
  exact ⟨hi, fun _ a ha => Nat.le_trans hb (h.block_ge a.block (by rw [hv, ha]; rfl)).1⟩
theorem run_make_rowN {P : Program} (t e : TypeId) (i : TypeInfo) (z : Value) (ht : P.underlying t = some (.slice e)) (hi : P.info? e = some i) (hz : i.zero = some z)
    (kl kc : IntKind) (n c : Nat) (hnc : n ≤ c) (hbytes : i.bytes * c ≤ 281474976710656) (h63 : c ≤ 9223372036854775807) (w : World) :
    (Instr.makeSlice t (.int kl (n : Int)) (.int kc (c : Int))).run P w = .ok (.slice (some ⟨w.heap.size, 0, none⟩) n c) (w.alloc (.cells (madeCells z.cells (c * i.size)) e)) := by
  have hb : (i.bytes : Int) * (c : Int) ≤ 281474976710656 := by
    have h : ((i.bytes * c : Nat) : Int) ≤ 281474976710656 := by omega
    rwa [Int.natCast_mul] at h
  have hr := run_make (P := P) w t e i z ht hi hz kl kc n c (by omega) (by omega) hb (by omega)
  simp only [Int.toNat_natCast] at hr
  exact hr
theorem mkBools (n : Nat) (hn : n ≤ 1000000) (w : World) : (Instr.makeSlice 74 (.int .i64 (n : Int)) (.int .i64 (n : Int))).run Tryz.prog w = .ok (.slice (some ⟨w.heap.size, 0, none⟩) n n) (w.alloc (.cells (madeCells #[.bool false] n) 4)) := by
  obtain ⟨i0, hi, hz0, hz1, hz2⟩ := info_parts boolInfo
  rw [run_make_rowN 74 4 i0 _ Tryz.underlying74 hi hz0 _ _ n n (Nat.le_refl _) (by rw [hz2]; omega) (by omega), hz1, Nat.mul_one]
  rfl
theorem mkInts (n : Nat) (hn : n ≤ 1000000) (w : World) : (Instr.makeSlice 35 (.int .i64 (n : Int)) (.int .i64 (n : Int))).run Tryz.prog w = .ok (.slice (some ⟨w.heap.size, 0, none⟩) n n) (w.alloc (.cells (madeCells #[.int .i64 0] n) 3)) := by
  obtain ⟨i0, hi, hz0, hz1, hz2⟩ := info_parts intInfo
  rw [run_make_rowN 35 3 i0 _ Tryz.underlying35 hi hz0 _ _ n n (Nat.le_refl _) (by rw [hz2]; omega) (by omega), hz1, Nat.mul_one]
  rfl
def BoolBlk (w : World) (g : Nat) (bs : List Bool) : Prop := w.heap[g]? = some (.cells (bs.map Value.bool).toArray 4 (0, 0))
def IntBlk (w : World) (g : Nat) (l : List Int) : Prop := w.heap[g]? = some (.cells (l.map (Value.int .i64)).toArray 3 (0, 0))
section
variable {w w' : World} {g : Nat} {bs : List Bool} {l : List Int}
theorem BoolBlk.lt (h : BoolBlk w g bs) : g < w.heap.size := (Array.getElem?_eq_some_iff.1 h).1
theorem IntBlk.lt (h : IntBlk w g l) : g < w.heap.size := (Array.getElem?_eq_some_iff.1 h).1
theorem BoolBlk.cell (h : BoolBlk w g bs) {j : Nat} (hj : j < bs.length) {x : Bool} (hx : bs[j] = x) : w.cell? ⟨g, j, none⟩ = some (.bool x) := by
  unfold BoolBlk at h; subst hx; simp [World.cell?, h, List.getElem?_eq_getElem hj]
theorem IntBlk.cell (h : IntBlk w g l) {j : Nat} (hj : j < l.length) {x : Int} (hx : l[j] = x) : w.cell? ⟨g, j, none⟩ = some (.int .i64 x) := by
  unfold IntBlk at h; subst hx; simp [World.cell?, h, List.getElem?_eq_getElem hj]
theorem BoolBlk.free (h : BoolBlk w g bs) (j : Nat) : w.frozen? ⟨g, j, none⟩ = false := by unfold BoolBlk at h; simp [World.frozen?, h]
theorem IntBlk.free (h : IntBlk w g l) (j : Nat) : w.frozen? ⟨g, j, none⟩ = false := by unfold IntBlk at h; simp [World.frozen?, h]
theorem BoolBlk.below {B : Nat} (h : BoolBlk w g bs) (hb : Below B w w') (hg : g < B) : BoolBlk w' g bs := (hb.block g hg).trans h
theorem IntBlk.below {B : Nat} (h : IntBlk w g l) (hb : Below B w w') (hg : g < B) : IntBlk w' g l := (hb.block g hg).trans h
theorem BoolBlk.set_ (h : BoolBlk w g bs) (j : Nat) (x : Bool) : BoolBlk (w.setCell ⟨g, j, none⟩ (.bool x)) g (bs.set j x) := by
  unfold BoolBlk at h ⊢
  simp [World.setCell, Array.getElem?_modify, h, List.map_set]
theorem IntBlk.set_ (h : IntBlk w g l) (j : Nat) (x : Int) : IntBlk (w.setCell ⟨g, j, none⟩ (.int .i64 x)) g (l.set j x) := by
  unfold IntBlk at h ⊢
  simp [World.setCell, Array.getElem?_modify, h, List.map_set]
theorem BoolBlk.far (h : BoolBlk w g bs) {p : Addr} (hp : g ≠ p.block) (u : Value) : BoolBlk (w.setCell p u) g bs := (Below.heap_setCell w p u g hp).trans h
theorem IntBlk.far (h : IntBlk w g l) {p : Addr} (hp : g ≠ p.block) (u : Value) : IntBlk (w.setCell p u) g l := (Below.heap_setCell w p u g hp).trans h
theorem BoolBlk.at_ (h : BoolBlk w g bs) {B : Nat} (hB : g < B) : BoolsAt w B (some ⟨g, 0, none⟩) bs := fun j hj => ⟨g, 0, rfl, hB, by rw [Nat.zero_add]; exact h.cell hj rfl⟩
theorem IntBlk.at_ (h : IntBlk w g l) {B : Nat} (hB : g < B) : IntsAt w B (some ⟨g, 0, none⟩) l := fun j hj => ⟨g, 0, rfl, hB, by rw [Nat.zero_add]; exact h.cell hj rfl⟩
theorem map_const_range {α : Type} (x : α) (n : Nat) : (List.range n).map (fun _ => x) = List.replicate n x := by
  rw [List.map_const', List.length_range]
theorem BoolBlk.new (w : World) (n : Nat) : BoolBlk (w.alloc (.cells (madeCells #[.bool false] n) 4)) w.heap.size (List.replicate n false) := by
  unfold BoolBlk
  rw [heap_alloc_new]
  congr 2
  apply Array.ext'
  simp [madeCells, Nat.mod_one]
  exact map_const_range _ n
theorem IntBlk.new (w : World) (n : Nat) : IntBlk (w.alloc (.cells (madeCells #[.int .i64 0] n) 3)) w.heap.size (List.replicate n 0) := by
  unfold IntBlk
  rw [heap_alloc_new]
  congr 2
  apply Array.ext'
  simp [madeCells, Nat.mod_one]
  exact map_const_range _ n
def RetBools (w : World) (P : List Bool → Prop) (e : Ending) (w' : World) : Prop :=
  ∃ g l cap, e = .returned (.slice (some ⟨g, 0, none⟩) l.length cap) ∧ BoolBlk w' g l ∧ P l ∧ Below w.heap.size w w'
end
end Go.Proofs.YtogeihdfmnohnaaGreatDoor.Wg
namespace Go.Proofs.YtogeihdfmnohnaaGreatDoor.Wg
open Go.RowKit
theorem mem_take_succ (l : List Int) (x : Int) (k : Nat) (h : k < l.length) : x ∈ l.take (k+1) ↔ (x ∈ l.take k ∨ l[k] = x) := by
  rw [List.take_succ_eq_append_getElem h, List.mem_append, List.mem_singleton]
  exact or_congr Iff.rfl ⟨Eq.symm, Eq.symm⟩
theorem bne_int_of_nat {a b : Nat} (h : a = b) : ((a : Int) != (b : Int)) = false := by simp [h]
theorem bne_int_of_nat' {a b : Nat} (h : a ≠ b) : ((a : Int) != (b : Int)) = true := by simp; omega
theorem take_succ_eq {l l' : List Int} {k : Nat} (h : k < l.length) (h' : k < l'.length) (he : l.take k = l'.take k) (hk : l[k] = l'[k]) : l.take (k+1) = l'.take (k+1) := by
  rw [List.take_succ_eq_append_getElem h, List.take_succ_eq_append_getElem h', he, hk]
set_option maxHeartbeats 400000 in
theorem SameInts_q (A A' : Option Addr) (B B' cap cap' : Nat) (l l' : List Int) (w : World) (hm : l.length ≤ 9223372036854775807)
   (hm' : l'.length ≤ 9223372036854775807) (hr : IntsAt w B A l) (hr' : IntsAt w B' A' l') :
    Calls Tryz.prog 29 #[.slice A l.length cap, .slice A' l'.length cap'] w (RetBQ w (l = l')) := by
  by_cases hl : l.length = l'.length
  · have hl2 := bne_int_of_nat hl
    have HL := Lib.hid hl
    clear hl
    go_enter Tryz.func29, Tryz.ntmps29
    go_wp2
    clear hl2
    go_loopw [5] (fun i w1 => ∃ k : Nat, k ≤ l.length ∧ i = .int .i64 k ∧ Hid (l.take k = l'.take k) ∧ ∃ n, w1 = w.drewN n) (fun i _ => l.length - (intOf i).toNat)
    case atStart => exact ⟨0, Nat.zero_le _, rfl, by simp [Hid], 0, rfl⟩
    case round =>
      obtain ⟨k, hk, rfl, hno, n, rfl⟩ := hrel
      by_cases hlt : k < l.length
      · obtain ⟨b, off, rfl, hb, hc⟩ := hr k hlt
        have hlt' : k < l'.length := by rw [← HL.out]; exact hlt
        obtain ⟨b', off', rfl, hb', hc'⟩ := hr' k hlt'
        go_wp2
        go_quiet (fail)
        go_wp2
        · have ht : (l[k] != l'[k]) = true := by assumption
          go_ret
          exact .false_ rfl (by rintro rfl; simp at ht) ⟨n + nq, by simp⟩
        · have ht : (l[k] != l'[k]) = false := by assumption
          go_roundw
          case rel => exact ⟨k+1, by omega, by go_num, take_succ_eq hlt hlt' hno.out (by simpa using ht), _, rfl⟩
          case measure => simp [intOf]; omega
      · go_wp2
        go_ret
        exact .true_ rfl (by have := hno.out; rwa [List.take_of_length_le (by omega), List.take_of_length_le (by rw [← HL.out]; omega)] at this) ⟨n, rfl⟩
  · have hl2 := bne_int_of_nat' hl
    have HL := Lib.hid hl
    clear hl
    go_enter Tryz.func29, Tryz.ntmps29
    go_wp2
    go_ret
    exact .false_ rfl (by rintro rfl; exact HL.out rfl) ⟨0, rfl⟩
theorem SameInts_any (A A' : Option Addr) (B B' cap cap' : Nat) (l l' : List Int) (w : World) (hm : l.length ≤ 9223372036854775807)
   (hm' : l'.length ≤ 9223372036854775807) (hr : IntsAt w B A l) (hr' : IntsAt w B' A' l') :
    Calls Tryz.prog 29 #[.slice A l.length cap, .slice A' l'.length cap'] w (RetB w (l = l')) := (SameInts_q A A' B B' cap cap' l l' w hm hm' hr hr').mono fun _ _ h => h.below
end Go.Proofs.YtogeihdfmnohnaaGreatDoor.Wg
namespace Go.Proofs.YtogeihdfmnohnaaGreatDoor.Wg
open Go.RowKit
def idxs (f : Nat → Bool) (k : Nat) : List Int := ((List.range k).filter f).map Int.ofNat
theorem idxs_succ (f : Nat → Bool) (k : Nat) : idxs f (k + 1) = if f k then idxs f k ++ [(k : Int)] else idxs f k := by
  unfold idxs
  rw [List.range_succ, List.filter_append, List.map_append]
  by_cases h : f k = true <;> simp [h]
theorem idxs_length (f : Nat → Bool) (k : Nat) : (idxs f k).length ≤ k := by
  unfold idxs
  have := List.length_filter_le f (List.range k)
  simpa using this
set_option maxHeartbeats 800000 in
theorem members_any (A : Option Addr) (cap : Nat) (bs : List Bool) (w : World) (hm : bs.length ≤ 1000000) (hr : BoolsAt w w.heap.size A bs) :
    Calls Tryz.prog 33 #[.slice A bs.length cap] w (RetInts w (fun l => l = idxs (fun i => bs.getD i false) bs.length)) := by
  go_enter Tryz.func33, Tryz.ntmps33
  go_wp2
  go_loopw [3, 8] (fun v i wr => ∃ k : Nat, k ≤ bs.length ∧ i = .int .i64 k ∧ Below w.heap.size w wr ∧ OwnInts wr w.heap.size v (idxs (fun i => bs.getD i false) k)) (fun _ i _ => bs.length - (intOf i).toNat)
  case atStart => exact ⟨0, Nat.zero_le _, rfl, (by repeat first | exact Below.refl _ _ | assumption | refine below_drewN ?_ _ | refine Below.drew ?_), OwnInts.nil _ _ (Nat.le_refl _)⟩
  case round =>
    obtain ⟨k, hk, rfl, hbel, hown⟩ := hrel
    by_cases hlt : k < bs.length
    · have hst := Lib.hid (idxs_succ (fun i => bs.getD i false) k)
      have hle := idxs_length (fun i => bs.getD i false) k
      cases hbk : bs[k] with
      | true =>
        obtain ⟨b, off, rfl, hb, hc⟩ := (hr.below hbel (Nat.le_refl _) hbel.size).get hlt hbk
        have HB := Lib.hid hbk
        clear hbk
        go_wp2_with (at_builtin; refine pushInt rfl _ _ rfl wr _ _ _ _ rfl hown _ rfl rfl (by omega) ?_; intro v' w1 hown1 hb1 _)
        go_roundw
        case rel =>
          have e : idxs (fun i => bs.getD i false) (k + 1) = idxs (fun i => bs.getD i false) k ++ [(k : Int)] := by rw [hst.out]; simp [List.getD, List.getElem?_eq_getElem hlt, HB.out]
          exact ⟨k + 1, by omega, by go_num, hbel.trans hb1, by rw [e]; exact hown1⟩
        case measure => simp [intOf]; omega
      | false =>
        obtain ⟨b, off, rfl, hb, hc⟩ := (hr.below hbel (Nat.le_refl _) hbel.size).get hlt hbk
        have HB := Lib.hid hbk
        clear hbk
        go_wp2
        go_roundw
        case rel =>
          have e : idxs (fun i => bs.getD i false) (k + 1) = idxs (fun i => bs.getD i false) k := by rw [hst.out]; simp [List.getD, List.getElem?_eq_getElem hlt, HB.out]
          exact ⟨k + 1, by omega, by go_num, hbel, by rw [e]; exact hown⟩
        case measure => simp [intOf]; omega
    · go_wp2
      go_ret
      obtain ⟨A', cap', e, h, _⟩ := hown.form
      exact ⟨A', _, cap', by rw [← e]; rfl, hown.new e (Nat.le_refl _), by rw [show k = bs.length by omega], by have := idxs_length (fun i => bs.getD i false) k; omega, hbel⟩
end Go.Proofs.YtogeihdfmnohnaaGreatDoor.Wg
