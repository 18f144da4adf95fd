/- Regions that draw their order, whose operations only read what was there and whose callees leave alone what was there and hand back plain values: one walk, in the order of the text. -/
import Derived.Test.YtambinjjfapcgaaDoorDat
import Derived.StillTail
namespace Go.Proofs.YtambinjjfapcgaaDoor
open Go.RowKit

/-- The worlds that a world may have grown to. -/
structure Ext (w0 : World) where
  w : World
  below : Below w0.heap.size w0 w

instance (w0 : World) : Nonempty (Ext w0) := ⟨⟨w0, Below.refl _ _⟩⟩
theorem Ext.cell {w0 : World} {b o : Nat} {v : Value} (h : w0.cell? ⟨b, o, none⟩ = some v) (n : Ext w0) : n.w.cell? ⟨b, o, none⟩ = some v :=
  (n.below.cell (p := ⟨b, o, none⟩) (World.block_lt_of_cell? w0 _ h)).trans h
theorem below_drewN {B : Nat} {a w : World} (h : Below B a w) (n : Nat) : Below B a (w.drewN n) := ⟨h.os, h.tape, h.output, h.size, h.block⟩

theorem undrewN {B : Nat} {a w : World} {n : Nat} (h : Below B (a.drewN n) w) : Below B a w := ⟨h.os, h.tape, h.output, h.size, h.block⟩

theorem wp_region_grow {P : Program} {id : Nat} {Q : Exit → Act → World → Prop} {a : Act} {w : World} {l : List Oper} (hm : P.follows .mixedOrders = true) (hB : Region.lexB .any l.toArray = true)
    (h : wpQuiet P l.toArray (fun w' => ∃ n : Ext w, w' = n.w) (fun a' => ∀ w', (∃ n : Ext w, w' = n.w) → Q .normal a' w') l a) : (Code.region id l.toArray true).wp P Q a w :=
  wp_region_quiet (C := fun w' => ∃ n : Ext w, w' = n.w) hm hB ⟨⟨_, (Below.refl w.heap.size w).drew⟩, rfl⟩ (by simpa using h)

/-- A callee of such a region. -/
theorem Ext.call {P : Program} {f : FuncId} {args : Array Value} {w0 : World} {v : Value} (n : Ext w0) (h : Calls P f args n.w fun e w' => e = .returned v ∧ Below n.w.heap.size n.w w') : Calls P f args n.w fun e w' => e = .returned v ∧ ∃ m : Ext w0, w' = m.w :=
  h.mono fun _ _ ⟨he, hb⟩ => ⟨he, ⟨_, n.below.trans (hb.mono n.below.size)⟩, rfl⟩
theorem Ext.call_same {P : Program} {f : FuncId} {args : Array Value} {w0 : World} {v : Value} (n : Ext w0) (h : Calls P f args n.w fun e w' => e = .returned v ∧ w' = n.w) : Calls P f args n.w fun e w' => e = .returned v ∧ ∃ m : Ext w0, w' = m.w :=
  h.mono fun _ _ ⟨he, hb⟩ => ⟨he, n, hb⟩
theorem cellNewA (w : World) (cs : Array Value) (e : TypeId) (j : Nat) : (w.alloc (.cells cs e)).cell? ⟨w.heap.size, j, none⟩ = cs[j]? := cell_of_row _ _ _ _ _ _ (heap_alloc_new w (.cells cs e))
theorem Ext.new {w0 : World} (cs : Array Value) (e : TypeId) {j : Nat} {v : Value} (h : cs[j]? = some v) (n : Ext (w0.alloc (.cells cs e))) : n.w.cell? ⟨w0.heap.size, j, none⟩ = some v := Ext.cell ((cellNewA w0 cs e j).trans h) n
theorem Ext.old {w0 : World} {b o : Nat} {v : Value} (ob : Obj) (h : w0.cell? ⟨b, o, none⟩ = some v) (n : Ext (w0.alloc ob)) : n.w.cell? ⟨b, o, none⟩ = some v :=
  Ext.cell ((World.cell?_alloc_lt w0 ob ⟨b, o, none⟩ (World.block_lt_of_cell? w0 _ h)).trans h) n

/-- Block g is just the cells cs, none frozen. -/
def Blk (w : World) (g : Nat) (t : TypeId) (cs : Array Value) : Prop := w.heap[g]? = some (.cells cs t (0, 0))
section
variable {w w' : World} {g : Nat} {t : TypeId} {cs : Array Value}
theorem Blk.lt (h : Blk w g t cs) : g < w.heap.size := (Array.getElem?_eq_some_iff.1 h).1
theorem Blk.cell (h : Blk w g t cs) (i : Nat) : w.cell? ⟨g, i, none⟩ = cs[i]? := cell_of_row w g i cs t (0, 0) h
theorem Blk.cellx (h : Blk w g t cs) (i : Nat) {v : Value} (hv : cs[i]? = some v) : w.cell? ⟨g, i, none⟩ = some v := (h.cell i).trans hv
theorem Blk.frozen (h : Blk w g t cs) (i : Nat) : w.frozen? ⟨g, i, none⟩ = false := by
  unfold Blk at h
  simp [World.frozen?, h]
theorem Blk.new (w : World) (t : TypeId) (cs : Array Value) : Blk (w.alloc (.cells cs t)) w.heap.size t cs := heap_alloc_new w _
theorem Blk.drewN (h : Blk w g t cs) (n : Nat) : Blk (w.drewN n) g t cs := h
theorem Blk.alloc (h : Blk w g t cs) (o : Obj) : Blk (w.alloc o) g t cs := (Below.heap_alloc w o g h.lt).trans h
theorem Blk.set_ (h : Blk w g t cs) (i : Nat) (u : Value) : Blk (w.setCell ⟨g, i, none⟩ u) g t (cs.setIfInBounds i u) := by
  unfold Blk at h ⊢
  simp [World.setCell, Array.getElem?_modify, h]
theorem Blk.far (h : Blk w g t cs) {p : Addr} (hp : g ≠ p.block) (u : Value) : Blk (w.setCell p u) g t cs := (Below.heap_setCell w p u g hp).trans h
theorem Blk.below {B : Nat} (h : Blk w g t cs) (hb : Below B w w') (hg : g < B) : Blk w' g t cs := (hb.block g hg).trans h
end

/-- One world. -/
structure Just (w0 : World) where
  w : World
  eq : w = w0
instance (w0 : World) : Nonempty (Just w0) := ⟨⟨w0, rfl⟩⟩
theorem Just.cell {w0 : World} {b o : Nat} {v : Value} (h : w0.cell? ⟨b, o, none⟩ = some v) (n : Just w0.drew) : n.w.cell? ⟨b, o, none⟩ = some v := by rw [n.eq]; exact h
theorem Just.new {w0 : World} (cs : Array Value) (e : TypeId) {j : Nat} {v : Value} (h : cs[j]? = some v) (n : Just (w0.alloc (.cells cs e)).drew) : n.w.cell? ⟨w0.heap.size, j, none⟩ = some v := Just.cell ((cellNewA w0 cs e j).trans h) n
theorem Just.old {w0 : World} {b o : Nat} {v : Value} (ob : Obj) (h : w0.cell? ⟨b, o, none⟩ = some v) (n : Just (w0.alloc ob).drew) : n.w.cell? ⟨b, o, none⟩ = some v :=
  Just.cell ((World.cell?_alloc_lt w0 ob ⟨b, o, none⟩ (World.block_lt_of_cell? w0 _ h)).trans h) n
theorem Just.call {P : Program} {f : FuncId} {args : Array Value} {w0 : World} {v : Value} (n : Just w0) (h : Calls P f args n.w fun e w' => e = .returned v ∧ w' = n.w) : Calls P f args n.w fun e w' => e = .returned v ∧ ∃ m : Just w0, w' = m.w :=
  h.mono fun _ _ ⟨he, hb⟩ => ⟨he, n, hb⟩
theorem still_of_quiet {P : Program} {ops : Array Oper} {w1 : World} {Q : Act → Prop} : ∀ (l : List Oper) (a : Act), wpQuiet P ops (fun w' => ∃ n : Just w1, w' = n.w) Q l a → wpStill P ops w1 Q l a
  | [], a, h => h
  | o :: l, a, h => by
    simp only [wpQuiet, wpStill] at h ⊢
    by_cases hw : Region.wanted o (yielded ops a.tmps) = true
    · simp only [hw, if_true] at h ⊢
      obtain ⟨v, h1, h2⟩ := h
      have h3 := h1 w1 ⟨⟨w1, rfl⟩, rfl⟩
      have h4 := still_of_quiet l _ h2
      unfold Oper.quietAt at h3
      unfold Oper.still
      generalize (execOp a.eval o).run P w1 = r at *
      cases r with
      | ok n w' =>
        cases n <;> simp only [Oper.quietUpon] at h3 <;> simp only [Oper.stillUpon]
        case value u => obtain ⟨e1, e2⟩ := h3; exact ⟨e1, by rw [e2]; exact h4⟩
        case skip => obtain ⟨e1, e2⟩ := h3; exact ⟨e1, by rw [← e2]; exact h4⟩
        case enter f args => obtain ⟨e1, e2⟩ := h3; exact ⟨e1, v, e2.mono fun _ _ ⟨he, n, hn⟩ => ⟨he, hn.trans n.eq⟩, h4⟩
      | halt x w' => simp only [Oper.quietUpon] at h3
    · simp only [hw] at h ⊢
      exact still_of_quiet l _ h
/-- A region all of whose operations but the last ones, which come in one order, only read: the first n by one walk in the order of the text, the rest as they stand. -/
theorem wp_region_tail {P : Program} {id : Nat} {Q : Exit → Act → World → Prop} {a : Act} {w : World} {l : List Oper} (n : Nat) (hm : P.follows .mixedOrders = true) (hB : Region.lexTailB .any l.toArray n = true)
    (h : wpQuiet P l.toArray (fun w' => ∃ m : Just w.drew, w' = m.w) (fun a' => wpList P l.toArray Q (l.drop n) a' w.drew) (l.take n) a) : (Code.region id l.toArray true).wp P Q a w :=
  wp_region_still_tail n hm hB (still_of_quiet _ _ h)
end Go.Proofs.YtambinjjfapcgaaDoor
