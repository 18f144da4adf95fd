/- The graphs that are made of numbers. -/
import Derived.Test.YtgdeekghngpcfaaMill
import Derived.Test.YtgdeekghngpcfaaValid
import Derived.Test.YtgdeekghngpcfaaMembers
namespace Go.Proofs.Ytgdeekghngpcfaa
open Go.RowKit

theorem nodeInfo : (Try.prog.info? 38).map (fun i => (i.zero, i.size, i.bytes)) = some (some (.agg #[.int .i64 0, .slice none 0 0]), 2, 32) := by kernel_rfl
theorem mkNodes (n : Nat) (hn : n ≤ 100) (w : World) : (Instr.makeSlice 22 (.int .i64 (1 + (n : Int))) (.int .i64 (1 + (n : Int)))).run Try.prog w =
    .ok (.slice (some ⟨w.heap.size, 0, none⟩) (n + 1) (n + 1)) (w.alloc (.cells (madeCells #[.int .i64 0, .slice none 0 0] ((n + 1) * 2)) 38)) := by
  obtain ⟨i0, hi, hz0, hz1, hz2⟩ := info_parts nodeInfo
  have e : (1 + (n : Int)) = ((n + 1 : Nat) : Int) := by omega
  rw [e, run_make_rowN 22 38 i0 _ Try.underlying22 hi hz0 _ _ (n + 1) (n + 1) (Nat.le_refl _) (by rw [hz2]; omega) (by omega), hz1]
  rfl

theorem pow_ok (n : Nat) (h : n < 9) : 1 ≤ wrap64 (2 ^ (1 + n)) ∧ wrap64 (2 ^ (1 + n)) ≤ 512 := by
  have hn : n = 0 ∨ n = 1 ∨ n = 2 ∨ n = 3 ∨ n = 4 ∨ n = 5 ∨ n = 6 ∨ n = 7 ∨ n = 8 := by omega
  rcases hn with rfl | rfl | rfl | rfl | rfl | rfl | rfl | rfl | rfl
  all_goals
    rw [IntWalk.wrap64_in _ ⟨by decide, by decide⟩]
    decide
theorem made_at (N o : Nat) (x y : Value) (h : o < N) : (madeCells #[x, y] N)[o]? = some (if o % 2 = 0 then x else y) := by
  have h2 : o % 2 = 0 ∨ o % 2 = 1 := by omega
  rcases h2 with h2 | h2 <;> simp [madeCells, h, h2]

/-- The cells of a graph in the making: block gb, m nodes. -/
def GC (w : World) (gb m : Nat) (ks : Nat → Int) (vs : Nat → Value) : Prop :=
  gb < w.heap.size ∧ (∀ o, w.frozen? ⟨gb, o, none⟩ = false) ∧ ∀ j, j < m → w.cell? ⟨gb, j * 2, none⟩ = some (.int .i64 (ks j)) ∧ w.cell? ⟨gb, j * 2 + 1, none⟩ = some (vs j)
/-- The lists of the first i nodes; none of them lies in block o. -/
def GD (w : World) (gb i : Nat) (ns : Nat → List Int) (vs : Nat → Value) (o : Option Nat) : Prop :=
  ∀ j, j < i → ∃ A cap, vs j = .slice A (ns j).length cap ∧ IntsAt w w.heap.size A (ns j) ∧ (0 < (ns j).length → ∀ a, A = some a → gb < a.block ∧ o ≠ some a.block)

theorem GC.below {w w' : World} {gb m B : Nat} {ks : Nat → Int} {vs : Nat → Value} (h : GC w gb m ks vs) (hb : Below B w w') (hB : gb < B) : GC w' gb m ks vs :=
  ⟨Nat.lt_of_lt_of_le h.1 hb.size, fun o => (hb.frozen (p := ⟨gb, o, none⟩) hB).trans (h.2.1 o), fun j hj => ⟨(hb.cell (p := ⟨gb, j * 2, none⟩) hB).trans (h.2.2 j hj).1, (hb.cell (p := ⟨gb, j * 2 + 1, none⟩) hB).trans (h.2.2 j hj).2⟩⟩
theorem GC.grown {w w' : World} {gb m tb : Nat} {ks : Nat → Int} {vs : Nat → Value} (h : GC w gb m ks vs) (hg : w.grownBy w' (some tb)) (hne : gb ≠ tb) : GC w' gb m ks vs := by
  have hb := hg.block gb h.1 (by simp [hne])
  exact ⟨Nat.lt_of_lt_of_le h.1 hg.size, fun o => (World.frozen?_of_block (a := ⟨gb, o, none⟩) hb).trans (h.2.1 o), fun j hj => ⟨(World.cell?_of_block (a := ⟨gb, j * 2, none⟩) hb).trans (h.2.2 j hj).1, (World.cell?_of_block (a := ⟨gb, j * 2 + 1, none⟩) hb).trans (h.2.2 j hj).2⟩⟩
theorem frozen_setCell (w : World) (a p : Addr) (v : Value) : (w.setCell a v).frozen? p = w.frozen? p := by
  by_cases e : p.block = a.block
  · simp only [World.frozen?, World.setCell, Array.getElem?_modify, e, if_pos]
    cases h : w.heap[a.block]? with
    | none => simp
    | some o => cases o <;> simp
  · simp only [World.frozen?]
    rw [Below.heap_setCell w a v p.block e]
theorem cell_set_same {w : World} {g o : Nat} {u v : Value} (h : w.cell? ⟨g, o, none⟩ = some u) : (w.setCell ⟨g, o, none⟩ v).cell? ⟨g, o, none⟩ = some v := by
  simp only [World.cell?, World.setCell, Array.getElem?_modify, if_pos] at h ⊢
  cases hh : w.heap[g]? with
  | none => rw [hh] at h; simp at h
  | some ob =>
    rw [hh] at h
    cases ob with
    | cells c t fr =>
      simp at h ⊢
      have hlt := (Array.getElem?_eq_some_iff.1 h).1
      simp [hlt]
    | _ => simp at h
theorem cell_set_other (w : World) {g o o' : Nat} (v : Value) (hne : o ≠ o') : (w.setCell ⟨g, o, none⟩ v).cell? ⟨g, o', none⟩ = w.cell? ⟨g, o', none⟩ :=
  World.cell?_setCell_other w ⟨g, o, none⟩ ⟨g, o', none⟩ v (fun e => hne (congrArg Addr.off e))
theorem GC.setK {w : World} {gb m i : Nat} {ks : Nat → Int} {vs : Nat → Value} (h : GC w gb m ks vs) (hi : i < m) (x : Int) : GC (w.setCell ⟨gb, i * 2, none⟩ (.int .i64 x)) gb m (fun j => if j = i then x else ks j) vs := by
  refine ⟨by rw [size_setCell]; exact h.1, fun o => by rw [frozen_setCell]; exact h.2.1 o, fun j hj => ⟨?_, ?_⟩⟩
  · by_cases e : j = i
    · subst e; simp only [if_pos]; exact cell_set_same (h.2.2 j hj).1
    · simp only [if_neg e]; rw [cell_set_other w _ (by omega)]; exact (h.2.2 j hj).1
  · rw [cell_set_other w _ (by omega)]; exact (h.2.2 j hj).2
theorem GC.setV {w : World} {gb m i : Nat} {ks : Nat → Int} {vs : Nat → Value} (h : GC w gb m ks vs) (hi : i < m) (v : Value) : GC (w.setCell ⟨gb, i * 2 + 1, none⟩ v) gb m ks (fun j => if j = i then v else vs j) := by
  refine ⟨by rw [size_setCell]; exact h.1, fun o => by rw [frozen_setCell]; exact h.2.1 o, fun j hj => ⟨?_, ?_⟩⟩
  · rw [cell_set_other w _ (by omega)]; exact (h.2.2 j hj).1
  · by_cases e : j = i
    · subst e; simp only [if_pos]; exact cell_set_same (h.2.2 j hj).2
    · simp only [if_neg e]; rw [cell_set_other w _ (by omega)]; exact (h.2.2 j hj).2

theorem GD.keep {w w' : World} {gb i : Nat} {ns : Nat → List Int} {vs vs' : Nat → Value} {o o' : Option Nat} (h : GD w gb i ns vs o) (hsz : w.heap.size ≤ w'.heap.size) (hv : ∀ j, j < i → vs' j = vs j)
    (hk : ∀ b, b < w.heap.size → gb < b → o ≠ some b → w'.heap[b]? = w.heap[b]? ∧ o' ≠ some b) : GD w' gb i ns vs' o' := by
  intro j hj
  obtain ⟨A, cap, e, hi, ha⟩ := h j hj
  rw [hv j hj]
  rcases Nat.eq_zero_or_pos (ns j).length with hz | hz
  · exact ⟨A, cap, e, fun k hk => by omega, fun h => by omega⟩
  · refine ⟨A, cap, e, hi.same (fun a haA hlt => (hk a.block hlt (ha hz a haA).1 (ha hz a haA).2).1) hsz, fun _ a haA => ⟨(ha hz a haA).1, ?_⟩⟩
    obtain ⟨b, off, eA, hlt, _⟩ := hi 0 hz
    rw [haA] at eA
    injection eA with eA
    subst eA
    exact (hk b hlt (ha hz _ haA).1 (ha hz _ haA).2).2

/-- What is known of a node that is made. -/
def NOk (m : Nat) (all one : Bool) (k : Int) (l : List Int) : Prop :=
  OkNext m l l.length ∧ l.length ≤ 4 ∧ 0 ≤ k ∧ k ≤ l.length ∧ (k = 0 → l.length = 0) ∧ (all = true → k = l.length) ∧ (all = false → one = true → 0 < l.length → k = 1)
/-- The list of a node in the making: ascending, below j. -/
def Asc (m j : Nat) (c : List Int) : Prop := OkNext m c c.length ∧ c.length ≤ 4 ∧ ∀ y ∈ c, y < j
theorem Asc.nil (m j : Nat) : Asc m j [] := ⟨fun _ h => absurd h (by simp), by simp, by simp⟩
theorem Asc.mono {m j : Nat} {c : List Int} (h : Asc m j c) : Asc m (j + 1) c := ⟨h.1, h.2.1, fun y hy => by have := h.2.2 y hy; omega⟩
theorem Asc.push {m j : Nat} {c : List Int} (h : Asc m j c) (hj : j < m) (hl : c.length < 4) : Asc m (j + 1) (c ++ [(j : Int)]) := by
  refine ⟨fun t ht _ => ?_, by simp; omega, fun y hy => ?_⟩
  · by_cases e : t < c.length
    · obtain ⟨a, b, d⟩ := h.1 t e e
      rw [List.getElem_append_left e]
      refine ⟨a, b, fun h0 => ?_⟩
      rw [List.getElem_append_left (by omega)]
      exact d h0
    · have et : t = c.length := by simp at ht; omega
      subst et
      have e1 : (c ++ [(j : Int)])[c.length] = j := by simp
      rw [e1]
      refine ⟨by omega, by omega, fun h0 => ?_⟩
      rw [List.getElem_append_left (by omega)]
      exact h.2.2 _ (List.getElem_mem _)
  · rw [List.mem_append, List.mem_singleton] at hy
    rcases hy with hy | rfl
    · have := h.2.2 y hy; omega
    · omega

theorem OwnInts.grown {w w' : World} {base tb : Nat} {v : Value} {l : List Int} (h : OwnInts w base v l) (hg : w.grownBy w' (some tb)) (ht : tb < base) : OwnInts w' base v l := by
  refine ⟨h.1.kept hg ?_, Nat.le_trans h.2 hg.size⟩
  by_cases e : v.ownBlock = none
  · exact .inl e
  · exact .inr fun e2 => by have := (h.block_ge tb e2).1; omega
theorem below_grown {B tb : Nat} {w w' : World} (hg : w.grownBy w' (some tb)) (hB : B ≤ tb) (hs : B ≤ w.heap.size) : Below B w w' := (Below.refl B w).grown hg hs (fun k hk => by injection hk with hk; omega)

/-- The memory behind the scan of node i's bits. -/
def MS (w0 w : World) (gb m i : Nat) (A : Option Addr) (l : List Int) (cap k : Nat) (ks : Nat → Int) (ns : Nat → List Int) (vs : Nat → Value) (cl : List Int) : Prop :=
  TapeAt w w0.heap.size A l cap k ∧ Below w0.heap.size w0 w ∧ GC w gb m ks vs ∧ OwnInts w (gb + 1) (vs i) cl ∧ GD w gb i ns vs (vs i).ownBlock
theorem MS.setK {w0 w : World} {gb m i : Nat} {A : Option Addr} {l : List Int} {cap k : Nat} {ks ks' : Nat → Int} {ns : Nat → List Int} {vs : Nat → Value} {cl : List Int} (h : MS w0 w gb m i A l cap k ks ns vs cl) (hi : i < m) (hg : w0.heap.size < gb) (x : Int)
    (hk : ∀ t, ks' t = if t = i then x else ks t) : MS w0 (w.setCell ⟨gb, i * 2, none⟩ (.int .i64 x)) gb m i A l cap k ks' ns vs cl := by
  obtain rfl : ks' = fun t => if t = i then x else ks t := funext hk
  obtain ⟨h1, h2, h3, h4, h5⟩ := h
  refine ⟨h1.below ((Below.refl gb w).setCell (Nat.le_refl _) _) hg, h2.setCell (by show w0.heap.size ≤ gb; omega) _, h3.setK hi x, h4.setCell (Nat.lt_succ_self _) _, ?_⟩
  exact h5.keep (by rw [size_setCell]; omega) (fun _ _ => rfl) fun b hb1 hb2 hb3 => ⟨Below.heap_setCell w _ _ b (by show b ≠ gb; omega), hb3⟩
theorem MS.tape {w0 w w' : World} {gb m i : Nat} {A : Option Addr} {l : List Int} {cap k k' : Nat} {ks : Nat → Int} {ns : Nat → List Int} {vs : Nat → Value} {cl : List Int} (h : MS w0 w gb m i A l cap k ks ns vs cl) (hg : w0.heap.size < gb)
    (ht : TapeAt w' w0.heap.size A l cap k') (hgr : w.grownBy w' (some w0.heap.size)) : MS w0 w' gb m i A l cap k' ks ns vs cl := by
  obtain ⟨h1, h2, h3, h4, h5⟩ := h
  refine ⟨ht, h2.trans (below_grown hgr (Nat.le_refl _) h2.size), h3.grown hgr (by omega), h4.grown hgr (by omega), h5.keep hgr.size (fun _ _ => rfl) fun b hb1 hb2 hb3 => ⟨hgr.block b hb1 (by simp; omega), hb3⟩⟩
theorem MS.next {w0 w : World} {gb m i : Nat} {A : Option Addr} {l : List Int} {cap k : Nat} {ks ks' : Nat → Int} {ns : Nat → List Int} {vs : Nat → Value} {cl : List Int} {all one : Bool} (h : MS w0 w gb m i A l cap k ks' ns vs cl)
    (x : Int) (hk : ∀ t, ks' t = if t = i then x else ks t) (hok : (∀ j, j < i → NOk m all one (ks j) (ns j)) ∧ ∀ j, i ≤ j → ks j = 0) (hrest : ∀ j, i < j → vs j = .slice none 0 0) (hx : NOk m all one x cl) :
    ∃ ns' : Nat → List Int, GD w gb (i + 1) ns' vs none ∧ (∀ j, j < i + 1 → NOk m all one (ks' j) (ns' j)) ∧ ∀ j, i + 1 ≤ j → ks' j = 0 ∧ vs j = .slice none 0 0 := by
  obtain ⟨h1, h2, h3, h4, h5⟩ := h
  refine ⟨fun t => if t = i then cl else ns t, fun j hj => ?_, fun j hj => ?_, fun j hj => ⟨by rw [hk, if_neg (by omega)]; exact hok.2 j (by omega), hrest j (by omega)⟩⟩
  · by_cases e : j = i
    · subst e
      obtain ⟨A8, c8, hv, hi8, _⟩ := h4.form
      simp only [if_pos]
      refine ⟨A8, c8, hv, hi8, fun _ a ha => ⟨?_, by simp⟩⟩
      have := (h4.block_ge a.block (by rw [hv, ha]; rfl)).1
      omega
    · simp only [if_neg e]
      obtain ⟨A8, c8, hv, hi8, ha⟩ := h5 j (by omega)
      exact ⟨A8, c8, hv, hi8, fun h0 a haA => ⟨(ha h0 a haA).1, by simp⟩⟩
  · by_cases e : j = i
    · subst e; simp only [if_pos]; rw [hk, if_pos rfl]; exact hx
    · simp only [if_neg e]; rw [hk, if_neg e]; exact hok.1 j (by omega)

/-- The call returns a graph that is made of numbers, and leaves alone what was there. -/
def RetGraph (w : World) (all one : Bool) (e : Ending) (w' : World) : Prop :=
  ∃ A g cap, e = .returned (.slice A (List.length g) cap) ∧ GraphAt w' w'.heap.size A g ∧ 1 ≤ g.length ∧ g.length ≤ 9 ∧ (∀ i (h : i < g.length), NOk g.length all one g[i].k g[i].next) ∧ Below w.heap.size w w'

set_option maxHeartbeats 3200000 in
set_option maxRecDepth 100000 in
theorem made_any (all one : Bool) (A : Option Addr) (cap : Nat) (l : List Int) (w : World) (hl : l.length ≤ 300) (hwd : ∀ j (h : j < l.length), -9223372036854775808 ≤ l[j] ∧ l[j] ≤ 9223372036854775807) (hr : IntsAt w w.heap.size A l) :
    Calls Try.prog 25 #[.slice A l.length cap, .bool all, .bool one] w (RetGraph w all one) := by
  have HWD := Lib.hid hwd
  clear hwd
  go_enter Try.func25, Try.ntmps25
  go_wp2_with fail
  refine (tapeNext_any w.heap.size cap 0 A l 9 _ (by omega) hl HWD.out ⟨(heap_alloc_new w _).trans (by simp), hr.same (fun a _ h => Below.heap_alloc w _ _ h) (Nat.le_refl _), Nat.zero_le _⟩).mono ?_
  rintro e w1 ⟨r, k1, rfl, ⟨hr1, hr2⟩, ht1, hg1⟩
  obtain ⟨n, rfl⟩ : ∃ n : Nat, r = n := ⟨r.toNat, by omega⟩
  have hn : n < 9 := by have := hr2 (by omega); omega
  have hmk := mkNodes n (by omega)
  have hbel1 : Below w.heap.size w w1 := ((Below.refl _ _).alloc (Nat.le_refl _) _).grown hg1 (by simp) (fun k hk => by injection hk with hk; omega)
  have htb1 := ht1.cells.2.2.2
  clear hr1 hr2 hg1 hr
  go_wp2_with fail
  clear hmk
  go_loopg [10] (n + 1) (fun m c wr => ∃ (i k : Nat) (ks : Nat → Int) (ns : Nat → List Int) (vs : Nat → Value), c = .int .i64 (i : Int) ∧ i ≤ n + 1 ∧ n + 1 ≤ i + m ∧ TapeAt wr w.heap.size A l cap k ∧ Below w.heap.size w wr ∧
    GC wr w1.heap.size (n + 1) ks vs ∧ GD wr w1.heap.size i ns vs none ∧ Hid ((∀ j, j < i → NOk (n + 1) all one (ks j) (ns j)) ∧ ∀ j, i ≤ j → ks j = 0 ∧ vs j = .slice none 0 0))
  case atStart =>
    refine ⟨0, k1, fun _ => 0, fun _ => [], fun _ => .slice none 0 0, rfl, Nat.zero_le _, by omega, ht1.below ((Below.refl w1.heap.size w1).alloc (Nat.le_refl _) _) htb1, hbel1.alloc hbel1.size _, ⟨by simp, fun o => ?_, fun j hj => ⟨?_, ?_⟩⟩, fun j h => by omega, fun j h => by omega, fun _ _ => ⟨rfl, rfl⟩⟩
    · exact World.frozen?_alloc_at _ _ _ _ rfl
    · rw [World.cell?_alloc_at _ _ _ _ rfl]
      show (madeCells _ _)[j * 2]? = _
      rw [made_at _ _ _ _ (by omega), if_pos (by omega)]
    · rw [World.cell?_alloc_at _ _ _ _ rfl]
      show (madeCells _ _)[j * 2 + 1]? = _
      rw [made_at _ _ _ _ (by omega), if_neg (by omega)]
  case round =>
    obtain ⟨i, k, ks, ns, vs, rfl, hi, him, ht, hbel, hgc, hgd, hok⟩ := hrel
    obtain ⟨G, hG⟩ : ∃ G, G = gk := ⟨_, rfl⟩
    subst hG
    by_cases hlt : i < n + 1
    · obtain ⟨hp1, hp2⟩ := pow_ok n hn
      go_wp2_with fail
      refine (tapeNext_any w.heap.size cap k A l _ wr (by omega) hl HWD.out ht).mono ?_
      rintro e w2 ⟨bits, k2, rfl, ⟨hb1, hb2⟩, ht2, hg2⟩
      have hb3 : bits < 512 := by have := hb2 (by omega); omega
      clear hb2
      go_wp2_with fail
      refine (tapeNext_any w.heap.size cap k2 A l 4 w2 (by omega) hl HWD.out ht2).mono ?_
      rintro e w3 ⟨r4, k3, rfl, ⟨hr41, hr42⟩, ht3, hg3⟩
      have hgb := hgc.1
      have htg : w.heap.size < w1.heap.size := htb1
      have hgc3 := (hgc.grown hg2 (by omega)).grown hg3 (by omega)
      have hbel2 := hbel.trans (below_grown hg2 (Nat.le_refl _) hbel.size)
      have hbel3 := hbel2.trans (below_grown hg3 (Nat.le_refl _) hbel2.size)
      have hgd3 : GD w3 w1.heap.size i ns vs none := hgd.keep (Nat.le_trans hg2.size hg3.size) (fun _ _ => rfl) fun b hb1 hb2 _ =>
        ⟨(hg3.block b (Nat.lt_of_lt_of_le hb1 hg2.size) (by simp; omega)).trans (hg2.block b hb1 (by simp; omega)), by simp⟩
      have HOK := Lib.hid hok.out
      clear hok hgc hgd hbel hbel2 hg2 hg3 ht ht2
      have hbase : w1.heap.size + 1 ≤ w3.heap.size := hgc3.1
      by_cases hz : r4 = 0
      · have hz2 : (r4 == 0) = true := beq_iff_eq.2 hz
        clear hz
        go_wp2_with fail
        go_loopg [12] (n + 1) (fun m c wq => ∃ (j : Nat) (cl : List Int) (vs2 : Nat → Value), c = .int .i64 (j : Int) ∧ j ≤ n + 1 ∧ n + 1 ≤ j + m ∧ TapeAt wq w.heap.size A l cap k3 ∧ Below w.heap.size w wq ∧
          GC wq w1.heap.size (n + 1) ks vs2 ∧ OwnInts wq (w1.heap.size + 1) (vs2 i) cl ∧ GD wq w1.heap.size i ns vs2 (vs2 i).ownBlock ∧ Asc (n + 1) j cl ∧ Hid (∀ j, i < j → vs2 j = .slice none 0 0))
        case atStart =>
          refine ⟨0, [], vs, rfl, Nat.zero_le _, by omega, ht3, hbel3, hgc3, ?_, ?_, Asc.nil _ _, fun j hj => (HOK.out.2 j (by omega)).2⟩
          · rw [(HOK.out.2 i (Nat.le_refl _)).2]; exact OwnInts.nil _ _ hbase
          · rw [(HOK.out.2 i (Nat.le_refl _)).2]; exact hgd3
        case round =>
          clear ht3 hbel3 hgc3 hgd3 hbase
          obtain ⟨j, cl, vs2, rfl, hj, hjm, ht3, hbel3, hgc3, hown, hgd3, hasc, hrest⟩ := hrel
          obtain ⟨A8, c8, hv8, hi8, hc8, hl8⟩ := hown.form
          have hcell := (hgc3.2.2 i hlt).2
          rw [hv8] at hcell
          have hfz := hgc3.2.1 (i * 2 + 1)
          have hc4 : cl.length ≤ 4 := hasc.2.1
          by_cases hlt2 : j < n + 1
          · have hd0 : True := trivial
            clear hd0
            go_wp2
            go_roundg (gk - 1)
            case measure => omega
            case rel => exact ⟨j + 1, cl, vs2, by go_num, by omega, by omega, ht3, hbel3, hgc3, hown, hgd3, hasc.mono, hrest⟩
          · have hjn : n + 1 ≤ j := by omega
            have hms : MS w wr w1.heap.size (n + 1) i A l cap k3 ks ns vs2 cl := ⟨ht3, hbel3, hgc3, hown, hgd3⟩
            have HOK2 : Hid ((∀ j, j < i → NOk (n + 1) all one (ks j) (ns j)) ∧ ∀ j, i ≤ j → ks j = 0) := ⟨HOK.out.1, fun j hj => (HOK.out.2 j hj).1⟩
            have hcellK := (hgc3.2.2 i hlt).1
            have hfzK := hgc3.2.1 (i * 2)
            have hnext := hasc.1
            have HN := Lib.hid hnext
            clear hgd3 hown hi8 hasc hnext
            by_cases hz0 : cl.length ≤ 0
            · have hno : NOk (n + 1) all one 0 cl := ⟨HN.out, by omega, by omega, by omega, fun _ => by omega, fun _ => by omega, fun _ _ h => by omega⟩
              obtain ⟨ns', g1, g2, g3⟩ := hms.next (ks := ks) 0 (fun t => by by_cases e : t = i; rw [if_pos e, e, HOK2.out.2 i (Nat.le_refl _)]; rw [if_neg e]) HOK2.out hrest.out hno
              have G23 := Lib.hid (And.intro g2 g3)
              clear g2 g3
              go_wp2
              go_roundg (G - 1)
              case measure => omega
              case rel => exact ⟨i + 1, k3, ks, ns', vs2, by go_num, by omega, by omega, ht3, hbel3, hgc3, g1, G23.out⟩
            · have hz1 : 0 < cl.length := by omega
              clear hz0
              go_wp2_with fail
              refine (tapeNext_any w.heap.size cap k3 A l _ wr (by omega) hl HWD.out ht3).mono ?_
              rintro e w4 ⟨rk, k4, rfl, ⟨hrk1, hrk2⟩, ht4, hg4⟩
              have hrk3 := hrk2 (by omega)
              have hms4 := hms.tape htg ht4 hg4
              have hcellK4 := (hms4.2.2.1.2.2 i hlt).1
              have hfzK4 := hms4.2.2.1.2.1 (i * 2)
              have hmsA := hms4.setK hlt htg (1 + rk) (fun t => rfl)
              have hnum : ∀ x : Int, 1 ≤ x → x ≤ cl.length → (all = true → x = cl.length) → (all = false → one = true → x = 1) → NOk (n + 1) all one x cl := fun x h1 h2 h3 h4 => ⟨HN.out, by omega, by omega, h2, fun h => by omega, h3, fun ha ho _ => h4 ha ho⟩
              have HNUM := Lib.hid hnum
              clear hnum hrk2 hg4 hms
              cases hall : all with
              | true => 
                subst hall
                have hmsB := hmsA.setK (ks' := fun t => if t = i then (cl.length : Int) else ks t) hlt htg cl.length (fun t => by by_cases e : t = i <;> simp [e])
                obtain ⟨ns', g1, g2, g3⟩ := hmsB.next (ks := ks) cl.length (fun t => rfl) HOK2.out hrest.out (HNUM.out _ (by omega) (by omega) (fun _ => rfl) (fun h => by cases h))
                have G23 := Lib.hid (And.intro g2 g3)
                clear g2 g3 hmsA
                go_wp2
                go_roundg (G - 1)
                case measure => omega
                case rel => exact ⟨i + 1, k4, _, ns', vs2, by go_num, by omega, by omega, hmsB.1, hmsB.2.1, hmsB.2.2.1, g1, G23.out⟩
              | false =>
                subst hall
                cases hone : one with
                | true =>
                  subst hone
                  have hmsB := hmsA.setK (ks' := fun t => if t = i then 1 else ks t) hlt htg 1 (fun t => by by_cases e : t = i <;> simp [e])
                  obtain ⟨ns', g1, g2, g3⟩ := hmsB.next (ks := ks) 1 (fun t => rfl) HOK2.out hrest.out (HNUM.out _ (by omega) (by omega) (fun h => by cases h) (fun _ _ => rfl))
                  have G23 := Lib.hid (And.intro g2 g3)
                  clear g2 g3 hmsA
                  go_wp2
                  go_roundg (G - 1)
                  case measure => omega
                  case rel => exact ⟨i + 1, k4, _, ns', vs2, by go_num, by omega, by omega, hmsB.1, hmsB.2.1, hmsB.2.2.1, g1, G23.out⟩
                | false =>
                  subst hone
                  obtain ⟨ns', g1, g2, g3⟩ := hmsA.next (ks := ks) (1 + rk) (fun t => rfl) HOK2.out hrest.out (HNUM.out _ (by omega) (by omega) (fun h => by cases h) (fun _ h => by cases h))
                  have G23 := Lib.hid (And.intro g2 g3)
                  clear g2 g3
                  go_wp2
                  go_roundg (G - 1)
                  case measure => omega
                  case rel => exact ⟨i + 1, k4, _, ns', vs2, by go_num, by omega, by omega, hmsA.1, hmsA.2.1, hmsA.2.2.1, g1, G23.out⟩
      · have hz2 : (r4 == 0) = false := by rw [beq_eq_false_iff_ne]; exact hz
        clear hz
        go_wp2_with fail
        go_loopg [12] (n + 1) (fun m c wq => ∃ (j : Nat) (cl : List Int) (vs2 : Nat → Value), c = .int .i64 (j : Int) ∧ j ≤ n + 1 ∧ n + 1 ≤ j + m ∧ TapeAt wq w.heap.size A l cap k3 ∧ Below w.heap.size w wq ∧
          GC wq w1.heap.size (n + 1) ks vs2 ∧ OwnInts wq (w1.heap.size + 1) (vs2 i) cl ∧ GD wq w1.heap.size i ns vs2 (vs2 i).ownBlock ∧ Asc (n + 1) j cl ∧ Hid (∀ j, i < j → vs2 j = .slice none 0 0))
        case atStart =>
          refine ⟨0, [], vs, rfl, Nat.zero_le _, by omega, ht3, hbel3, hgc3, ?_, ?_, Asc.nil _ _, fun j hj => (HOK.out.2 j (by omega)).2⟩
          · rw [(HOK.out.2 i (Nat.le_refl _)).2]; exact OwnInts.nil _ _ hbase
          · rw [(HOK.out.2 i (Nat.le_refl _)).2]; exact hgd3
        case round =>
          clear ht3 hbel3 hgc3 hgd3 hbase
          obtain ⟨j, cl, vs2, rfl, hj, hjm, ht3, hbel3, hgc3, hown, hgd3, hasc, hrest⟩ := hrel
          obtain ⟨A8, c8, hv8, hi8, hc8, hl8⟩ := hown.form
          have hcell := (hgc3.2.2 i hlt).2
          rw [hv8] at hcell
          have hfz := hgc3.2.1 (i * 2 + 1)
          have hc4 : cl.length ≤ 4 := hasc.2.1
          by_cases hlt2 : j < n + 1
          · by_cases hT : Go.bits BinOp.and IntKind.i64 (bits / 2 ^ j) 1 = 1 ∧ cl.length < 4
            · obtain ⟨hT1, hT2⟩ := hT
              have hown8 := hown
              rw [hv8] at hown8
              have hlb := hown.block_ge
              go_wp2_with (at_builtin; refine pushInt rfl _ _ rfl _ _ _ _ _ rfl hown8 _ rfl rfl (by omega) ?_; intro v' w4 hown4 hb4 hsp4; have hgc4 := hgc3.below hb4 (Nat.lt_succ_self _); have hcell4 := (hgc4.2.2 i hlt).2; rw [hv8] at hcell4; have hfz4 := hgc4.2.1 (i * 2 + 1); obtain ⟨A9, c9, rfl, _, _, _⟩ := hown4.form)
              rw [← hv8] at hsp4
              go_roundg (gk - 1)
              case measure => omega
              case rel =>
                have hif : (fun t => if t = i then Value.slice A9 (cl.length + 1) c9 else vs2 t) i = Value.slice A9 (cl.length + 1) c9 := by simp
                have hown9 : OwnInts w4 (w1.heap.size + 1) (.slice A9 (cl.length + 1) c9) (cl ++ [(j : Int)]) := by simpa using hown4
                refine ⟨j + 1, cl ++ [(j : Int)], fun t => if t = i then Value.slice A9 (cl.length + 1) c9 else vs2 t, by go_num, by omega, by omega, ?_, ?_, hgc4.setV hlt _, ?_, ?_, hasc.push hlt2 hT2, fun t ht => ?_⟩
                · exact (ht3.below hb4 (by omega)).below ((Below.refl w1.heap.size w4).setCell (Nat.le_refl _) _) htb1
                · exact (hbel3.trans (hb4.mono (by omega))).setCell (by show w.heap.size ≤ w1.heap.size; omega) _
                · rw [hif]; exact hown9.setCell (Nat.lt_succ_self _) _
                · rw [hif]
                  exact hgd3.keep (by rw [size_setCell]; exact hb4.size) (fun t ht => by simp; omega) fun b hb1 hb2 hb3 => ⟨(Below.heap_setCell w4 _ _ b (by show b ≠ w1.heap.size; omega)).trans (hsp4 b hb1 hb3).1, by have h := (hsp4 b hb1 hb3).2; simpa using h⟩
                · simp only [show t ≠ i by omega, if_false]; exact hrest.out t ht
            · have hT' := Lib.hid hT
              have hsp : ¬ Go.bits BinOp.and IntKind.i64 (bits / 2 ^ j) 1 = 1 ∨ (Go.bits BinOp.and IntKind.i64 (bits / 2 ^ j) 1 = 1 ∧ 4 ≤ cl.length) := by
                by_cases h : Go.bits BinOp.and IntKind.i64 (bits / 2 ^ j) 1 = 1
                · exact .inr ⟨h, by by_cases h2 : cl.length < 4; exact absurd ⟨h, h2⟩ hT; omega⟩
                · exact .inl h
              clear hT
              rcases hsp with h1 | ⟨h1, h2⟩
              all_goals
                go_wp2
                go_roundg (gk - 1)
                case measure => omega
                case rel => exact ⟨j + 1, cl, vs2, by go_num, by omega, by omega, ht3, hbel3, hgc3, hown, hgd3, hasc.mono, hrest⟩
          · have hjn : n + 1 ≤ j := by omega
            have hms : MS w wr w1.heap.size (n + 1) i A l cap k3 ks ns vs2 cl := ⟨ht3, hbel3, hgc3, hown, hgd3⟩
            have HOK2 : Hid ((∀ j, j < i → NOk (n + 1) all one (ks j) (ns j)) ∧ ∀ j, i ≤ j → ks j = 0) := ⟨HOK.out.1, fun j hj => (HOK.out.2 j hj).1⟩
            have hcellK := (hgc3.2.2 i hlt).1
            have hfzK := hgc3.2.1 (i * 2)
            have hnext := hasc.1
            have HN := Lib.hid hnext
            clear hgd3 hown hi8 hasc hnext
            by_cases hz0 : cl.length ≤ 0
            · have hno : NOk (n + 1) all one 0 cl := ⟨HN.out, by omega, by omega, by omega, fun _ => by omega, fun _ => by omega, fun _ _ h => by omega⟩
              obtain ⟨ns', g1, g2, g3⟩ := hms.next (ks := ks) 0 (fun t => by by_cases e : t = i; rw [if_pos e, e, HOK2.out.2 i (Nat.le_refl _)]; rw [if_neg e]) HOK2.out hrest.out hno
              have G23 := Lib.hid (And.intro g2 g3)
              clear g2 g3
              go_wp2
              go_roundg (G - 1)
              case measure => omega
              case rel => exact ⟨i + 1, k3, ks, ns', vs2, by go_num, by omega, by omega, ht3, hbel3, hgc3, g1, G23.out⟩
            · have hz1 : 0 < cl.length := by omega
              clear hz0
              go_wp2_with fail
              refine (tapeNext_any w.heap.size cap k3 A l _ wr (by omega) hl HWD.out ht3).mono ?_
              rintro e w4 ⟨rk, k4, rfl, ⟨hrk1, hrk2⟩, ht4, hg4⟩
              have hrk3 := hrk2 (by omega)
              have hms4 := hms.tape htg ht4 hg4
              have hcellK4 := (hms4.2.2.1.2.2 i hlt).1
              have hfzK4 := hms4.2.2.1.2.1 (i * 2)
              have hmsA := hms4.setK hlt htg (1 + rk) (fun t => rfl)
              have hnum : ∀ x : Int, 1 ≤ x → x ≤ cl.length → (all = true → x = cl.length) → (all = false → one = true → x = 1) → NOk (n + 1) all one x cl := fun x h1 h2 h3 h4 => ⟨HN.out, by omega, by omega, h2, fun h => by omega, h3, fun ha ho _ => h4 ha ho⟩
              have HNUM := Lib.hid hnum
              clear hnum hrk2 hg4 hms
              cases hall : all with
              | true => 
                subst hall
                have hmsB := hmsA.setK (ks' := fun t => if t = i then (cl.length : Int) else ks t) hlt htg cl.length (fun t => by by_cases e : t = i <;> simp [e])
                obtain ⟨ns', g1, g2, g3⟩ := hmsB.next (ks := ks) cl.length (fun t => rfl) HOK2.out hrest.out (HNUM.out _ (by omega) (by omega) (fun _ => rfl) (fun h => by cases h))
                have G23 := Lib.hid (And.intro g2 g3)
                clear g2 g3 hmsA
                go_wp2
                go_roundg (G - 1)
                case measure => omega
                case rel => exact ⟨i + 1, k4, _, ns', vs2, by go_num, by omega, by omega, hmsB.1, hmsB.2.1, hmsB.2.2.1, g1, G23.out⟩
              | false =>
                subst hall
                cases hone : one with
                | true =>
                  subst hone
                  have hmsB := hmsA.setK (ks' := fun t => if t = i then 1 else ks t) hlt htg 1 (fun t => by by_cases e : t = i <;> simp [e])
                  obtain ⟨ns', g1, g2, g3⟩ := hmsB.next (ks := ks) 1 (fun t => rfl) HOK2.out hrest.out (HNUM.out _ (by omega) (by omega) (fun h => by cases h) (fun _ _ => rfl))
                  have G23 := Lib.hid (And.intro g2 g3)
                  clear g2 g3 hmsA
                  go_wp2
                  go_roundg (G - 1)
                  case measure => omega
                  case rel => exact ⟨i + 1, k4, _, ns', vs2, by go_num, by omega, by omega, hmsB.1, hmsB.2.1, hmsB.2.2.1, g1, G23.out⟩
                | false =>
                  subst hone
                  obtain ⟨ns', g1, g2, g3⟩ := hmsA.next (ks := ks) (1 + rk) (fun t => rfl) HOK2.out hrest.out (HNUM.out _ (by omega) (by omega) (fun h => by cases h) (fun _ h => by cases h))
                  have G23 := Lib.hid (And.intro g2 g3)
                  clear g2 g3
                  go_wp2
                  go_roundg (G - 1)
                  case measure => omega
                  case rel => exact ⟨i + 1, k4, _, ns', vs2, by go_num, by omega, by omega, hmsA.1, hmsA.2.1, hmsA.2.2.1, g1, G23.out⟩
    · obtain rfl : i = n + 1 := by omega
      go_wp2
      go_ret
      have HOK := hok.out
      have hlen : ((List.range (n + 1)).map fun j => (⟨ks j, ns j⟩ : Nd)).length = n + 1 := by simp
      refine ⟨some ⟨w1.heap.size, 0, none⟩, (List.range (n + 1)).map fun j => ⟨ks j, ns j⟩, n + 1, by rw [hlen]; rfl, fun j hj => ?_, by rw [hlen]; omega, by rw [hlen]; omega, fun j hj => ?_, hbel⟩
      · have hj2 : j < n + 1 := by rw [hlen] at hj; exact hj
        obtain ⟨h1, h2⟩ := hgc.2.2 j hj2
        obtain ⟨A2, cap2, e, hi2, _⟩ := hgd j hj2
        rw [e] at h2
        have e2 : ((List.range (n + 1)).map fun j => (⟨ks j, ns j⟩ : Nd))[j] = ⟨ks j, ns j⟩ := by simp
        rw [e2]
        exact ⟨w1.heap.size, 0, A2, cap2, rfl, hgc.1, by rw [Nat.zero_add]; exact h1, by rw [Nat.zero_add]; exact h2, hi2⟩
      · have hj2 : j < n + 1 := by rw [hlen] at hj; exact hj
        have e2 : ((List.range (n + 1)).map fun j => (⟨ks j, ns j⟩ : Nd))[j] = ⟨ks j, ns j⟩ := by simp
        rw [e2, hlen]
        exact HOK.1 j hj2
end Go.Proofs.Ytgdeekghngpcfaa
