/- Part 25 of 49 of the proof of waitgraphOf_holds (no condition). -/
import Derived.Test.YtogeihdfmnohnaaGreatDoorK04
import Derived.Test.YtogeihdfmnohnaaGreatDoorK24
set_option linter.unusedVariables false
set_option linter.unusedSimpArgs false
namespace Go.Proofs.YtogeihdfmnohnaaGreatDoor
open Go.RowKit Go.WideShapes Go.ChangeShapes Go.Deep Go.Joins
set_option maxRecDepth 100000
theorem Reps.map {α : Type} {E E' : El α} {w : World} {S : Nat → Prop} (hf : ∀ x cs, E.rep w S x cs → E'.rep w S x cs) : ∀ {l : List α} {xs : List Value}, Reps E w S l xs → Reps E' w S l xs
  | [], _, h => h
  | _ :: _, _, h => by
    obtain ⟨cs, rest, rfl, h1, h2⟩ := h
    exact ⟨cs, rest, rfl, hf _ _ h1, Reps.map hf h2⟩
theorem RowsAt.map {α : Type} {E E' : El α} {w : World} {S : Nat → Prop} {A : Option Addr} {l : List α} (hf : ∀ x cs, E.rep w S x cs → E'.rep w S x cs) (h : RowsAt E w S A l) : RowsAt E' w S A l := by
  obtain ⟨xs, h1, h2⟩ := h
  exact ⟨xs, h1.map hf, h2⟩
theorem exE_up : ∀ {d d' : Nat} {w : World} {S : Nat → Prop} {x : Ex} {cs : List Value}, d ≤ d' → (exE d).rep w S x cs → (exE d').rep w S x cs
  | 0, _, _, _, _, _, _, h => h.elim
  | d + 1, 0, _, _, _, _, hd, _ => absurd hd (by omega)
  | d + 1, d' + 1, _, _, _, _, hd, h => by
    obtain ⟨A, cap, rfl, h1, h2, h3⟩ := h
    exact ⟨A, cap, rfl, h1, h2, h3.map fun _ _ hx => exE_up (by omega) hx⟩
def OpensN {α : Type} (P : Program) (N : Nat) (E : El α) (t : TypeId) (fits : α → Prop) : Prop :=
  ∀ {H : Type} {enc : TypeId × Value → H} {w : World} {base : Nat} {spare : Nat → Bool} {held : Bool} {cs : List Value} {x : DataW H × List MemPlace}, DataW.trod enc P w base spare held N t cs = some x → ∃ y, E.rep w (Lo w.heap.size) y cs ∧ fits y
theorem Opens.n {α : Type} {P : Program} {E : El α} {t : TypeId} {fits : α → Prop} (h : Opens P E t fits) (N : Nat) : OpensN P N E t fits := fun hx => h hx
theorem OpensN.sl {α : Type} {P : Program} {N : Nat} {E : El α} {t e : TypeId} {fits : α → Prop} (ho : OpensN P N E e fits) (ht : P.underlying t = some (.slice e)) (hC : P.cellsOf e = E.n) : OpensN P (N + 1) E.sl t (fun l => l.length ≤ maxLen ∧ ∀ y ∈ l, fits y) := by
  intro H enc w base spare held cs x h
  rcases DataW.trod_slice ht h with ⟨rfl, _⟩ | ⟨a, len, cap, elems, rest, n, hn, rfl, _, hb, hl, hm, hlen, hi, _, _⟩
  · exact ⟨[], ⟨none, 0, rfl, by simp, by simp [maxLen], RowsAt.nil _ _ _ _⟩, by simp [maxLen], by simp⟩
  · obtain rfl : N = n := by omega
    rcases Nat.eq_zero_or_pos len with h0 | h0
    · subst h0
      exact ⟨[], ⟨some a, cap, rfl, by simp, hm, RowsAt.nil _ _ _ _⟩, by simp [maxLen], by simp⟩
    · have hi2 : ∀ i, i < len → ∃ cs' y, w.cells? base (a.add (i * P.cellsOf e)) (P.cellsOf e) = some cs' ∧ DataW.trod enc P w base spare held N e cs' = some y := by
        intro i hil
        have h1 := hi i hil
        rw [List.getElem?_eq_getElem (by omega)] at h1
        obtain ⟨cs', h2, h3⟩ := Option.bind_eq_some_iff.1 h1
        exact ⟨cs', _, h2, h3⟩
      have hplain : ∃ b off, a = ⟨b, off, none⟩ := by
        obtain ⟨cs', _, hc, _⟩ := hi2 0 (by omega)
        obtain ⟨_, hcl, hat⟩ := World.cells?_some hc
        have hp := E.pos
        have h1 := hat 0 (by omega)
        rw [Nat.zero_mul, List.getElem?_eq_getElem (by omega)] at h1
        have e0 : (a.add 0).add 0 = a.add 0 := by rw [Go.Deep.add_add]
        rw [e0] at h1
        exact cell_plain h1
      obtain ⟨b, off, rfl⟩ := hplain
      have hel : ∀ i, i < len → ∃ y cs, E.rep w (Lo w.heap.size) y cs ∧ fits y ∧ ∀ j u, cs[j]? = some u → w.cell? ⟨b, off + i * E.n + j, none⟩ = some u := by
        intro i hil
        obtain ⟨cs', _, hc, hd⟩ := hi2 i hil
        obtain ⟨y, hy, hf⟩ := ho hd
        obtain ⟨_, hcl, hat⟩ := World.cells?_some hc
        refine ⟨y, cs', hy, hf, fun j u hu => ?_⟩
        have hj : j < cs'.length := (List.getElem?_eq_some_iff.1 hu).1
        have h1 := hat j (by omega)
        rw [hu, addr_add, addr_add, hC] at h1
        exact h1
      obtain ⟨l, xs, k1, k2, k3, k4⟩ := reps_of len off hel
      subst k1
      refine ⟨l, ⟨_, cap, rfl, hl, hm, xs, k2, fun _ => ⟨b, off, rfl, ?_, k4⟩⟩, by omega, k3⟩
      have hxl := k2.length
      have hp := E.pos
      have : 0 < xs.length := by rw [hxl]; exact Nat.mul_pos h0 hp
      exact World.block_lt_of_cell? w _ (k4 0 _ (List.getElem?_eq_getElem this))
theorem opens_am : Opens Tryz.prog amE 53 (fun _ => True) := by
  intro H enc w base spare held fuel cs x h
  obtain ⟨y0, y1, n, _, hl, h0, h1⟩ := trod_struct2 Tryz.underlying53 h
  have hl2 : cs.length = 2 := hl.trans (by kernel_rfl)
  match cs, hl2 with
  | [c0, c1], _ =>
    have e1 : Tryz.prog.cellsOf 3 = 1 := by kernel_rfl
    obtain ⟨a, g0, w0⟩ := opens_int Tryz.underlying3 h0
    obtain ⟨b, g1, w1⟩ := opens_int Tryz.underlying3 h1
    refine ⟨⟨a, b⟩, ?_, trivial⟩
    have g0' : ([c0, c1].drop 0).take (Tryz.prog.cellsOf 3) = [.int .i64 a] := g0
    have g1' : ([c0, c1].drop 1).take (Tryz.prog.cellsOf 3) = [.int .i64 b] := g1
    rw [e1] at g0' g1'
    simp at g0' g1'
    show [c0, c1] = [.int .i64 a, .int .i64 b]
    rw [g0', g1']
theorem opens_tm : Opens Tryz.prog tmE 55 (fun _ => True) := by
  intro H enc w base spare held fuel cs x h
  obtain ⟨y0, y1, n, _, hl, h0, h1⟩ := trod_struct2 Tryz.underlying55 h
  have hl2 : cs.length = 3 := hl.trans (by kernel_rfl)
  match cs, hl2 with
  | [c0, c1, c2], _ =>
    have e1 : Tryz.prog.cellsOf 9 = 1 := by kernel_rfl
    have e2 : Tryz.prog.cellsOf 53 = 2 := by kernel_rfl
    obtain ⟨a, g0, w0⟩ := opens_str Tryz.underlying9 h0
    obtain ⟨⟨m, u⟩, g1, w1⟩ := opens_am h1
    refine ⟨⟨a, ⟨m, u⟩⟩, ?_, trivial⟩
    have g0' : ([c0, c1, c2].drop 0).take (Tryz.prog.cellsOf 9) = [.string a] := g0
    have g1' : ([c0, c1, c2].drop 1).take (Tryz.prog.cellsOf 53) = [.int .i64 m, .int .i64 u] := g1
    rw [e1] at g0'
    rw [e2] at g1'
    simp at g0' g1'
    show [c0, c1, c2] = [.string a, .int .i64 m, .int .i64 u]
    rw [g0', g1'.1, g1'.2]
theorem opens_ho : Opens Tryz.prog hoE 126 (fun _ => True) := by
  intro H enc w base spare held fuel cs x h
  obtain ⟨y0, y1, n, _, hl, h0, h1⟩ := trod_struct2 Tryz.underlying126 h
  have hl2 : cs.length = 5 := hl.trans (by kernel_rfl)
  match cs, hl2 with
  | [c0, c1, c2, c3, c4], _ =>
    have e1 : Tryz.prog.cellsOf 51 = 3 := by kernel_rfl
    have e2 : Tryz.prog.cellsOf 53 = 2 := by kernel_rfl
    obtain ⟨⟨a, b, c⟩, g0, _⟩ := opens_pr h0
    obtain ⟨⟨m, u⟩, g1, _⟩ := opens_am h1
    refine ⟨⟨⟨a, b, c⟩, ⟨m, u⟩⟩, ?_, trivial⟩
    have g0' : ([c0, c1, c2, c3, c4].drop 0).take (Tryz.prog.cellsOf 51) = [.int .i64 a, .int .i64 b, .int .i64 c] := g0
    have g1' : ([c0, c1, c2, c3, c4].drop 3).take (Tryz.prog.cellsOf 53) = [.int .i64 m, .int .i64 u] := g1
    rw [e1] at g0'
    rw [e2] at g1'
    simp at g0' g1'
    show [c0, c1, c2, c3, c4] = [.int .i64 a, .int .i64 b, .int .i64 c, .int .i64 m, .int .i64 u]
    rw [g0'.1, g0'.2.1, g0'.2.2, g1'.1, g1'.2]
theorem opens_wt : Opens Tryz.prog wtE 87 (fun _ => True) := by
  intro H enc w base spare held fuel cs x h
  obtain ⟨y0, y1, y2, y3, n, _, hl, h0, h1, h2, h3⟩ := trod_struct4 Tryz.underlying87 h
  have hl2 : cs.length = 7 := hl.trans (by kernel_rfl)
  match cs, hl2 with
  | [c0, c1, c2, c3, c4, c5, c6], _ =>
    have e1 : Tryz.prog.cellsOf 51 = 3 := by kernel_rfl
    have e2 : Tryz.prog.cellsOf 53 = 2 := by kernel_rfl
    have e3 : Tryz.prog.cellsOf 3 = 1 := by kernel_rfl
    obtain ⟨⟨a, b, c⟩, g0, _⟩ := opens_pr h0
    obtain ⟨⟨m, u⟩, g1, _⟩ := opens_am h1
    obtain ⟨p, g2, _⟩ := opens_int Tryz.underlying3 h2
    obtain ⟨q, g3, _⟩ := opens_int Tryz.underlying3 h3
    refine ⟨⟨⟨a, b, c⟩, ⟨m, u⟩, p, q⟩, ?_, trivial⟩
    have g0' : ([c0, c1, c2, c3, c4, c5, c6].drop 0).take (Tryz.prog.cellsOf 51) = [.int .i64 a, .int .i64 b, .int .i64 c] := g0
    have g1' : ([c0, c1, c2, c3, c4, c5, c6].drop 3).take (Tryz.prog.cellsOf 53) = [.int .i64 m, .int .i64 u] := g1
    have g2' : ([c0, c1, c2, c3, c4, c5, c6].drop 5).take (Tryz.prog.cellsOf 3) = [.int .i64 p] := g2
    have g3' : ([c0, c1, c2, c3, c4, c5, c6].drop 6).take (Tryz.prog.cellsOf 3) = [.int .i64 q] := g3
    rw [e1] at g0'
    rw [e2] at g1'
    rw [e3] at g2' g3'
    simp at g0' g1' g2' g3'
    show [c0, c1, c2, c3, c4, c5, c6] = [.int .i64 a, .int .i64 b, .int .i64 c, .int .i64 m, .int .i64 u, .int .i64 p, .int .i64 q]
    rw [g0'.1, g0'.2.1, g0'.2.2, g1'.1, g1'.2, g2', g3']
theorem opens_qu : Opens Tryz.prog quE 48 (fun _ => True) := by
  intro H enc w base spare held fuel cs x h
  obtain ⟨xs, n, _, _, hl, hlen, hf⟩ := DataW.trod_struct Tryz.underlying48 h
  have hl2 : cs.length = 8 := hl.trans (by kernel_rfl)
  have hg : ∀ (i : Nat) (f : Field), _ = some f → ∃ y, DataW.trod enc Tryz.prog w base spare held n f.type ((cs.drop f.offset).take (Tryz.prog.cellsOf f.type)) = some y := fun i f hi => by
    have h1 := hf i f hi
    have h2 : i < xs.length := by rw [hlen]; exact (Array.getElem?_eq_some_iff.1 hi).1
    rw [List.getElem?_eq_getElem h2] at h1
    exact ⟨_, h1⟩
  match cs, hl2 with
  | [c0, c1, c2, c3, c4, c5, c6, c7], _ =>
    obtain ⟨_, h0⟩ := hg 0 _ rfl
    obtain ⟨_, h1⟩ := hg 1 _ rfl
    obtain ⟨_, h2⟩ := hg 2 _ rfl
    obtain ⟨_, h3⟩ := hg 3 _ rfl
    obtain ⟨_, h4⟩ := hg 4 _ rfl
    have e1 : Tryz.prog.cellsOf 44 = 4 := by kernel_rfl
    have e2 : Tryz.prog.cellsOf 45 = 1 := by kernel_rfl
    have e3 : Tryz.prog.cellsOf 46 = 1 := by kernel_rfl
    have e4 : Tryz.prog.cellsOf 3 = 1 := by kernel_rfl
    obtain ⟨⟨rn, rk, ru, rh⟩, g0, _⟩ := opens_res h0
    obtain ⟨hs, ⟨A1, k1, g1, a1, b1, r1⟩, _⟩ := (opens_ho.sl Tryz.underlying45 (by kernel_rfl)) h1
    obtain ⟨vs, ⟨A2, k2, g2, a2, b2, r2⟩, _⟩ := (opens_wt.sl Tryz.underlying46 (by kernel_rfl)) h2
    obtain ⟨ws, ⟨A3, k3, g3, a3, b3, r3⟩, _⟩ := (opens_wt.sl Tryz.underlying46 (by kernel_rfl)) h3
    obtain ⟨gen, g4, _⟩ := opens_int Tryz.underlying3 h4
    refine ⟨⟨⟨rn, rk, ru, rh⟩, hs, vs, ws, gen⟩, ⟨A1, A2, A3, k1, k2, k3, ?_, Nat.le_trans a1 b1, Nat.le_trans a2 b2, Nat.le_trans a3 b3, r1, r2, r3⟩, trivial⟩
    have g0' : ([c0, c1, c2, c3, c4, c5, c6, c7].drop 0).take (Tryz.prog.cellsOf 44) = [.string rn, .int .i64 rk, .int .i64 ru, .int .i64 rh] := g0
    have g1' : ([c0, c1, c2, c3, c4, c5, c6, c7].drop 4).take (Tryz.prog.cellsOf 45) = [.slice A1 hs.length k1] := g1
    have g2' : ([c0, c1, c2, c3, c4, c5, c6, c7].drop 5).take (Tryz.prog.cellsOf 46) = [.slice A2 vs.length k2] := g2
    have g3' : ([c0, c1, c2, c3, c4, c5, c6, c7].drop 6).take (Tryz.prog.cellsOf 46) = [.slice A3 ws.length k3] := g3
    have g4' : ([c0, c1, c2, c3, c4, c5, c6, c7].drop 7).take (Tryz.prog.cellsOf 3) = [.int .i64 gen] := g4
    rw [e1] at g0'
    rw [e2] at g1'
    rw [e3] at g2' g3'
    rw [e4] at g4'
    simp at g0' g1' g2' g3' g4'
    show [c0, c1, c2, c3, c4, c5, c6, c7] = [.string rn, .int .i64 rk, .int .i64 ru, .int .i64 rh, .slice A1 hs.length k1, .slice A2 vs.length k2, .slice A3 ws.length k3, .int .i64 gen]
    rw [g0'.1, g0'.2.1, g0'.2.2.1, g0'.2.2.2, g1', g2', g3', g4']
theorem opens_ex : ∀ N : Nat, OpensN Tryz.prog N (exE N) 58 (fun _ => True) := by
  intro N
  induction N using Nat.strongRecOn with
  | ind N ih =>
    intro H enc w base spare held cs x h
    obtain ⟨xs, n, hN, _, hl, hlen, hf⟩ := DataW.trod_struct Tryz.underlying58 h
    have hl2 : cs.length = 5 := hl.trans (by kernel_rfl)
    have hg : ∀ (i : Nat) (f : Field), _ = some f → ∃ y, DataW.trod enc Tryz.prog w base spare held n f.type ((cs.drop f.offset).take (Tryz.prog.cellsOf f.type)) = some y := fun i f hi => by
      have h1 := hf i f hi
      have h2 : i < xs.length := by rw [hlen]; exact (Array.getElem?_eq_some_iff.1 hi).1
      rw [List.getElem?_eq_getElem h2] at h1
      exact ⟨_, h1⟩
    subst hN
    match cs, hl2 with
    | [c0, c1, c2, c3, c4], _ =>
      obtain ⟨_, h0⟩ := hg 0 _ rfl
      obtain ⟨_, h1⟩ := hg 1 _ rfl
      obtain ⟨_, h2⟩ := hg 2 _ rfl
      have e1 : Tryz.prog.cellsOf 3 = 1 := by kernel_rfl
      have e2 : Tryz.prog.cellsOf 55 = 3 := by kernel_rfl
      have e3 : Tryz.prog.cellsOf 56 = 1 := by kernel_rfl
      obtain ⟨k, g0, _⟩ := opens_int Tryz.underlying3 h0
      obtain ⟨⟨nm, ⟨m, u⟩⟩, g1, _⟩ := opens_tm h1
      cases n with
      | zero => simp [DataW.trod] at h2
      | succ n =>
        obtain ⟨ks, ⟨A, cap, g2, a2, b2, r2⟩, _⟩ := (OpensN.sl (ih n (by omega)) Tryz.underlying56 ((by kernel_rfl : Tryz.prog.cellsOf 58 = 5).trans (exE_n n).symm)) h2
        refine ⟨.mk k ⟨nm, ⟨m, u⟩⟩ ks, ⟨A, cap, ?_, a2, b2, r2.map fun _ _ hx => exE_up (by omega) hx⟩, trivial⟩
        have g0' : ([c0, c1, c2, c3, c4].drop 0).take (Tryz.prog.cellsOf 3) = [.int .i64 k] := g0
        have g1' : ([c0, c1, c2, c3, c4].drop 1).take (Tryz.prog.cellsOf 55) = [.string nm, .int .i64 m, .int .i64 u] := g1
        have g2' : ([c0, c1, c2, c3, c4].drop 4).take (Tryz.prog.cellsOf 56) = [.slice A ks.length cap] := g2
        rw [e1] at g0'
        rw [e2] at g1'
        rw [e3] at g2'
        simp at g0' g1' g2'
        show [c0, c1, c2, c3, c4] = [.int .i64 k, .string nm, .int .i64 m, .int .i64 u, .slice A ks.length cap]
        rw [g0', g1'.1, g1'.2.1, g1'.2.2, g2']
theorem opens_nd (N : Nat) : OpensN Tryz.prog N (ndE N) 60 (fun _ => True) := by
  intro H enc w base spare held cs x h
  obtain ⟨xs, n, hN, _, hl, hlen, hf⟩ := DataW.trod_struct Tryz.underlying60 h
  have hl2 : cs.length = 9 := hl.trans (by kernel_rfl)
  have hg : ∀ (i : Nat) (f : Field), _ = some f → ∃ y, DataW.trod enc Tryz.prog w base spare held n f.type ((cs.drop f.offset).take (Tryz.prog.cellsOf f.type)) = some y := fun i f hi => by
    have h1 := hf i f hi
    have h2 : i < xs.length := by rw [hlen]; exact (Array.getElem?_eq_some_iff.1 hi).1
    rw [List.getElem?_eq_getElem h2] at h1
    exact ⟨_, h1⟩
  subst hN
  match cs, hl2 with
  | [c0, c1, c2, c3, c4, c5, c6, c7, c8], _ =>
    obtain ⟨_, h0⟩ := hg 0 _ rfl
    obtain ⟨_, h1⟩ := hg 1 _ rfl
    obtain ⟨_, h2⟩ := hg 2 _ rfl
    have e1 : Tryz.prog.cellsOf 51 = 3 := by kernel_rfl
    have e2 : Tryz.prog.cellsOf 58 = 5 := by kernel_rfl
    have e3 : Tryz.prog.cellsOf 3 = 1 := by kernel_rfl
    obtain ⟨⟨a, b, c⟩, g0, _⟩ := opens_pr h0
    obtain ⟨⟨k, ⟨nm, ⟨m, u⟩⟩, ks⟩, g1, _⟩ := opens_ex n h1
    obtain ⟨gen, g2, _⟩ := opens_int Tryz.underlying3 h2
    cases n with
    | zero => exact g1.elim
    | succ n =>
      obtain ⟨A, cap, g1, a1, b1, r1⟩ := g1
      refine ⟨⟨⟨a, b, c⟩, .mk k ⟨nm, ⟨m, u⟩⟩ ks, gen⟩, ⟨A, cap, ?_, ⟨a1, b1⟩, r1.map fun _ _ hx => exE_up (by omega) hx⟩, trivial⟩
      have g0' : ([c0, c1, c2, c3, c4, c5, c6, c7, c8].drop 0).take (Tryz.prog.cellsOf 51) = [.int .i64 a, .int .i64 b, .int .i64 c] := g0
      have g1' : ([c0, c1, c2, c3, c4, c5, c6, c7, c8].drop 3).take (Tryz.prog.cellsOf 58) = [.int .i64 k, .string nm, .int .i64 m, .int .i64 u, .slice A ks.length cap] := g1
      have g2' : ([c0, c1, c2, c3, c4, c5, c6, c7, c8].drop 8).take (Tryz.prog.cellsOf 3) = [.int .i64 gen] := g2
      rw [e1] at g0'
      rw [e2] at g1'
      rw [e3] at g2'
      simp at g0' g1' g2'
      show [c0, c1, c2, c3, c4, c5, c6, c7, c8] = [.int .i64 a, .int .i64 b, .int .i64 c, .int .i64 k, .string nm, .int .i64 m, .int .i64 u, .slice A ks.length cap, .int .i64 gen]
      rw [g0'.1, g0'.2.1, g0'.2.2, g1'.1, g1'.2.1, g1'.2.2.1, g1'.2.2.2.1, g1'.2.2.2.2, g2']
section
variable {H : Type} {enc : TypeId × Value → H} {w : World} {base : Nat} {spare : Nat → Bool} {held : Bool}
theorem open_stateV {r : Reach} {b0 : Nat} {v : Value} {d : DataW H} {p : List MemPlace} (hv : Value.okWide Tryz.prog w r b0 25 v) (h : DataW.Trod enc Tryz.prog w base spare held 25 v d p) :
    ∃ (s : Ws) (D : Nat) (A1 A2 : Option Addr) (c1 c2 : Nat), v = s.val A1 A2 c1 c2 ∧ WF w w.heap.size D A1 A2 s := by
  obtain ⟨cs, rfl, hsz⟩ := okWide_struct Tryz.underlying25 hv
  obtain ⟨fuel, hf⟩ := h
  have hs2 : cs.toList.length = 2 := by rw [Array.length_toList, hsz]; kernel_rfl
  obtain ⟨y0, y1, n, _, hl, h0, h1⟩ := trod_struct2 Tryz.underlying25 hf
  have hc2 : (Value.agg cs).cells.toList = cs.toList := by simp [Value.cells]
  rw [hc2] at h0 h1
  obtain ⟨c⟩ := cs
  match c, hs2 with
  | [c0, c1], _ =>
    have e0 : Tryz.prog.cellsOf 22 = 1 := by kernel_rfl
    have e1 : Tryz.prog.cellsOf 23 = 1 := by kernel_rfl
    obtain ⟨qs, ⟨A1, k1, g1, a1, b1, r1⟩, _⟩ := (opens_qu.sl Tryz.underlying22 (by kernel_rfl)) h0
    cases n with
    | zero => simp [DataW.trod] at h1
    | succ n =>
      obtain ⟨ns, ⟨A2, k2, g2, a2, b2, r2⟩, _⟩ := (OpensN.sl (opens_nd n) Tryz.underlying23 (by kernel_rfl)) h1
      refine ⟨⟨qs, ns⟩, n, A1, A2, k1, k2, ?_, r1, r2, Nat.le_trans a1 b1, Nat.le_trans a2 b2, Nat.le_refl _⟩
      have g1' : ([c0, c1].drop 0).take (Tryz.prog.cellsOf 22) = [.slice A1 qs.length k1] := g1
      have g2' : ([c0, c1].drop 1).take (Tryz.prog.cellsOf 23) = [.slice A2 ns.length k2] := g2
      rw [e0] at g1'
      rw [e1] at g2'
      simp at g1' g2'
      show Value.agg #[c0, c1] = _
      rw [g1', g2']
      rfl
end
end Go.Proofs.YtogeihdfmnohnaaGreatDoor
