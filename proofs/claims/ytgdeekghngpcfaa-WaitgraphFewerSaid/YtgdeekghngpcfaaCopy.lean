/- A copy of a graph's nodes. -/
import Derived.Test.YtgdeekghngpcfaaLaw6
namespace Go.Proofs.Ytgdeekghngpcfaa
open Go.RowKit

theorem run_copy (w : World) (ty : TypeId) (g : Gr) (A : Option Addr) (cap : Nat) (hg : GraphAt w w.heap.size A g) (h1 : 1 ≤ g.length) (h2 : g.length ≤ 9) :
    ∃ hb hc w' vs, (Builtin.append_ #[22, 22] ty #[.slice (some ⟨w.heap.size, 0, none⟩) 0 0, .slice A g.length cap]).run Try.prog (w.alloc (.cells #[] 38)) = .ok (.slice (some ⟨hb, 0, none⟩) g.length hc) w' ∧
      Below w.heap.size w w' ∧ w.heap.size ≤ hb ∧ GC w' hb g.length (fun j => (g.getD j ⟨0, []⟩).k) vs ∧ ∀ j (h : j < g.length), ∃ nA ncap, vs j = .slice nA g[j].next.length ncap ∧ IntsAt w w.heap.size nA g[j].next := by
  obtain ⟨i0, hi, hz0, hz1, hz2⟩ := info_parts nodeInfo
  obtain ⟨b, off, _, _, rfl, hb, _⟩ := hg 0 (by omega)
  have hv : ∀ j : Nat, ∃ v : Value, ∀ h : j < g.length, w.cell? ⟨b, off + j * 2, none⟩ = some (.int .i64 g[j].k) ∧ w.cell? ⟨b, off + j * 2 + 1, none⟩ = some v ∧ ∃ nA ncap, v = .slice nA g[j].next.length ncap ∧ IntsAt w w.heap.size nA g[j].next := by
    intro j
    by_cases h : j < g.length
    · obtain ⟨b', off', nA, ncap, e, _, c1, c2, hI⟩ := hg j h
      injection e with e
      injection e with e1 e2
      subst e1
      subst e2
      exact ⟨_, fun _ => ⟨c1, c2, nA, ncap, rfl, hI⟩⟩
    · exact ⟨.bool true, fun h' => absurd h' h⟩
  obtain ⟨vs, hvs⟩ := Classical.skolem.1 hv
  have hown : (w.alloc (.cells #[] 38)).ownsRow w.heap.size 38 2 (.slice (some ⟨w.heap.size, 0, none⟩) 0 0) 0 [] :=
    ⟨by simp, .inr ⟨w.heap.size, 0, #[], rfl, Nat.le_refl _, heap_alloc_new w _, by simp, by unfold maxLen; omega, rfl, rfl⟩⟩
  have hcell : ∀ o, (w.alloc (.cells #[] 38)).cell? ⟨b, o, none⟩ = w.cell? ⟨b, o, none⟩ := fun o => ((Below.refl w.heap.size w).alloc (Nat.le_refl _) _).cell (p := ⟨b, o, none⟩) hb
  have hone : ∀ o, o < g.length * 2 → ∃ h : o / 2 < g.length, w.cell? ⟨b, off + o, none⟩ = some (if o % 2 = 0 then .int .i64 (g.getD (o / 2) ⟨0, []⟩).k else vs (o / 2)) := fun o ho => by
    have hlt : o / 2 < g.length := by omega
    refine ⟨hlt, ?_⟩
    obtain ⟨c1, c2, _⟩ := hvs (o / 2) hlt
    by_cases e : o % 2 = 0
    · rw [if_pos e, show off + o = off + o / 2 * 2 by omega, c1, List.getD_eq_getElem?_getD, List.getElem?_eq_getElem hlt]
      rfl
    · rw [if_neg e, show off + o = off + o / 2 * 2 + 1 by omega, c2]
  obtain ⟨v', w', hrun, hr1, hr2, _, _⟩ := run_append_own_at (P := Try.prog) (w.alloc (.cells #[] 38)) w.heap.size 22 ty 38 i0 (.agg #[.int .i64 0, .slice none 0 0]) 2 32 Try.underlying22 hi hz0 hz1 hz2 rfl (by decide)
    (.slice (some ⟨w.heap.size, 0, none⟩) 0 0) 0 [] hown ⟨b, off, none⟩ g.length cap ((List.range (g.length * 2)).map fun o => if o % 2 = 0 then Value.int .i64 (g.getD (o / 2) ⟨0, []⟩).k else vs (o / 2)) (by simp)
    (by
      intro j u hu
      rw [List.getElem?_map] at hu
      rcases Nat.lt_or_ge j (g.length * 2) with hj | hj
      · rw [List.getElem?_range hj] at hu
        injection hu with hu
        rw [addr_add, hcell, (hone j hj).2, ← hu]
      · rw [List.getElem?_eq_none (by simpa using hj)] at hu
        cases hu)
    (by
      intro u hu
      obtain ⟨o, ho, rfl⟩ := List.mem_map.1 hu
      have hlt := (hone o (List.mem_range.1 ho)).1
      obtain ⟨_, _, nA, ncap, e, _⟩ := hvs (o / 2) hlt
      show (if o % 2 = 0 then _ else _ : Value).oneCell' = true
      rw [e]
      by_cases e2 : o % 2 = 0
      · rw [if_pos e2]; rfl
      · rw [if_neg e2]; rfl) (by unfold maxLen; omega) (by omega) (by simp)
  have hbl : Below w.heap.size w w' := ((Below.refl w.heap.size w).alloc (Nat.le_refl _) _).trans ((Below.refl w.heap.size _).grown hr2 (by simp) (fun k hk => (hown.lt k hk).1))
  rw [Nat.zero_add, List.nil_append] at hr1
  rcases hr1.2 with ⟨_, hn⟩ | ⟨hb', hc, cur, rfl, hge, hh, hnc, hcm, hcs, ht⟩
  · omega
  · refine ⟨hb', hc, w', vs, hrun, hbl, hge, ⟨(Array.getElem?_eq_some_iff.1 hh).1, fun o => by simp [World.frozen?, hh], fun j hj => ?_⟩, fun j hj => ?_⟩
    · have hcur : ∀ o, o < g.length * 2 → w'.cell? ⟨hb', o, none⟩ = some (if o % 2 = 0 then Value.int .i64 (g.getD (o / 2) ⟨0, []⟩).k else vs (o / 2)) := fun o ho => by
        have h3 : w'.cell? ⟨hb', o, none⟩ = cur[o]? := by simp [World.cell?, hh]
        have h4 : (cur.toList.take (g.length * 2))[o]? = ((List.range (g.length * 2)).map fun o => if o % 2 = 0 then Value.int .i64 (g.getD (o / 2) ⟨0, []⟩).k else vs (o / 2))[o]? := by rw [ht]
        rw [List.getElem?_take_of_lt ho, List.getElem?_map, List.getElem?_range ho] at h4
        rw [h3]
        simpa using h4
      refine ⟨?_, ?_⟩
      · rw [hcur (j * 2) (by omega), if_pos (by omega), show j * 2 / 2 = j by omega]
      · rw [hcur (j * 2 + 1) (by omega), if_neg (by omega), show (j * 2 + 1) / 2 = j by omega]
    · obtain ⟨_, _, h⟩ := hvs j hj
      exact h

theorem copyNodes {ops : Array Oper} {rest : List Oper} {o : Oper} {a : Act} {Q : Exit → Act → World → Prop} (hgd : o.guard = none) (s x : Operand)
    (ho : o.op = .call { callee := .builtin .append, args := #[s, x], argTypes := #[22, 22] })
    (w : World) (g : Gr) (A : Option Addr) (cap nb : Nat) (hs : a.eval s = .slice (some ⟨nb, 0, none⟩) 0 0) (hnb : nb = w.heap.size) (hx : a.eval x = .slice A g.length cap) (hg : GraphAt w w.heap.size A g) (h1 : 1 ≤ g.length) (h2 : g.length ≤ 9)
    (h : ∀ hb hc w' vs, Below w.heap.size w w' → w.heap.size ≤ hb → GC w' hb g.length (fun j => (g.getD j ⟨0, []⟩).k) vs → (∀ j (h : j < g.length), ∃ nA ncap, vs j = .slice nA g[j].next.length ncap ∧ IntsAt w w.heap.size nA g[j].next) →
      wpList Try.prog ops Q rest (a.put o.dst (.slice (some ⟨hb, 0, none⟩) g.length hc)) w') :
    wpList Try.prog ops Q (o :: rest) a (w.alloc (.cells #[] 38)) := by
  subst hnb
  refine wpList_plain hgd fun K hK => ?_
  obtain ⟨hb, hc, w', vs, hrun, e1, e2, e3, e4⟩ := run_copy w o.type g A cap hg h1 h2
  unfold Oper.wp execOp
  simp only [ho, resolve, invoke, builtin, Sem.run_bind, Sem.run_pure, Result.andThen_ok, List.map_toArray, List.map_cons, List.map_nil, hs, hx, hrun]
  exact hK _ _ (h hb hc w' vs e1 e2 e3 e4)

/-- The graph g, but for the number of node x. -/
theorem graph_with (g : Gr) (x : Nat) (K : Int) : ∃ h : Gr, h.length = g.length ∧ ∀ j (h1 : j < h.length) (h2 : j < g.length), h[j].k = (if j = x then K else g[j].k) ∧ h[j].next = g[j].next := by
  refine ⟨g.set x ⟨K, (g.getD x ⟨0, []⟩).next⟩, List.length_set, fun j h1 h2 => ?_⟩
  rw [List.getElem_set]
  by_cases e : x = j
  · subst e
    rw [if_pos rfl, if_pos rfl, List.getD_eq_getElem?_getD, List.getElem?_eq_getElem h2]
    exact ⟨rfl, rfl⟩
  · rw [if_neg e, if_neg (fun e' => e e'.symm)]
    exact ⟨rfl, rfl⟩
theorem GC.graph {w0 w : World} {gb : Nat} {g h : Gr} {ks : Nat → Int} {vs : Nat → Value} (hc : GC w gb g.length ks vs) (hl : h.length = g.length) (hk : ∀ j (h1 : j < h.length), h[j].k = ks j) (hn : ∀ j (h1 : j < h.length) (h2 : j < g.length), h[j].next = g[j].next)
    (hv : ∀ j (h : j < g.length), ∃ nA ncap, vs j = .slice nA g[j].next.length ncap ∧ IntsAt w0 w0.heap.size nA g[j].next) (hb : Below w0.heap.size w0 w) : GraphAt w w.heap.size (some ⟨gb, 0, none⟩) h := by
  intro j hj
  obtain ⟨nA, ncap, e, hI⟩ := hv j (by omega)
  obtain ⟨c1, c2⟩ := hc.2.2 j (by omega)
  refine ⟨gb, 0, nA, ncap, rfl, hc.1, ?_, ?_, ?_⟩
  · rw [Nat.zero_add, c1, hk j hj]
  · rw [Nat.zero_add, c2, e, hn j hj (by omega)]
  · rw [hn j hj (by omega)]
    exact hI.below hb (Nat.le_refl _) hb.size
end Go.Proofs.Ytgdeekghngpcfaa
