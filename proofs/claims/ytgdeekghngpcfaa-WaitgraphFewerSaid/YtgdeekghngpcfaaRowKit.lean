/- How an argument that is a graph is read, and how a law that leaves all alone meets its row. -/
import Derived.Test.YtgdeekghngpcfaaWide
import Derived.ProofKit
import Derived.Deep.Slices
import Derived.Deep.Fields
import Derived.ChangeSame
import Derived.OpenShut
namespace Go.Proofs.Ytgdeekghngpcfaa
open Go.RowKit Go.WideShapes Go.ChangeShapes Go.Deep

section
variable {H : Type} {enc : TypeId × Value → H} {P : Program} {w : World} {base : Nat} {spare : Nat → Bool} {held : Bool}
theorem open_slice_fields {t e : TypeId} {fs : Array Field} {fuel : Nat} {cs : List Value} {x : DataW H × List MemPlace} (ht : P.underlying t = some (.slice e)) (he : P.underlying e = some (.struct fs))
    (hone : oneCellFields P fs = true) (hC : P.cellsOf e = fs.size) (h : DataW.trod enc P w base spare held fuel t cs = some x) :
    (cs = [.slice none 0 0] ∧ x = (.nil, [])) ∨
    ∃ (a : Addr) (len cap m : Nat) (D : Nat → DataW H) (Pl : Nat → List MemPlace), cs = [.slice (some a) len cap] ∧ base ≤ a.block ∧ len ≤ cap ∧ cap ≤ maxLen ∧ m = (if spare a.block then cap else len) ∧
      x = (.slice ((List.range len).map D) ((List.range (m - len)).map fun j => D (len + j)), MemPlace.row a (m * fs.size) ++ (List.range m).flatMap Pl) ∧
      ∀ i, i < m → ∃ (ys : List (DataW H × List MemPlace)) (n : Nat), D i = .agg (ys.map (·.1)) ∧ Pl i = ys.flatMap (·.2) ∧ ys.length = fs.size ∧
        ∀ (j : Nat) (f : Field), fs[j]? = some f → ∃ (v : Value) (y : DataW H × List MemPlace), w.cell? (a.add (i * fs.size + j)) = some v ∧ ys[j]? = some y ∧ DataW.trod enc P w base spare held n f.type [v] = some y := by
  rcases open_slice ht h with h0 | ⟨a, len, cap, m, n, D, Pl, hcs, hb, hl, hm, hmm, hx, hi⟩
  · exact .inl h0
  · refine .inr ⟨a, len, cap, m, D, Pl, hcs, hb, hl, hm, hmm, by rw [hC] at hx; exact hx, fun i him => ?_⟩
    obtain ⟨cs', hc, ht'⟩ := hi i him
    rw [hC] at hc
    obtain ⟨ys, n', hn', hy, hlen, hyl, hf⟩ := DataW.trod_struct he ht'
    obtain ⟨_, hcl, hat⟩ := World.cells?_some hc
    simp only [Prod.mk.injEq] at hy
    refine ⟨ys, n', hy.1, hy.2, hyl, fun j f hj => ?_⟩
    obtain ⟨ho, hk⟩ := hone_of hone j f hj
    have hjl : j < fs.size := (Array.getElem?_eq_some_iff.1 hj).1
    have hcell := hat j hjl
    have hv : cs'[j]? = some (cs'[j]'(by omega)) := List.getElem?_eq_getElem (by omega)
    have h1 := hf j f hj
    rw [ho, hk] at h1
    have hone' : (cs'.drop j).take 1 = [cs'[j]'(by omega)] := by
      rw [List.drop_eq_getElem_cons (by omega)]
      rfl
    rw [hone'] at h1
    have hys : ys[j]? = some (ys[j]'(by omega)) := List.getElem?_eq_getElem (by omega)
    refine ⟨_, _, ?_, hys, h1.trans hys⟩
    rw [← Go.Deep.add_add, hcell, hv]
end

section
variable {H : Type} {enc : TypeId × Value → H} {P : Program}
theorem post_of_below {f : Func} {s : ChangeSpec} {apart fresh handsOn again : Bool} {W W' : World} {args : Array Value} {v : Value} {ds gs : List (DataW H)} {before pa pv : List MemPlace}
    (hW : DataW.Whole enc P f.params.toList s.vars apart W args.toList ds gs before)
    (hres : ∀ (b : Nat) (sp : Nat → Bool) (hd : Bool), DataW.TrodAll enc P W' b sp hd f.resultTypes.toList (v.resultList f.resultTypes.size) (s.fn H (ds ++ gs)).results [])
    (hargs : ∀ sp : Nat → Bool, (∀ p ∈ before, sp p.block = true) → DataW.TrodAll enc P W' 0 sp true f.params.toList args.toList (s.fn H (ds ++ gs)).args pa)
    (hvars : ∀ sp : Nat → Bool, (∀ p ∈ before, sp p.block = true) → DataW.TrodVars enc P W' sp s.vars (s.fn H (ds ++ gs)).vars pv)
    (hps : before = pa ++ pv) (hb : Below W.heap.size W W')
    (hok : ∀ (j : Nat) (t : TypeId) (r : Value), f.resultTypes[j]? = some t → (v.resultList f.resultTypes.size)[j]? = some r → Value.okWide P W' .any 0 t r) :
    s.post enc P f apart fresh handsOn again W args v W' := by
  have hlt : ∀ p ∈ before, p.block < W.heap.size := fun p hp => hW.lt p hp
  have hold : ∀ p ∈ before, (fun b => decide (b < W.heap.size)) p.block = true := fun p hp => by simpa using hlt p hp
  refine ⟨ds, gs, before, [], pa, pv, hW, hres _ _ _, hargs _ hold, hvars _ hold, World.keptBut_mono (fun p hp => ⟨hp, ?_⟩) (hb.frame (· ∈ before)), fun _ => ?_⟩
  · rw [hps, List.mem_append] at hp
    exact Or.inr hp
  · obtain ⟨_, _, _, _, _, hz, hn⟩ := hW
    refine ⟨hok, _, _, ([] ++ pa) ++ pv, ⟨[] ++ pa, pv, trodAll_append (hargs _ (fun _ _ => rfl)) (hres _ _ _), hvars _ (fun _ _ => rfl), rfl, ?_, ?_⟩, ?_⟩
    · intro b off hp
      have hin : MemPlace.cell b off ∈ before := by rw [hps]; simpa using hp
      rw [hb.frozen (hlt _ hin)]
      exact hz b off hin
    · intro ha
      have := hn ha
      rw [hps] at this
      simpa using this
    · intro p hp _
      rw [hps]
      simpa using hp
end

theorem Try.own : ownKnob Try.prog.godebug = none := by kernel_rfl
theorem Try.laidOut : laidOutB Try.prog = true := by kernel_rfl

theorem cell_plain {w : World} {a : Addr} {v : Value} (h : w.cell? (a.add 0) = some v) : ∃ b off, a = ⟨b, off, none⟩ := by
  obtain ⟨b, off, spot⟩ := a
  have hspot : spot = none := by simpa [Addr.add] using World.cell?_spot h
  subst hspot
  exact ⟨b, off, rfl⟩
theorem wf_i64 {n : Int} (h : (Lit.int .i64 n).wf = true) : -9223372036854775808 ≤ n ∧ n ≤ 9223372036854775807 := by
  have := bounds_i64 h
  omega

/-- The reading of a slice of numbers. -/
theorem ints_open {H : Type} {enc : TypeId × Value → H} {w : World} {base : Nat} {spare : Nat → Bool} {held : Bool} {fuel : Nat} {v : Value} {x : DataW H × List MemPlace} (h : DataW.trod enc Try.prog w base spare held fuel 26 [v] = some x) :
    ∃ A l cap, v = .slice A l.length cap ∧ IntsAt w w.heap.size A l ∧ l.length ≤ 9223372036854775807 ∧ ∀ j (h : j < l.length), -9223372036854775808 ≤ l[j] ∧ l[j] ≤ 9223372036854775807 := by
  rcases open_ints Try.underlying26 Try.underlying3 (by kernel_rfl) h with ⟨hcs, _⟩ | ⟨a, len, cap, zs, hcs, _, hl, hm, hz, _, hcell, hwz⟩
  · injection hcs with hcs
    exact ⟨none, [], 0, hcs, IntsAt.nil _ _ _, by simp, fun j h => absurd h (by simp)⟩
  · injection hcs with hcs
    have hzl : len ≤ zs.length := by rw [hz]; split <;> omega
    have hlen : (zs.take len).length = len := by simp; omega
    refine ⟨some a, zs.take len, cap, by rw [hlen]; exact hcs, fun j hj => ?_, by unfold maxLen at hm; omega, fun j hj => ?_⟩
    · have hj2 : j < zs.length := by omega
      obtain ⟨b, off, ha, hc⟩ := ints_at hcell (by omega)
      have h1 := hc j hj2
      refine ⟨b, off, by rw [ha], World.block_lt_of_cell? w _ h1, ?_⟩
      rw [h1]
      simp [List.getElem?_eq_getElem hj2]
    · exact wf_i64 (hwz _ (List.mem_of_mem_take (List.getElem_mem hj)))

/-- The reading of a slice of nodes. -/
theorem graph_open {H : Type} {enc : TypeId × Value → H} {w : World} {base : Nat} {spare : Nat → Bool} {held : Bool} {fuel : Nat} {v : Value} {x : DataW H × List MemPlace} (h : DataW.trod enc Try.prog w base spare held fuel 22 [v] = some x) :
    ∃ A g cap, v = .slice A (List.length g) cap ∧ GraphAt w w.heap.size A g ∧ WideG g := by
  rcases open_slice_fields Try.underlying22 Try.underlying38 (by kernel_rfl) (by kernel_rfl) h with ⟨hcs, _⟩ | ⟨a, len, cap, m, D, Pl, hcs, _, hl, hm, hmm, _, hf⟩
  · injection hcs with hcs
    exact ⟨none, [], 0, hcs, fun i h => absurd h (by simp), by simp, fun i h => absurd h (by simp)⟩
  · injection hcs with hcs
    have hml : len ≤ m := by rw [hmm]; split <;> omega
    have hex : ∀ i, ∃ nd : Nd, i < len → ∃ b off nA ncap, a = ⟨b, off, none⟩ ∧ b < w.heap.size ∧ w.cell? ⟨b, off + i * 2, none⟩ = some (.int .i64 nd.k) ∧
        w.cell? ⟨b, off + i * 2 + 1, none⟩ = some (.slice nA nd.next.length ncap) ∧ IntsAt w w.heap.size nA nd.next ∧ nd.next.length ≤ 9223372036854775807 ∧ (-9223372036854775808 ≤ nd.k ∧ nd.k ≤ 9223372036854775807) ∧
        ∀ j (h2 : j < nd.next.length), -9223372036854775808 ≤ nd.next[j] ∧ nd.next[j] ≤ 9223372036854775807 := by
      intro i
      by_cases hi : i < len
      · obtain ⟨ys0, _, _, _, _, hf0⟩ := hf 0 (by omega)
        obtain ⟨v0, _, hc0, _, _⟩ := hf0 0 _ rfl
        obtain ⟨b, off, rfl⟩ := cell_plain (by simpa using hc0)
        obtain ⟨ys, n, _, _, _, hfi⟩ := hf i (by omega)
        obtain ⟨v1, y1, hc1, _, ht1⟩ := hfi 0 _ rfl
        obtain ⟨v2, y2, hc2, _, ht2⟩ := hfi 1 _ rfl
        obtain ⟨k, e1, _, wk⟩ := DataW.trod_int Try.underlying3 ht1
        injection e1 with e1
        subst e1
        obtain ⟨nA, l, ncap, rfl, hl1, hl2, hl3⟩ := ints_open ht2
        rw [add_plain] at hc1 hc2
        exact ⟨⟨k, l⟩, fun _ => ⟨b, off, nA, ncap, rfl, World.block_lt_of_cell? w _ hc1, by simpa using hc1, by simpa [Nat.add_assoc] using hc2, hl1, hl2, wf_i64 wk, hl3⟩⟩
      · exact ⟨⟨0, []⟩, fun h => absurd h hi⟩
    obtain ⟨f, hfn⟩ := Classical.axiomOfChoice hex
    have hlen : ((List.range len).map f).length = len := by simp
    refine ⟨some a, (List.range len).map f, cap, by rw [hlen]; exact hcs, fun i hi => ?_, ?_, fun i hi => ?_⟩
    · have hi2 : i < len := by omega
      obtain ⟨b, off, nA, ncap, ha, hb, hc1, hc2, hn, _⟩ := hfn i hi2
      have e : ((List.range len).map f)[i] = f i := by simp
      rw [e]
      exact ⟨b, off, nA, ncap, by rw [ha], hb, hc1, hc2, hn⟩
    · rw [hlen]; unfold maxLen at hm; omega
    · have hi2 : i < len := by omega
      obtain ⟨b, off, nA, ncap, ha, hb, hc1, hc2, hn, h1, h2, h3⟩ := hfn i hi2
      have e : ((List.range len).map f)[i] = f i := by simp
      rw [e]
      exact ⟨h1, h2, h3⟩
end Go.Proofs.Ytgdeekghngpcfaa
