/- Lists of lists of numbers: in memory; rows of them that the call itself makes. -/
import Derived.Test.YtgdeekghngpcfaaSlices
namespace Go.Proofs.Ytgdeekghngpcfaa
open Go.RowKit

/-- The slice with base A reads in w, in blocks below B, as the list ls of lists of numbers. -/
def ListsAt (w : World) (B : Nat) (A : Option Addr) (ls : List (List Int)) : Prop :=
  ∀ i (h : i < ls.length), ∃ b off nA ncap, A = some ⟨b, off, none⟩ ∧ b < B ∧ w.cell? ⟨b, off + i, none⟩ = some (.slice nA ls[i].length ncap) ∧ IntsAt w B nA ls[i]
theorem ListsAt.nil (w : World) (B : Nat) (A : Option Addr) : ListsAt w B A [] := fun i h => absurd h (by simp)
theorem ListsAt.below {w w' : World} {B B' B'' : Nat} {A : Option Addr} {ls : List (List Int)} (h : ListsAt w B A ls) (hb : Below B' w w') (hB : B ≤ B') (hB2 : B ≤ B'') : ListsAt w' B'' A ls := by
  intro i hi
  obtain ⟨b, off, nA, ncap, hA, hbB, hc, hn⟩ := h i hi
  exact ⟨b, off, nA, ncap, hA, by omega, by rw [hb.cell (p := ⟨b, _, none⟩) (show b < B' by omega)]; exact hc, hn.below hb hB hB2⟩

/-- v is a slice of the call's own, from block base on, that holds the lists ls; none of them lies in its block. -/
def OwnLists (w : World) (base : Nat) (v : Value) (ls : List (List Int)) : Prop :=
  base ≤ w.heap.size ∧ ∃ vs, w.ownsRow base 26 1 v ls.length vs ∧ ∀ i (h : i < ls.length), ∃ nA ncap, vs[i]? = some (.slice nA ls[i].length ncap) ∧ IntsAt w w.heap.size nA ls[i] ∧ (0 < ls[i].length → ∀ a, nA = some a → v.ownBlock ≠ some a.block)

theorem intsInfo : (Try.prog.info? 26).map (fun i => (i.zero, i.size, i.bytes)) = some (some (.slice none 0 0), 1, 24) := by kernel_rfl

theorem OwnLists.nil (w : World) (base : Nat) (hb : base ≤ w.heap.size) : OwnLists w base (.slice none 0 0) [] := ⟨hb, [], World.ownsRow_nil _ _ _ _, fun i h => absurd h (by simp)⟩
theorem OwnLists.below {w w' : World} {base : Nat} {v : Value} {ls : List (List Int)} (h : OwnLists w base v ls) (hb : Below w.heap.size w w') : OwnLists w' base v ls := by
  obtain ⟨h0, vs, ⟨h1, h2⟩, h3⟩ := h
  refine ⟨Nat.le_trans h0 hb.size, vs, ⟨h1, ?_⟩, fun i hi => ?_⟩
  · rcases h2 with hn | ⟨g, cap, cur, hv, hg, hh, rest⟩
    · exact .inl hn
    · have hlt := (Array.getElem?_eq_some_iff.1 hh).1
      exact .inr ⟨g, cap, cur, hv, hg, by rw [hb.block g hlt]; exact hh, rest⟩
  · obtain ⟨nA, ncap, e, hi2, hap⟩ := h3 i hi
    exact ⟨nA, ncap, e, hi2.below hb (Nat.le_refl _) hb.size, hap⟩
theorem OwnLists.form {w : World} {base : Nat} {v : Value} {ls : List (List Int)} (h : OwnLists w base v ls) :
    ∃ A cap, v = .slice A ls.length cap ∧ ListsAt w w.heap.size A ls ∧ ls.length ≤ cap ∧ ls.length ≤ 9223372036854775807 := by
  obtain ⟨h0, vs, h1, h3⟩ := h
  rcases h1.2 with ⟨hv, hn⟩ | ⟨g, cap, cur, hv, hg, hh, hnc, hcm, hcs, ht⟩
  · exact ⟨none, 0, by rw [hv, hn], fun j hj => absurd hj (by omega), by omega, by omega⟩
  · refine ⟨_, cap, hv, fun j hj => ?_, hnc, by unfold maxLen at hcm; omega⟩
    obtain ⟨nA, ncap, e, hi2, _⟩ := h3 j hj
    refine ⟨g, 0, nA, ncap, rfl, (Array.getElem?_eq_some_iff.1 hh).1, ?_, hi2⟩
    have h1 : w.cell? ⟨g, 0 + j, none⟩ = cur[0 + j]? := by simp [World.cell?, hh]
    rw [h1, Nat.zero_add, ← e, ← ht, List.getElem?_take_of_lt (by omega), Array.getElem?_toList]

theorem OwnLists.block {w : World} {base : Nat} {v : Value} {ls : List (List Int)} (h : OwnLists w base v ls) : ∀ k, v.ownBlock = some k → base ≤ k ∧ k < w.heap.size := by
  obtain ⟨_, vs, h1, _⟩ := h
  exact h1.lt
theorem pushList {ops : Array Oper} {rest : List Oper} {o : Oper} {a : Act} {Q : Exit → Act → World → Prop} (hgd : o.guard = none) (s x : Operand)
    (ho : o.op = .call { callee := .builtin .append, args := #[s, x], argTypes := #[31, 31] })
    (w : World) (base : Nat) (v : Value) (ls : List (List Int)) (l : List Int) (nA : Option Addr) (ncap : Nat) (hs : a.eval s = v) (hown : OwnLists w base v ls) (hn : IntsAt w w.heap.size nA l) (hap : 0 < l.length → ∀ a, nA = some a → v.ownBlock ≠ some a.block)
    (nb : Nat) (hx : a.eval x = .slice (some ⟨nb, 0, none⟩) 1 1) (hnb : nb = w.heap.size) (hl : ls.length < 1099511627776)
    (h : ∀ v' w', OwnLists w' base v' (ls ++ [l]) → Below base w w' → Spares w w' v v' → wpList Try.prog ops Q rest (a.put o.dst v') w') :
    wpList Try.prog ops Q (o :: rest) a (w.alloc (.cells #[.slice nA l.length ncap] 26)) := by
  subst hnb
  obtain ⟨i0, hi, hz0, hz1, hz2⟩ := info_parts intsInfo
  obtain ⟨h0, vs, h1, h3⟩ := hown
  refine wpList_append_own_at _ hgd s x 31 ho base 26 i0 (.slice none 0 0) 1 24 Try.underlying31 hi hz0 hz1 hz2 rfl (by decide) v ls.length vs hs (h1.alloc _) ⟨w.heap.size, 0, none⟩ 1 1 [.slice nA l.length ncap] hx rfl
    (cell_one_new _ _ _) (by simp [Value.oneCell']) (by unfold maxLen; omega) (by omega) (by simp; omega) ?_
  intro v' w' h4 h5 _ h6
  have hb : Below base w w' := ((Below.refl base w).alloc h0 _).grown h5 (by simp; omega) (fun k hk => (h1.lt k hk).1)
  have hsp : Spares w w' v v' := fun b hb2 hne => ⟨(h5.block b (by simp; omega) (fun e => hne e.symm)).trans (Below.heap_alloc w _ b hb2), by
    rcases h6 with e | e
    · rw [e]; exact hne
    · rw [e]; simp; omega⟩
  have keep : ∀ (mA : Option Addr) (m : List Int), IntsAt w w.heap.size mA m → (0 < m.length → ∀ a, mA = some a → v.ownBlock ≠ some a.block) → IntsAt w' w'.heap.size mA m ∧ (0 < m.length → ∀ a, mA = some a → v'.ownBlock ≠ some a.block) := by
    intro mA m hm hma
    rcases Nat.eq_zero_or_pos m.length with hz | hz
    · exact ⟨fun j hj => by omega, fun h => by omega⟩
    · refine ⟨hm.same (fun a ha hlt => (hsp a.block hlt (hma hz a ha)).1) hb.size, fun _ a ha => ?_⟩
      obtain ⟨b, off, e, hlt, _⟩ := hm 0 hz
      rw [ha] at e
      injection e with e
      subst e
      exact (hsp b hlt (hma hz _ ha)).2
  have hlen : (ls ++ [l]).length = ls.length + 1 := by simp
  refine h v' w' ⟨Nat.le_trans h0 hb.size, vs ++ [.slice nA l.length ncap], by rw [hlen]; exact h4, fun i hi2 => ?_⟩ hb hsp
  have hvs : vs.length = ls.length := by simpa using h1.1
  by_cases e : i < ls.length
  · obtain ⟨mA, mcap, e1, e2, e3⟩ := h3 i e
    obtain ⟨k1, k2⟩ := keep mA _ e2 e3
    rw [List.getElem_append_left e]
    exact ⟨mA, mcap, by rw [List.getElem?_append_left (by omega)]; exact e1, k1, k2⟩
  · have e2 : i = ls.length := by omega
    subst e2
    obtain ⟨k1, k2⟩ := keep nA l hn hap
    have hl1 : (ls ++ [l])[ls.length] = l := by simp
    simp only [hl1]
    exact ⟨nA, ncap, by rw [List.getElem?_append_right (by omega), hvs, Nat.sub_self]; rfl, k1, k2⟩

/-- The call returns a list of lists of numbers that meets P, and leaves alone what was there. -/
def RetLists (w : World) (P : List (List Int) → Prop) (e : Ending) (w' : World) : Prop :=
  ∃ A ls cap, e = .returned (.slice A ls.length cap) ∧ ListsAt w' w'.heap.size A ls ∧ P ls ∧ ls.length ≤ 4611686018427387904 ∧ (∀ i (h : i < ls.length), ls[i].length ≤ 4611686018427387904) ∧ Below w.heap.size w w'

set_option maxHeartbeats 800000 in
theorem same_any (A A' : Option Addr) (cap cap' : Nat) (ls ls' : List (List Int)) (w : World) (hm : ls.length ≤ 4611686018427387904) (_hm' : ls'.length ≤ 4611686018427387904)
    (hn : ∀ i (h : i < ls.length), ls[i].length ≤ 4611686018427387904) (hn' : ∀ i (h : i < ls'.length), ls'[i].length ≤ 4611686018427387904) (hr : ListsAt w w.heap.size A ls) (hr' : ListsAt w w.heap.size A' ls') :
    Calls Try.prog 21 #[.slice A ls.length cap, .slice A' ls'.length cap'] w (RetB w (ls = ls')) := by
  have HN := Lib.hid hn
  have HN' := Lib.hid hn'
  clear hn hn'
  by_cases hl : ls.length = ls'.length
  · have hl2 := bne_int_of_nat hl
    have HL := Lib.hid hl
    clear hl
    go_enter Try.func21, Try.ntmps21
    go_wp2
    clear hl2
    go_loopg [5] ls.length (fun m i w1 => ∃ k : Nat, k ≤ ls.length ∧ i = .int .i64 k ∧ Hid (ls.take k = ls'.take k) ∧ ls.length ≤ k + m ∧ Below w.heap.size w w1)
    case atStart => exact ⟨0, Nat.zero_le _, rfl, by simp [Hid], by omega, Below.refl _ _⟩
    case round =>
      obtain ⟨k, hk, rfl, hno, hkm, hbel⟩ := hrel
      by_cases hlt : k < ls.length
      · have hlt' : k < ls'.length := by rw [← HL.out]; exact hlt
        obtain ⟨b, off, nA, ncap, rfl, hb, hc, hi⟩ := (hr.below hbel (Nat.le_refl _) hbel.size) k hlt
        obtain ⟨b', off', nA', ncap', rfl, hb', hc', hi'⟩ := (hr'.below hbel (Nat.le_refl _) hbel.size) k hlt'
        have hcon := fun n => SameInts_q nA nA' wr.heap.size wr.heap.size ncap ncap' ls[k] ls'[k] (wr.drewN n) (by have := HN.out k hlt; omega) (by have := HN'.out k hlt'; omega) hi hi'
        have HC := Lib.hid hcon
        clear hcon hi hi'
        by_cases heq : ls[k] = ls'[k]
        · have HE := Lib.hid heq
          clear heq
          go_wp2
          go_quiet ((go_at_call 14; exact Calls.quiet_of ((HC.out _).mono fun _ _ h => h.yes HE.out)))
          go_wp2
          go_roundg (gk - 1)
          case measure => omega
          case rel => exact ⟨k + 1, by omega, by go_num, by unfold Hid; rw [List.take_succ_eq_append_getElem hlt, List.take_succ_eq_append_getElem hlt', hno.out, HE.out], by omega, below_drewN hbel _⟩
        · have HE := Lib.hid heq
          clear heq
          go_wp2
          go_quiet ((go_at_call 14; exact Calls.quiet_of ((HC.out _).mono fun _ _ h => h.no HE.out)))
          go_wp2
          go_ret
          exact .false_ rfl (by rintro rfl; exact HE.out rfl) (below_drewN hbel _)
      · go_wp2
        go_ret
        exact .true_ rfl (by have := hno.out; rwa [List.take_of_length_le (by omega), List.take_of_length_le (by rw [← HL.out]; omega)] at this) hbel
  · have hl2 := bne_int_of_nat' hl
    have HL := Lib.hid hl
    clear hl
    go_enter Try.func21, Try.ntmps21
    go_wp2
    go_ret
    exact .false_ rfl (by intro h; exact HL.out (by rw [h])) (Below.refl _ _)
end Go.Proofs.Ytgdeekghngpcfaa
