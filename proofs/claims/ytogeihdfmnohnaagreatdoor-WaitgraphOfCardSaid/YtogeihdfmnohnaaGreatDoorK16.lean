/- Part 16 of 49 of the proof of waitgraphOf_holds (no condition). -/
import Derived.Test.YtogeihdfmnohnaaGreatDoorK05
import Derived.Test.YtogeihdfmnohnaaGreatDoorK02
import Derived.Test.YtogeihdfmnohnaaGreatDoorK03
import Derived.Test.YtogeihdfmnohnaaGreatDoorK08
import Derived.Test.YtogeihdfmnohnaaGreatDoorK09
import Derived.Lib.SlicesCompact
import Derived.Sort.LotA
set_option linter.unusedVariables false
set_option linter.unusedSimpArgs false
namespace Go.Proofs.YtogeihdfmnohnaaGreatDoor
open Go.RowKit
set_option maxHeartbeats 1600000 in
theorem rHProcs_any (A : Option Addr) (B cap : Nat) (l : List Ho) (w : World) (hm : l.length ≤ 68719476736) (hB : B ≤ w.heap.size) (hr : RowsAt hoE w (Lo B) A l) :
    Calls Tryz.prog 145 #[.slice A l.length cap] w (RetRow prE 51 w (prsL l)) := by
  have HR := Lib.hid hr
  clear hr
  go_enter Tryz.func145, Tryz.ntmps145
  go_wp2_with fail
  go_loopg [3, 4] l.length (fun m v3 v4 wq => ∃ k : Nat, v4 = .int .i64 (k : Int) ∧ k ≤ l.length ∧ l.length ≤ k + m ∧ Hid (OwnRows prE 51 wq w.heap.size v3 (prsL (l.take k))) ∧ Hid (Below w.heap.size w wq))
  case atStart => exact ⟨0, rfl, Nat.zero_le _, by omega, Lib.hid (OwnRows.nil _ _ _ _ (Nat.le_refl _)), Lib.hid (Below.refl _ _)⟩
  case round =>
    obtain ⟨k, rfl, hk, hkm, HO, HB⟩ := hrel
    by_cases hlt : k < l.length
    · obtain ⟨⟨⟨a, b, c⟩, ⟨m, u⟩⟩, hx⟩ : ∃ x, l[k] = x := ⟨_, rfl⟩
      obtain ⟨g, off, rfl, hbl, c0, c1, c2, c3, c4⟩ := ho_cells (HR.out.below (B'' := w.heap.size) HB.out hB hB) hlt hx
      have hbl2 : g < wr.heap.size := Nat.lt_of_lt_of_le hbl HB.out.size
      have hlti : (k : Int) < (l.length : Int) := by omega
      have HE : Hid (prsL (l.take k) ++ [⟨a, b, c⟩] = prsL (l.take (k + 1))) := Lib.hid (by unfold prsL; rw [List.take_add_one, List.map_append, List.getElem?_eq_getElem hlt, hx]; rfl)
      have HL : Hid ((prsL (l.take k)).length = k) := Lib.hid (by simp [prsL]; omega)
      clear hx hbl
      go_wp2_with (at_builtin; refine pushOneB prTB rfl (.tmp 11) (.tmp 17) rfl wr w.heap.size u3 _ ⟨a, b, c⟩ [.int .i64 a, .int .i64 b, .int .i64 c] _ rfl rfl HO.out wr.heap.size rfl rfl rfl (by rw [HL.out]; unfold maxLen; omega) (by rw [HL.out]; omega) ?_; intro v7 w7 hown7 hb7 hsp7; have HB7 : Hid (Below w.heap.size w w7) := Lib.hid (HB.out.trans hb7); have HO7 := Lib.hid hown7; clear hown7 hb7 hsp7)
      rw [HE.out] at HO7
      go_roundg (gk - 1)
      case measure => omega
      case rel => exact ⟨k + 1, by go_num, by omega, by omega, HO7, HB7⟩
    · have HE : Hid (prsL (l.take k) = prsL l) := Lib.hid (by rw [List.take_of_length_le (by omega)])
      rw [HE.out] at HO
      go_wp2_with fail
      go_ret
      exact ⟨_, rfl, HO.out, HB.out⟩
set_option maxHeartbeats 1600000 in
theorem HProcs_any (A : Option Addr) (B cap : Nat) (l : List Ho) (w : World) (hm : l.length ≤ 68719476736) (hB : B ≤ w.heap.size) (hr : RowsAt hoE w (Lo B) A l) :
    Calls Tryz.prog 117 #[.slice A l.length cap] w (RetRow prE 51 w (prsL l)) := by
  have HR := Lib.hid hr
  clear hr
  go_enter Tryz.func117, Tryz.ntmps117
  go_wp2_with fail
  go_loopg [3, 8] l.length (fun m v3 v8 wq => ∃ k : Nat, v8 = .int .i64 (k : Int) ∧ k ≤ l.length ∧ l.length ≤ k + m ∧ Hid (OwnRows prE 51 wq w.heap.size v3 (prsL (l.take k))) ∧ Hid (Below w.heap.size w wq))
  case atStart => exact ⟨0, rfl, Nat.zero_le _, by omega, Lib.hid (OwnRows.nil _ _ _ _ (Nat.le_refl _)), Lib.hid (Below.refl _ _)⟩
  case round =>
    obtain ⟨k, rfl, hk, hkm, HO, HB⟩ := hrel
    by_cases hlt : k < l.length
    · obtain ⟨⟨⟨a, b, c⟩, ⟨m, u⟩⟩, hx⟩ : ∃ x, l[k] = x := ⟨_, rfl⟩
      obtain ⟨g, off, rfl, hbl, c0, c1, c2, c3, c4⟩ := ho_cells (HR.out.below (B'' := w.heap.size) HB.out hB hB) hlt hx
      have hbl2 : g < wr.heap.size := Nat.lt_of_lt_of_le hbl HB.out.size
      have hlti : (k : Int) < (l.length : Int) := by omega
      have HE : Hid (prsL (l.take k) ++ [⟨a, b, c⟩] = prsL (l.take (k + 1))) := Lib.hid (by unfold prsL; rw [List.take_add_one, List.map_append, List.getElem?_eq_getElem hlt, hx]; rfl)
      have HL : Hid ((prsL (l.take k)).length = k) := Lib.hid (by simp [prsL]; omega)
      clear hx hbl
      go_wp2_with (at_builtin; refine pushOneB prTB rfl (.tmp 12) (.tmp 15) rfl (wr.alloc (.cells #[.int .i64 a, .int .i64 b, .int .i64 c, .int .i64 m, .int .i64 u] 126)) w.heap.size u3 _ ⟨a, b, c⟩ [.int .i64 a, .int .i64 b, .int .i64 c] _ rfl rfl (HO.out.alloc _) (wr.heap.size + 1) rfl (by simp) rfl (by rw [HL.out]; unfold maxLen; omega) (by rw [HL.out]; omega) ?_; intro v7 w7 hown7 hb7 hsp7; have HB7 : Hid (Below w.heap.size w w7) := Lib.hid ((Below.al HB.out _).trans hb7); have HO7 := Lib.hid hown7; clear hown7 hb7 hsp7)
      rw [HE.out] at HO7
      go_roundg (gk - 1)
      case measure => omega
      case rel => exact ⟨k + 1, by go_num, by omega, by omega, HO7, HB7⟩
    · have HE : Hid (prsL (l.take k) = prsL l) := Lib.hid (by rw [List.take_of_length_le (by omega)])
      rw [HE.out] at HO
      go_wp2_with fail
      go_ret
      exact ⟨_, rfl, HO.out, HB.out⟩
end Go.Proofs.YtogeihdfmnohnaaGreatDoor
namespace Go.Proofs.YtogeihdfmnohnaaGreatDoor
instance : Inhabited Pr := ⟨zeroP⟩
theorem LtP_tri (p q : Pr) : LtP p q ∨ p = q ∨ LtP q p := by
  rcases cmpP_cases p q with ⟨h, _⟩ | ⟨h, _⟩ | ⟨h, _⟩
  · exact Or.inl h
  · exact Or.inr (Or.inl h)
  · exact Or.inr (Or.inr h)
theorem cmpP_lt (p q : Pr) : cmpP p q < 0 ↔ LtP p q := by
  rcases cmpP_cases p q with ⟨h, e⟩ | ⟨h, e⟩ | ⟨h, e⟩ <;> rw [e]
  · exact ⟨fun _ => h, fun _ => by decide⟩
  · subst h; exact ⟨fun c => absurd c (by decide), fun c => absurd c (LtP_irrefl _)⟩
  · exact ⟨fun c => absurd c (by decide), fun c => absurd h (LtP_asymm c)⟩
def Asc (l : List Pr) : Prop := l.Pairwise LtP
theorem compact_mem (d : Array Pr) : ∀ m x, x ∈ Go.Lib.compactUpTo d m ↔ ∃ j, j < m ∧ d[j]! = x
  | 0, x => by simp [Go.Lib.compactUpTo]
  | m + 1, x => by
    rw [Go.Lib.compactUpTo_succ, List.mem_append, compact_mem d m x]
    by_cases h : Go.Lib.keeps d m = true
    · rw [if_pos h, List.mem_singleton]
      constructor
      · rintro (⟨j, hj, e⟩ | e)
        · exact ⟨j, by omega, e⟩
        · exact ⟨m, by omega, e.symm⟩
      · rintro ⟨j, hj, e⟩
        rcases Nat.lt_or_ge j m with h1 | h1
        · exact Or.inl ⟨j, h1, e⟩
        · have : j = m := by omega
          subst this
          exact Or.inr e.symm
    · rw [if_neg h]
      have hk : ¬ (m = 0 ∨ d[m]! ≠ d[m - 1]!) := by simpa [Go.Lib.keeps] using h
      have h0 : m ≠ 0 := fun e => hk (Or.inl e)
      have he : d[m]! = d[m - 1]! := Classical.byContradiction fun e => hk (Or.inr e)
      constructor
      · rintro (⟨j, hj, e⟩ | e)
        · exact ⟨j, by omega, e⟩
        · cases e
      · rintro ⟨j, hj, e⟩
        rcases Nat.lt_or_ge j m with h1 | h1
        · exact Or.inl ⟨j, h1, e⟩
        · have : j = m := by omega
          subst this
          exact Or.inl ⟨j - 1, by omega, he.symm.trans e⟩
theorem compact_asc (d : Array Pr) (hs : ∀ i j, i < j → j < d.size → ¬ LtP d[j]! d[i]!) : ∀ m, m ≤ d.size → Asc (Go.Lib.compactUpTo d m)
  | 0, _ => by simp [Go.Lib.compactUpTo, Asc]
  | m + 1, hm => by
    have ih := compact_asc d hs m (by omega)
    rw [Go.Lib.compactUpTo_succ]
    by_cases h : Go.Lib.keeps d m = true
    · rw [if_pos h]
      unfold Asc at *
      rw [List.pairwise_append]
      refine ⟨ih, by simp, fun x hx y hy => ?_⟩
      rw [List.mem_singleton.1 hy]
      obtain ⟨j, hj, rfl⟩ := (compact_mem d m x).1 hx
      have hk : m = 0 ∨ d[m]! ≠ d[m - 1]! := by simpa [Go.Lib.keeps] using h
      have hne : d[m]! ≠ d[m - 1]! := hk.resolve_left (by omega)
      rcases LtP_tri d[j]! d[m]! with h1 | h1 | h1
      · exact h1
      · exfalso
        have a1 : ¬ LtP d[m]! d[m - 1]! := hs (m - 1) m (by omega) (by omega)
        rcases Nat.lt_or_ge j (m - 1) with h2 | h2
        · have a2 := hs j (m - 1) h2 (by omega)
          rw [h1] at a2
          rcases LtP_tri d[m]! d[m - 1]! with h3 | h3 | h3
          · exact a1 h3
          · exact hne h3
          · exact a2 h3
        · have : j = m - 1 := by omega
          subst this
          exact hne h1.symm
      · exact absurd h1 (hs j m hj (by omega))
    · rw [if_neg h, List.append_nil]
      exact ih
def sortS (l : List Pr) : List Pr := Go.Lib.compact (l.mergeSort fun x y => !decide (cmpP y x < 0))
theorem sortS_mem (l : List Pr) (x : Pr) : x ∈ sortS l ↔ x ∈ l := by
  unfold sortS Go.Lib.compact
  rw [compact_mem]
  have hp := List.mergeSort_perm l fun x y => !decide (cmpP y x < 0)
  rw [← hp.mem_iff]
  constructor
  · rintro ⟨j, hj, rfl⟩
    rw [getElem!_pos _ j (by simpa using hj)]
    simp
  · intro h
    obtain ⟨j, hj, rfl⟩ := List.getElem_of_mem h
    exact ⟨j, hj, by rw [getElem!_pos _ j (by simpa using hj)]; simp⟩
theorem sortS_asc (l : List Pr) : Asc (sortS l) := by
  unfold sortS Go.Lib.compact
  have hp : (l.mergeSort fun x y => !decide (cmpP y x < 0)).Pairwise fun x y => (!decide (cmpP y x < 0)) = true := by
    apply List.pairwise_mergeSort
    · intro a b c h1 h2
      simp only [Bool.not_eq_true', decide_eq_false_iff_not, cmpP_lt] at *
      intro h3
      rcases LtP_tri b c with h | h | h
      · exact h1 (LtP_trans h h3)
      · subst h; exact h1 h3
      · exact h2 h
    · intro a b
      simp only [Bool.or_eq_true, Bool.not_eq_true', decide_eq_false_iff_not, cmpP_lt]
      rcases LtP_tri a b with h | h | h
      · exact Or.inl (LtP_asymm h)
      · subst h; exact Or.inl (LtP_irrefl _)
      · exact Or.inr (LtP_asymm h)
  generalize (l.mergeSort fun x y => !decide (cmpP y x < 0)) = M at *
  refine compact_asc _ ?_ _ (by simp)
  intro i j hij hj
  have hj' : j < M.length := by simpa using hj
  rw [getElem!_pos _ j hj, getElem!_pos _ i (by omega)]
  have := List.pairwise_iff_getElem.1 hp i j (by omega) hj' hij
  simp only [Bool.not_eq_true', decide_eq_false_iff_not, cmpP_lt] at this
  simpa using this
theorem sortS_len (l : List Pr) : (sortS l).length ≤ l.length := by
  unfold sortS Go.Lib.compact Go.Lib.compactUpTo
  rw [List.length_map]
  refine Nat.le_trans (List.length_filter_le _ _) ?_
  simp
end Go.Proofs.YtogeihdfmnohnaaGreatDoor
namespace Go.Proofs.YtogeihdfmnohnaaGreatDoor
theorem asc_ext : ∀ {l l' : List Pr}, Asc l → Asc l' → (∀ x, x ∈ l ↔ x ∈ l') → l = l'
  | [], [], _, _, _ => rfl
  | [], y :: l', _, _, h => absurd ((h y).2 (by simp)) (by simp)
  | x :: l, [], _, _, h => absurd ((h x).1 (by simp)) (by simp)
  | x :: l, y :: l', ha, hb, h => by
    unfold Asc at ha hb
    rw [List.pairwise_cons] at ha hb
    have hxy : x = y := by
      rcases List.mem_cons.1 ((h x).1 (by simp)) with e | e
      · exact e
      · rcases List.mem_cons.1 ((h y).2 (by simp)) with e' | e'
        · exact e'.symm
        · exact absurd (LtP_trans (hb.1 x e) (ha.1 y e')) (LtP_irrefl _)
    subst hxy
    rw [asc_ext (l := l) (l' := l') ha.2 hb.2 fun z => ⟨fun hz => ?_, fun hz => ?_⟩]
    · rcases List.mem_cons.1 ((h z).1 (List.mem_cons_of_mem _ hz)) with e | e
      · subst e; exact absurd (ha.1 z hz) (LtP_irrefl _)
      · exact e
    · rcases List.mem_cons.1 ((h z).2 (List.mem_cons_of_mem _ hz)) with e | e
      · subst e; exact absurd (hb.1 z hz) (LtP_irrefl _)
      · exact e
def insP (x : Pr) (L : List Pr) (k : Nat) : List Pr := L.take k ++ x :: L.drop k
theorem insP_len (x : Pr) (L : List Pr) (k : Nat) : (insP x L k).length = L.length + 1 := by
  unfold insP
  rw [List.length_append, List.length_cons, List.length_take, List.length_drop]
  omega
theorem insP_mem (x : Pr) (L : List Pr) (k : Nat) (y : Pr) : y ∈ insP x L k ↔ y = x ∨ y ∈ L := by
  unfold insP
  rw [List.mem_append, List.mem_cons]
  have : y ∈ L ↔ y ∈ L.take k ∨ y ∈ L.drop k := by rw [← List.mem_append, List.take_append_drop]
  rw [this]
  constructor
  · rintro (h | h | h)
    · exact Or.inr (Or.inl h)
    · exact Or.inl h
    · exact Or.inr (Or.inr h)
  · rintro (h | h | h)
    · exact Or.inr (Or.inl h)
    · exact Or.inl h
    · exact Or.inr (Or.inr h)
theorem insP_asc {x : Pr} {L : List Pr} {k : Nat} (ha : Asc L) (hk : k ≤ L.length) (hd : ∀ y ∈ L.drop k, LtP x y) (ht : k = 0 ∨ ∃ h : k - 1 < L.length, LtP L[k - 1] x) : Asc (insP x L k) := by
  unfold insP Asc at *
  rw [List.pairwise_append]
  refine ⟨ha.sublist (List.take_sublist _ _), List.pairwise_cons.2 ⟨hd, ha.sublist (List.drop_sublist _ _)⟩, fun a h1 b h2 => ?_⟩
  have hax : LtP a x := by
    obtain ⟨i, hi, rfl⟩ := List.getElem_of_mem h1
    rw [List.length_take] at hi
    rcases ht with rfl | ⟨h, hlt⟩
    · omega
    · rw [List.getElem_take]
      rcases Nat.lt_or_ge i (k - 1) with h3 | h3
      · exact LtP_trans (List.pairwise_iff_getElem.1 ha i (k - 1) (by omega) (by omega) h3) hlt
      · have : i = k - 1 := by omega
        subst this
        exact hlt
  rcases List.mem_cons.1 h2 with rfl | h2
  · exact hax
  · exact LtP_trans hax (hd b h2)
theorem sortS_ins {l : List Pr} {x : Pr} {k j : Nat} (hk : k < l.length) (hx : l[k] = x) (hj : j ≤ (sortS (l.take k)).length) (hd : ∀ y ∈ (sortS (l.take k)).drop j, LtP x y) (ht : j = 0 ∨ ∃ h : j - 1 < (sortS (l.take k)).length, LtP (sortS (l.take k))[j - 1] x) :
    insP x (sortS (l.take k)) j = sortS (l.take (k + 1)) := by
  refine asc_ext (insP_asc (sortS_asc _) hj hd ht) (sortS_asc _) fun y => ?_
  rw [insP_mem, sortS_mem, sortS_mem, List.take_add_one, List.getElem?_eq_getElem hk, hx]
  simp [or_comm]
theorem sortS_has {l : List Pr} {x : Pr} {k : Nat} (hk : k < l.length) (hx : l[k] = x) (hm : x ∈ sortS (l.take k)) : sortS (l.take k) = sortS (l.take (k + 1)) := by
  refine asc_ext (sortS_asc _) (sortS_asc _) fun y => ?_
  rw [sortS_mem] at hm
  rw [sortS_mem, sortS_mem, List.take_add_one, List.getElem?_eq_getElem hk, hx]
  simp only [Option.toList_some, List.mem_append, List.mem_singleton]
  constructor
  · exact Or.inl
  · rintro (h | rfl)
    · exact h
    · exact hm
theorem insP_swap {x : Pr} {L : List Pr} {j : Nat} (h0 : 0 < j) (hj : j ≤ L.length) : ((insP x L j).set (j - 1) x).set j (L[j - 1]'(by omega)) = insP x L (j - 1) := by
  obtain ⟨i, rfl⟩ : ∃ i, j = i + 1 := ⟨j - 1, by omega⟩
  simp only [Nat.add_sub_cancel]
  unfold insP
  have hl : (L.take i).length = i := by rw [List.length_take]; omega
  rw [List.take_add_one, List.getElem?_eq_getElem (show i < L.length by omega), List.drop_eq_getElem_cons (show i < L.length by omega)]
  simp only [Option.toList_some, List.append_assoc, List.singleton_append]
  rw [List.set_append_right _ _ (by omega), hl, Nat.sub_self, List.set_cons_zero, List.set_append_right _ _ (by omega), hl]
  simp
theorem insP_at {x : Pr} {L : List Pr} {j : Nat} (hj : j ≤ L.length) : (insP x L j)[j]'(by rw [insP_len]; omega) = x := by
  unfold insP
  rw [List.getElem_append_right (by rw [List.length_take]; omega)]
  simp [List.length_take, Nat.min_eq_left hj]
theorem insP_before {x : Pr} {L : List Pr} {j : Nat} (h0 : 0 < j) (hj : j ≤ L.length) : (insP x L j)[j - 1]'(by rw [insP_len]; omega) = L[j - 1]'(by omega) := by
  unfold insP
  rw [List.getElem_append_left (by rw [List.length_take]; omega), List.getElem_take]
end Go.Proofs.YtogeihdfmnohnaaGreatDoor
namespace Go.Proofs.YtogeihdfmnohnaaGreatDoor
open Go.RowKit
theorem mem_of_get {α : Type} {l : List α} {x : α} {k : Nat} (h : k < l.length) (e : l[k] = x) : x ∈ l := e ▸ List.getElem_mem h
theorem not_mem_of {α : Type} {l : List α} {x : α} (h : ∀ i (hi : i < l.length), l[i] ≠ x) : x ∉ l := fun hm => by
  obtain ⟨i, hi, e⟩ := List.getElem_of_mem hm
  exact h i hi e
set_option maxHeartbeats 1600000 in
set_option maxRecDepth 100000 in
theorem rHas_any (A : Option Addr) (B cap : Nat) (l : List Pr) (p : Pr) (w : World) (hm : l.length ≤ maxLen) (hB : B ≤ w.heap.size) (hr : RowsAt prE w (Lo B) A l) :
    Calls Tryz.prog 99 #[.slice A l.length cap, p.val] w (Ret w (.bool (decide (p ∈ l)))) := by
  unfold maxLen at hm
  have HR := Lib.hid hr
  obtain ⟨r, hres⟩ : ∃ r, decide (p ∈ l) = r := ⟨_, rfl⟩
  rw [hres]
  have HRES := Lib.hid hres
  clear hr hres
  obtain ⟨x, y, z⟩ := p
  unfold Pr.val
  go_enter Tryz.func99, Tryz.ntmps99
  go_wp2_with fail
  go_loopg [5] l.length (fun m v wq => ∃ k n : Nat, v = .int .i64 (k : Int) ∧ k ≤ l.length ∧ l.length ≤ k + m ∧ Hid (∀ i (h : i < l.length), i < k → l[i] ≠ ⟨x, y, z⟩) ∧ wq = (w.alloc (.cells #[.int .i64 x, .int .i64 y, .int .i64 z] 51)).drewN n)
  case atStart => exact ⟨0, 0, rfl, Nat.zero_le _, by omega, Lib.hid (fun _ _ h => absurd h (by omega)), rfl⟩
  case round =>
    obtain ⟨k, n, rfl, hk, hkm, hall, rfl⟩ := hrel
    by_cases hlt : k < l.length
    · obtain ⟨⟨a, b, c⟩, hx⟩ : ∃ x, l[k] = x := ⟨_, rfl⟩
      obtain ⟨g, off, rfl, hbl, hc0, hc1, hc2⟩ := pr_cells HR.out hlt hx
      have hbl2 : g < w.heap.size := Nat.lt_of_lt_of_le hbl hB
      have HX := Lib.hid hx
      have hlti : (k : Int) < (l.length : Int) := by omega
      obtain ⟨_, k2, k3⟩ := cmpPr a b c x y z
      obtain ⟨q, hq⟩ : ∃ q, decide ((⟨a, b, c⟩ : Pr) = ⟨x, y, z⟩) = q := ⟨_, rfl⟩
      rw [hq] at k2
      have HQ := Lib.hid hq
      clear hx hq
      cases q with
      | true =>
        have HR1 : Hid (r = true) := Lib.hid (by rw [← HRES.out]; exact decide_eq_true (mem_of_get hlt (HX.out.trans (of_decide_eq_true HQ.out))))
        go_wp2_with fail
        go_quiet (fail)
        go_wp2_with fail
        go_ret
        exact ⟨by rw [HR1.out]; rfl, below_drewN (below_drewN ((Below.refl _ _).alloc (Nat.le_refl _) _) _) _⟩
      | false =>
        go_wp2_with fail
        go_quiet (fail)
        go_wp2_with fail
        go_roundg (gk - 1)
        case measure => omega
        case rel => exact ⟨k + 1, _, by go_num, by omega, by omega, Lib.hid (fun i h1 h2 => by
          rcases Nat.lt_or_ge i k with h4 | h4
          · exact hall.out i h1 h4
          · obtain rfl : i = k := by omega
            rw [HX.out]
            exact of_decide_eq_false HQ.out), rfl⟩
    · have HR1 : Hid (r = false) := Lib.hid (by rw [← HRES.out]; exact decide_eq_false (not_mem_of fun i hi => hall.out i hi (by omega)))
      go_wp2
      go_ret
      exact ⟨by rw [HR1.out]; rfl, below_drewN ((Below.refl _ _).alloc (Nat.le_refl _) _) _⟩
end Go.Proofs.YtogeihdfmnohnaaGreatDoor
namespace Go.Proofs.YtogeihdfmnohnaaGreatDoor
open Go.RowKit
set_option maxRecDepth 100000 in
set_option maxHeartbeats 6400000 in
theorem rSortProcs_any (A : Option Addr) (B cap : Nat) (l : List Pr) (w : World) (hm : l.length ≤ 1000000) (hB : B ≤ w.heap.size) (hr : RowsAt prE w (Lo B) A l) :
    Calls Tryz.prog 63 #[.slice A l.length cap] w (RetRow prE 51 w (sortS l)) := by
  have HR := Lib.hid hr
  have HH := Lib.hid (fun A B cap l p W hm hB hr => rHas_any A B cap l p W hm hB hr)
  have HC := Lib.hid (fun p q W => rCProc_any p q W)
  unfold Pr.val at HH HC
  clear hr
  go_enter Tryz.func63, Tryz.ntmps63
  go_wp2_with fail
  go_loopg [3, 4] l.length (fun m0 v3 v4 wq => ∃ k : Nat, v4 = .int .i64 (k : Int) ∧ k ≤ l.length ∧ l.length ≤ k + m0 ∧ Hid (OwnRows prE 51 wq w.heap.size v3 (sortS (l.take k))) ∧ Hid (Below w.heap.size w wq))
  case atStart => exact ⟨0, rfl, Nat.zero_le _, by omega, Lib.hid (by have h : sortS (l.take 0) = [] := List.eq_nil_of_length_eq_zero (by have := sortS_len (l.take 0); simpa using this); rw [h]; exact OwnRows.nil _ _ _ _ (Nat.le_refl _)), Lib.hid (Below.refl _ _)⟩
  case round =>
    obtain ⟨k, rfl, hk, hkm, HO, HBL⟩ := hrel
    by_cases hlt : k < l.length
    · obtain ⟨⟨a, b, c⟩, hx⟩ : ∃ x, l[k] = x := ⟨_, rfl⟩
      obtain ⟨g, off, rfl, hbl, c0, c1, c2⟩ := pr_cells (HR.out.below (B'' := w.heap.size) HBL.out hB hB) hlt hx
      have hgw : g < w.heap.size := hbl
      have hbl2 : g < wr.heap.size := Nat.lt_of_lt_of_le hbl HBL.out.size
      have hlti : (k : Int) < (l.length : Int) := by omega
      have HLL : Hid ((sortS (l.take k)).length ≤ k) := Lib.hid (by have := sortS_len (l.take k); rw [List.length_take] at this; omega)
      have HIN := Lib.hid (fun j hj hd ht => sortS_ins (x := ⟨a, b, c⟩) (j := j) hlt hx hj hd ht)
      have HHS := Lib.hid (fun hm => sortS_has (x := ⟨a, b, c⟩) hlt hx hm)
      have HCL : Hid (∀ W, Below w.heap.size w W → W.cell? ⟨g, off + k * 3, none⟩ = some (.int .i64 a) ∧ W.cell? ⟨g, off + k * 3 + 1, none⟩ = some (.int .i64 b) ∧ W.cell? ⟨g, off + k * 3 + 2, none⟩ = some (.int .i64 c)) := Lib.hid (fun W hb => by
        obtain ⟨_, _, hA, _, e0, e1, e2⟩ := pr_cells (HR.out.below (B'' := w.heap.size) hb hB hB) hlt hx
        injection hA with hA
        injection hA with ea eb
        subst ea
        subst eb
        exact ⟨e0, e1, e2⟩)
      have HAS : Hid (Asc (sortS (l.take k))) := Lib.hid (sortS_asc _)
      clear hx hbl
      generalize hL : sortS (l.take k) = L at *
      clear hL
      have hll := HLL.out
      obtain ⟨A3, cap3, rfl, _, hr3, hc3, hcm3⟩ := HO.out.form2
      obtain ⟨q, hq⟩ : ∃ q, decide ((⟨a, b, c⟩ : Pr) ∈ L) = q := ⟨_, rfl⟩
      have HH1 := Lib.hid (HH.out A3 wr.heap.size cap3 L ⟨a, b, c⟩ wr (Nat.le_trans hc3 hcm3) (Nat.le_refl _) hr3)
      rw [hq] at HH1
      have HQ := Lib.hid hq
      clear hr3 hq
      cases q with
      | true =>
        have HE : Hid (L = sortS (l.take (k + 1))) := Lib.hid (HHS.out (of_decide_eq_true HQ.out))
        go_wp2_with fail
        refine HH1.out.mono ?_
        rintro e w2 ⟨rfl, hb2⟩
        have HB2 := Lib.hid (Below.tr HBL.out hb2)
        have HO2 : Hid (OwnRows prE 51 w2 w.heap.size (.slice A3 L.length cap3) (sortS (l.take (k + 1)))) := Lib.hid (by have := HO.out.below (B := _) hb2 (Nat.le_refl _); rwa [HE.out] at this ⊢)
        clear hb2
        go_wp2_with fail
        go_roundg (gk - 1)
        case measure => omega
        case rel => exact ⟨k + 1, by go_num, by omega, by omega, HO2, HB2⟩
      | false =>
        go_wp2_with fail
        refine HH1.out.mono ?_
        rintro e w2 ⟨rfl, hb2⟩
        have HB2 := Lib.hid (Below.tr HBL.out hb2)
        have HO2 := Lib.hid (HO.out.below (B := _) hb2 (Nat.le_refl _))
        obtain ⟨e0, e1, e2⟩ := HCL.out w2 HB2.out
        have hgl : g < w2.heap.size := Nat.lt_of_lt_of_le hgw HB2.out.size
        clear hb2 c0 c1 c2
        obtain ⟨G, hG⟩ : ∃ G, G = gk := ⟨_, rfl⟩
        subst hG
        obtain ⟨wo, hwo⟩ : ∃ x, x = wr := ⟨_, rfl⟩
        subst hwo
        go_wp2_with (at_builtin; refine pushOneB prTB rfl (.tmp 21) (.tmp 26) rfl w2 w.heap.size (.slice A3 L.length cap3) L ⟨a, b, c⟩ [.int .i64 a, .int .i64 b, .int .i64 c] _ rfl rfl HO2.out w2.heap.size rfl rfl rfl (by unfold maxLen; omega) (by omega) ?_; intro v7 w7 hown7 hb7 hsp7; have HB7 : Hid (Below w.heap.size w w7) := Lib.hid (HB2.out.trans hb7); obtain ⟨g7, cap7, rfl, hg7, hg7', hc7, hc7', _, _⟩ := hown7.addr (by simp); have HO7 := Lib.hid hown7; clear hown7 hb7 hsp7)
        have HST : Hid (OwnRows prE 51 w7 w.heap.size (.slice (some ⟨g7, 0, none⟩) (insP ⟨a, b, c⟩ L L.length).length cap7) (insP ⟨a, b, c⟩ L L.length)) := Lib.hid (by
          have h1 := HO7.out
          have h2 : insP ⟨a, b, c⟩ L L.length = L ++ [⟨a, b, c⟩] := by unfold insP; simp
          rw [h2]
          exact h1)
        clear HO7 HO2 HO HB2 HH1 hc7 e0 e1 e2 hgl
        go_loopg [5] L.length (fun m0 v5 wq => ∃ j : Nat, v5 = .int .i64 (j : Int) ∧ j ≤ L.length ∧ j ≤ m0 ∧ Hid (OwnRows prE 51 wq w.heap.size (.slice (some ⟨g7, 0, none⟩) (insP ⟨a, b, c⟩ L j).length cap7) (insP ⟨a, b, c⟩ L j)) ∧ Hid (∀ y ∈ L.drop j, LtP ⟨a, b, c⟩ y) ∧ Hid (Below w.heap.size w wq))
        case atStart => exact ⟨L.length, rfl, Nat.le_refl _, Nat.le_refl _, HST, Lib.hid (by simp), HB7⟩
        case round =>
          obtain ⟨j, rfl, hj, hjm, HO, HD, HB⟩ := hrel
          rcases Nat.eq_zero_or_pos j with rfl | hj0
          · have HE : Hid (insP ⟨a, b, c⟩ L 0 = sortS (l.take (k + 1))) := Lib.hid (HIN.out 0 (Nat.zero_le _) HD.out (Or.inl rfl))
            go_wp2_with fail
            refine wp_region_grow (by kernel_rfl) (by kernel_rfl) ?_; (repeat (go_big_quiet_step (fail))); refine wpQuiet_nil ?_; rintro w2 ⟨n2, rfl⟩; have hb2 := n2.below; generalize n2.w = w2 at hb2 ⊢; clear n2
            have HB3 : Hid (Below w.heap.size w w2) := Lib.hid (Below.tr HB.out hb2)
            have HO3 : Hid (OwnRows prE 51 w2 w.heap.size (.slice (some ⟨g7, 0, none⟩) (L.length + 1) cap7) (sortS (l.take (k + 1)))) := Lib.hid (by
              have h1 := HO.out.below (B := _) hb2 (Nat.le_refl _)
              rw [insP_len] at h1
              rwa [HE.out] at h1)
            clear hb2
            go_wp2_with fail
            go_roundg (G - 1)
            case measure => omega
            case rel => exact ⟨k + 1, by go_num, by omega, by omega, HO3, HB3⟩
          · have hd : decide ((0 : Int) < (j : Int)) = true := decide_eq_true (by omega)
            have hd' : decide (0 < j) = true := decide_eq_true (by omega)
            have hji : IntKind.i64.wrap ((j : Int) - 1) = ((j - 1 : Nat) : Int) := by rw [IntWalk.i64_in _ (by omega)]; omega
            obtain ⟨⟨a', b', c'⟩, hy⟩ : ∃ y, L[j - 1]'(by omega) = y := ⟨_, rfl⟩
            obtain ⟨g', cap', hv, _, hgl7, _, _, hfz, hrow⟩ := HO.out.addr (by rw [insP_len]; omega)
            injection hv with e1 e2 e3
            injection e1 with e1
            injection e1 with e1
            subst e1
            subst e3
            obtain ⟨_, _, hA, _, d0, d1, d2⟩ := pr_cells hrow (by rw [insP_len]; omega) (insP_at (x := ⟨a, b, c⟩) hj)
            injection hA with hA
            injection hA with ea eb
            subst ea
            subst eb
            obtain ⟨_, _, hA, _, p0, p1, p2⟩ := pr_cells hrow (by rw [insP_len]; omega) ((insP_before (x := ⟨a, b, c⟩) hj0 hj).trans hy)
            injection hA with hA
            injection hA with ea eb
            subst ea
            subst eb
            simp only [Nat.zero_add] at d0 d1 d2 p0 p1 p2
            have hj1 : ((j - 1 : Nat) : Int) < (L.length : Int) + 1 := by omega
            have hj2 : (j : Int) < (L.length : Int) + 1 := by omega
            have hj3 : j - 1 < L.length + 1 := by omega
            have hj4 : j < L.length + 1 := by omega
            obtain ⟨n, hn⟩ : ∃ n, cmpP ⟨a', b', c'⟩ ⟨a, b, c⟩ = n := ⟨_, rfl⟩
            have HC1 : Hid (∀ W, Calls Tryz.prog 60 #[.agg #[.int .i64 a', .int .i64 b', .int .i64 c'], .agg #[.int .i64 a, .int .i64 b, .int .i64 c]] W (Ret W (.int .i64 n))) := Lib.hid (fun W => hn ▸ HC.out ⟨a', b', c'⟩ ⟨a, b, c⟩ W)
            have g0 := Ext.cell d0
            have g1 := Ext.cell d1
            have g2 := Ext.cell d2
            have g3 := Ext.cell p0
            have g4 := Ext.cell p1
            have g5 := Ext.cell p2
            have HN := Lib.hid hn
            have HY := Lib.hid hy
            have HFZ := Lib.hid hfz
            have HRW := Lib.hid hrow
            clear hn hy hfz hrow d0 d1 d2 p0 p1 p2
            by_cases hnn : 0 < n
            · have hdn : decide ((0 : Int) < n) = true := decide_eq_true hnn
              go_wp2_with fail
              refine wp_region_grow (by kernel_rfl) (by kernel_rfl) ?_; (repeat (go_big_quiet_step ((go_at_call 60; exact Ext.call _ (HC1.out _))))); refine wpQuiet_nil ?_; rintro w2 ⟨n2, rfl⟩; have hb2 := n2.below; generalize n2.w = w2 at hb2 ⊢; clear n2
              have HB3 : Hid (Below w.heap.size w w2) := Lib.hid (Below.tr HB.out hb2)
              have HO2 := Lib.hid (HO.out.below (B := _) hb2 (Nat.le_refl _))
              have HO3 := Lib.hid (HO2.out.alloc (.cells #[.int .i64 a', .int .i64 b', .int .i64 c'] 51))
              have hg2 : g7 < w2.heap.size := Nat.lt_of_lt_of_le hgl7 hb2.size
              have hne : g7 ≠ w2.heap.size := by omega
              clear hb2 g0 g1 g2 g3 g4 g5
              obtain ⟨g', cap', hv, _, _, _, _, hfz, hrow⟩ := HO2.out.addr (by rw [insP_len]; omega)
              injection hv with e1 e2 e3
              injection e1 with e1
              injection e1 with e1
              subst e1
              subst e3
              obtain ⟨_, _, hA, _, d0, d1, d2⟩ := pr_cells hrow (by rw [insP_len]; omega) (insP_at (x := ⟨a, b, c⟩) hj)
              injection hA with hA
              injection hA with ea eb
              subst ea
              subst eb
              obtain ⟨_, _, hA, _, p0, p1, p2⟩ := pr_cells hrow (by rw [insP_len]; omega) ((insP_before (x := ⟨a, b, c⟩) hj0 hj).trans HY.out)
              injection hA with hA
              injection hA with ea eb
              subst ea
              subst eb
              simp only [Nat.zero_add] at d0 d1 d2 p0 p1 p2
              have f0 := hfz ((j - 1) * 3)
              have f1 := hfz ((j - 1) * 3 + 1)
              have f2 := hfz ((j - 1) * 3 + 2)
              have f3 := hfz (j * 3)
              have f4 := hfz (j * 3 + 1)
              have f5 := hfz (j * 3 + 2)
              have HS1 := Lib.hid (HO2.out.setRow (i := j - 1) (y := ⟨a, b, c⟩) (cs := [.int .i64 a, .int .i64 b, .int .i64 c]) (by rw [insP_len]; omega) rfl)
              have HS2 : Hid (OwnRows prE 51 ((w2.setCells g7 ((j - 1) * 3) [.int .i64 a, .int .i64 b, .int .i64 c]).setCells g7 (j * 3) [.int .i64 a', .int .i64 b', .int .i64 c']) w.heap.size (.slice (some ⟨g7, 0, none⟩) (insP ⟨a, b, c⟩ L (j - 1)).length cap7) (insP ⟨a, b, c⟩ L (j - 1))) := Lib.hid (by
                have h1 := HS1.out
                have h2 : OwnRows prE 51 (w2.setCells g7 ((j - 1) * prE.n) [.int .i64 a, .int .i64 b, .int .i64 c]) w.heap.size (.slice (some ⟨g7, 0, none⟩) ((insP ⟨a, b, c⟩ L j).set (j - 1) ⟨a, b, c⟩).length cap7) ((insP ⟨a, b, c⟩ L j).set (j - 1) ⟨a, b, c⟩) := by rw [List.length_set]; exact h1
                have h3 := h2.setRow (i := j) (y := ⟨a', b', c'⟩) (cs := [.int .i64 a', .int .i64 b', .int .i64 c']) (by rw [List.length_set, insP_len]; omega) rfl
                have hsw := insP_swap (x := ⟨a, b, c⟩) hj0 hj
                rw [HY.out] at hsw
                rw [hsw] at h3
                have hl : ((insP ⟨a, b, c⟩ L j).set (j - 1) ⟨a, b, c⟩).length = (insP ⟨a, b, c⟩ L (j - 1)).length := by rw [List.length_set, insP_len, insP_len]
                rw [hl] at h3
                exact h3)
              have HBF : Hid (Below w.heap.size w ((w2.setCells g7 ((j - 1) * 3) [.int .i64 a, .int .i64 b, .int .i64 c]).setCells g7 (j * 3) [.int .i64 a', .int .i64 b', .int .i64 c'])) := Lib.hid (setCells_below hg7 _ _ _ (setCells_below hg7 _ _ _ HB3.out))
              have HD2 : Hid (∀ y ∈ L.drop (j - 1), LtP ⟨a, b, c⟩ y) := Lib.hid (fun y hy => by
                have hjj : j - 1 < L.length := by omega
                rw [List.drop_eq_getElem_cons hjj, show j - 1 + 1 = j by omega] at hy
                rcases List.mem_cons.1 hy with rfl | hy
                · rw [HY.out]
                  rcases cmpP_cases ⟨a', b', c'⟩ ⟨a, b, c⟩ with ⟨h, e⟩ | ⟨h, e⟩ | ⟨h, e⟩
                  · exfalso; have := HN.out; omega
                  · exfalso; have := HN.out; omega
                  · exact h
                · exact HD.out y hy)
              have HD3 := Lib.hid (And.intro hj hjm)
              clear hfz hrow HRW HFZ hd hd' HS1 HC1 HCL HIN HHS HAS HD HO HO2 HO3 HN HY HR HH HC hgw hbl2 hj1 hj2 hj3 hj4 hnn
              obtain ⟨i, hi⟩ : ∃ i, j = i + 1 := ⟨j - 1, by omega⟩
              subst hi
              simp only [Nat.add_sub_cancel, Nat.add_mul, Nat.one_mul] at *
              have hmul : (i + 1) * 3 = i * 3 + 3 := by omega
              have q1 : (i : Int) < (L.length : Int) + 1 := by omega
              have q2 : ((i + 1 : Nat) : Int) < (L.length : Int) + 1 := by omega
              go_wp2_with fail
              go_roundg (gk - 1)
              case measure => omega
              case rel => exact ⟨i, rfl, by omega, by omega, Lib.hid (HS2.out.alloc _), HD2, Lib.hid (Below.al HBF.out _)⟩
            · have hdn : decide ((0 : Int) < n) = false := decide_eq_false hnn
              have HLT : Hid (LtP (L[j - 1]'(by omega)) ⟨a, b, c⟩) := Lib.hid (by
                rw [HY.out]
                rcases cmpP_cases ⟨a', b', c'⟩ ⟨a, b, c⟩ with ⟨h, e⟩ | ⟨h, e⟩ | ⟨h, e⟩
                · exact h
                · exfalso
                  have h1 := of_decide_eq_false HQ.out
                  exact h1 (by rw [← h, ← HY.out]; exact List.getElem_mem _)
                · exfalso
                  have := HN.out
                  omega)
              have HE : Hid (insP ⟨a, b, c⟩ L j = sortS (l.take (k + 1))) := Lib.hid (HIN.out j hj HD.out (Or.inr ⟨by omega, HLT.out⟩))
              go_wp2_with fail
              refine wp_region_grow (by kernel_rfl) (by kernel_rfl) ?_; (repeat (go_big_quiet_step ((go_at_call 60; exact Ext.call _ (HC1.out _))))); refine wpQuiet_nil ?_; rintro w2 ⟨n2, rfl⟩; have hb2 := n2.below; generalize n2.w = w2 at hb2 ⊢; clear n2
              have HB3 : Hid (Below w.heap.size w w2) := Lib.hid (Below.tr HB.out hb2)
              have HO3 : Hid (OwnRows prE 51 w2 w.heap.size (.slice (some ⟨g7, 0, none⟩) (L.length + 1) cap7) (sortS (l.take (k + 1)))) := Lib.hid (by
                have h1 := HO.out.below (B := _) hb2 (Nat.le_refl _)
                rw [insP_len] at h1
                rwa [HE.out] at h1)
              clear hb2
              go_wp2_with fail
              go_roundg (G - 1)
              case measure => omega
              case rel => exact ⟨k + 1, by go_num, by omega, by omega, HO3, HB3⟩
    · have HE : Hid (sortS (l.take k) = sortS l) := Lib.hid (by rw [List.take_of_length_le (by omega)])
      rw [HE.out] at HO
      have hlti : ¬ (k : Int) < (l.length : Int) := by omega
      go_wp2_with fail
      go_ret
      exact ⟨_, rfl, HO.out, HBL.out⟩
end Go.Proofs.YtogeihdfmnohnaaGreatDoor
