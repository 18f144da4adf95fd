/- Part 31 of 49 of the proof of waitgraphOf_holds (no condition). -/
import Derived.Test.YtogeihdfmnohnaaGreatDoorK16
import Derived.Test.YtogeihdfmnohnaaGreatDoorK30
set_option linter.unusedVariables false
set_option linter.unusedSimpArgs false
namespace Go.Proofs.YtogeihdfmnohnaaGreatDoor
open Go.RowKit
def AscI (l : List Int) : Prop := l.Pairwise (· < ·)
theorem asc_uniq : ∀ {a b : List Int}, AscI a → AscI b → (∀ x, x ∈ a ↔ x ∈ b) → a = b
  | [], [], _, _, _ => rfl
  | [], y :: b, _, _, h => absurd ((h y).2 (by simp)) (by simp)
  | x :: a, [], _, _, h => absurd ((h x).1 (by simp)) (by simp)
  | x :: a, y :: b, ha, hb, h => by
    have ha2 := List.pairwise_cons.1 ha
    have hb2 := List.pairwise_cons.1 hb
    have hxy : x = y := by
      rcases List.mem_cons.1 ((h x).1 (by simp)) with e | e
      · exact e
      · rcases List.mem_cons.1 ((h y).2 (by simp)) with e2 | e2
        · exact e2.symm
        · have := hb2.1 x e
          have := ha2.1 y e2
          omega
    subst hxy
    rw [asc_uniq ha2.2 hb2.2 fun z => ?_]
    constructor
    · intro hz
      rcases List.mem_cons.1 ((h z).1 (by simp [hz])) with e | e
      · have := ha2.1 z hz; omega
      · exact e
    · intro hz
      rcases List.mem_cons.1 ((h z).2 (by simp [hz])) with e | e
      · have := hb2.1 z hz; omega
      · exact e
theorem putGo_true (n : Int) : ∀ (l : List Int), (∀ x ∈ l, n < x) → putGo n l true = some l
  | [], _ => rfl
  | x :: l, h => by
    have hx := h x (by simp)
    rw [putGo_cons, putGo_true n l fun y hy => h y (by simp [hy])]
    have h1 : decide (x = n) = false := decide_eq_false (by omega)
    rw [h1]
    rfl
theorem putGo_asc (n : Int) : ∀ (l : List Int), AscI l → (n ∈ l ∧ putGo n l false = none) ∨ (n ∉ l ∧ ∃ r, putGo n l false = some r ∧ AscI r ∧ ∀ x, x ∈ r ↔ x = n ∨ x ∈ l)
  | [], _ => .inr ⟨by simp, [n], rfl, by simp [AscI], by simp⟩
  | x :: l, h => by
    have h2 := List.pairwise_cons.1 h
    rw [putGo_cons]
    by_cases h1 : x = n
    · rw [decide_eq_true h1]
      exact .inl ⟨by simp [h1], rfl⟩
    · rw [decide_eq_false h1]
      by_cases h3 : n < x
      · have h4 : (!false && decide (n < x)) = true := by simp [h3]
        rw [h4, putGo_true n l fun y hy => by have := h2.1 y hy; omega]
        refine .inr ⟨?_, n :: x :: l, rfl, ?_, ?_⟩
        · intro hm
          rcases List.mem_cons.1 hm with e | e
          · exact h1 e.symm
          · have := h2.1 n e; omega
        · refine List.pairwise_cons.2 ⟨?_, h⟩
          intro y hy
          rcases List.mem_cons.1 hy with e | e
          · rw [e]; exact h3
          · have := h2.1 y e; omega
        · intro y
          simp
      · have h4 : (!false && decide (n < x)) = false := by simp [h3]
        rw [h4]
        rcases putGo_asc n l h2.2 with ⟨h5, h6⟩ | ⟨h5, r, h6, h7, h8⟩
        · exact .inl ⟨by simp [h5], by rw [h6]; rfl⟩
        · refine .inr ⟨?_, x :: r, by rw [h6]; rfl, ?_, ?_⟩
          · intro hm
            rcases List.mem_cons.1 hm with e | e
            · exact h1 e.symm
            · exact h5 e
          · refine List.pairwise_cons.2 ⟨?_, h7⟩
            intro y hy
            rcases (h8 y).1 hy with e | e
            · rw [e]; omega
            · exact h2.1 y e
          · intro y
            simp only [List.mem_cons, h8]
            constructor
            · rintro (e | e | e)
              · exact .inr (.inl e)
              · exact .inl e
              · exact .inr (.inr e)
            · rintro (e | e | e)
              · exact .inr (.inl e)
              · exact .inl e
              · exact .inr (.inr e)
theorem addI_asc {l : List Int} (n : Int) (h : AscI l) : AscI (addI l n) ∧ ∀ x, x ∈ addI l n ↔ x = n ∨ x ∈ l := by
  unfold addI
  rcases putGo_asc n l h with ⟨h1, h2⟩ | ⟨_, r, h2, h3, h4⟩
  · rw [h2]
    refine ⟨h, fun x => ?_⟩
    show x ∈ l ↔ _
    constructor
    · exact .inr
    · rintro (e | e)
      · rw [e]; exact h1
      · exact e
  · rw [h2]
    exact ⟨h3, h4⟩
def addAll (l xs : List Int) : List Int := xs.foldl addI l
theorem addAll_asc : ∀ (xs : List Int) {l : List Int}, AscI l → AscI (addAll l xs) ∧ ∀ x, x ∈ addAll l xs ↔ x ∈ l ∨ x ∈ xs
  | [], l, h => ⟨h, fun x => by simp [addAll]⟩
  | y :: xs, l, h => by
    have h1 := addI_asc y h
    have h2 := addAll_asc xs h1.1
    refine ⟨h2.1, fun x => ?_⟩
    have h3 := h2.2 x
    show x ∈ addAll (addI l y) xs ↔ _
    rw [h3, h1.2 x, List.mem_cons]
    constructor
    · rintro ((e | e) | e)
      · exact .inr (.inl e)
      · exact .inl e
      · exact .inr (.inr e)
    · rintro (e | e | e)
      · exact .inl (.inr e)
      · exact .inl (.inl e)
      · exact .inr e
theorem addAll_len : ∀ (xs l : List Int), (addAll l xs).length ≤ l.length + xs.length
  | [], l => by simp [addAll]
  | y :: xs, l => by
    have h1 := addI_len l y
    have h2 := addAll_len xs (addI l y)
    show (addAll (addI l y) xs).length ≤ _
    simp only [List.length_cons]
    omega
theorem addAll_app (l xs ys : List Int) : addAll l (xs ++ ys) = addAll (addAll l xs) ys := by simp [addAll]
theorem addAll_of {xs l : List Int} (h : AscI l) (hm : ∀ x, x ∈ l ↔ x ∈ xs) : addAll [] xs = l := by
  have h1 := addAll_asc xs (l := []) (by simp [AscI])
  refine asc_uniq h1.1 h fun x => ?_
  rw [h1.2, hm]
  simp
def sortI (l : List Int) : List Int := l.mergeSort fun x y => decide (x ≤ y)
theorem sortI_perm (l : List Int) : (sortI l).Perm l := List.mergeSort_perm _ _
theorem sortI_le (l : List Int) : (sortI l).Pairwise (· ≤ ·) := by
  have := List.pairwise_mergeSort (le := fun (x y : Int) => decide (x ≤ y)) (fun a b c => by simp; omega) (fun a b => by simp; omega) l
  exact this.imp (by simp)
theorem addAll_sort {xs : List Int} (h : xs.Nodup) : addAll [] xs = sortI xs := by
  refine addAll_of ?_ fun x => (sortI_perm xs).mem_iff
  have h1 : (sortI xs).Nodup := (sortI_perm xs).nodup_iff.2 h
  have h2 := sortI_le xs
  unfold AscI
  exact (h1.and h2).imp (by intro a b hab; have := hab.1; have := hab.2; omega)
theorem compactI_mem (d : Array Int) : ∀ m x, x ∈ Go.Lib.compactUpTo d m ↔ ∃ j, j < m ∧ d[j]! = x
  | 0, x => by simp [Go.Lib.compactUpTo]
  | m + 1, x => by
    rw [Go.Lib.compactUpTo_succ, List.mem_append, compactI_mem d m x]
    by_cases h : Go.Lib.keeps d m = true
    · rw [if_pos h, List.mem_singleton]
      constructor
      · rintro (⟨j, hj, e⟩ | e)
        · exact ⟨j, by omega, e⟩
        · exact ⟨m, by omega, e.symm⟩
      · rintro ⟨j, hj, e⟩
        rcases Nat.lt_or_ge j m with h1 | h1
        · exact Or.inl ⟨j, h1, e⟩
        · have : j = m := by omega
          subst this
          exact Or.inr e.symm
    · rw [if_neg h]
      have hk : ¬ (m = 0 ∨ d[m]! ≠ d[m - 1]!) := by simpa [Go.Lib.keeps] using h
      have h0 : m ≠ 0 := fun e => hk (Or.inl e)
      have he : d[m]! = d[m - 1]! := Classical.byContradiction fun e => hk (Or.inr e)
      constructor
      · rintro (⟨j, hj, e⟩ | e)
        · exact ⟨j, by omega, e⟩
        · cases e
      · rintro ⟨j, hj, e⟩
        rcases Nat.lt_or_ge j m with h1 | h1
        · exact Or.inl ⟨j, h1, e⟩
        · have : j = m := by omega
          subst this
          exact Or.inl ⟨j - 1, by omega, he.symm.trans e⟩
theorem compactI_asc (d : Array Int) (hs : ∀ i j, i < j → j < d.size → d[i]! ≤ d[j]!) : ∀ m, m ≤ d.size → AscI (Go.Lib.compactUpTo d m)
  | 0, _ => by simp [Go.Lib.compactUpTo, AscI]
  | m + 1, hm => by
    have ih := compactI_asc d hs m (by omega)
    rw [Go.Lib.compactUpTo_succ]
    by_cases h : Go.Lib.keeps d m = true
    · rw [if_pos h]
      unfold AscI at *
      rw [List.pairwise_append]
      refine ⟨ih, by simp, fun x hx y hy => ?_⟩
      rw [List.mem_singleton.1 hy]
      obtain ⟨j, hj, rfl⟩ := (compactI_mem d m x).1 hx
      have hk : m = 0 ∨ d[m]! ≠ d[m - 1]! := by simpa [Go.Lib.keeps] using h
      have hne : d[m]! ≠ d[m - 1]! := hk.resolve_left (by omega)
      have a1 := hs (m - 1) m (by omega) (by omega)
      have a2 : d[j]! ≤ d[m - 1]! := by
        rcases Nat.lt_or_ge j (m - 1) with h2 | h2
        · exact hs j (m - 1) h2 (by omega)
        · have : j = m - 1 := by omega
          subst this
          exact Int.le_refl _
      omega
    · rw [if_neg h, List.append_nil]
      exact ih
def compI (l : List Int) : List Int := Go.Lib.compact (sortI l)
theorem addAll_comp (xs : List Int) : addAll [] xs = compI xs := by
  have hle := sortI_le xs
  have hm := fun x => (sortI_perm xs).mem_iff (a := x)
  unfold compI Go.Lib.compact
  generalize sortI xs = M at *
  refine addAll_of (compactI_asc _ ?_ _ (by simp)) fun x => ?_
  · intro i j hij hj
    have hj' : j < M.length := by simpa using hj
    rw [getElem!_pos _ j hj, getElem!_pos _ i (by omega)]
    have := List.pairwise_iff_getElem.1 hle i j (by omega) hj' hij
    simpa using this
  · rw [compactI_mem, ← hm x]
    constructor
    · rintro ⟨j, hj, rfl⟩
      rw [getElem!_pos _ j (by simpa using hj)]
      simp
    · intro h
      obtain ⟨j, hj, rfl⟩ := List.getElem_of_mem h
      exact ⟨j, hj, by rw [getElem!_pos _ j (by simpa using hj)]; simp⟩
theorem addI_two {x c : Int} (h : x < c) : addI [x] c = [x, c] := by
  unfold addI
  rw [putGo_cons, decide_eq_false (by omega), decide_eq_false (by omega)]
  rfl
end Go.Proofs.YtogeihdfmnohnaaGreatDoor
namespace Go.Proofs.YtogeihdfmnohnaaGreatDoor
open Go.RowKit
def idxP (p : Pr) : Nat → List Pr → Int
  | _, [] => -1
  | k, x :: l => bif decide (x = p) then (k : Int) else idxP p (k + 1) l
theorem idxP_cons (p x : Pr) (k : Nat) (l : List Pr) : idxP p k (x :: l) = bif decide (x = p) then (k : Int) else idxP p (k + 1) l := rfl
set_option maxHeartbeats 1600000 in
theorem at_any (A : Option Addr) (B cap : Nat) (l : List Pr) (x y z : Int) (w : World) (hm : l.length ≤ maxLen) (hB : B ≤ w.heap.size) (hr : RowsAt prE w (Lo B) A l) :
    Calls Tryz.prog 27 #[.slice A l.length cap, .agg #[.int .i64 x, .int .i64 y, .int .i64 z]] w (Ret w (.int .i64 (idxP ⟨x, y, z⟩ 0 l))) := by
  unfold maxLen at hm
  have HR := Lib.hid hr
  clear hr
  obtain ⟨v, hv⟩ : ∃ v, idxP ⟨x, y, z⟩ 0 l = v := ⟨_, rfl⟩
  rw [hv]
  have HV : Hid (idxP ⟨x, y, z⟩ 0 (l.drop 0) = v) := Lib.hid hv
  clear hv
  go_enter Tryz.func27, Tryz.ntmps27
  go_wp2_with fail
  go_loopg [5] l.length (fun m0 v5 wq => ∃ k : Nat, v5 = .int .i64 (k : Int) ∧ k ≤ l.length ∧ l.length ≤ k + m0 ∧ Hid (idxP ⟨x, y, z⟩ k (l.drop k) = v) ∧ Hid (Below (w.alloc (.cells #[.int .i64 x, .int .i64 y, .int .i64 z] 51)).heap.size (w.alloc (.cells #[.int .i64 x, .int .i64 y, .int .i64 z] 51)) wq))
  case atStart => exact ⟨0, rfl, Nat.zero_le _, by omega, HV, Lib.hid (Below.refl _ _)⟩
  case round =>
    obtain ⟨k, rfl, hk, hkm, HI, HB⟩ := hrel
    have hb := HB.out
    have hbw : Below w.heap.size w wr := by (repeat (first | (with_reducible exact Below.refl _ _) | (with_reducible assumption) | (with_reducible refine below_drewN ?_ _) | (with_reducible refine Below.drew ?_) | (with_reducible refine Below.al ?_ _) | (with_reducible refine Below.st ?_ (by simp; try omega)) | (with_reducible refine Below.tr ?_ (Hid.out (by assumption))) | (with_reducible exact Hid.out (by assumption))))
    have x0 : wr.cell? ⟨w.heap.size, 0, none⟩ = some (.int .i64 x) := (hb.cell (p := ⟨w.heap.size, 0, none⟩) (by simp)).trans (cellNewA w _ _ 0)
    have x1 : wr.cell? ⟨w.heap.size, 1, none⟩ = some (.int .i64 y) := (hb.cell (p := ⟨w.heap.size, 1, none⟩) (by simp)).trans (cellNewA w _ _ 1)
    have x2 : wr.cell? ⟨w.heap.size, 2, none⟩ = some (.int .i64 z) := (hb.cell (p := ⟨w.heap.size, 2, none⟩) (by simp)).trans (cellNewA w _ _ 2)
    have hz0 : w.heap.size < wr.heap.size := by have := hb.size; simp at this; omega
    clear hb
    by_cases hlt : k < l.length
    · obtain ⟨⟨a, b, c⟩, hx⟩ : ∃ x, l[k] = x := ⟨_, rfl⟩
      obtain ⟨g, off, rfl, hbl, c0, c1, c2⟩ := pr_cells (HR.out.below (B'' := w.heap.size) hbw hB hB) hlt hx
      have hbl2 : g < wr.heap.size := Nat.lt_of_lt_of_le hbl hbw.size
      have hlti : (k : Int) < (l.length : Int) := by omega
      obtain ⟨_, k1, k2⟩ := cmpPr a b c x y z
      obtain ⟨q, hq⟩ : ∃ q, decide ((⟨a, b, c⟩ : Pr) = ⟨x, y, z⟩) = q := ⟨_, rfl⟩
      have HS : Hid ((bif q then (k : Int) else idxP ⟨x, y, z⟩ (k + 1) (l.drop (k + 1))) = v) := Lib.hid (by have h := HI.out; rw [drop_step hlt hx, idxP_cons] at h; rw [← hq]; exact h)
      rw [hq] at k1
      clear hq hx hbl hbw
      cases q <;> (go_wp2_with fail; go_quiet (fail); go_wp2_with fail; first
        | (go_roundg (gk - 1); (case measure => omega); (case rel => exact ⟨k + 1, by go_num, by omega, by omega, Lib.hid HS.out, Lib.hid (by (repeat (first | (with_reducible exact Below.refl _ _) | (with_reducible assumption) | (with_reducible refine below_drewN ?_ _) | (with_reducible refine Below.drew ?_) | (with_reducible refine Below.al ?_ _) | (with_reducible refine Below.st ?_ (by simp; try omega)) | (with_reducible refine Below.tr ?_ (Hid.out (by assumption))) | (with_reducible exact Hid.out (by assumption)))))⟩))
        | (go_ret; exact ⟨ret_int (show (k : Int) = v from HS.out), by (repeat (first | (with_reducible exact Below.refl _ _) | (with_reducible assumption) | (with_reducible refine below_drewN ?_ _) | (with_reducible refine Below.drew ?_) | (with_reducible refine Below.al ?_ _) | (with_reducible refine Below.st ?_ (by simp; try omega)) | (with_reducible refine Below.tr ?_ (Hid.out (by assumption))) | (with_reducible exact Hid.out (by assumption))))⟩))
    · have HS : Hid (-1 = v) := Lib.hid (by have h := HI.out; rw [drop_end hlt] at h; exact h)
      clear hbw
      go_wp2_with fail
      go_ret
      exact ⟨ret_int HS.out, by (repeat (first | (with_reducible exact Below.refl _ _) | (with_reducible assumption) | (with_reducible refine below_drewN ?_ _) | (with_reducible refine Below.drew ?_) | (with_reducible refine Below.al ?_ _) | (with_reducible refine Below.st ?_ (by simp; try omega)) | (with_reducible refine Below.tr ?_ (Hid.out (by assumption))) | (with_reducible exact Hid.out (by assumption))))⟩
set_option maxHeartbeats 1600000 in
theorem IndexProc_any (A : Option Addr) (B cap : Nat) (l : List Pr) (x y z : Int) (w : World) (hm : l.length ≤ maxLen) (hB : B ≤ w.heap.size) (hr : RowsAt prE w (Lo B) A l) :
    Calls Tryz.prog 51 #[.slice A l.length cap, .agg #[.int .i64 x, .int .i64 y, .int .i64 z]] w (Ret w (.int .i64 (idxP ⟨x, y, z⟩ 0 l))) := by
  unfold maxLen at hm
  have HR := Lib.hid hr
  clear hr
  obtain ⟨v, hv⟩ : ∃ v, idxP ⟨x, y, z⟩ 0 l = v := ⟨_, rfl⟩
  rw [hv]
  have HV : Hid (idxP ⟨x, y, z⟩ 0 (l.drop 0) = v) := Lib.hid hv
  clear hv
  go_enter Tryz.func51, Tryz.ntmps51
  go_wp2_with fail
  go_loopg [8] l.length (fun m0 v8 wq => ∃ k : Nat, v8 = .int .i64 (k : Int) ∧ k ≤ l.length ∧ l.length ≤ k + m0 ∧ Hid (idxP ⟨x, y, z⟩ k (l.drop k) = v) ∧ Hid (Below (w.alloc (.cells #[.int .i64 x, .int .i64 y, .int .i64 z] 51)).heap.size (w.alloc (.cells #[.int .i64 x, .int .i64 y, .int .i64 z] 51)) wq))
  case atStart => exact ⟨0, rfl, Nat.zero_le _, by omega, HV, Lib.hid (Below.refl _ _)⟩
  case round =>
    obtain ⟨k, rfl, hk, hkm, HI, HB⟩ := hrel
    have hb := HB.out
    have hbw : Below w.heap.size w wr := by (repeat (first | (with_reducible exact Below.refl _ _) | (with_reducible assumption) | (with_reducible refine below_drewN ?_ _) | (with_reducible refine Below.drew ?_) | (with_reducible refine Below.al ?_ _) | (with_reducible refine Below.st ?_ (by simp; try omega)) | (with_reducible refine Below.tr ?_ (Hid.out (by assumption))) | (with_reducible exact Hid.out (by assumption))))
    have x0 : wr.cell? ⟨w.heap.size, 0, none⟩ = some (.int .i64 x) := (hb.cell (p := ⟨w.heap.size, 0, none⟩) (by simp)).trans (cellNewA w _ _ 0)
    have x1 : wr.cell? ⟨w.heap.size, 1, none⟩ = some (.int .i64 y) := (hb.cell (p := ⟨w.heap.size, 1, none⟩) (by simp)).trans (cellNewA w _ _ 1)
    have x2 : wr.cell? ⟨w.heap.size, 2, none⟩ = some (.int .i64 z) := (hb.cell (p := ⟨w.heap.size, 2, none⟩) (by simp)).trans (cellNewA w _ _ 2)
    have hz0 : w.heap.size < wr.heap.size := by have := hb.size; simp at this; omega
    clear hb
    by_cases hlt : k < l.length
    · obtain ⟨⟨a, b, c⟩, hx⟩ : ∃ x, l[k] = x := ⟨_, rfl⟩
      obtain ⟨g, off, rfl, hbl, c0, c1, c2⟩ := pr_cells (HR.out.below (B'' := w.heap.size) hbw hB hB) hlt hx
      have hbl2 : g < wr.heap.size := Nat.lt_of_lt_of_le hbl hbw.size
      have hlti : (k : Int) < (l.length : Int) := by omega
      obtain ⟨_, k1, k2⟩ := cmpPr x y z a b c
      obtain ⟨q, hq⟩ : ∃ q, decide ((⟨a, b, c⟩ : Pr) = ⟨x, y, z⟩) = q := ⟨_, rfl⟩
      have hq2 : decide ((⟨x, y, z⟩ : Pr) = ⟨a, b, c⟩) = q := by rw [← hq]; simp only [eq_comm]
      have HS : Hid ((bif q then (k : Int) else idxP ⟨x, y, z⟩ (k + 1) (l.drop (k + 1))) = v) := Lib.hid (by have h := HI.out; rw [drop_step hlt hx, idxP_cons] at h; rw [← hq]; exact h)
      rw [hq2] at k1
      clear hq hq2 hx hbl hbw
      cases q <;> (go_wp2_with fail; go_quiet (fail); go_wp2_with fail; first
        | (go_roundg (gk - 1); (case measure => omega); (case rel => exact ⟨k + 1, by go_num, by omega, by omega, Lib.hid HS.out, Lib.hid (by (repeat (first | (with_reducible exact Below.refl _ _) | (with_reducible assumption) | (with_reducible refine below_drewN ?_ _) | (with_reducible refine Below.drew ?_) | (with_reducible refine Below.al ?_ _) | (with_reducible refine Below.st ?_ (by simp; try omega)) | (with_reducible refine Below.tr ?_ (Hid.out (by assumption))) | (with_reducible exact Hid.out (by assumption)))))⟩))
        | (go_ret; exact ⟨ret_int (show (k : Int) = v from HS.out), by (repeat (first | (with_reducible exact Below.refl _ _) | (with_reducible assumption) | (with_reducible refine below_drewN ?_ _) | (with_reducible refine Below.drew ?_) | (with_reducible refine Below.al ?_ _) | (with_reducible refine Below.st ?_ (by simp; try omega)) | (with_reducible refine Below.tr ?_ (Hid.out (by assumption))) | (with_reducible exact Hid.out (by assumption))))⟩))
    · have HS : Hid (-1 = v) := Lib.hid (by have h := HI.out; rw [drop_end hlt] at h; exact h)
      clear hbw
      go_wp2_with fail
      go_ret
      exact ⟨ret_int HS.out, by (repeat (first | (with_reducible exact Below.refl _ _) | (with_reducible assumption) | (with_reducible refine below_drewN ?_ _) | (with_reducible refine Below.drew ?_) | (with_reducible refine Below.al ?_ _) | (with_reducible refine Below.st ?_ (by simp; try omega)) | (with_reducible refine Below.tr ?_ (Hid.out (by assumption))) | (with_reducible exact Hid.out (by assumption))))⟩
def sumO : List Qu → Nat
  | [] => 0
  | q :: l => (ordL q).length + sumO l
theorem sumO_app : ∀ (l : List Qu) (q : Qu), sumO (l ++ [q]) = sumO l + (ordL q).length
  | [], q => by simp [sumO]
  | x :: l, q => by simp [sumO, sumO_app l q, Nat.add_assoc]
theorem sumO_take {l : List Qu} {k : Nat} {q : Qu} (h : k < l.length) (hx : l[k] = q) : sumO (l.take (k + 1)) = sumO (l.take k) + (ordL q).length := by
  rw [← sumO_app]
  congr 1
  rw [List.take_add_one, List.getElem?_eq_getElem h, hx]
  rfl
theorem ordL_len {q : Qu} (h : shortQ q) : (ordL q).length ≤ 16 := by
  have h2 : (ordL q).length = q.convs.length + q.waits.length := by simp [ordL, prwL]
  have := h.2.1
  have := h.2.2
  omega
theorem sumO_len : ∀ (l : List Qu), (∀ q ∈ l, shortQ q) → sumO l ≤ l.length * 16
  | [], _ => by simp [sumO]
  | q :: l, h => by
    have h1 := sumO_len l fun x hx => h x (by simp [hx])
    have h2 := ordL_len (h q (by simp))
    simp only [sumO, List.length_cons]
    omega
def firstS (s : Ws) (i : Nat) : Nat := (procsW s).length + 2 * sumO (s.queues.take i)
set_option maxHeartbeats 3200000 in
theorem gplace_any (s : Ws) (d : Nat) (A1 A2 : Option Addr) (c1 c2 B i n : Nat) (w : World) (hw : WF w B d A1 A2 s) (h1 : s.queues.length ≤ 8) (h2 : s.needs.length ≤ 8) (hs : ∀ q ∈ s.queues, shortQ q) (hi : i ≤ s.queues.length) (hn : n ≤ 1000) :
    Calls Tryz.prog 28 #[s.val A1 A2 c1 c2, .int .i64 (i : Int), .int .i64 (n : Int)] w (Ret w (.int .i64 ((firstS s i + 2 * n : Nat) : Int))) := by
  have HP := Lib.hid (fun W (hb : Below w.heap.size w W) => rWProcs_any s d A1 A2 c1 c2 B W (hw.below hb) (by omega) (by omega) hs)
  have HO := Lib.hid (fun q A1 A2 A3 c1 c2 c3 W (hq : QF W B A1 A2 A3 q) (h : shortQ q) => rQOrder_any q A1 A2 A3 c1 c2 c3 W B hq h.2.1 h.2.2)
  have HSH := Lib.hid hs
  have HLL := Lib.hid (fun k => sumO_len (s.queues.take k) fun q hq => hs q (List.mem_of_mem_take hq))
  have HR := Lib.hid hw.r1
  have HBw := Lib.hid hw.hB
  have HPL : Hid ((procsW s).length ≤ 1000) := Lib.hid (by
    have h3 := sortS_len (procsT s.queues ++ prnL s.needs)
    have h4 := procsT_len hs
    have h5 : (prnL s.needs).length = s.needs.length := by simp [prnL]
    unfold procsW
    rw [List.length_append] at h3
    omega)
  have HF : Hid (firstS s i = (procsW s).length + 2 * sumO (s.queues.take i)) := Lib.hid rfl
  clear hw hs
  generalize firstS s i = F at *
  generalize procsW s = PW at *
  obtain ⟨qs, ns⟩ := s
  unfold Ws.val at *
  dsimp only at HP HSH HLL HR HF h1 h2 hi ⊢
  have hpl := HPL.out
  go_enter Tryz.func28, Tryz.ntmps28
  go_wp2_with fail
  refine (HP.out _ (by (repeat (first | (with_reducible exact Below.refl _ _) | (with_reducible assumption) | (with_reducible refine below_drewN ?_ _) | (with_reducible refine Below.drew ?_) | (with_reducible refine Below.al ?_ _) | (with_reducible refine Below.st ?_ (by simp; try omega)) | (with_reducible refine Below.tr ?_ (Hid.out (by assumption))) | (with_reducible exact Hid.out (by assumption)))))).mono ?_
  rintro e w2 ⟨v2, rfl, ho2, hb2⟩
  obtain ⟨A7, c7, rfl, _, _, _⟩ := ho2.form
  have HB2 : Hid (Below w.heap.size w w2) := Lib.hid (Below.tr (Below.al (Below.refl _ _) _) hb2)
  have y0 : w2.cell? ⟨w.heap.size, 0, none⟩ = some (.slice A1 qs.length c1) := (hb2.cell (p := ⟨w.heap.size, 0, none⟩) (by simp)).trans (cellNewA w _ _ 0)
  have hz2 : w.heap.size < w2.heap.size := by have := hb2.size; simp at this; omega
  clear hb2 ho2
  go_wp2_with fail
  go_loopg [7, 8] i (fun m v7 v8 wq => ∃ k : Nat, v8 = .int .i64 (k : Int) ∧ k ≤ i ∧ i ≤ k + m ∧ v7 = .int .i64 ((PW.length + 2 * sumO (qs.take k) : Nat) : Int) ∧ Hid (Below w2.heap.size w2 wq))
  case atStart => exact ⟨0, rfl, Nat.zero_le _, by omega, by simp [sumO], Lib.hid (Below.refl _ _)⟩
  case round =>
    obtain ⟨k, rfl, hk, hkm, rfl, HB⟩ := hrel
    have HBW : Hid (Below w.heap.size w wr) := Lib.hid (Below.tr HB2.out HB.out)
    have z0 := (HB.out.cell (p := ⟨w.heap.size, 0, none⟩) hz2).trans y0
    have hzr : w.heap.size < wr.heap.size := Nat.lt_of_lt_of_le hz2 HB.out.size
    have hLK : sumO (qs.take k) ≤ 128 := by have := HLL.out k; rw [List.length_take] at this; omega
    by_cases hlt : k < i
    · have hlti : (k : Int) < (i : Int) := by omega
      have hkq : k < qs.length := by omega
      have hkqi : (k : Int) < (qs.length : Int) := by omega
      obtain ⟨q, hx⟩ : ∃ x, qs[k] = x := ⟨_, rfl⟩
      have HSQ : Hid (shortQ q) := Lib.hid (hx ▸ HSH.out _ (List.getElem_mem hkq))
      have hol := ordL_len HSQ.out
      have HE : Hid (sumO (qs.take (k + 1)) = sumO (qs.take k) + (ordL q).length) := Lib.hid (sumO_take hkq hx)
      obtain ⟨g, off, B1, B2, B3, e1, e2, e3, rfl, hbl, d0, d1, d2, d3, d4, d5, d6, d7, hqf⟩ := qu_cells (HR.out.below (B'' := B) HBW.out HBw.out (Nat.le_refl _)) (Nat.le_trans HBw.out HBW.out.size) hkq hx
      have hbl2 : g < wr.heap.size := Nat.lt_of_lt_of_le hbl (Nat.le_trans HBw.out HBW.out.size)
      have HC := Lib.hid (HO.out q B1 B2 B3 e1 e2 e3 wr hqf HSQ.out)
      obtain ⟨⟨nm, kd, un, h⟩, hs, cs, ws, gen⟩ := q
      unfold Qu.val at HC
      dsimp only at d0 d1 d2 d3 d4 d5 d6 d7 HC
      generalize ordL ⟨⟨nm, kd, un, h⟩, hs, cs, ws, gen⟩ = o at *
      generalize sumO (qs.take k) = sk at *
      clear hx hbl hqf
      go_wp2_with fail
      refine HC.out.mono ?_
      rintro e w5 ⟨v5, rfl, ho5, hb5⟩
      obtain ⟨A6, c6, rfl, _, _, _⟩ := ho5.form
      have HB5 : Hid (Below w2.heap.size w2 w5) := Lib.hid (Below.tr HB.out hb5)
      clear ho5 hb5
      go_wp2_with fail
      go_roundg (gk - 1)
      case measure => omega
      case rel => exact ⟨k + 1, by go_num, by omega, by omega, by rw [HE.out]; go_num, HB5⟩
    · have hlti : ¬ (k : Int) < (i : Int) := by omega
      obtain rfl : k = i := by omega
      generalize sumO (qs.take k) = sk at *
      go_wp2_with fail
      go_ret
      exact ⟨ret_int (by rw [HF.out]; omega), HBW.out⟩
end Go.Proofs.YtogeihdfmnohnaaGreatDoor
