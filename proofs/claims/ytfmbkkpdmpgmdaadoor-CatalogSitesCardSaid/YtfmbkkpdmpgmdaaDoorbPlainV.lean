/- Plain laws: catalogs that are put together of others; what Remove leaves is valid. -/
import Derived.Test.YtfmbkkpdmpgmdaaDoorbPlainU
namespace Go.Proofs.YtfmbkkpdmpgmdaaDoor

/-- Two sorted lists of the same resources are the same. -/
theorem eq_of_mem : ∀ {l l' : Ct}, l.Pairwise (fun a b => a.key < b.key) → l'.Pairwise (fun a b => a.key < b.key) → (∀ x, x ∈ l ↔ x ∈ l') → l = l'
  | [], [], _, _, _ => rfl
  | [], b :: r', _, _, h => by have := (h b).2 (by simp); simp at this
  | a :: r, [], _, _, h => by have := (h a).1 (by simp); simp at this
  | a :: r, b :: r', h1, h2, h => by
    rw [List.pairwise_cons] at h1 h2
    have hab : a = b := by
      rcases List.mem_cons.1 ((h a).1 (by simp)) with e | e
      · exact e
      · rcases List.mem_cons.1 ((h b).2 (by simp)) with e2 | e2
        · exact e2.symm
        · exact absurd (List.lt_trans (h1.1 b e2) (h2.1 a e)) (List.lt_irrefl _)
    subst hab
    rw [eq_of_mem h1.2 h2.2 fun x => ?_]
    constructor
    · intro hx
      rcases List.mem_cons.1 ((h x).1 (List.mem_cons_of_mem _ hx)) with e | e
      · subst e; exact absurd (h1.1 x hx) (List.lt_irrefl _)
      · exact e
    · intro hx
      rcases List.mem_cons.1 ((h x).2 (List.mem_cons_of_mem _ hx)) with e | e
      · subst e; exact absurd (h2.1 x hx) (List.lt_irrefl _)
      · exact e
theorem VCat.filter {l : Ct} (h : VCat l) (p : Rs → Bool) : VCat (l.filter p) := by
  rw [vcat_iff] at h ⊢
  exact ⟨Nat.le_trans (List.length_filter_le _ _) h.1, fun x hx => h.2.1 x (List.mem_filter.1 hx).1, h.2.2.filter _⟩
theorem key_inj {l : Ct} (h : VCat l) {a b : Rs} (ha : a ∈ l) (hb : b ∈ l) (e : a.key = b.key) : a = b := by
  obtain ⟨i, hi, rfl⟩ := List.mem_iff_getElem.1 ha
  obtain ⟨j, hj, rfl⟩ := List.mem_iff_getElem.1 hb
  have := h.2.2.inj hi hj e
  subst this
  rfl
theorem rem_props {l x : Ct} {n : ByteArray} (h : remS l n = (0, x)) : VCat x := by
  unfold remS at h
  split at h
  case isFalse => simp at h
  rename_i hv
  split at h
  case isFalse => simp at h
  simp only [Prod.mk.injEq, true_and] at h
  subst h
  exact hv.filter _
theorem rem_len {l : Ct} {n : ByteArray} : (remS l n).2.length ≤ l.length := by
  unfold remS
  split
  · split
    · exact List.length_filter_le _ _
    · simp
  · simp
theorem filter_length_lt {l : Ct} {p : Rs → Bool} {r : Rs} (hr : r ∈ l) (hp : p r = false) : (l.filter p).length < l.length := by
  induction l with
  | nil => simp at hr
  | cons a t ih =>
    rcases List.mem_cons.1 hr with rfl | h
    · rw [List.filter_cons_of_neg (by simp [hp])]
      have := List.length_filter_le p t
      simp only [List.length_cons]; omega
    · have := ih h
      by_cases ha : p a = true
      · rw [List.filter_cons_of_pos ha]; simp only [List.length_cons]; omega
      · rw [List.filter_cons_of_neg ha]; simp only [List.length_cons]; omega
/-- Inserting into a part of a catalog what the catalog has and the part has not. -/
theorem ins_filter {l : Ct} (hv : VCat l) (p : Rs → Bool) {r : Rs} (hr : r ∈ l) (hp : p r = false) : insS (l.filter p) r = (0, l.filter (fun x => p x || x.key == r.key)) := by
  have hvf := hv.filter p
  obtain ⟨h8, hres, hpw⟩ := vcat_iff.1 hv
  have hrb := hres r hr
  have hnm : nameB r.key = true := by
    unfold resB at hrb
    simp only [Bool.and_eq_true] at hrb
    exact hrb.1.1.1
  have hno : ¬ (findR (l.filter p) r.name).isSome = true := by
    intro h
    obtain ⟨i, hi, he⟩ := findR_isSome.1 h
    obtain ⟨h1, h2⟩ := List.mem_filter.1 (List.getElem_mem hi)
    have := key_inj hv h1 hr he
    rw [this, hp] at h2
    cases h2
  have hlt := filter_length_lt hr hp
  have hs : insS (l.filter p) r = (0, insL (l.filter p) r) := by
    unfold insS
    rw [if_pos hvf, if_pos hnm, if_pos hrb, if_neg hno, if_neg (by omega)]
  rw [hs]
  obtain ⟨_, hvx, _, _, _⟩ := ins_props hs
  have he : insL (l.filter p) r = l.filter (fun x => p x || x.key == r.key) := by
    refine eq_of_mem (vcat_iff.1 hvx).2.2 (hpw.filter _) fun x => ?_
    unfold insL
    simp only [List.mem_append, List.mem_cons, List.mem_filter, Bool.or_eq_true, beq_iff_eq, decide_eq_true_eq, Bool.not_eq_true', decide_eq_false_iff_not]
    constructor
    · rintro (⟨⟨h1, h2⟩, _⟩ | rfl | ⟨⟨h1, h2⟩, _⟩)
      · exact ⟨h1, .inl h2⟩
      · exact ⟨hr, .inr rfl⟩
      · exact ⟨h1, .inl h2⟩
    · rintro ⟨h1, h2 | h2⟩
      · by_cases hk : x.key < r.key
        · exact .inl ⟨⟨h1, h2⟩, hk⟩
        · exact .inr (.inr ⟨⟨h1, h2⟩, hk⟩)
      · exact .inr (.inl (key_inj hv h1 hr h2))
  rw [he]

/-- What has been put in when the sites below s, and of site s the first k, are done. -/
def doneB (l : Ct) (s : Int) (k : Nat) (x : Rs) : Bool := decide (x.home < s) || ((atL l s).take k).any (fun y => x.key == y.key)
theorem doneB_zero {l : Ct} {s : Int} : l.filter (doneB l s 0) = l.filter (fun x => decide (x.home < s)) := by
  congr 1
  funext x
  simp [doneB]
theorem doneB_step {l : Ct} {s : Int} {k : Nat} (h : k < (atL l s).length) : l.filter (fun x => doneB l s k x || x.key == ((atL l s)[k]).key) = l.filter (doneB l s (k + 1)) := by
  congr 1
  funext x
  unfold doneB
  rw [List.take_succ_eq_append_getElem h, List.any_append, Bool.or_assoc]
  simp
theorem doneB_new {l : Ct} (hv : VCat l) {s : Int} {k : Nat} (h : k < (atL l s).length) : (atL l s)[k] ∈ l ∧ doneB l s k (atL l s)[k] = false := by
  have hm := List.mem_filter.1 (List.getElem_mem h)
  have hh : ((atL l s)[k]).home = s := by simpa using hm.2
  refine ⟨hm.1, ?_⟩
  unfold doneB
  rw [hh, Bool.or_eq_false_iff]
  refine ⟨by simp, ?_⟩
  rw [List.any_eq_false]
  intro y hy he
  obtain ⟨i, hi, rfl⟩ := List.mem_iff_getElem.1 hy
  rw [List.length_take] at hi
  rw [List.getElem_take] at he
  have hva : VCat (atL l s) := hv.filter (fun x => decide (x.home = s))
  have := hva.2.2.inj (i := k) (j := i) h (by omega) (beq_iff_eq.1 he)
  omega
theorem doneB_end {l : Ct} (hv : VCat l) {s : Int} : l.filter (doneB l s (atL l s).length) = l.filter (fun x => decide (x.home < s + 1)) := by
  apply List.filter_congr
  intro x hx
  unfold doneB
  rw [List.take_length, Bool.eq_iff_iff]
  simp only [Bool.or_eq_true, decide_eq_true_eq, List.any_eq_true, beq_iff_eq]
  constructor
  · rintro (h | ⟨y, hy, he⟩)
    · omega
    · have hyh : y.home = s := by simpa using (List.mem_filter.1 hy).2
      have := key_inj hv hx (List.mem_filter.1 hy).1 he
      rw [this, hyh]
      omega
  · intro h
    by_cases h1 : x.home < s
    · exact .inl h1
    · have : x.home = s := by omega
      exact .inr ⟨x, List.mem_filter.2 ⟨hx, by simpa using this⟩, rfl⟩
theorem count_step {l : Ct} {s : Int} : (l.filter (fun x => decide (x.home < s))).length + (atL l s).length = (l.filter (fun x => decide (x.home < s + 1))).length := by
  unfold atL
  induction l with
  | nil => rfl
  | cons a t ih =>
    rw [List.filter_cons, List.filter_cons, List.filter_cons]
    by_cases h1 : a.home < s
    · have h2 : ¬ a.home = s := by omega
      have h3 : a.home < s + 1 := by omega
      rw [if_pos (decide_eq_true h1), if_neg (by simp [h2]), if_pos (decide_eq_true h3)]
      simp only [List.length_cons]; omega
    · by_cases h2 : a.home = s
      · have h3 : a.home < s + 1 := by omega
        rw [if_neg (by simp [h1]), if_pos (decide_eq_true h2), if_pos (decide_eq_true h3)]
        simp only [List.length_cons]; omega
      · have h3 : ¬ a.home < s + 1 := by omega
        rw [if_neg (by simp [h1]), if_neg (by simp [h2]), if_neg (by simp [h3])]
        exact ih
theorem all_home {l : Ct} (hv : VCat l) : l.filter (fun x => decide (x.home < 4)) = l := by
  rw [List.filter_eq_self]
  intro x hx
  have := (vcat_iff.1 hv).2.1 x hx
  unfold resB at this
  simp only [Bool.and_eq_true] at this
  exact this.2
theorem none_home {l : Ct} (hv : VCat l) : l.filter (fun x => decide (x.home < 0)) = [] := by
  rw [List.filter_eq_nil_iff]
  intro x hx
  have := (vcat_iff.1 hv).2.1 x hx
  unfold resB at this
  simp only [Bool.and_eq_true, decide_eq_true_eq] at this
  simp
  omega
end Go.Proofs.YtfmbkkpdmpgmdaaDoor
