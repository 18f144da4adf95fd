/- Plain laws: distances. -/
import Derived.Test.YtgdeekghngpcfaaPlainC
namespace Go.Proofs.Ytgdeekghngpcfaa

/-- A path of k steps. -/
inductive Pth (adj : Int → List Int) : Nat → Int → Int → Prop
  | nil (x : Int) : Pth adj 0 x x
  | cons {k : Nat} {x y z : Int} : y ∈ adj x → Pth adj k y z → Pth adj (k + 1) x z

def fa (fs : List Int) (x : Int) : Int := fs.getD x.toNat (-1)
def FarSpec (g : Gr) (to : Int) (fs : List Int) : Prop :=
  fs.length = g.length ∧ ∀ x, InR g.length x → (0 ≤ fa fs x → Pth (succs g) (fa fs x).toNat x to) ∧ ∀ k, Pth (succs g) k x to → 0 ≤ fa fs x ∧ fa fs x ≤ k

theorem fa_set {n : Nat} {fs : List Int} {x y v : Int} (hl : fs.length = n) (hx : InR n x) (hy : InR n y) : fa (fs.set x.toNat v) y = if y = x then v else fa fs y := by
  unfold fa InR at *
  rw [List.getD_eq_getElem?_getD, List.getD_eq_getElem?_getD, List.getElem?_set]
  by_cases h : x.toNat = y.toNat
  · rw [if_pos h, if_pos (by omega), if_pos (by omega)]; rfl
  · rw [if_neg h, if_neg (by omega)]
theorem fa_get {n : Nat} {fs : List Int} {x : Int} (hl : fs.length = n) (hx : InR n x) : fs[x.toNat]'(by have := hx.1; have := hx.2; omega) = fa fs x := by
  unfold fa
  rw [List.getD_eq_getElem?_getD, List.getElem?_eq_getElem (by have := hx.1; have := hx.2; omega)]; rfl

theorem mem_idxs {f : Nat → Bool} {n : Nat} {x : Int} : x ∈ idxs f n ↔ InR n x ∧ f x.toNat = true := by
  unfold idxs InR
  simp only [List.mem_map, List.mem_filter, List.mem_range]
  constructor
  · rintro ⟨j, ⟨h1, h2⟩, rfl⟩
    exact ⟨⟨Int.natCast_nonneg j, Int.ofNat_lt.2 h1⟩, by simpa using h2⟩
  · rintro ⟨⟨h1, h2⟩, h3⟩
    exact ⟨x.toNat, ⟨by omega, h3⟩, by simp; omega⟩
theorem mem_preds {g : Gr} {x y : Int} : y ∈ preds g x ↔ InR g.length y ∧ x ∈ succs g y := by
  unfold preds
  rw [mem_idxs]
  constructor
  · rintro ⟨h1, h2⟩
    refine ⟨h1, ?_⟩
    have := of_decide_eq_true h2
    rwa [show ((y.toNat : Nat) : Int) = y by have := h1.1; omega] at this
  · rintro ⟨h1, h2⟩
    exact ⟨h1, decide_eq_true (by rwa [show ((y.toNat : Nat) : Int) = y by have := h1.1; omega])⟩

def una (fs : List Int) : Nat := fs.countP (fun v => decide (v < 0))
theorem una_set {n : Nat} {fs : List Int} {x v : Int} (hl : fs.length = n) (hx : InR n x) (h : fa fs x < 0) (hv : 0 ≤ v) : una (fs.set x.toNat v) + 1 = una fs := by
  have hlt : x.toNat < fs.length := by have := hx.1; have := hx.2; omega
  have hb := fa_get hl hx
  unfold una
  rw [List.countP_set hlt]
  have hpos : 0 < fs.countP (fun v => decide (v < 0)) := List.countP_pos_iff.2 ⟨_, List.getElem_mem hlt, by rw [hb]; exact decide_eq_true h⟩
  rw [if_pos (by rw [hb]; exact decide_eq_true h), if_neg (by simp; omega)]
  omega

structure QInv (g : Gr) (to : Int) (fs q : List Int) (D : Int) (e : Int → Int → Prop) : Prop where
  len : fs.length = g.length
  root : fa fs to = 0
  sound : ∀ x, InR g.length x → 0 ≤ fa fs x → Pth (succs g) (fa fs x).toNat x to
  small : ∀ x, InR g.length x → 0 ≤ fa fs x → fa fs x + una fs ≤ g.length
  top : ∀ x, InR g.length x → fa fs x ≤ D + 1
  queue : ∀ x ∈ q, InR g.length x ∧ 0 ≤ fa fs x ∧ D ≤ fa fs x
  sorted : q.Pairwise (fun a b => fa fs a ≤ fa fs b)
  closed : ∀ x, InR g.length x → 0 ≤ fa fs x → x ∈ q ∨ ∀ y, y ∈ preds g x → (0 ≤ fa fs y ∧ fa fs y ≤ fa fs x + 1) ∨ e x y

theorem QInv.start (g : Gr) (to : Int) (ht : InR g.length to) : QInv g to ((List.replicate g.length (-1)).set to.toNat 0) [to] 0 (fun _ _ => False) := by
  have hl : (List.replicate g.length (-1 : Int)).length = g.length := by simp
  have hrep : ∀ x, fa (List.replicate g.length (-1)) x = -1 := fun x => by
    unfold fa; rw [List.getD_eq_getElem?_getD, List.getElem?_replicate]; split <;> rfl
  have hfa : ∀ x, InR g.length x → fa ((List.replicate g.length (-1)).set to.toNat 0) x = if x = to then 0 else -1 := fun x hx => by rw [fa_set hl ht hx, hrep]
  have hto : fa ((List.replicate g.length (-1)).set to.toNat 0) to = 0 := by rw [hfa to ht, if_pos rfl]
  have hun := una_set (v := 0) hl ht (by rw [hrep]; omega) (by omega)
  have hun2 : una (List.replicate g.length (-1)) = g.length := by simp [una, List.countP_replicate]
  have only : ∀ x, InR g.length x → 0 ≤ fa ((List.replicate g.length (-1)).set to.toNat 0) x → x = to := fun x hx h => by
    rw [hfa x hx] at h
    by_cases e : x = to
    · exact e
    · rw [if_neg e] at h; omega
  refine ⟨by simp, hto, ?_, ?_, ?_, ?_, by simp, ?_⟩
  · intro x hx h
    obtain rfl := only x hx h
    rw [hto]; exact .nil _
  · intro x hx h
    obtain rfl := only x hx h
    rw [hto]; omega
  · intro x hx
    rw [hfa x hx]; split <;> omega
  · intro x hx
    obtain rfl : x = to := by simpa using hx
    exact ⟨ht, by omega, by omega⟩
  · intro x hx h
    obtain rfl := only x hx h
    exact .inl (by simp)

theorem QInv.pop {g : Gr} {to x D : Int} {fs q : List Int} (h : QInv g to fs (x :: q) D (fun _ _ => False)) : QInv g to fs q (fa fs x) (fun z y => z = x ∧ y ∈ (preds g x).drop 0) := by
  obtain ⟨h1, h2, h3⟩ := h.queue x (by simp)
  have hp := List.pairwise_cons.1 h.sorted
  refine ⟨h.len, h.root, h.sound, h.small, fun y hy => by have := h.top y hy; omega, fun y hy => ?_, hp.2, fun y hy hy0 => ?_⟩
  · obtain ⟨a, b, _⟩ := h.queue y (by simp [hy])
    exact ⟨a, b, hp.1 y hy⟩
  · rcases h.closed y hy hy0 with h4 | h4
    · rcases List.mem_cons.1 h4 with rfl | h5
      · exact .inr fun z hz => .inr ⟨rfl, by simpa using hz⟩
      · exact .inl h5
    · exact .inr fun z hz => .inl ((h4 z hz).resolve_right id)

theorem QInv.skip {g : Gr} {to x : Int} {fs q : List Int} {c : Nat} (h : QInv g to fs q (fa fs x) (fun z y => z = x ∧ y ∈ (preds g x).drop c)) (hc : c < (preds g x).length) (hs : 0 ≤ fa fs (preds g x)[c]) :
    QInv g to fs q (fa fs x) (fun z y => z = x ∧ y ∈ (preds g x).drop (c + 1)) := by
  have hr : InR g.length (preds g x)[c] := (mem_preds.1 (List.getElem_mem hc)).1
  refine ⟨h.len, h.root, h.sound, h.small, h.top, h.queue, h.sorted, fun y hy hy0 => ?_⟩
  rcases h.closed y hy hy0 with h4 | h4
  · exact .inl h4
  · refine .inr fun z hz => ?_
    rcases h4 z hz with h5 | ⟨rfl, h5⟩
    · exact .inl h5
    · rcases mem_drop_succ hc h5 with rfl | h6
      · exact .inl ⟨hs, h.top _ hr⟩
      · exact .inr ⟨rfl, h6⟩

theorem QInv.push {g : Gr} {to x : Int} {fs q : List Int} {c : Nat} (h : QInv g to fs q (fa fs x) (fun z y => z = x ∧ y ∈ (preds g x).drop c)) (hx : InR g.length x) (hx0 : 0 ≤ fa fs x) (hto : InR g.length to)
    (hc : c < (preds g x).length) (hs : fa fs (preds g x)[c] < 0) :
    QInv g to (fs.set (preds g x)[c].toNat (fa fs x + 1)) (q ++ [(preds g x)[c]]) (fa (fs.set (preds g x)[c].toNat (fa fs x + 1)) x) (fun z y => z = x ∧ y ∈ (preds g x).drop (c + 1)) ∧
    fa (fs.set (preds g x)[c].toNat (fa fs x + 1)) x = fa fs x := by
  obtain ⟨hr, hsx⟩ := mem_preds.1 (List.getElem_mem hc)
  have hset := fun z (hz : InR g.length z) => fa_set (v := fa fs x + 1) h.len hr hz
  have hne : x ≠ (preds g x)[c] := fun e => by rw [← e] at hs; omega
  have hfx : fa (fs.set (preds g x)[c].toNat (fa fs x + 1)) x = fa fs x := by rw [hset x hx, if_neg hne]
  have hun := una_set (v := fa fs x + 1) h.len hr hs (by omega)
  refine ⟨?_, hfx⟩
  rw [hfx]
  generalize hp : (preds g x)[c] = p at *
  refine ⟨by simp [h.len], ?_, ?_, ?_, ?_, ?_, ?_, ?_⟩
  · rw [hset to hto, if_neg (fun e => by have := h.root; rw [e] at this; omega)]; exact h.root
  · intro y hy hy0
    by_cases e : y = p
    · subst e
      rw [hset _ hy, if_pos rfl, show (fa fs x + 1).toNat = (fa fs x).toNat + 1 by omega]
      exact .cons hsx (h.sound x hx hx0)
    · rw [hset y hy, if_neg e] at hy0 ⊢
      exact h.sound y hy hy0
  · intro y hy hy0
    by_cases e : y = p
    · subst e
      rw [hset _ hy, if_pos rfl]
      have := h.small x hx hx0
      omega
    · rw [hset y hy, if_neg e] at hy0 ⊢
      have := h.small y hy hy0
      omega
  · intro y hy
    rw [hset y hy]
    split
    · omega
    · exact h.top y hy
  · intro y hy
    rw [List.mem_append, List.mem_singleton] at hy
    rcases hy with hy | rfl
    · obtain ⟨a, b, d⟩ := h.queue y hy
      have e : y ≠ p := fun e => by subst e; omega
      rw [hset y a, if_neg e]
      exact ⟨a, b, d⟩
    · rw [hset _ hr, if_pos rfl]
      exact ⟨hr, by omega, by omega⟩
  · rw [List.pairwise_append]
    refine ⟨?_, by simp, ?_⟩
    · refine h.sorted.imp_of_mem fun {a b} ha hb hab => ?_
      obtain ⟨a1, a2, _⟩ := h.queue a ha
      obtain ⟨b1, b2, _⟩ := h.queue b hb
      rw [hset a a1, hset b b1, if_neg (fun e => by subst e; omega), if_neg (fun e => by subst e; omega)]
      exact hab
    · intro a ha b hb
      obtain rfl : b = p := by simpa using hb
      obtain ⟨a1, a2, _⟩ := h.queue a ha
      rw [hset a a1, hset _ hr, if_pos rfl, if_neg (fun e => by subst e; omega)]
      exact h.top a a1
  · intro y hy hy0
    by_cases e : y = p
    · subst e; exact .inl (by simp)
    · have hy1 := hy0
      rw [hset y hy, if_neg e] at hy1
      rcases h.closed y hy hy1 with h4 | h4
      · exact .inl (by simp [h4])
      · refine .inr fun z hz => ?_
        have hzr := (mem_preds.1 hz).1
        have hgoal : (0 ≤ fa fs z ∧ fa fs z ≤ fa fs y + 1) → (0 ≤ fa (fs.set p.toNat (fa fs x + 1)) z ∧ fa (fs.set p.toNat (fa fs x + 1)) z ≤ fa (fs.set p.toNat (fa fs x + 1)) y + 1) := by
          rintro ⟨a, b⟩
          rw [hset z hzr, hset y hy, if_neg e, if_neg (fun e => by subst e; omega)]
          exact ⟨a, b⟩
        rcases h4 z hz with h5 | ⟨rfl, h5⟩
        · exact .inl (hgoal h5)
        · rcases mem_drop_succ hc h5 with h6 | h6
          · rw [hp] at h6
            subst h6
            refine .inl ?_
            rw [hset _ hzr, hset _ hy, if_pos rfl, if_neg e]
            omega
          · exact .inr ⟨rfl, h6⟩

theorem QInv.done_ {g : Gr} {to x D : Int} {fs q : List Int} {c : Nat} (h : QInv g to fs q D (fun z y => z = x ∧ y ∈ (preds g x).drop c)) (hc : (preds g x).length ≤ c) : QInv g to fs q D (fun _ _ => False) := by
  refine ⟨h.len, h.root, h.sound, h.small, h.top, h.queue, h.sorted, fun y hy hy0 => ?_⟩
  rcases h.closed y hy hy0 with h4 | h4
  · exact .inl h4
  · refine .inr fun z hz => (h4 z hz).imp id fun h5 => ?_
    rw [List.drop_eq_nil_of_le hc] at h5
    simp at h5

theorem QInv.found {g : Gr} {to D : Int} {fs : List Int} (hv : ValidG g) (hto : InR g.length to) (h : QInv g to fs [] D (fun _ _ => False)) : FarSpec g to fs := by
  refine ⟨h.len, fun x hx => ⟨h.sound x hx, fun k hk => ?_⟩⟩
  have : ∀ k x z, Pth (succs g) k x z → z = to → InR g.length x → 0 ≤ fa fs x ∧ fa fs x ≤ k := by
    intro k x z hp
    induction hp with
    | nil x => rintro rfl _; rw [h.root]; omega
    | cons hm _ ih =>
      intro hz hx
      have hy := hv.range _ hx _ hm
      obtain ⟨a, b⟩ := ih hz hy
      rcases h.closed _ hy a with h4 | h4
      · simp at h4
      · obtain ⟨c1, c2⟩ := (h4 _ (mem_preds.2 ⟨hx, hm⟩)).resolve_right id
        exact ⟨c1, by omega⟩
  exact this k x to hk rfl hx
end Go.Proofs.Ytgdeekghngpcfaa
