/- Plain laws: what a search by a stack finds. -/
import Derived.Test.YtgdeekghngpcfaaMem
namespace Go.Proofs.Ytgdeekghngpcfaa

/-- y can be reached from x in one step or more. -/
inductive Reach1 (adj : Int → List Int) : Int → Int → Prop
  | one {x y : Int} : y ∈ adj x → Reach1 adj x y
  | more {x y z : Int} : Reach1 adj x y → z ∈ adj y → Reach1 adj x z

def at_ (bs : List Bool) (x : Int) : Bool := bs.getD x.toNat false
def InR (n : Nat) (x : Int) : Prop := 0 ≤ x ∧ x < n

/-- The state of the search: what is seen, what is on the stack; e: what is being expanded, and how far. -/
structure SInv (n : Nat) (adj : Int → List Int) (root : Int) (bs : List Bool) (st : List Int) (e : Int → Int → Prop) : Prop where
  len : bs.length = n
  seen : ∀ x, InR n x → at_ bs x = true → Reach1 adj root x
  stack : ∀ x ∈ st, InR n x ∧ (x = root ∨ at_ bs x = true)
  closed : ∀ x, InR n x → (x = root ∨ at_ bs x = true) → x ∈ st ∨ ∀ y ∈ adj x, at_ bs y = true ∨ e x y

theorem at_set {n : Nat} {bs : List Bool} {x y : Int} (hl : bs.length = n) (hx : InR n x) (hy : InR n y) : at_ (bs.set x.toNat true) y = true ↔ (y = x ∨ at_ bs y = true) := by
  unfold at_ InR at *
  rw [List.getD_eq_getElem?_getD, List.getD_eq_getElem?_getD, List.getElem?_set]
  by_cases h : x.toNat = y.toNat
  · rw [if_pos h, if_pos (by omega)]
    have : y = x := by omega
    simp [this]
  · rw [if_neg h]
    have : y ≠ x := by omega
    simp [this]

theorem SInv.start (n : Nat) (adj : Int → List Int) (root : Int) (hr : InR n root) : SInv n adj root (List.replicate n false) [root] (fun _ _ => False) where
  len := by simp
  seen := by intro x hx h; unfold at_ at h; simp [List.getD, List.getElem?_replicate] at h; split at h <;> simp at h
  stack := by intro x hx; simp at hx; subst hx; exact ⟨hr, .inl rfl⟩
  closed := by
    intro x hx h
    rcases h with rfl | h
    · exact .inl (by simp)
    · unfold at_ at h; simp [List.getD, List.getElem?_replicate] at h; split at h <;> simp at h

/-- The top is taken off: its successors from place 0 on are still to be looked at. -/
theorem SInv.pop {n : Nat} {adj : Int → List Int} {root x : Int} {bs : List Bool} {st : List Int} (h : SInv n adj root bs (st ++ [x]) (fun _ _ => False)) :
    SInv n adj root bs st (fun z y => z = x ∧ y ∈ (adj x).drop 0) where
  len := h.len
  seen := h.seen
  stack := fun y hy => h.stack y (by simp [hy])
  closed := by
    intro y hy hs
    rcases h.closed y hy hs with h1 | h1
    · rw [List.mem_append, List.mem_singleton] at h1
      rcases h1 with h1 | rfl
      · exact .inl h1
      · exact .inr fun z hz => .inr ⟨rfl, by simpa using hz⟩
    · exact .inr fun z hz => .inl ((h1 z hz).resolve_right id)

theorem mem_drop_succ {l : List Int} {c : Nat} (hc : c < l.length) {y : Int} (h : y ∈ l.drop c) : y = l[c] ∨ y ∈ l.drop (c + 1) := by
  rw [List.drop_eq_getElem_cons hc, List.mem_cons] at h
  exact h

/-- The successor at place c is seen already. -/
theorem SInv.skip {n : Nat} {adj : Int → List Int} {root x : Int} {bs : List Bool} {st : List Int} {c : Nat} (hc : c < (adj x).length)
    (h : SInv n adj root bs st (fun z y => z = x ∧ y ∈ (adj x).drop c)) (hs : at_ bs (adj x)[c] = true) : SInv n adj root bs st (fun z y => z = x ∧ y ∈ (adj x).drop (c + 1)) where
  len := h.len
  seen := h.seen
  stack := h.stack
  closed := by
    intro y hy hr
    rcases h.closed y hy hr with h1 | h1
    · exact .inl h1
    · refine .inr fun z hz => ?_
      rcases h1 z hz with h2 | ⟨rfl, h2⟩
      · exact .inl h2
      · rcases mem_drop_succ hc h2 with rfl | h3
        · exact .inl hs
        · exact .inr ⟨rfl, h3⟩

/-- The successor at place c is new: it is marked and laid on the stack. -/
theorem SInv.push {n : Nat} {adj : Int → List Int} {root x : Int} {bs : List Bool} {st : List Int} {c : Nat} (hc : c < (adj x).length) (hadj : ∀ x, InR n x → ∀ y ∈ adj x, InR n y) (hx : InR n x) (hxr : x = root ∨ at_ bs x = true)
    (h : SInv n adj root bs st (fun z y => z = x ∧ y ∈ (adj x).drop c)) : SInv n adj root (bs.set (adj x)[c].toNat true) (st ++ [(adj x)[c]]) (fun z y => z = x ∧ y ∈ (adj x).drop (c + 1)) := by
  have hm : (adj x)[c] ∈ adj x := List.getElem_mem _
  have hin := hadj x hx _ hm
  have hset := fun y (hy : InR n y) => at_set h.len hin hy
  have hreach : Reach1 adj root (adj x)[c] := by
    rcases hxr with rfl | hs
    · exact .one hm
    · exact .more (h.seen x hx hs) hm
  refine ⟨by simp [h.len], ?_, ?_, ?_⟩
  · intro y hy hs
    rcases (hset y hy).1 hs with rfl | h1
    · exact hreach
    · exact h.seen y hy h1
  · intro y hy
    rw [List.mem_append, List.mem_singleton] at hy
    rcases hy with hy | rfl
    · obtain ⟨h1, h2⟩ := h.stack y hy
      exact ⟨h1, h2.imp id fun h3 => (hset y h1).2 (.inr h3)⟩
    · exact ⟨hin, .inr ((hset _ hin).2 (.inl rfl))⟩
  · intro y hy hr
    by_cases hyc : y = (adj x)[c]
    · subst hyc; exact .inl (by simp)
    · have hr2 : y = root ∨ at_ bs y = true := hr.imp id fun h3 => ((hset y hy).1 h3).resolve_left hyc
      rcases h.closed y hy hr2 with h1 | h1
      · exact .inl (by simp [h1])
      · refine .inr fun z hz => ?_
        have hzin := hadj y hy z hz
        rcases h1 z hz with h2 | ⟨rfl, h2⟩
        · exact .inl ((hset z hzin).2 (.inr h2))
        · rcases mem_drop_succ hc h2 with rfl | h3
          · exact .inl ((hset _ hzin).2 (.inl rfl))
          · exact .inr ⟨rfl, h3⟩

theorem SInv.done_ {n : Nat} {adj : Int → List Int} {root x : Int} {bs : List Bool} {st : List Int} {c : Nat} (hc : (adj x).length ≤ c)
    (h : SInv n adj root bs st (fun z y => z = x ∧ y ∈ (adj x).drop c)) : SInv n adj root bs st (fun _ _ => False) where
  len := h.len
  seen := h.seen
  stack := h.stack
  closed := by
    intro y hy hr
    rcases h.closed y hy hr with h1 | h1
    · exact .inl h1
    · refine .inr fun z hz => (h1 z hz).imp id fun h2 => ?_
      rw [List.drop_eq_nil_of_le hc] at h2
      simp at h2

theorem SInv.found {n : Nat} {adj : Int → List Int} {root : Int} {bs : List Bool} (hadj : ∀ x, InR n x → ∀ y ∈ adj x, InR n y) (hr : InR n root) (h : SInv n adj root bs [] (fun _ _ => False)) :
    ∀ x, InR n x → (at_ bs x = true ↔ Reach1 adj root x) := by
  have cl : ∀ x, InR n x → (x = root ∨ at_ bs x = true) → ∀ y ∈ adj x, at_ bs y = true := fun x hx hs y hy => by
    rcases h.closed x hx hs with h1 | h1
    · simp at h1
    · exact (h1 y hy).resolve_right id
  intro x hx
  refine ⟨h.seen x hx, fun hre => ?_⟩
  have : ∀ z, Reach1 adj root z → InR n z ∧ at_ bs z = true := by
    intro z hz
    induction hz with
    | one hy => exact ⟨hadj _ hr _ hy, cl _ hr (.inl rfl) _ hy⟩
    | more _ hz ih => exact ⟨hadj _ ih.1 _ hz, cl _ ih.1 (.inr ih.2) _ hz⟩
  exact (this x hre).2

/-- How many places are not seen. -/
def unseen (bs : List Bool) : Nat := bs.countP (· == false)
theorem unseen_set {n : Nat} {bs : List Bool} {x : Int} (hl : bs.length = n) (hx : InR n x) (h : at_ bs x = false) : unseen (bs.set x.toNat true) + 1 = unseen bs := by
  unfold unseen at_ InR at *
  have hlt : x.toNat < bs.length := by omega
  have hb : bs[x.toNat] = false := by simpa [List.getD, List.getElem?_eq_getElem hlt] using h
  rw [List.countP_set hlt]
  have hpos : 0 < bs.countP (· == false) := List.countP_pos_iff.2 ⟨_, List.getElem_mem hlt, by simp [hb]⟩
  rw [if_pos (by simp [hb]), if_neg (by decide)]
  omega

/-- The state of the reference's search: what is seen, what is on the stack. -/
structure RInv (n : Nat) (adj : Int → List Int) (root : Int) (bs : List Bool) (st : List Int) : Prop where
  len : bs.length = n
  seen : ∀ x, InR n x → at_ bs x = true → Reach1 adj root x
  stack : ∀ x ∈ st, InR n x ∧ Reach1 adj root x
  first : ∀ y ∈ adj root, at_ bs y = true ∨ y ∈ st
  closed : ∀ x, InR n x → at_ bs x = true → ∀ y ∈ adj x, at_ bs y = true ∨ y ∈ st

theorem at_replicate (n : Nat) (x : Int) : at_ (List.replicate n false) x = false := by
  unfold at_
  rw [List.getD_eq_getElem?_getD, List.getElem?_replicate]
  split <;> rfl

theorem RInv.start (n : Nat) (adj : Int → List Int) (root : Int) (hr : InR n root) (hadj : ∀ x, InR n x → ∀ y ∈ adj x, InR n y) : RInv n adj root (List.replicate n false) (adj root) where
  len := by simp
  seen := by intro x hx h; rw [at_replicate] at h; cases h
  stack := fun x hx => ⟨hadj _ hr _ hx, .one hx⟩
  first := fun y hy => .inr hy
  closed := by intro x hx h; rw [at_replicate] at h; cases h

theorem RInv.skip {n : Nat} {adj : Int → List Int} {root x : Int} {bs : List Bool} {st : List Int} (h : RInv n adj root bs (st ++ [x])) (hs : at_ bs x = true) : RInv n adj root bs st := by
  have key : ∀ y, y ∈ st ++ [x] → at_ bs y = true ∨ y ∈ st := fun y hy => by
    rw [List.mem_append, List.mem_singleton] at hy
    rcases hy with hy | rfl
    · exact .inr hy
    · exact .inl hs
  exact ⟨h.len, h.seen, fun y hy => h.stack y (by simp [hy]), fun y hy => (h.first y hy).elim .inl (key y), fun z hz hzs y hy => (h.closed z hz hzs y hy).elim .inl (key y)⟩

theorem RInv.mark {n : Nat} {adj : Int → List Int} {root x : Int} {bs : List Bool} {st : List Int} (h : RInv n adj root bs (st ++ [x])) (hadj : ∀ x, InR n x → ∀ y ∈ adj x, InR n y) (hroot : InR n root) :
    RInv n adj root (bs.set x.toNat true) (st ++ adj x) := by
  obtain ⟨hx, hxr⟩ := h.stack x (by simp)
  have hset := fun y (hy : InR n y) => at_set h.len hx hy
  have key : ∀ y, InR n y → (at_ bs y = true ∨ y ∈ st ++ [x]) → at_ (bs.set x.toNat true) y = true ∨ y ∈ st ++ adj x := fun y hyn hy => by
    rw [List.mem_append, List.mem_singleton] at hy
    rcases hy with hy | hy | rfl
    · exact .inl ((hset y hyn).2 (.inr hy))
    · exact .inr (by simp [hy])
    · exact .inl ((hset y hyn).2 (.inl rfl))
  refine ⟨by simp [h.len], ?_, ?_, fun y hy => key y (hadj _ hroot _ hy) (h.first y hy), ?_⟩
  · intro y hy hs
    rcases (hset y hy).1 hs with rfl | h1
    · exact hxr
    · exact h.seen y hy h1
  · intro y hy
    rw [List.mem_append] at hy
    rcases hy with hy | hy
    · exact h.stack y (by simp [hy])
    · exact ⟨hadj _ hx _ hy, .more hxr hy⟩
  · intro z hz hs y hy
    rcases (hset z hz).1 hs with rfl | h1
    · exact .inr (by simp [hy])
    · exact key y (hadj _ hz _ hy) (h.closed z hz h1 y hy)

theorem RInv.found {n : Nat} {adj : Int → List Int} {root : Int} {bs : List Bool} (hadj : ∀ x, InR n x → ∀ y ∈ adj x, InR n y) (hr : InR n root) (h : RInv n adj root bs []) :
    ∀ x, InR n x → (at_ bs x = true ↔ Reach1 adj root x) := by
  intro x hx
  refine ⟨h.seen x hx, fun hre => ?_⟩
  have : ∀ z, Reach1 adj root z → InR n z ∧ at_ bs z = true := by
    intro z hz
    induction hz with
    | one hy => exact ⟨hadj _ hr _ hy, (h.first _ hy).resolve_right (by simp)⟩
    | more _ hz ih => exact ⟨hadj _ ih.1 _ hz, (h.closed _ ih.1 ih.2 _ hz).resolve_right (by simp)⟩
  exact (this x hre).2
end Go.Proofs.Ytgdeekghngpcfaa
