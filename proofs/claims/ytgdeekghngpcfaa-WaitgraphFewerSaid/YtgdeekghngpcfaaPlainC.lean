/- Plain laws: which nodes never finish. -/
import Derived.Test.YtgdeekghngpcfaaReach
namespace Go.Proofs.Ytgdeekghngpcfaa

def kOf (g : Gr) (x : Int) : Int := (g.getD x.toNat ⟨0, []⟩).k
theorem kOf_eq {g : Gr} {x : Int} (h : x.toNat < g.length) : kOf g x = g[x.toNat].k := by unfold kOf; rw [List.getD_eq_getElem?_getD, List.getElem?_eq_getElem h]; rfl

/-- How many of the successors of x meet d. -/
def cntD (g : Gr) (d : Int → Bool) (x : Int) : Nat := (succs g x).countP d

/-- x never finishes: it lies in a set each of whose nodes has too few successors outside. -/
def IsStuck (g : Gr) (x : Int) : Prop := ∃ S : Int → Bool, S x = true ∧ ∀ y, InR g.length y → S y = true → (cntD g (fun z => !S z) y : Int) < kOf g y

/-- What is marked is not stuck. -/
def CSound (g : Gr) (d : Int → Bool) : Prop := ∀ x, InR g.length x → d x = true → ¬ IsStuck g x
/-- Below i nothing is left to be marked. -/
def CDone (g : Gr) (d : Int → Bool) (i : Nat) : Prop := ∀ x, InR g.length x → x < i → d x = true ∨ (cntD g d x : Int) < kOf g x

theorem CSound.step {g : Gr} {d d' : Int → Bool} {x : Int} (hv : ValidG g) (h : CSound g d) (hx : InR g.length x) (hc : kOf g x ≤ (cntD g d x : Int)) (hd : ∀ y, InR g.length y → (d' y = true ↔ y = x ∨ d y = true)) : CSound g d' := by
  intro y hy hdy
  rcases (hd y hy).1 hdy with rfl | h1
  · rintro ⟨S, hS, hall⟩
    have h2 := hall y hx hS
    have h3 : cntD g d y ≤ cntD g (fun z => !S z) y := by
      unfold cntD
      refine List.countP_mono_left fun z hz hdz => ?_
      have hzin := hv.range y hx z hz
      cases hSz : S z with
      | false => rfl
      | true => exact absurd ⟨S, hSz, hall⟩ (h z hzin hdz)
    omega
  · exact h y hy h1

theorem CSound.final {g : Gr} {d : Int → Bool} (h : CSound g d) (hf : CDone g d g.length) : ∀ x, InR g.length x → (d x = false ↔ IsStuck g x) := by
  intro x hx
  constructor
  · intro hdx
    refine ⟨fun z => !d z, by simp [hdx], fun y hy hdy => ?_⟩
    rcases hf y hy hy.2 with h1 | h1
    · simp [h1] at hdy
    · simpa [cntD] using h1
  · intro hs
    cases hdx : d x with
    | false => rfl
    | true => exact absurd hs (h x hx hdx)

theorem CDone.step {g : Gr} {d : Int → Bool} {i : Nat} (h : CDone g d i) (hi : d i = true ∨ (cntD g d i : Int) < kOf g i) : CDone g d (i + 1) := by
  intro x hx hlt
  by_cases e : x = i
  · subst e; exact hi
  · exact h x hx (by omega)

theorem countP_take_succ {l : List Int} {p : Int → Bool} {k : Nat} (hk : k < l.length) : (l.take (k + 1)).countP p = (l.take k).countP p + if p l[k] then 1 else 0 := by
  rw [List.take_succ_eq_append_getElem hk, List.countP_append]
  simp [List.countP_cons]

def StuckSpec (g : Gr) (l : List Int) : Prop := (ValidG g → IsSet g.length (IsStuck g) l) ∧ (¬ ValidG g → l = [])

theorem BoolBlk.alloc {w : World} {b : Nat} {bs : List Bool} (h : BoolBlk w b bs) (o : Obj) : BoolBlk (w.alloc o) b bs := (Go.RowKit.Below.heap_alloc w o b h.lt).trans h
theorem IntBlk.alloc {w : World} {b : Nat} {bs : List Int} (h : IntBlk w b bs) (o : Obj) : IntBlk (w.alloc o) b bs := (Go.RowKit.Below.heap_alloc w o b h.lt).trans h

/-- How many places are marked. -/
def marked (bs : List Bool) : Nat := bs.countP (· == true)
theorem marked_set {n : Nat} {bs : List Bool} {x : Int} (hl : bs.length = n) (hx : InR n x) (h : at_ bs x = true) : marked (bs.set x.toNat false) + 1 = marked bs := by
  unfold marked
  unfold at_ InR at *
  have hlt : x.toNat < bs.length := by omega
  have hb : bs[x.toNat] = true := by simpa [List.getD, List.getElem?_eq_getElem hlt] using h
  rw [List.countP_set hlt]
  have hpos : 0 < bs.countP (· == true) := List.countP_pos_iff.2 ⟨_, List.getElem_mem hlt, by simp [hb]⟩
  rw [if_pos (by simp [hb]), if_neg (by decide)]
  omega
theorem at_set_false {n : Nat} {bs : List Bool} {x y : Int} (hl : bs.length = n) (hx : InR n x) (hy : InR n y) : (!at_ (bs.set x.toNat false) y) = true ↔ (y = x ∨ (!at_ bs y) = true) := by
  unfold at_ InR at *
  rw [List.getD_eq_getElem?_getD, List.getD_eq_getElem?_getD, List.getElem?_set]
  by_cases h : x.toNat = y.toNat
  · rw [if_pos h, if_pos (by omega)]
    have : y = x := by omega
    simp [this]
  · rw [if_neg h]
    have : y ≠ x := by omega
    simp [this]
end Go.Proofs.Ytgdeekghngpcfaa
