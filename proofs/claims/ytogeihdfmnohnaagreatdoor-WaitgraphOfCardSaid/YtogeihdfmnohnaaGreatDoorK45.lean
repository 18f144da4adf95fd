/- Part 45 of 49 of the proof of waitgraphOf_holds (no condition). -/
import Derived.Test.YtogeihdfmnohnaaGreatDoorK44
set_option linter.unusedVariables false
set_option linter.unusedSimpArgs false
namespace Go.Proofs.YtogeihdfmnohnaaGreatDoor.Wg
open Go.RowKit
def IsSet (n : Nat) (P : Int → Prop) (l : List Int) : Prop := ∃ f : Nat → Bool, (∀ j, j < n → (f j = true ↔ P j)) ∧ l = idxs f n
theorem idxs_congr {f f' : Nat → Bool} (n : Nat) (h : ∀ j, j < n → f j = f' j) : idxs f n = idxs f' n := by
  unfold idxs
  rw [List.filter_congr fun j hj => h j (List.mem_range.1 hj)]
theorem IsSet.unique {n : Nat} {P : Int → Prop} {l l' : List Int} (h : IsSet n P l) (h' : IsSet n P l') : l = l' := by
  obtain ⟨f, hf, rfl⟩ := h
  obtain ⟨f', hf', rfl⟩ := h'
  exact idxs_congr n fun j hj => by rw [Bool.eq_iff_iff, hf j hj, hf' j hj]
def ReachSpec (g : Gr) (i : Int) (l : List Int) : Prop := (ValidG g ∧ InR g.length i → IsSet g.length (Reach1 (succs g) i) l) ∧ (¬ (ValidG g ∧ InR g.length i) → l = [])
theorem ValidG.range {g : Gr} (h : ValidG g) : ∀ x, InR g.length x → ∀ y ∈ succs g x, InR g.length y := by
  intro x hx y hy
  have hlt : x.toNat < g.length := by have := hx.1; have := hx.2; omega
  rw [succs_eq hlt] at hy
  obtain ⟨j, hj, rfl⟩ := List.getElem_of_mem hy
  have := (h.2 _ hlt).2.2.2 j hj hj
  exact ⟨this.1, this.2.1⟩
theorem FitsG.short {g : Gr} (h : FitsG g) : ∀ x, InR g.length x → (succs g x).length ≤ 40 := by
  intro x hx
  have hlt : x.toNat < g.length := by have := hx.1; have := hx.2; omega
  rw [succs_eq hlt]
  exact (h.2 _ hlt).1
theorem at_nat {bs : List Bool} {n : Nat} {P : Int → Prop} (h : ∀ x, InR n x → (at_ bs x = true ↔ P x)) : IsSet n P (idxs (fun i => bs.getD i false) n) :=
  ⟨_, fun j hj => h j ⟨by omega, by omega⟩, rfl⟩
set_option maxHeartbeats 800000 in
theorem Reach_any (A : Option Addr) (cap : Nat) (g : Gr) (i : Int) (w : World) (hf : FitsG g) (hr : GraphAt w w.heap.size A g) :
    Calls Tryz.prog 13 #[.slice A g.length cap, .int .i64 i] w (RetInts w (ReachSpec g i)) := by
  have hlen : g.length ≤ 40 := hf.1
  go_enter Tryz.func13, Tryz.ntmps13
  go_wp2_with fail
  refine (Valid_any A cap g w hf hr).mono ?_
  rintro e w1 ⟨r, rfl, hv, hb⟩
  have HV := Lib.hid hv
  clear hv
  cases r with
  | false =>
    go_wp2
    go_ret
    exact ⟨none, [], 0, rfl, NewInts.nil _ _ _, ⟨fun h => absurd (HV.out.2 h.1) (by simp), fun _ => rfl⟩, by simp, hb⟩
  | true =>
    by_cases hx : InR g.length i
    · obtain ⟨hx1, hx2⟩ := hx
      have hgr := hr.below hb (Nat.le_refl _) hb.size
      have hvg := Lib.hid (HV.out.1 rfl)
      go_wp2_with fail
      refine (search_any 34 g.length (succs g) i A cap _ hlen ⟨hx1, hx2⟩ hvg.out.range hf.short (fun _ _ => by kernel_rfl) (fun W x hW hx => next_any A cap _ g x W hlen hx hW.size (hgr.below hW (Nat.le_refl _) (Nat.le_refl _)))).mono ?_
      rintro e w2 ⟨gs, bs, c2, rfl, hblk, ⟨hbl, hbs⟩, hb2⟩
      have HBL := Lib.hid hbl
      have HBS := Lib.hid hbs
      clear hbl hbs
      go_wp2_with fail
      refine (members_any _ c2 bs w2 (by rw [HBL.out]; omega) (hblk.at_ hblk.lt)).mono ?_
      rintro e w3 ⟨A3, l3, c3, rfl, h3, hl3, hle, hb3⟩
      have HL3 := Lib.hid hl3
      clear hl3
      go_wp2
      go_ret
      refine ⟨A3, l3, c3, rfl, h3.older (Nat.le_trans hb.size hb2.size), ⟨fun _ => ?_, fun h => absurd ⟨hvg.out, hx1, hx2⟩ h⟩, hle, hb.trans ((hb2.mono hb.size).trans (hb3.mono (Nat.le_trans hb.size hb2.size)))⟩
      rw [HL3.out, HBL.out]
      exact at_nat HBS.out
    · have hx3 := Lib.hid hx
      have hsp : i < 0 ∨ (0 ≤ i ∧ (g.length : Int) ≤ i) := by unfold InR at hx; omega
      clear hx
      rcases hsp with h1 | ⟨h1, h2⟩
      all_goals
        go_wp2
        go_ret
        exact ⟨none, [], 0, rfl, NewInts.nil _ _ _, ⟨fun h => absurd h.2 hx3.out, fun _ => rfl⟩, by simp, hb⟩
theorem bs_at {bs : List Bool} {n : Nat} (hl : bs.length = n) {y : Int} (hy : InR n y) {x : Bool} (h : at_ bs y = x) : bs[y.toNat]'(by have := hy.1; have := hy.2; omega) = x := by
  unfold at_ at h
  rw [List.getD_eq_getElem?_getD, List.getElem?_eq_getElem (by have := hy.1; have := hy.2; omega)] at h
  simpa using h
end Go.Proofs.YtogeihdfmnohnaaGreatDoor.Wg
namespace Go.Proofs.YtogeihdfmnohnaaGreatDoor.Wg
def kOf (g : Gr) (x : Int) : Int := (g.getD x.toNat ⟨0, []⟩).k
theorem kOf_eq {g : Gr} {x : Int} (h : x.toNat < g.length) : kOf g x = g[x.toNat].k := by unfold kOf; rw [List.getD_eq_getElem?_getD, List.getElem?_eq_getElem h]; rfl
def cntD (g : Gr) (d : Int → Bool) (x : Int) : Nat := (succs g x).countP d
def IsStuck (g : Gr) (x : Int) : Prop := ∃ S : Int → Bool, S x = true ∧ ∀ y, InR g.length y → S y = true → (cntD g (fun z => !S z) y : Int) < kOf g y
def CSound (g : Gr) (d : Int → Bool) : Prop := ∀ x, InR g.length x → d x = true → ¬ IsStuck g x
def CDone (g : Gr) (d : Int → Bool) (i : Nat) : Prop := ∀ x, InR g.length x → x < i → d x = true ∨ (cntD g d x : Int) < kOf g x
theorem CSound.step {g : Gr} {d d' : Int → Bool} {x : Int} (hv : ValidG g) (h : CSound g d) (hx : InR g.length x) (hc : kOf g x ≤ (cntD g d x : Int)) (hd : ∀ y, InR g.length y → (d' y = true ↔ y = x ∨ d y = true)) : CSound g d' := by
  intro y hy hdy
  rcases (hd y hy).1 hdy with rfl | h1
  · rintro ⟨S, hS, hall⟩
    have h2 := hall y hx hS
    have h3 : cntD g d y ≤ cntD g (fun z => !S z) y := by
      unfold cntD
      refine List.countP_mono_left fun z hz hdz => ?_
      have hzin := hv.range y hx z hz
      cases hSz : S z with
      | false => rfl
      | true => exact absurd ⟨S, hSz, hall⟩ (h z hzin hdz)
    omega
  · exact h y hy h1
theorem CSound.final {g : Gr} {d : Int → Bool} (h : CSound g d) (hf : CDone g d g.length) : ∀ x, InR g.length x → (d x = false ↔ IsStuck g x) := by
  intro x hx
  constructor
  · intro hdx
    refine ⟨fun z => !d z, by simp [hdx], fun y hy hdy => ?_⟩
    rcases hf y hy hy.2 with h1 | h1
    · simp [h1] at hdy
    · simpa [cntD] using h1
  · intro hs
    cases hdx : d x with
    | false => rfl
    | true => exact absurd hs (h x hx hdx)
theorem CDone.step {g : Gr} {d : Int → Bool} {i : Nat} (h : CDone g d i) (hi : d i = true ∨ (cntD g d i : Int) < kOf g i) : CDone g d (i + 1) := by
  intro x hx hlt
  by_cases e : x = i
  · subst e; exact hi
  · exact h x hx (by omega)
theorem countP_take_succ {l : List Int} {p : Int → Bool} {k : Nat} (hk : k < l.length) : (l.take (k + 1)).countP p = (l.take k).countP p + if p l[k] then 1 else 0 := by
  rw [List.take_succ_eq_append_getElem hk, List.countP_append]
  simp [List.countP_cons]
def StuckSpec (g : Gr) (l : List Int) : Prop := (ValidG g → IsSet g.length (IsStuck g) l) ∧ (¬ ValidG g → l = [])
theorem BoolBlk.alloc {w : World} {b : Nat} {bs : List Bool} (h : BoolBlk w b bs) (o : Obj) : BoolBlk (w.alloc o) b bs := (Go.RowKit.Below.heap_alloc w o b h.lt).trans h
theorem IntBlk.alloc {w : World} {b : Nat} {bs : List Int} (h : IntBlk w b bs) (o : Obj) : IntBlk (w.alloc o) b bs := (Go.RowKit.Below.heap_alloc w o b h.lt).trans h
def marked (bs : List Bool) : Nat := bs.countP (· == true)
theorem marked_set {n : Nat} {bs : List Bool} {x : Int} (hl : bs.length = n) (hx : InR n x) (h : at_ bs x = true) : marked (bs.set x.toNat false) + 1 = marked bs := by
  unfold marked
  unfold at_ InR at *
  have hlt : x.toNat < bs.length := by omega
  have hb : bs[x.toNat] = true := by simpa [List.getD, List.getElem?_eq_getElem hlt] using h
  rw [List.countP_set hlt]
  have hpos : 0 < bs.countP (· == true) := List.countP_pos_iff.2 ⟨_, List.getElem_mem hlt, by simp [hb]⟩
  rw [if_pos (by simp [hb]), if_neg (by decide)]
  omega
theorem at_set_false {n : Nat} {bs : List Bool} {x y : Int} (hl : bs.length = n) (hx : InR n x) (hy : InR n y) : (!at_ (bs.set x.toNat false) y) = true ↔ (y = x ∨ (!at_ bs y) = true) := by
  unfold at_ InR at *
  rw [List.getD_eq_getElem?_getD, List.getD_eq_getElem?_getD, List.getElem?_set]
  by_cases h : x.toNat = y.toNat
  · rw [if_pos h, if_pos (by omega)]
    have : y = x := by omega
    simp [this]
  · rw [if_neg h]
    have : y ≠ x := by omega
    simp [this]
end Go.Proofs.YtogeihdfmnohnaaGreatDoor.Wg
namespace Go.Proofs.YtogeihdfmnohnaaGreatDoor.Wg
inductive Pth (adj : Int → List Int) : Nat → Int → Int → Prop
  | nil (x : Int) : Pth adj 0 x x
  | cons {k : Nat} {x y z : Int} : y ∈ adj x → Pth adj k y z → Pth adj (k + 1) x z
def fa (fs : List Int) (x : Int) : Int := fs.getD x.toNat (-1)
def FarSpec (g : Gr) (to : Int) (fs : List Int) : Prop :=
  fs.length = g.length ∧ ∀ x, InR g.length x → (0 ≤ fa fs x → Pth (succs g) (fa fs x).toNat x to) ∧ ∀ k, Pth (succs g) k x to → 0 ≤ fa fs x ∧ fa fs x ≤ k
theorem fa_set {n : Nat} {fs : List Int} {x y v : Int} (hl : fs.length = n) (hx : InR n x) (hy : InR n y) : fa (fs.set x.toNat v) y = if y = x then v else fa fs y := by
  unfold fa InR at *
  rw [List.getD_eq_getElem?_getD, List.getD_eq_getElem?_getD, List.getElem?_set]
  by_cases h : x.toNat = y.toNat
  · rw [if_pos h, if_pos (by omega), if_pos (by omega)]; rfl
  · rw [if_neg h, if_neg (by omega)]
theorem fa_get {n : Nat} {fs : List Int} {x : Int} (hl : fs.length = n) (hx : InR n x) : fs[x.toNat]'(by have := hx.1; have := hx.2; omega) = fa fs x := by
  unfold fa
  rw [List.getD_eq_getElem?_getD, List.getElem?_eq_getElem (by have := hx.1; have := hx.2; omega)]; rfl
theorem mem_idxs {f : Nat → Bool} {n : Nat} {x : Int} : x ∈ idxs f n ↔ InR n x ∧ f x.toNat = true := by
  unfold idxs InR
  simp only [List.mem_map, List.mem_filter, List.mem_range]
  constructor
  · rintro ⟨j, ⟨h1, h2⟩, rfl⟩
    exact ⟨⟨Int.natCast_nonneg j, Int.ofNat_lt.2 h1⟩, by simpa using h2⟩
  · rintro ⟨⟨h1, h2⟩, h3⟩
    exact ⟨x.toNat, ⟨by omega, h3⟩, by simp; omega⟩
theorem mem_preds {g : Gr} {x y : Int} : y ∈ preds g x ↔ InR g.length y ∧ x ∈ succs g y := by
  unfold preds
  rw [mem_idxs]
  constructor
  · rintro ⟨h1, h2⟩
    refine ⟨h1, ?_⟩
    have := of_decide_eq_true h2
    rwa [show ((y.toNat : Nat) : Int) = y by have := h1.1; omega] at this
  · rintro ⟨h1, h2⟩
    exact ⟨h1, decide_eq_true (by rwa [show ((y.toNat : Nat) : Int) = y by have := h1.1; omega])⟩
def una (fs : List Int) : Nat := fs.countP (fun v => decide (v < 0))
theorem una_set {n : Nat} {fs : List Int} {x v : Int} (hl : fs.length = n) (hx : InR n x) (h : fa fs x < 0) (hv : 0 ≤ v) : una (fs.set x.toNat v) + 1 = una fs := by
  have hlt : x.toNat < fs.length := by have := hx.1; have := hx.2; omega
  have hb := fa_get hl hx
  unfold una
  rw [List.countP_set hlt]
  have hpos : 0 < fs.countP (fun v => decide (v < 0)) := List.countP_pos_iff.2 ⟨_, List.getElem_mem hlt, by rw [hb]; exact decide_eq_true h⟩
  rw [if_pos (by rw [hb]; exact decide_eq_true h), if_neg (by simp; omega)]
  omega
structure QInv (g : Gr) (to : Int) (fs q : List Int) (D : Int) (e : Int → Int → Prop) : Prop where
  len : fs.length = g.length
  root : fa fs to = 0
  sound : ∀ x, InR g.length x → 0 ≤ fa fs x → Pth (succs g) (fa fs x).toNat x to
  small : ∀ x, InR g.length x → 0 ≤ fa fs x → fa fs x + una fs ≤ g.length
  top : ∀ x, InR g.length x → fa fs x ≤ D + 1
  queue : ∀ x ∈ q, InR g.length x ∧ 0 ≤ fa fs x ∧ D ≤ fa fs x
  sorted : q.Pairwise (fun a b => fa fs a ≤ fa fs b)
  closed : ∀ x, InR g.length x → 0 ≤ fa fs x → x ∈ q ∨ ∀ y, y ∈ preds g x → (0 ≤ fa fs y ∧ fa fs y ≤ fa fs x + 1) ∨ e x y
theorem QInv.start (g : Gr) (to : Int) (ht : InR g.length to) : QInv g to ((List.replicate g.length (-1)).set to.toNat 0) [to] 0 (fun _ _ => False) := by
  have hl : (List.replicate g.length (-1 : Int)).length = g.length := by simp
  have hrep : ∀ x, fa (List.replicate g.length (-1)) x = -1 := fun x => by
    unfold fa; rw [List.getD_eq_getElem?_getD, List.getElem?_replicate]; split <;> rfl
  have hfa : ∀ x, InR g.length x → fa ((List.replicate g.length (-1)).set to.toNat 0) x = if x = to then 0 else -1 := fun x hx => by rw [fa_set hl ht hx, hrep]
  have hto : fa ((List.replicate g.length (-1)).set to.toNat 0) to = 0 := by rw [hfa to ht, if_pos rfl]
  have hun := una_set (v := 0) hl ht (by rw [hrep]; omega) (by omega)
  have hun2 : una (List.replicate g.length (-1)) = g.length := by simp [una, List.countP_replicate]
  have only : ∀ x, InR g.length x → 0 ≤ fa ((List.replicate g.length (-1)).set to.toNat 0) x → x = to := fun x hx h => by
    rw [hfa x hx] at h
    by_cases e : x = to
    · exact e
    · rw [if_neg e] at h; omega
  refine ⟨by simp, hto, ?_, ?_, ?_, ?_, by simp, ?_⟩
  · intro x hx h
    obtain rfl := only x hx h
    rw [hto]; exact .nil _
  · intro x hx h
    obtain rfl := only x hx h
    rw [hto]; omega
  · intro x hx
    rw [hfa x hx]; split <;> omega
  · intro x hx
    obtain rfl : x = to := by simpa using hx
    exact ⟨ht, by omega, by omega⟩
  · intro x hx h
    obtain rfl := only x hx h
    exact .inl (by simp)
theorem QInv.pop {g : Gr} {to x D : Int} {fs q : List Int} (h : QInv g to fs (x :: q) D (fun _ _ => False)) : QInv g to fs q (fa fs x) (fun z y => z = x ∧ y ∈ (preds g x).drop 0) := by
  obtain ⟨h1, h2, h3⟩ := h.queue x (by simp)
  have hp := List.pairwise_cons.1 h.sorted
  refine ⟨h.len, h.root, h.sound, h.small, fun y hy => by have := h.top y hy; omega, fun y hy => ?_, hp.2, fun y hy hy0 => ?_⟩
  · obtain ⟨a, b, _⟩ := h.queue y (by simp [hy])
    exact ⟨a, b, hp.1 y hy⟩
  · rcases h.closed y hy hy0 with h4 | h4
    · rcases List.mem_cons.1 h4 with rfl | h5
      · exact .inr fun z hz => .inr ⟨rfl, by simpa using hz⟩
      · exact .inl h5
    · exact .inr fun z hz => .inl ((h4 z hz).resolve_right id)
theorem QInv.skip {g : Gr} {to x : Int} {fs q : List Int} {c : Nat} (h : QInv g to fs q (fa fs x) (fun z y => z = x ∧ y ∈ (preds g x).drop c)) (hc : c < (preds g x).length) (hs : 0 ≤ fa fs (preds g x)[c]) :
    QInv g to fs q (fa fs x) (fun z y => z = x ∧ y ∈ (preds g x).drop (c + 1)) := by
  have hr : InR g.length (preds g x)[c] := (mem_preds.1 (List.getElem_mem hc)).1
  refine ⟨h.len, h.root, h.sound, h.small, h.top, h.queue, h.sorted, fun y hy hy0 => ?_⟩
  rcases h.closed y hy hy0 with h4 | h4
  · exact .inl h4
  · refine .inr fun z hz => ?_
    rcases h4 z hz with h5 | ⟨rfl, h5⟩
    · exact .inl h5
    · rcases mem_drop_succ hc h5 with rfl | h6
      · exact .inl ⟨hs, h.top _ hr⟩
      · exact .inr ⟨rfl, h6⟩
theorem QInv.push {g : Gr} {to x : Int} {fs q : List Int} {c : Nat} (h : QInv g to fs q (fa fs x) (fun z y => z = x ∧ y ∈ (preds g x).drop c)) (hx : InR g.length x) (hx0 : 0 ≤ fa fs x) (hto : InR g.length to)
    (hc : c < (preds g x).length) (hs : fa fs (preds g x)[c] < 0) :
    QInv g to (fs.set (preds g x)[c].toNat (fa fs x + 1)) (q ++ [(preds g x)[c]]) (fa (fs.set (preds g x)[c].toNat (fa fs x + 1)) x) (fun z y => z = x ∧ y ∈ (preds g x).drop (c + 1)) ∧
    fa (fs.set (preds g x)[c].toNat (fa fs x + 1)) x = fa fs x := by
  obtain ⟨hr, hsx⟩ := mem_preds.1 (List.getElem_mem hc)
  have hset := fun z (hz : InR g.length z) => fa_set (v := fa fs x + 1) h.len hr hz
  have hne : x ≠ (preds g x)[c] := fun e => by rw [← e] at hs; omega
  have hfx : fa (fs.set (preds g x)[c].toNat (fa fs x + 1)) x = fa fs x := by rw [hset x hx, if_neg hne]
  have hun := una_set (v := fa fs x + 1) h.len hr hs (by omega)
  refine ⟨?_, hfx⟩
  rw [hfx]
  generalize hp : (preds g x)[c] = p at *
  refine ⟨by simp [h.len], ?_, ?_, ?_, ?_, ?_, ?_, ?_⟩
  · rw [hset to hto, if_neg (fun e => by have := h.root; rw [e] at this; omega)]; exact h.root
  · intro y hy hy0
    by_cases e : y = p
    · subst e
      rw [hset _ hy, if_pos rfl, show (fa fs x + 1).toNat = (fa fs x).toNat + 1 by omega]
      exact .cons hsx (h.sound x hx hx0)
    · rw [hset y hy, if_neg e] at hy0 ⊢
      exact h.sound y hy hy0
  · intro y hy hy0
    by_cases e : y = p
    · subst e
      rw [hset _ hy, if_pos rfl]
      have := h.small x hx hx0
      omega
    · rw [hset y hy, if_neg e] at hy0 ⊢
      have := h.small y hy hy0
      omega
  · intro y hy
    rw [hset y hy]
    split
    · omega
    · exact h.top y hy
  · intro y hy
    rw [List.mem_append, List.mem_singleton] at hy
    rcases hy with hy | rfl
    · obtain ⟨a, b, d⟩ := h.queue y hy
      have e : y ≠ p := fun e => by subst e; omega
      rw [hset y a, if_neg e]
      exact ⟨a, b, d⟩
    · rw [hset _ hr, if_pos rfl]
      exact ⟨hr, by omega, by omega⟩
  · rw [List.pairwise_append]
    refine ⟨?_, by simp, ?_⟩
    · refine h.sorted.imp_of_mem fun {a b} ha hb hab => ?_
      obtain ⟨a1, a2, _⟩ := h.queue a ha
      obtain ⟨b1, b2, _⟩ := h.queue b hb
      rw [hset a a1, hset b b1, if_neg (fun e => by subst e; omega), if_neg (fun e => by subst e; omega)]
      exact hab
    · intro a ha b hb
      obtain rfl : b = p := by simpa using hb
      obtain ⟨a1, a2, _⟩ := h.queue a ha
      rw [hset a a1, hset _ hr, if_pos rfl, if_neg (fun e => by subst e; omega)]
      exact h.top a a1
  · intro y hy hy0
    by_cases e : y = p
    · subst e; exact .inl (by simp)
    · have hy1 := hy0
      rw [hset y hy, if_neg e] at hy1
      rcases h.closed y hy hy1 with h4 | h4
      · exact .inl (by simp [h4])
      · refine .inr fun z hz => ?_
        have hzr := (mem_preds.1 hz).1
        have hgoal : (0 ≤ fa fs z ∧ fa fs z ≤ fa fs y + 1) → (0 ≤ fa (fs.set p.toNat (fa fs x + 1)) z ∧ fa (fs.set p.toNat (fa fs x + 1)) z ≤ fa (fs.set p.toNat (fa fs x + 1)) y + 1) := by
          rintro ⟨a, b⟩
          rw [hset z hzr, hset y hy, if_neg e, if_neg (fun e => by subst e; omega)]
          exact ⟨a, b⟩
        rcases h4 z hz with h5 | ⟨rfl, h5⟩
        · exact .inl (hgoal h5)
        · rcases mem_drop_succ hc h5 with h6 | h6
          · rw [hp] at h6
            subst h6
            refine .inl ?_
            rw [hset _ hzr, hset _ hy, if_pos rfl, if_neg e]
            omega
          · exact .inr ⟨rfl, h6⟩
theorem QInv.done_ {g : Gr} {to x D : Int} {fs q : List Int} {c : Nat} (h : QInv g to fs q D (fun z y => z = x ∧ y ∈ (preds g x).drop c)) (hc : (preds g x).length ≤ c) : QInv g to fs q D (fun _ _ => False) := by
  refine ⟨h.len, h.root, h.sound, h.small, h.top, h.queue, h.sorted, fun y hy hy0 => ?_⟩
  rcases h.closed y hy hy0 with h4 | h4
  · exact .inl h4
  · refine .inr fun z hz => (h4 z hz).imp id fun h5 => ?_
    rw [List.drop_eq_nil_of_le hc] at h5
    simp at h5
theorem QInv.found {g : Gr} {to D : Int} {fs : List Int} (hv : ValidG g) (hto : InR g.length to) (h : QInv g to fs [] D (fun _ _ => False)) : FarSpec g to fs := by
  refine ⟨h.len, fun x hx => ⟨h.sound x hx, fun k hk => ?_⟩⟩
  have : ∀ k x z, Pth (succs g) k x z → z = to → InR g.length x → 0 ≤ fa fs x ∧ fa fs x ≤ k := by
    intro k x z hp
    induction hp with
    | nil x => rintro rfl _; rw [h.root]; omega
    | cons hm _ ih =>
      intro hz hx
      have hy := hv.range _ hx _ hm
      obtain ⟨a, b⟩ := ih hz hy
      rcases h.closed _ hy a with h4 | h4
      · simp at h4
      · obtain ⟨c1, c2⟩ := (h4 _ (mem_preds.2 ⟨hx, hm⟩)).resolve_right id
        exact ⟨c1, by omega⟩
  exact this k x to hk rfl hx
end Go.Proofs.YtogeihdfmnohnaaGreatDoor.Wg
namespace Go.Proofs.YtogeihdfmnohnaaGreatDoor.Wg
theorem pigeon : ∀ (n : Nat) (f : Nat → Nat), (∀ i, i ≤ n → f i < n) → ∃ i j, i < j ∧ j ≤ n ∧ f i = f j := by
  intro n
  induction n with
  | zero => intro f h; have := h 0 (Nat.le_refl _); omega
  | succ n ih =>
    intro f h
    by_cases hex : ∃ i, i ≤ n ∧ f i = f (n + 1)
    · obtain ⟨i, hi, he⟩ := hex
      exact ⟨i, n + 1, by omega, Nat.le_refl _, he⟩
    · have hno : ∀ i, i ≤ n → f i ≠ f (n + 1) := fun i hi e => hex ⟨i, hi, e⟩
      obtain ⟨i, j, hij, hj, he⟩ := ih (fun i => if f (n + 1) < f i then f i - 1 else f i) (fun i hi => by
        have h1 := h i (by omega); have h2 := h (n + 1) (Nat.le_refl _); have h3 := hno i hi
        show (if f (n + 1) < f i then f i - 1 else f i) < n
        split <;> omega)
      refine ⟨i, j, hij, by omega, ?_⟩
      have h1 := hno i (by omega); have h2 := hno j hj
      split at he <;> split at he <;> omega
theorem Pth.trans {adj : Int → List Int} {k m : Nat} {x y z : Int} (h : Pth adj k x y) (h' : Pth adj m y z) : Pth adj (k + m) x z := by
  induction h with
  | nil x => simpa using h'
  | @cons k x y z hm _ ih => rw [Nat.add_right_comm]; exact .cons hm (ih h')
theorem Pth.snoc {adj : Int → List Int} {k : Nat} {x y z : Int} (h : Pth adj k x y) (hz : z ∈ adj y) : Pth adj (k + 1) x z := h.trans (.cons hz (.nil z))
theorem reach_pth {adj : Int → List Int} {x y : Int} (h : Reach1 adj x y) : ∃ k, 1 ≤ k ∧ Pth adj k x y := by
  induction h with
  | one h => exact ⟨1, Nat.le_refl _, .cons h (.nil _)⟩
  | more _ h ih => obtain ⟨k, hk, hp⟩ := ih; exact ⟨k + 1, by omega, hp.snoc h⟩
theorem reach_of_cons {adj : Int → List Int} {x y z : Int} (h : y ∈ adj x) (h' : Reach1 adj y z) : Reach1 adj x z := by
  induction h' with
  | one h2 => exact .more (.one h) h2
  | more _ h2 ih => exact .more ih h2
theorem Pth.range {g : Gr} (hv : ValidG g) {k : Nat} {x y : Int} (h : Pth (succs g) k x y) (hx : InR g.length x) : InR g.length y := by
  induction h with
  | nil => exact hx
  | cons hm _ ih => exact ih (hv.range _ hx _ hm)
def Dst (adj : Int → List Int) (to : Int) (k : Nat) (x : Int) : Prop := Pth adj k x to ∧ ∀ j, Pth adj j x to → k ≤ j
def D1 (adj : Int → List Int) (to : Int) (k : Nat) (x : Int) : Prop := 1 ≤ k ∧ Pth adj k x to ∧ ∀ j, 1 ≤ j → Pth adj j x to → k ≤ j
theorem least_of {p : Nat → Prop} {n : Nat} (h : p n) : ∃ k, p k ∧ ∀ j, p j → k ≤ j := by
  induction n using Nat.strongRecOn with
  | _ n ih =>
    by_cases hm : ∃ m, m < n ∧ p m
    · obtain ⟨m, hlt, hp⟩ := hm; exact ih m hlt hp
    · exact ⟨n, h, fun m hp => Nat.le_of_not_lt fun hlt => hm ⟨m, hlt, hp⟩⟩
theorem Dst.step {adj : Int → List Int} {to : Int} {k : Nat} {x : Int} (h : Dst adj to (k + 1) x) : ∃ y, y ∈ adj x ∧ Dst adj to k y := by
  obtain ⟨hp, hmin⟩ := h
  cases hp with
  | cons hm hp => exact ⟨_, hm, hp, fun j hj => by have := hmin (j + 1) (.cons hm hj); omega⟩
theorem Dst.at_ {g : Gr} (hv : ValidG g) {to : Int} : ∀ (d k : Nat) {x : Int}, Dst (succs g) to k x → InR g.length x → d ≤ k → ∃ y, InR g.length y ∧ Dst (succs g) to (k - d) y := by
  intro d
  induction d with
  | zero => intro k x h hx _; exact ⟨x, hx, h⟩
  | succ d ih =>
    intro k x h hx hd
    obtain ⟨k', rfl⟩ : ∃ k', k = k' + 1 := ⟨k - 1, by omega⟩
    obtain ⟨y, hy, h2⟩ := h.step
    obtain ⟨z, hz, h3⟩ := ih k' h2 (hv.range _ hx _ hy) (by omega)
    exact ⟨z, hz, by rwa [show k' + 1 - (d + 1) = k' - d by omega]⟩
theorem Dst.lt {g : Gr} (hv : ValidG g) {to : Int} {k : Nat} {x : Int} (h : Dst (succs g) to k x) (hx : InR g.length x) : k < g.length := by
  refine Nat.lt_of_not_le fun hle => ?_
  have hex : ∀ j, ∃ y : Int, j ≤ k → InR g.length y ∧ Dst (succs g) to j y := fun j => by
    by_cases hj : j ≤ k
    · obtain ⟨y, h1, h2⟩ := Dst.at_ hv (k - j) k h hx (by omega)
      exact ⟨y, fun _ => ⟨h1, by rwa [show k - (k - j) = j by omega] at h2⟩⟩
    · exact ⟨0, fun h => absurd h hj⟩
  obtain ⟨f, hf⟩ := Classical.axiomOfChoice hex
  obtain ⟨i, j, hij, hj, he⟩ := pigeon g.length (fun j => (f j).toNat) (fun i hi => by have h1 := (hf i (by omega)).1; show (f i).toNat < g.length; have h2 := h1.1; have h3 := h1.2; omega)
  have h1 := hf i (by omega)
  have h2 := hf j (by omega)
  have e : f i = f j := by have h3 := h1.1.1; have h4 := h2.1.1; omega
  have := h2.2.2 i (by rw [← e]; exact h1.2.1)
  omega
theorem D1.le {g : Gr} (hv : ValidG g) {to : Int} {k : Nat} {x : Int} (h : D1 (succs g) to k x) (hx : InR g.length x) : k ≤ g.length := by
  obtain ⟨h1, hp, hmin⟩ := h
  cases hp with
  | nil => omega
  | @cons k _ y _ hm hp =>
    have hd : Dst (succs g) to k y := ⟨hp, fun j hj => by have := hmin (j + 1) (by omega) (.cons hm hj); omega⟩
    have := hd.lt hv (hv.range _ hx _ hm)
    omega
theorem D1.unique {adj : Int → List Int} {to : Int} {k k' : Nat} {x : Int} (h : D1 adj to k x) (h' : D1 adj to k' x) : k = k' :=
  Nat.le_antisymm (h.2.2 k' h'.1 h'.2.1) (h'.2.2 k h.1 h.2.1)
def da (d : List Int) (x : Int) : Int := d.getD x.toNat 0
def Good (g : Gr) (to : Int) (s : Nat) (d : List Int) (x : Int) : Prop :=
  (da d x = 0 ∧ ∀ j, 1 ≤ j → j ≤ s → ¬ Pth (succs g) j x to) ∨ (1 ≤ da d x ∧ da d x ≤ s ∧ D1 (succs g) to (da d x).toNat x)
def PInv (g : Gr) (to : Int) (s i : Nat) (d : List Int) : Prop :=
  d.length = g.length ∧ ∀ x, InR g.length x → (x < i → Good g to s d x) ∧ (i ≤ x → Good g to (s - 1) d x)
def DSpec (g : Gr) (to : Int) (d : List Int) : Prop :=
  d.length = g.length ∧ ∀ x, InR g.length x → (da d x = 0 ∧ ∀ j, 1 ≤ j → ¬ Pth (succs g) j x to) ∨ (1 ≤ da d x ∧ da d x ≤ g.length ∧ D1 (succs g) to (da d x).toNat x)
theorem Good.mono {g : Gr} {to : Int} {s : Nat} {d : List Int} {x : Int} (h : Good g to (s - 1) d x) (hd : 1 ≤ da d x) : Good g to s d x := by
  rcases h with ⟨h1, _⟩ | ⟨h1, h2, h3⟩
  · omega
  · exact .inr ⟨h1, by omega, h3⟩
theorem PInv.start (g : Gr) (to : Int) : PInv g to 1 0 (List.replicate g.length 0) := by
  have hz : ∀ x, da (List.replicate g.length 0) x = 0 := fun x => by
    unfold da; rw [List.getD_eq_getElem?_getD, List.getElem?_replicate]; split <;> rfl
  exact ⟨by simp, fun x hx => ⟨fun h => absurd hx.1 (by omega), fun _ => .inl ⟨hz x, fun j h1 h2 => by omega⟩⟩⟩
theorem PInv.next {g : Gr} {to : Int} {s : Nat} {d : List Int} (h : PInv g to s g.length d) : PInv g to (s + 1) 0 d :=
  ⟨h.1, fun x hx => ⟨fun h2 => absurd hx.1 (by omega), fun _ => (h.2 x hx).1 hx.2⟩⟩
theorem PInv.final {g : Gr} {to : Int} {d : List Int} (hv : ValidG g) (h : PInv g to (g.length + 1) 0 d) : DSpec g to d := by
  refine ⟨h.1, fun x hx => ?_⟩
  rcases (h.2 x hx).2 hx.1 with ⟨h1, h2⟩ | ⟨h1, h2, h3⟩
  · refine .inl ⟨h1, fun j hj hp => ?_⟩
    obtain ⟨k, ⟨hk1, hk2⟩, hk3⟩ := least_of (p := fun k => 1 ≤ k ∧ Pth (succs g) k x to) ⟨hj, hp⟩
    have hd : D1 (succs g) to k x := ⟨hk1, hk2, fun j h1 h2 => hk3 j ⟨h1, h2⟩⟩
    exact h2 k hk1 (by have := hd.le hv hx; omega) hk2
  · exact .inr ⟨h1, by omega, h3⟩
end Go.Proofs.YtogeihdfmnohnaaGreatDoor.Wg
