/- Part 44 of 49 of the proof of waitgraphOf_holds (no condition). -/
import Derived.Test.YtogeihdfmnohnaaGreatDoorK43
set_option linter.unusedVariables false
set_option linter.unusedSimpArgs false
namespace Go.Proofs.YtogeihdfmnohnaaGreatDoor.Wg
inductive Reach1 (adj : Int → List Int) : Int → Int → Prop
  | one {x y : Int} : y ∈ adj x → Reach1 adj x y
  | more {x y z : Int} : Reach1 adj x y → z ∈ adj y → Reach1 adj x z
def at_ (bs : List Bool) (x : Int) : Bool := bs.getD x.toNat false
def InR (n : Nat) (x : Int) : Prop := 0 ≤ x ∧ x < n
structure SInv (n : Nat) (adj : Int → List Int) (root : Int) (bs : List Bool) (st : List Int) (e : Int → Int → Prop) : Prop where
  len : bs.length = n
  seen : ∀ x, InR n x → at_ bs x = true → Reach1 adj root x
  stack : ∀ x ∈ st, InR n x ∧ (x = root ∨ at_ bs x = true)
  closed : ∀ x, InR n x → (x = root ∨ at_ bs x = true) → x ∈ st ∨ ∀ y ∈ adj x, at_ bs y = true ∨ e x y
theorem at_set {n : Nat} {bs : List Bool} {x y : Int} (hl : bs.length = n) (hx : InR n x) (hy : InR n y) : at_ (bs.set x.toNat true) y = true ↔ (y = x ∨ at_ bs y = true) := by
  unfold at_ InR at *
  rw [List.getD_eq_getElem?_getD, List.getD_eq_getElem?_getD, List.getElem?_set]
  by_cases h : x.toNat = y.toNat
  · rw [if_pos h, if_pos (by omega)]
    have : y = x := by omega
    simp [this]
  · rw [if_neg h]
    have : y ≠ x := by omega
    simp [this]
theorem SInv.start (n : Nat) (adj : Int → List Int) (root : Int) (hr : InR n root) : SInv n adj root (List.replicate n false) [root] (fun _ _ => False) where
  len := by simp
  seen := by intro x hx h; unfold at_ at h; simp [List.getD, List.getElem?_replicate] at h; split at h <;> simp at h
  stack := by intro x hx; simp at hx; subst hx; exact ⟨hr, .inl rfl⟩
  closed := by
    intro x hx h
    rcases h with rfl | h
    · exact .inl (by simp)
    · unfold at_ at h; simp [List.getD, List.getElem?_replicate] at h; split at h <;> simp at h
theorem SInv.pop {n : Nat} {adj : Int → List Int} {root x : Int} {bs : List Bool} {st : List Int} (h : SInv n adj root bs (st ++ [x]) (fun _ _ => False)) :
    SInv n adj root bs st (fun z y => z = x ∧ y ∈ (adj x).drop 0) where
  len := h.len
  seen := h.seen
  stack := fun y hy => h.stack y (by simp [hy])
  closed := by
    intro y hy hs
    rcases h.closed y hy hs with h1 | h1
    · rw [List.mem_append, List.mem_singleton] at h1
      rcases h1 with h1 | rfl
      · exact .inl h1
      · exact .inr fun z hz => .inr ⟨rfl, by simpa using hz⟩
    · exact .inr fun z hz => .inl ((h1 z hz).resolve_right id)
theorem mem_drop_succ {l : List Int} {c : Nat} (hc : c < l.length) {y : Int} (h : y ∈ l.drop c) : y = l[c] ∨ y ∈ l.drop (c + 1) := by
  rw [List.drop_eq_getElem_cons hc, List.mem_cons] at h
  exact h
theorem SInv.skip {n : Nat} {adj : Int → List Int} {root x : Int} {bs : List Bool} {st : List Int} {c : Nat} (hc : c < (adj x).length)
    (h : SInv n adj root bs st (fun z y => z = x ∧ y ∈ (adj x).drop c)) (hs : at_ bs (adj x)[c] = true) : SInv n adj root bs st (fun z y => z = x ∧ y ∈ (adj x).drop (c + 1)) where
  len := h.len
  seen := h.seen
  stack := h.stack
  closed := by
    intro y hy hr
    rcases h.closed y hy hr with h1 | h1
    · exact .inl h1
    · refine .inr fun z hz => ?_
      rcases h1 z hz with h2 | ⟨rfl, h2⟩
      · exact .inl h2
      · rcases mem_drop_succ hc h2 with rfl | h3
        · exact .inl hs
        · exact .inr ⟨rfl, h3⟩
theorem SInv.push {n : Nat} {adj : Int → List Int} {root x : Int} {bs : List Bool} {st : List Int} {c : Nat} (hc : c < (adj x).length) (hadj : ∀ x, InR n x → ∀ y ∈ adj x, InR n y) (hx : InR n x) (hxr : x = root ∨ at_ bs x = true)
    (h : SInv n adj root bs st (fun z y => z = x ∧ y ∈ (adj x).drop c)) : SInv n adj root (bs.set (adj x)[c].toNat true) (st ++ [(adj x)[c]]) (fun z y => z = x ∧ y ∈ (adj x).drop (c + 1)) := by
  have hm : (adj x)[c] ∈ adj x := List.getElem_mem _
  have hin := hadj x hx _ hm
  have hset := fun y (hy : InR n y) => at_set h.len hin hy
  have hreach : Reach1 adj root (adj x)[c] := by
    rcases hxr with rfl | hs
    · exact .one hm
    · exact .more (h.seen x hx hs) hm
  refine ⟨by simp [h.len], ?_, ?_, ?_⟩
  · intro y hy hs
    rcases (hset y hy).1 hs with rfl | h1
    · exact hreach
    · exact h.seen y hy h1
  · intro y hy
    rw [List.mem_append, List.mem_singleton] at hy
    rcases hy with hy | rfl
    · obtain ⟨h1, h2⟩ := h.stack y hy
      exact ⟨h1, h2.imp id fun h3 => (hset y h1).2 (.inr h3)⟩
    · exact ⟨hin, .inr ((hset _ hin).2 (.inl rfl))⟩
  · intro y hy hr
    by_cases hyc : y = (adj x)[c]
    · subst hyc; exact .inl (by simp)
    · have hr2 : y = root ∨ at_ bs y = true := hr.imp id fun h3 => ((hset y hy).1 h3).resolve_left hyc
      rcases h.closed y hy hr2 with h1 | h1
      · exact .inl (by simp [h1])
      · refine .inr fun z hz => ?_
        have hzin := hadj y hy z hz
        rcases h1 z hz with h2 | ⟨rfl, h2⟩
        · exact .inl ((hset z hzin).2 (.inr h2))
        · rcases mem_drop_succ hc h2 with rfl | h3
          · exact .inl ((hset _ hzin).2 (.inl rfl))
          · exact .inr ⟨rfl, h3⟩
theorem SInv.done_ {n : Nat} {adj : Int → List Int} {root x : Int} {bs : List Bool} {st : List Int} {c : Nat} (hc : (adj x).length ≤ c)
    (h : SInv n adj root bs st (fun z y => z = x ∧ y ∈ (adj x).drop c)) : SInv n adj root bs st (fun _ _ => False) where
  len := h.len
  seen := h.seen
  stack := h.stack
  closed := by
    intro y hy hr
    rcases h.closed y hy hr with h1 | h1
    · exact .inl h1
    · refine .inr fun z hz => (h1 z hz).imp id fun h2 => ?_
      rw [List.drop_eq_nil_of_le hc] at h2
      simp at h2
theorem SInv.found {n : Nat} {adj : Int → List Int} {root : Int} {bs : List Bool} (hadj : ∀ x, InR n x → ∀ y ∈ adj x, InR n y) (hr : InR n root) (h : SInv n adj root bs [] (fun _ _ => False)) :
    ∀ x, InR n x → (at_ bs x = true ↔ Reach1 adj root x) := by
  have cl : ∀ x, InR n x → (x = root ∨ at_ bs x = true) → ∀ y ∈ adj x, at_ bs y = true := fun x hx hs y hy => by
    rcases h.closed x hx hs with h1 | h1
    · simp at h1
    · exact (h1 y hy).resolve_right id
  intro x hx
  refine ⟨h.seen x hx, fun hre => ?_⟩
  have : ∀ z, Reach1 adj root z → InR n z ∧ at_ bs z = true := by
    intro z hz
    induction hz with
    | one hy => exact ⟨hadj _ hr _ hy, cl _ hr (.inl rfl) _ hy⟩
    | more _ hz ih => exact ⟨hadj _ ih.1 _ hz, cl _ ih.1 (.inr ih.2) _ hz⟩
  exact (this x hre).2
def unseen (bs : List Bool) : Nat := bs.countP (· == false)
theorem unseen_set {n : Nat} {bs : List Bool} {x : Int} (hl : bs.length = n) (hx : InR n x) (h : at_ bs x = false) : unseen (bs.set x.toNat true) + 1 = unseen bs := by
  unfold unseen at_ InR at *
  have hlt : x.toNat < bs.length := by omega
  have hb : bs[x.toNat] = false := by simpa [List.getD, List.getElem?_eq_getElem hlt] using h
  rw [List.countP_set hlt]
  have hpos : 0 < bs.countP (· == false) := List.countP_pos_iff.2 ⟨_, List.getElem_mem hlt, by simp [hb]⟩
  rw [if_pos (by simp [hb]), if_neg (by decide)]
  omega
structure RInv (n : Nat) (adj : Int → List Int) (root : Int) (bs : List Bool) (st : List Int) : Prop where
  len : bs.length = n
  seen : ∀ x, InR n x → at_ bs x = true → Reach1 adj root x
  stack : ∀ x ∈ st, InR n x ∧ Reach1 adj root x
  first : ∀ y ∈ adj root, at_ bs y = true ∨ y ∈ st
  closed : ∀ x, InR n x → at_ bs x = true → ∀ y ∈ adj x, at_ bs y = true ∨ y ∈ st
theorem at_replicate (n : Nat) (x : Int) : at_ (List.replicate n false) x = false := by
  unfold at_
  rw [List.getD_eq_getElem?_getD, List.getElem?_replicate]
  split <;> rfl
theorem RInv.start (n : Nat) (adj : Int → List Int) (root : Int) (hr : InR n root) (hadj : ∀ x, InR n x → ∀ y ∈ adj x, InR n y) : RInv n adj root (List.replicate n false) (adj root) where
  len := by simp
  seen := by intro x hx h; rw [at_replicate] at h; cases h
  stack := fun x hx => ⟨hadj _ hr _ hx, .one hx⟩
  first := fun y hy => .inr hy
  closed := by intro x hx h; rw [at_replicate] at h; cases h
theorem RInv.skip {n : Nat} {adj : Int → List Int} {root x : Int} {bs : List Bool} {st : List Int} (h : RInv n adj root bs (st ++ [x])) (hs : at_ bs x = true) : RInv n adj root bs st := by
  have key : ∀ y, y ∈ st ++ [x] → at_ bs y = true ∨ y ∈ st := fun y hy => by
    rw [List.mem_append, List.mem_singleton] at hy
    rcases hy with hy | rfl
    · exact .inr hy
    · exact .inl hs
  exact ⟨h.len, h.seen, fun y hy => h.stack y (by simp [hy]), fun y hy => (h.first y hy).elim .inl (key y), fun z hz hzs y hy => (h.closed z hz hzs y hy).elim .inl (key y)⟩
theorem RInv.found {n : Nat} {adj : Int → List Int} {root : Int} {bs : List Bool} (hadj : ∀ x, InR n x → ∀ y ∈ adj x, InR n y) (hr : InR n root) (h : RInv n adj root bs []) :
    ∀ x, InR n x → (at_ bs x = true ↔ Reach1 adj root x) := by
  intro x hx
  refine ⟨h.seen x hx, fun hre => ?_⟩
  have : ∀ z, Reach1 adj root z → InR n z ∧ at_ bs z = true := by
    intro z hz
    induction hz with
    | one hy => exact ⟨hadj _ hr _ hy, (h.first _ hy).resolve_right (by simp)⟩
    | more _ hz ih => exact ⟨hadj _ ih.1 _ hz, (h.closed _ ih.1 ih.2 _ hz).resolve_right (by simp)⟩
  exact (this x hre).2
end Go.Proofs.YtogeihdfmnohnaaGreatDoor.Wg
namespace Go.Proofs.YtogeihdfmnohnaaGreatDoor.Wg
open Go.RowKit
def SMem (w0 : World) (bs : List Bool) (v : Value) (st : List Int) (w : World) : Prop :=
  BoolBlk w w0.heap.size bs ∧ OwnInts w (w0.heap.size + 1) v st ∧ Below w0.heap.size w0 w
set_option maxHeartbeats 1600000 in
theorem search_any (f : Nat) (n : Nat) (adj : Int → List Int) (root : Int) (A : Option Addr) (cap : Nat) (w : World) (hn : n ≤ 40) (hroot : InR n root)
    (hadj : ∀ x, InR n x → ∀ y ∈ adj x, InR n y) (hlen : ∀ x, InR n x → (adj x).length ≤ 40)
    (hcall : ∀ args W, Sem.run Tryz.prog (callFunc f args) W = .ok (.enter f args) W)
    (hstep : ∀ W x, Below w.heap.size w W → InR n x → Calls Tryz.prog f #[.slice A n cap, .int .i64 x] W (RetIntsL W w.heap.size (adj x))) :
    Calls Tryz.prog 30 #[.slice A n cap, .int .i64 root, .func (.func f) #[] #[]] w (RetBools w (fun bs => bs.length = n ∧ ∀ x, InR n x → (at_ bs x = true ↔ Reach1 adj root x))) := by
  have hmk := mkBools n (by omega)
  have HA := Lib.hid hadj
  have HS := Lib.hid hstep
  have HL := Lib.hid hlen
  have HR := Lib.hid hroot
  clear hadj hstep hlen hroot
  go_enter Tryz.func30, Tryz.ntmps30
  go_wp2
  clear hmk
  go_loopg [8] (2 * n + 1) (fun m v8 wr => ∃ bs st, Hid (SInv n adj root bs st (fun _ _ => False)) ∧ SMem w bs v8 st wr ∧ 2 * unseen bs + st.length ≤ m ∧ m ≤ 2 * n + 1)
  case atStart =>
    refine ⟨List.replicate n false, [root], SInv.start n adj root HR.out, ⟨?_, ?_, ?_⟩, ?_, Nat.le_refl _⟩
    · exact (BoolBlk.new w n).below ((Below.refl _ _).alloc (Nat.le_refl _) _) (by simp)
    · simpa using OwnInts.one (w.alloc _) (w.heap.size + 1) root (by simp)
    · exact ((Below.refl _ _).alloc (Nat.le_refl _) _).alloc (by simp) _
    · simp [unseen, List.countP_replicate]
  case round =>
    obtain ⟨G, hG⟩ : ∃ G, G = gk := ⟨_, rfl⟩
    subst hG
    obtain ⟨wo, hwo⟩ : ∃ wo, wo = wr := ⟨_, rfl⟩
    subst hwo
    obtain ⟨bs, st, hinv, hmem, hm1, hm2⟩ := hrel
    rcases List.eq_nil_or_concat st with rfl | ⟨l, x, hst⟩
    · obtain ⟨A8, c8, hv, _⟩ := hmem.2.1.form
      obtain rfl : u8 = .slice A8 0 c8 := hv
      go_wp2
      go_ret
      exact ⟨w.heap.size, bs, n, by rw [hinv.out.len]; rfl, hmem.1, ⟨hinv.out.len, hinv.out.found HA.out HR.out⟩, hmem.2.2⟩
    · rw [List.concat_eq_append] at hst
      subst hst
      obtain ⟨g8, cap8, rfl, hg8, hg8', hc8, hl8, hcell, hown⟩ := hmem.2.1.last
      obtain ⟨hx, hxs⟩ := hinv.out.stack x (by simp)
      go_wp2_with fail
      refine (HS.out wo x hmem.2.2 hx).mono ?_
      rintro e w1 ⟨A1, c1, rfl, hjs, hloc, hb1⟩
      have hblk1 : BoolBlk w1 w.heap.size bs := hmem.1.below hb1 hmem.1.lt
      have hown1 := hown.below hb1 (Nat.le_refl _)
      have hbel1 := hmem.2.2.trans (hb1.mono hmem.2.2.size)
      have hL := HL.out x hx
      have hpop := Lib.hid hinv.out.pop
      have hlst : (l ++ [x]).length = l.length + 1 := by simp
      have hm3 : 2 * unseen bs + l.length + 1 ≤ G := by omega
      have HXS := Lib.hid hxs
      have HLOC : Hid (0 < (adj x).length → ∀ a, A1 = some a → a.block ≠ w.heap.size ∧ a.block ≠ g8) := fun h0 a ha => by have h1 := hloc h0 a ha; have h2 := hmem.2.2.size; omega
      clear hlst hm1 hcell hxs hloc hmem hown hc8 hl8
      go_wp2_with fail
      go_loopg [8, 36] (adj x).length (fun m2 v8 v36 w2 => ∃ (bs2 : List Bool) (st2 : List Int) (k : Nat), v36 = .int .i64 (k : Int) ∧ k ≤ (adj x).length ∧ (adj x).length ≤ k + m2 ∧ Hid (SInv n adj root bs2 st2 (fun z y => z = x ∧ y ∈ (adj x).drop k)) ∧
        Hid (x = root ∨ at_ bs2 x = true) ∧ SMem w bs2 v8 st2 w2 ∧ IntsAt w2 w2.heap.size A1 (adj x) ∧ Hid (0 < (adj x).length → ∀ a, A1 = some a → a.block ≠ w.heap.size ∧ v8.ownBlock ≠ some a.block) ∧ 2 * unseen bs2 + st2.length ≤ 2 * unseen bs + l.length)
      case atStart =>
        exact ⟨bs, l, 0, rfl, Nat.zero_le _, by omega, hpop.out, HXS.out, ⟨hblk1, hown1, hbel1⟩, hjs, fun h0 a ha => ⟨(HLOC.out h0 a ha).1, by have := (HLOC.out h0 a ha).2; simp [Value.ownBlock]; omega⟩, Nat.le_refl _⟩
      case round =>
        obtain ⟨bs2, st2, k, rfl, hk, hkm, hinv2, hxs2, hmem2, hjs2, hap, hm4⟩ := hrel
        by_cases hlt : k < (adj x).length
        · obtain ⟨hy1, hy2⟩ := HA.out x hx _ (List.getElem_mem hlt)
          cases hs : at_ bs2 (adj x)[k] with
          | true =>
            obtain ⟨b2, off2, rfl, hb2, hc2⟩ := hjs2.get hlt rfl
            have hcs : wr.cell? ⟨w.heap.size, (adj x)[k].toNat, none⟩ = some (.bool true) := hmem2.1.cell (by rw [hinv2.out.len]; omega) (by have h := hs; unfold at_ at h; rw [List.getD_eq_getElem?_getD, List.getElem?_eq_getElem (by rw [hinv2.out.len]; omega)] at h; simpa using h)
            have HSS := Lib.hid hs
            clear hs
            go_wp2
            go_roundg (gk - 1)
            case measure => omega
            case rel => exact ⟨bs2, st2, k + 1, by go_num, by omega, by omega, hinv2.out.skip hlt HSS.out, hxs2, hmem2, hjs2, hap, hm4⟩
          | false =>
            obtain ⟨b2, off2, rfl, hb2, hc2⟩ := hjs2.get hlt rfl
            have hcs : wr.cell? ⟨w.heap.size, (adj x)[k].toNat, none⟩ = some (.bool false) := hmem2.1.cell (by rw [hinv2.out.len]; omega) (by have h := hs; unfold at_ at h; rw [List.getD_eq_getElem?_getD, List.getElem?_eq_getElem (by rw [hinv2.out.len]; omega)] at h; simpa using h)
            have hfs : wr.frozen? ⟨w.heap.size, (adj x)[k].toNat, none⟩ = false := hmem2.1.free _
            have HSS := Lib.hid hs
            clear hs
            go_wp2_with (at_builtin; refine pushInt rfl _ _ rfl _ _ _ _ _ rfl (hmem2.2.1.setCell (by simp) _) _ rfl (by simp [World.setCell]) (by omega) ?_; intro v' w3 hown3 hb3 hsp3)
            have hus := unseen_set (x := (adj x)[k]) hinv2.out.len ⟨hy1, hy2⟩ HSS.out
            have hln : (st2 ++ [(adj x)[k]]).length = st2.length + 1 := by simp
            obtain ⟨q1, q2⟩ := hap.out (by omega) _ rfl
            have hzz : (wr.setCell ⟨w.heap.size, (adj x)[k].toNat, none⟩ (.bool true)).heap.size = wr.heap.size := by simp [World.setCell]
            obtain ⟨q3, q4⟩ := hsp3 b2 (by rw [hzz]; exact hb2) q2
            have q5 := q3.trans (Below.heap_setCell wr ⟨w.heap.size, (adj x)[k].toNat, none⟩ (.bool true) b2 q1)
            have q6 := hb3.size
            have hx4 : x = root ∨ at_ (bs2.set (adj x)[k].toNat true) x = true := hxs2.out.imp id fun h => (at_set hinv2.out.len ⟨hy1, hy2⟩ hx).2 (.inr h)
            go_roundg (gk - 1)
            case measure => omega
            case rel =>
              refine ⟨bs2.set (adj x)[k].toNat true, st2 ++ [(adj x)[k]], k + 1, by go_num, by omega, by omega, hinv2.out.push hlt HA.out hx hxs2.out, hx4, ⟨(hmem2.1.set_ _ true).below hb3 (by omega), hown3, (hmem2.2.2.setCell (Nat.le_refl _) _).trans (hb3.mono (by omega))⟩, ?_, ?_, by omega⟩
              · exact hjs2.same (fun a ha _ => by injection ha with ha; subst ha; exact q5) (by omega)
              · intro _ a ha; injection ha with ha; subst ha; exact ⟨q1, q4⟩
        · go_wp2
          go_roundg (G - 1)
          case measure => omega
          case rel => exact ⟨bs2, st2, hinv2.out.done_ (by omega), hmem2, by omega, by omega⟩
end Go.Proofs.YtogeihdfmnohnaaGreatDoor.Wg
namespace Go.Proofs.YtogeihdfmnohnaaGreatDoor.Wg
open Go.RowKit
def RetSign (w : World) (P : Prop) (e : Ending) (w' : World) : Prop := ∃ r : Int, e = .returned (.int .i64 r) ∧ (0 ≤ r ↔ P) ∧ Below w.heap.size w w'
set_option maxHeartbeats 400000 in
theorem Index_any (A : Option Addr) (B cap : Nat) (l : List Int) (x : Int) (w : World) (hm : l.length ≤ 9223372036854775807) (hr : IntsAt w B A l) :
    Calls Tryz.prog 110 #[.slice A l.length cap, .int .i64 x] w (RetSign w (x ∈ l)) := by
  go_enter Tryz.func110, Tryz.ntmps110
  go_wp2
  go_loopg [8] l.length (fun m i wr => ∃ k : Nat, k ≤ l.length ∧ i = .int .i64 k ∧ Hid (¬ x ∈ l.take k) ∧ wr = w ∧ l.length ≤ k + m)
  case atStart => exact ⟨0, Nat.zero_le _, rfl, by simp [Hid], rfl, by omega⟩
  case round =>
    obtain ⟨k, hk, rfl, hno, rfl, hm2⟩ := hrel
    by_cases hlt : k < l.length
    · obtain ⟨b, off, rfl, hb, hc⟩ := hr.get hlt rfl
      have hs := Lib.hid (mem_take_succ l x k hlt)
      by_cases ht : x = l[k]
      · have hd : (x == l[k]) = true := beq_iff_eq.2 ht
        have HT := Lib.hid ht
        clear ht
        go_wp2
        go_ret
        exact ⟨k, rfl, by have h : x ∈ l := by rw [HT.out]; exact List.getElem_mem _
                          simp [h], Below.refl _ _⟩
      · have hd : (x == l[k]) = false := by simpa using ht
        have HT := Lib.hid ht
        clear ht
        go_wp2
        go_roundg (gk - 1)
        case measure => omega
        case rel => exact ⟨k+1, by omega, by go_num, by unfold Hid; rw [hs.out]; rintro (h | h); exact hno.out h; exact HT.out h.symm, rfl, by omega⟩
    · go_wp2
      go_ret
      exact ⟨-1, rfl, by have := hno.out; rw [List.take_of_length_le (by omega)] at this; simp [this], Below.refl _ _⟩
set_option maxHeartbeats 400000 in
theorem Contains_any (A : Option Addr) (B cap : Nat) (l : List Int) (x : Int) (w : World) (hm : l.length ≤ 9223372036854775807) (hr : IntsAt w B A l) :
    Calls Tryz.prog 71 #[.slice A l.length cap, .int .i64 x] w (RetB w (x ∈ l)) := by
  go_enter Tryz.func71, Tryz.ntmps71
  go_wp2_with fail
  refine (Index_any A B cap l x w hm hr).mono ?_
  rintro e w1 ⟨r, rfl, hr2, hb⟩
  have HR := Lib.hid hr2
  clear hr2
  go_wp2
  go_ret
  exact ⟨decide (0 ≤ r), rfl, by rw [decide_eq_true_iff]; exact HR.out, hb⟩
set_option maxHeartbeats 400000 in
theorem Equal_q (A A' : Option Addr) (B B' cap cap' : Nat) (l l' : List Int) (w : World) (hm : l.length ≤ 9223372036854775807)
   (_hm' : l'.length ≤ 9223372036854775807) (hr : IntsAt w B A l) (hr' : IntsAt w B' A' l') :
    Calls Tryz.prog 36 #[.slice A l.length cap, .slice A' l'.length cap'] w (RetBQ w (l = l')) := by
  by_cases hl : l.length = l'.length
  · have hl2 := bne_int_of_nat hl
    have HL := Lib.hid hl
    clear hl
    go_enter Tryz.func36, Tryz.ntmps36
    go_wp2
    clear hl2
    go_loopg [13] l.length (fun m i w1 => ∃ k : Nat, k ≤ l.length ∧ i = .int .i64 k ∧ Hid (l.take k = l'.take k) ∧ l.length ≤ k + m ∧ ∃ n, w1 = w.drewN n)
    case atStart => exact ⟨0, Nat.zero_le _, rfl, by simp [Hid], by omega, 0, rfl⟩
    case round =>
      obtain ⟨k, hk, rfl, hno, hkm, n, rfl⟩ := hrel
      by_cases hlt : k < l.length
      · obtain ⟨b, off, rfl, hb, hc⟩ := hr.get hlt rfl
        have hlt' : k < l'.length := by rw [← HL.out]; exact hlt
        obtain ⟨b', off', rfl, hb', hc'⟩ := hr'.get hlt' rfl
        go_wp2
        go_quiet (fail)
        go_wp2
        · have ht : (l[k] != l'[k]) = true := by assumption
          go_ret
          exact .false_ rfl (by intro h; simp [h] at ht) ⟨n + nq, by simp⟩
        · have ht : (l[k] != l'[k]) = false := by assumption
          go_roundg (gk - 1)
          case measure => omega
          case rel => exact ⟨k+1, by omega, by go_num, take_succ_eq hlt hlt' hno.out (by simpa using ht), by omega, n + nq, by simp⟩
      · go_wp2
        go_ret
        exact .true_ rfl (by have := hno.out; rwa [List.take_of_length_le (by omega), List.take_of_length_le (by rw [← HL.out]; omega)] at this) ⟨n, rfl⟩
  · have hl2 := bne_int_of_nat' hl
    have HL := Lib.hid hl
    clear hl
    go_enter Tryz.func36, Tryz.ntmps36
    go_wp2
    go_ret
    exact .false_ rfl (by intro h; exact HL.out (by rw [h])) ⟨0, rfl⟩
def succs (g : Gr) (x : Int) : List Int := (g.getD x.toNat ⟨0, []⟩).next
def preds (g : Gr) (x : Int) : List Int := idxs (fun j => decide (x ∈ succs g j)) g.length
theorem succs_eq {g : Gr} {x : Int} (h : x.toNat < g.length) : succs g x = g[x.toNat].next := by unfold succs; rw [List.getD_eq_getElem?_getD, List.getElem?_eq_getElem h]; rfl
set_option maxHeartbeats 400000 in
theorem next_any (A : Option Addr) (cap B0 : Nat) (g : Gr) (x : Int) (w : World) (_hm : g.length ≤ 40) (hx : InR g.length x) (hB : B0 ≤ w.heap.size) (hr : GraphAt w B0 A g) :
    Calls Tryz.prog 34 #[.slice A g.length cap, .int .i64 x] w (RetIntsL w B0 (succs g x)) := by
  obtain ⟨hx1, hx2⟩ := hx
  have hlt : x.toNat < g.length := by omega
  obtain ⟨b, off, nA, ncap, rfl, hb, hc1, hc2, hN⟩ := hr x.toNat hlt
  have HE := Lib.hid (succs_eq hlt)
  have HN := Lib.hid hN
  clear hN
  go_enter Tryz.func34, Tryz.ntmps34
  go_wp2
  go_ret
  rw [HE.out]
  refine ⟨nA, ncap, rfl, HN.out.mono hB, fun h0 a ha => ?_, Below.refl _ _⟩
  obtain ⟨b2, off2, h, hb2, _⟩ := HN.out 0 h0
  rw [ha] at h
  injection h with h
  subst h
  exact .inl hb2
set_option maxHeartbeats 800000 in
theorem prev_any (A : Option Addr) (cap B0 : Nat) (g : Gr) (x : Int) (w : World) (hf : FitsG g) (hB : B0 ≤ w.heap.size) (hr : GraphAt w B0 A g) :
    Calls Tryz.prog 31 #[.slice A g.length cap, .int .i64 x] w (RetIntsL w B0 (preds g x)) := by
  have HF := Lib.hid hf
  have hlen : g.length ≤ 40 := hf.1
  clear hf
  go_enter Tryz.func31, Tryz.ntmps31
  go_wp2
  go_loopg [5, 10] g.length (fun m v5 i wr => ∃ k : Nat, k ≤ g.length ∧ i = .int .i64 k ∧ g.length ≤ k + m ∧ Below w.heap.size w wr ∧ OwnInts wr w.heap.size v5 (idxs (fun j => decide (x ∈ succs g j)) k))
  case atStart => exact ⟨0, Nat.zero_le _, rfl, by omega, Below.refl _ _, OwnInts.nil _ _ (Nat.le_refl _)⟩
  case round =>
    obtain ⟨k, hk, rfl, hkm, hbel, hown⟩ := hrel
    by_cases hlt : k < g.length
    · obtain ⟨b, off, nA, ncap, rfl, hb, hc1, hc2, hN⟩ := (hr.below (B'' := wr.heap.size) hbel hB (Nat.le_trans hB hbel.size)) k hlt
      have hn40 := (HF.out.2 k hlt).1
      have HN := Lib.hid hN
      have hst := Lib.hid (idxs_succ (fun j => decide (x ∈ succs g j)) k)
      have hle := idxs_length (fun j => decide (x ∈ succs g j)) k
      have hsk : succs g k = g[k].next := succs_eq (x := (k : Int)) (by simpa using hlt)
      have HSK := Lib.hid hsk
      clear hN hsk
      go_wp2_with fail
      refine (Contains_any nA wr.heap.size ncap g[k].next x _ (by omega) (HN.out.below ((Below.refl _ _).alloc (Nat.le_refl _) _) (Nat.le_refl _) (Nat.le_refl _))).mono ?_
      rintro e w1 ⟨r, rfl, hr2, hb1⟩
      have HR2 := Lib.hid hr2
      clear hr2 hc1 hc2
      have hbo := ((Below.refl wr.heap.size wr).alloc (Nat.le_refl _) (.cells #[.int .i64 g[k].k, .slice nA g[k].next.length ncap] 37)).trans (hb1.mono (by simp))
      have hown1 := hown.below hbo (Nat.le_refl _)
      have hbel1 := hbel.trans (hbo.mono hbel.size)
      cases r with
      | true =>
        go_wp2_with (at_builtin; refine pushInt rfl _ _ rfl _ _ _ _ _ rfl hown1 _ rfl rfl (by omega) ?_; intro v' w3 hown3 hb3 hsp3)
        go_roundg (gk - 1)
        case measure => omega
        case rel =>
          have e : idxs (fun j => decide (x ∈ succs g j)) (k + 1) = idxs (fun j => decide (x ∈ succs g j)) k ++ [(k : Int)] := by rw [hst.out, if_pos]; simp only [HSK.out]; exact decide_eq_true (HR2.out.1 (by simp))
          exact ⟨k + 1, by omega, by go_num, by omega, hbel1.trans hb3, by rw [e]; exact hown3⟩
      | false =>
        go_wp2
        go_roundg (gk - 1)
        case measure => omega
        case rel =>
          have e : idxs (fun j => decide (x ∈ succs g j)) (k + 1) = idxs (fun j => decide (x ∈ succs g j)) k := by rw [hst.out, if_neg]; simp only [HSK.out]; intro h; have h2 := HR2.out.2 (of_decide_eq_true h); cases h2
          exact ⟨k + 1, by omega, by go_num, by omega, hbel1, by rw [e]; exact hown1⟩
    · go_wp2
      go_ret
      obtain rfl : k = g.length := by omega
      obtain ⟨A', cap', e, h, _⟩ := hown.form
      refine ⟨A', cap', by show Ending.returned u5 = _; rw [e]; rfl, h, fun h0 a ha => .inr ?_, hbel⟩
      subst ha
      exact (hown.block_ge a.block (by rw [e]; rfl)).1
end Go.Proofs.YtogeihdfmnohnaaGreatDoor.Wg
namespace Go.Proofs.YtogeihdfmnohnaaGreatDoor.Wg
open Go.RowKit
def OkNext (n : Nat) (l : List Int) (m : Nat) : Prop := ∀ j (h : j < l.length), j < m → 0 ≤ l[j] ∧ l[j] < n ∧ (0 < j → l[j - 1] < l[j])
def OkNd (n : Nat) (nd : Nd) : Prop := 0 ≤ nd.k ∧ nd.k ≤ nd.next.length ∧ (nd.k = 0 → nd.next.length = 0) ∧ OkNext n nd.next nd.next.length
def ValidG (g : Gr) : Prop := g.length ≤ 160 ∧ ∀ i (h : i < g.length), OkNd g.length g[i]
def LastOk (l : List Int) (j : Nat) (lst : Int) : Prop := (j = 0 ∧ lst = -1) ∨ ∃ h : j - 1 < l.length, 0 < j ∧ lst = l[j - 1]
theorem okNext_step {n : Nat} {l : List Int} {j : Nat} {lst : Int} (hj : j < l.length) (h : OkNext n l j ∧ LastOk l j lst) (h1 : lst < l[j]) (h2 : l[j] < n) : OkNext n l (j + 1) := by
  intro i hi hij
  by_cases e : i = j
  · subst e
    rcases h.2 with ⟨e0, e1⟩ | ⟨hl, h0, e1⟩
    · exact ⟨by omega, h2, fun h => by omega⟩
    · have := h.1 (i - 1) hl (by omega)
      exact ⟨by omega, h2, fun _ => by omega⟩
  · exact h.1 i hi (by omega)
theorem okNext_no {n : Nat} {l : List Int} {j : Nat} {lst : Int} (hj : j < l.length) (h : OkNext n l j ∧ LastOk l j lst) (h1 : OkNext n l l.length) : lst < l[j] ∧ l[j] < n := by
  obtain ⟨a, b, c⟩ := h1 j hj hj
  rcases h.2 with ⟨e0, e1⟩ | ⟨hl, h0, e1⟩
  · exact ⟨by omega, b⟩
  · exact ⟨by rw [e1]; exact c h0, b⟩
set_option maxHeartbeats 400000 in
theorem Valid_any (A : Option Addr) (cap : Nat) (g : Gr) (w : World) (hf : FitsG g) (hr : GraphAt w w.heap.size A g) :
    Calls Tryz.prog 11 #[.slice A g.length cap] w (RetB w (ValidG g)) := by
  have HF := Lib.hid hf
  have hlen : g.length ≤ 40 := hf.1
  have hl2 : decide (160 < (g.length : Int)) = false := by simp; omega
  clear hf
  go_enter Tryz.func11, Tryz.ntmps11
  go_wp2
  clear hl2
  go_loopw [13] (fun i wr => ∃ k : Nat, k ≤ g.length ∧ i = .int .i64 k ∧ Hid (∀ j (h : j < g.length), j < k → OkNd g.length g[j]) ∧ Below w.heap.size w wr) (fun i _ => g.length - (intOf i).toNat)
  case atStart => exact ⟨0, Nat.zero_le _, rfl, fun j _ h => absurd h (by omega), (by repeat first | exact Below.refl _ _ | assumption | refine below_drewN ?_ _ | refine Below.drew ?_)⟩
  case round =>
    obtain ⟨k, hk, rfl, hno, hbel⟩ := hrel
    obtain ⟨wo, rfl⟩ : ∃ wo : World, wo = wr := ⟨_, rfl⟩
    by_cases hlt : k < g.length
    · obtain ⟨b, off, nA, ncap, rfl, hb, hc1, hc2, hN⟩ := (hr.below hbel (Nat.le_refl _) hbel.size) k hlt
      obtain ⟨h1, h2, h3⟩ := HF.out.2 k hlt
      have H3 := Lib.hid h3
      clear h3
      have HN := Lib.hid hN
      clear hN
      by_cases hgood : 0 ≤ g[k].k ∧ g[k].k ≤ g[k].next.length ∧ (g[k].k = 0 → g[k].next.length = 0)
      · obtain ⟨hg1, hg2, hg3⟩ := hgood
        have HG3 := Lib.hid hg3
        clear hg3
        have hsp : (g[k].next.length ≤ 0 ∧ g[k].k ≤ 0) ∨ 1 ≤ g[k].k := by
          rcases Int.lt_or_le 0 g[k].k with h | h
          · exact .inr h
          · exact .inl ⟨by rw [HG3.out (by omega)]; omega, h⟩
        rcases hsp with ⟨hz1, hz2⟩ | hz1
        all_goals
          go_wp2
          go_loop [5, 42] (fun la c => ∃ j : Nat, ∃ lst : Int, j ≤ g[k].next.length ∧ c = .int .i64 j ∧ la = .int .i64 lst ∧ Hid (OkNext g.length g[k].next j ∧ LastOk g[k].next j lst)) (fun _ c => g[k].next.length - (intOf c).toNat)
          case atStart => exact ⟨0, -1, Nat.zero_le _, rfl, rfl, fun j _ h => absurd h (by omega), .inl ⟨rfl, rfl⟩⟩
          case round =>
            obtain ⟨j, lst, hj, rfl, rfl, hinv⟩ := hrel
            by_cases hlt2 : j < g[k].next.length
            · obtain ⟨b2, off2, rfl, hb2, hc3⟩ := HN.out j hlt2
              have hbt : b2 < wo.heap.size := hb2
              by_cases hok : lst < g[k].next[j] ∧ g[k].next[j] < g.length
              · obtain ⟨ho1, ho2⟩ := hok
                go_wp2
                all_goals
                  go_round
                  case rel => exact ⟨j + 1, g[k].next[j], by omega, by go_num, rfl, okNext_step hlt2 hinv.out ho1 ho2, .inr ⟨hlt2, by omega, rfl⟩⟩
                  case measure => simp [intOf]; omega
              · have hbad := Lib.hid hok
                have hsp : g[k].next[j] ≤ lst ∨ (lst < g[k].next[j] ∧ (g.length : Int) ≤ g[k].next[j]) := by omega
                clear hok
                rcases hsp with ho | ⟨ho1, ho2⟩
                all_goals
                  go_wp2
                  all_goals
                    go_ret
                    exact .false_ rfl (fun hv => hbad.out (okNext_no hlt2 hinv.out ((hv.2 k hlt).2.2.2))) (hbel.alloc hbel.size _)
            · go_wp2
              go_roundw
              case rel => exact ⟨k+1, by omega, by go_num, fun i h hi => by
                by_cases e : i = k
                · subst e; exact ⟨hg1, hg2, HG3.out, fun j' h' _ => hinv.out.1 j' h' (by omega)⟩
                · exact hno.out i h (by omega), hbel.alloc hbel.size _⟩
              case measure => simp [intOf]; omega
      · have hbad := Lib.hid hgood
        have hsp : g[k].k < 0 ∨ (0 ≤ g[k].k ∧ g[k].next.length < g[k].k) ∨ (0 ≤ g[k].k ∧ g[k].k ≤ 0 ∧ 0 < g[k].next.length) := by
          by_cases h1 : g[k].k < 0
          · exact .inl h1
          · by_cases h2 : g[k].next.length < g[k].k
            · exact .inr (.inl ⟨by omega, h2⟩)
            · refine .inr (.inr ⟨by omega, ?_⟩)
              by_cases h3 : g[k].k = 0 ∧ 0 < g[k].next.length
              · omega
              · exact absurd ⟨by omega, by omega, fun h => by omega⟩ hgood
        clear hgood
        rcases hsp with hz1 | ⟨hz1, hz2⟩ | ⟨hz1, hz2, hz3⟩
        all_goals
          go_wp2
          go_ret
          exact .false_ rfl (fun hv => hbad.out ⟨(hv.2 k hlt).1, (hv.2 k hlt).2.1, (hv.2 k hlt).2.2.1⟩) (hbel.alloc hbel.size _)
    · go_wp2
      go_ret
      exact .true_ rfl ⟨by omega, fun i h => hno.out i h (by omega)⟩ (by repeat first | exact Below.refl _ _ | assumption | refine below_drewN ?_ _ | refine Below.drew ?_)
end Go.Proofs.YtogeihdfmnohnaaGreatDoor.Wg
