/- Part 6 of 49 of the proof of waitgraphOf_holds (no condition). -/
import Derived.Test.YtogeihdfmnohnaaGreatDoorK05
import Derived.Scope
set_option linter.unusedVariables false
set_option linter.unusedSimpArgs false
namespace Go.Proofs.YtogeihdfmnohnaaGreatDoor
open Go.RowKit
def clash (a : Am) (l : List Am) : Bool := l.any fun b => !zeroB a && !zeroB b && !comM a.mode b.mode
def compGo (r : Rs) : Int → List Am → List Am → Bool
  | _, _, [] => true
  | s, pre, a :: l => permB r a && (if r.kind = 2 then decide (s + a.units ≤ r.units) && compGo r (s + a.units) (pre ++ [a]) l else !clash a pre && compGo r s (pre ++ [a]) l)
theorem compGo_cons (r : Rs) (s : Int) (pre : List Am) (a : Am) (l : List Am) : compGo r s pre (a :: l) = (permB r a && (if r.kind = 2 then decide (s + a.units ≤ r.units) && compGo r (s + a.units) (pre ++ [a]) l else !clash a pre && compGo r s (pre ++ [a]) l)) := rfl
def compB (r : Rs) (l : List Am) : Bool := shapedB r && compGo r 0 [] l
theorem shaped_kinds {r : Rs} (h : shapedB r = true) : r.kind = 1 ∧ r.units = 1 ∨ r.kind = 2 ∧ 1 ≤ r.units ∧ r.units ≤ 8 := by
  unfold shapedB at h
  simp at h
  omega
theorem perm_one {r : Rs} {a : Am} (hp : permB r a = true) (hk : r.kind = 1) : a.units = 0 ∧ (a.mode = 0 ∨ modeB a.mode = true) := by
  unfold permB zeroB fitsB at hp
  simp only [hk, if_true, Bool.and_eq_true, Bool.or_eq_true, decide_eq_true_eq] at hp
  rcases hp.2 with h | h
  · rw [h]; exact ⟨rfl, Or.inl rfl⟩
  · exact ⟨h.2.2, Or.inr h.2.1⟩
theorem perm_two {r : Rs} {a : Am} (hp : permB r a = true) (hk : r.kind ≠ 1) : a.mode = 0 ∧ 0 ≤ a.units ∧ a.units ≤ 8 := by
  have hs : shapedB r = true := by unfold permB at hp; simp at hp; exact hp.1
  have := shaped_kinds hs
  unfold permB zeroB fitsB at hp
  simp only [hk, if_false, Bool.and_eq_true, Bool.or_eq_true, decide_eq_true_eq] at hp
  rcases hp.2 with h | h
  · rw [h]; simp
  · omega
theorem comM_comm (a b : Int) : comM a b = comM b a := by
  unfold comM
  rw [Bool.eq_iff_iff]
  simp only [Bool.and_eq_true, Bool.or_eq_true, Bool.not_eq_true', decide_eq_true_eq, decide_eq_false_iff_not]
  constructor <;> (rintro ⟨⟨⟨⟨h1, h2⟩, h3⟩, h4⟩, h5⟩; refine ⟨⟨⟨⟨h2, h1⟩, h4⟩, h3⟩, ?_⟩; omega)
def seenB (pre : List Am) (m : Int) : Bool := decide (m ≠ 0) && pre.any fun b => decide (b.mode = m)
def clashS (pre : List Am) (a : Int) : Bool := (List.range 6).any fun m => seenB pre m && !comM m a
theorem seen_snoc (pre : List Am) (a : Am) (m : Int) : seenB (pre ++ [a]) m = (seenB pre m || decide (m ≠ 0) && decide (a.mode = m)) := by
  unfold seenB
  rw [List.any_append]
  cases decide (m ≠ 0) <;> simp
theorem clash_eq {r : Rs} {a : Am} {pre : List Am} (hk : r.kind = 1) (ha : permB r a = true) (hm : a.mode ≠ 0) (hp : ∀ b ∈ pre, permB r b = true) : clash a pre = clashS pre a.mode := by
  have hz : zeroB a = false := by unfold zeroB; exact decide_eq_false fun e => hm (by rw [e])
  rw [Bool.eq_iff_iff]
  unfold clash clashS
  simp only [List.any_eq_true, hz, Bool.not_false, Bool.true_and, Bool.and_eq_true, Bool.not_eq_true', List.mem_range]
  constructor
  · rintro ⟨b, hb, h1, h2⟩
    obtain ⟨h3, h4⟩ := perm_one (hp b hb) hk
    have h5 : b.mode ≠ 0 := fun e => by
      obtain ⟨bm, bu⟩ := b
      simp only at e h3
      subst e
      subst h3
      simp [zeroB] at h1
    have h6 := mode_five (h4.resolve_left h5)
    refine ⟨b.mode.toNat, by omega, ?_, ?_⟩
    · rw [show ((b.mode.toNat : Nat) : Int) = b.mode by omega]
      unfold seenB
      simp only [Bool.and_eq_true, decide_eq_true_eq, List.any_eq_true]
      exact ⟨h5, b, hb, rfl⟩
    · rw [show ((b.mode.toNat : Nat) : Int) = b.mode by omega, comM_comm]
      exact h2
  · rintro ⟨m, hm6, h1, h2⟩
    unfold seenB at h1
    simp only [Bool.and_eq_true, decide_eq_true_eq, List.any_eq_true] at h1
    obtain ⟨h3, b, hb, h4⟩ := h1
    refine ⟨b, hb, ?_, by rw [h4, comM_comm]; exact h2⟩
    unfold zeroB
    exact decide_eq_false fun e => h3 (by rw [← h4, e])
theorem clash_zero {r : Rs} {a : Am} {pre : List Am} (hk : r.kind = 1) (ha : permB r a = true) (hm : a.mode = 0) : clash a pre = false := by
  have h := (perm_one ha hk).1
  have hz : zeroB a = true := by
    obtain ⟨m, u⟩ := a
    simp only at hm h
    subst hm
    subst h
    rfl
  unfold clash
  simp [hz]
theorem comp_step {r : Rs} {s : Int} {pre : List Am} {a : Am} {l : List Am} (hs : shapedB r = true) (hp : ∀ b ∈ pre, permB r b = true) (h0 : 0 ≤ s ∧ s ≤ r.units) (h1 : r.kind = 1 → s = 0) :
    compGo r s pre (a :: l) = (permB r a && decide (s + a.units ≤ r.units) && (decide (a.mode = 0) || !clashS pre a.mode) && compGo r (s + a.units) (pre ++ [a]) l) := by
  have hk := shaped_kinds hs
  rw [compGo_cons]
  cases ha : permB r a with
  | false => rfl
  | true =>
    rcases hk with ⟨k1, k2⟩ | ⟨k1, k2, k3⟩
    · have hu := (perm_one ha k1).1
      rw [hu, h1 k1, k2, if_neg (by omega)]
      by_cases hm : a.mode = 0
      · rw [clash_zero k1 ha hm]
        simp [hm]
      · rw [clash_eq k1 ha hm hp]
        simp [hm]
    · have hm := perm_two ha (by omega)
      rw [if_pos k1]
      simp [hm.1]
end Go.Proofs.YtogeihdfmnohnaaGreatDoor
namespace Go.Proofs.YtogeihdfmnohnaaGreatDoor
open Go.RowKit
def sv (pre : List Am) : Array Value := #[.bool (seenB pre 0), .bool (seenB pre 1), .bool (seenB pre 2), .bool (seenB pre 3), .bool (seenB pre 4), .bool (seenB pre 5)]
theorem sv_zero {pre : List Am} {a : Am} (h : a.mode = 0) : sv (pre ++ [a]) = sv pre := by
  unfold sv
  simp [seen_snoc, h]
theorem sv_set {pre : List Am} {a : Am} {m : Nat} (h : a.mode = (m : Int)) (h0 : 1 ≤ m) (h5 : m ≤ 5) : sv (pre ++ [a]) = (sv pre).setIfInBounds m (.bool true) := by
  have : m = 1 ∨ m = 2 ∨ m = 3 ∨ m = 4 ∨ m = 5 := by omega
  unfold sv
  rcases this with rfl | rfl | rfl | rfl | rfl <;> simp [seen_snoc, h]
theorem sv_index (pre : List Am) {j : Nat} (hj : j < 6) (w : World) : (Instr.index 128 (.agg (sv pre)) (.int .i64 (j : Int))).run Tryz.prog w = .ok (.bool (seenB pre j)) w := by
  have : j = 0 ∨ j = 1 ∨ j = 2 ∨ j = 3 ∨ j = 4 ∨ j = 5 := by omega
  clear hj
  rcases this with rfl | rfl | rfl | rfl | rfl | rfl <;> (show _ = _) <;> kernel_rfl
set_option maxRecDepth 100000 in
set_option maxHeartbeats 6400000 in
theorem Compatible_any (r : Rs) (A : Option Addr) (B cap : Nat) (l : List Am) (w : World) (hT : Tog w) (hm : l.length ≤ maxLen) (hB : B ≤ w.heap.size) (hr : RowsAt amE w (Lo B) A l) :
    Calls Tryz.prog 55 #[r.val, .slice A l.length cap] w (Ret w (.bool (compB r l))) := by
  unfold maxLen at hm
  have HR := Lib.hid hr
  have HT := Lib.hid hT
  clear hr hT
  have HS := Lib.hid (fun W => Shaped_any r W)
  have HP := Lib.hid (fun m u W => permitted_any r m u W)
  obtain ⟨q, hq⟩ : ∃ q, compB r l = q := ⟨_, rfl⟩
  rw [hq]
  have HQ0 := Lib.hid hq
  clear hq
  cases hs : shapedB r with
  | false =>
    have HQ : Hid (q = false) := Lib.hid (by rw [← HQ0.out]; unfold compB; rw [hs]; rfl)
    rw [hs] at HS
    clear hs
    obtain ⟨nm, kd, un, h⟩ := r
    unfold Rs.val at *
    go_enter Tryz.func55, Tryz.ntmps55
    go_wp2_with fail
    refine wp_scope_straight ?_
    go_wp2_with fail
    repeat' (first
      | (go_at_call 92; refine (HS.out _).mono ?_; rintro e wa1 ⟨rfl, hb_wa1⟩; obtain ⟨hc_wa1, hf_wa1⟩ := bcell hb_wa1; have hs_wa1 := hb_wa1.size; (try simp at hs_wa1); have hz_wa1_w_0 : w.heap.size < wa1.heap.size := (by omega); clear hs_wa1; have HB_wa1 := Lib.hid hb_wa1; clear hb_wa1; go_wp2_with fail)
      | ((try rw [Exit.noGoto_ret]); go_ret; exact ⟨ret_bool HQ.out.symm, by (repeat (first | (with_reducible exact Below.refl _ _) | (with_reducible assumption) | (with_reducible refine below_drewN ?_ _) | (with_reducible refine Below.drew ?_) | (with_reducible refine Below.al ?_ _) | (with_reducible refine Below.st ?_ (by simp; try omega)) | (with_reducible refine Below.tr ?_ (Hid.out (by assumption))) | (with_reducible exact Hid.out (by assumption))))⟩))
  | true =>
    have HQ : Hid (compGo r 0 [] l = q) := Lib.hid (by have h := HQ0.out; unfold compB at h; rw [hs] at h; exact h)
    rw [hs] at HS
    have HSH := Lib.hid hs
    have hu : 0 ≤ r.units := by have := shaped_kinds hs; omega
    have hu8 : r.units ≤ 8 := by have := shaped_kinds hs; omega
    clear hs HQ0
    obtain ⟨nm, kd, un, h⟩ := r
    unfold Rs.val at *
    dsimp only at hu hu8
    go_enter Tryz.func55, Tryz.ntmps55
    go_wp2_with fail
    refine wp_scope_straight ?_
    go_wp2_with fail
    refine (HS.out _).mono ?_
    rintro e w1 ⟨rfl, hb1⟩
    have HB1 := Lib.hid hb1
    have HBW1 : Hid (Below w.heap.size w w1) := Lib.hid (by (repeat (first | (with_reducible exact Below.refl _ _) | (with_reducible assumption) | (with_reducible refine below_drewN ?_ _) | (with_reducible refine Below.drew ?_) | (with_reducible refine Below.al ?_ _) | (with_reducible refine Below.st ?_ (by simp; try omega)) | (with_reducible refine Below.tr ?_ (Hid.out (by assumption))) | (with_reducible exact Hid.out (by assumption)))))
    have HK1 : Hid (Blk w1 w.heap.size 44 #[.string nm, .int .i64 kd, .int .i64 un, .int .i64 h]) := Lib.hid ((Blk.new w 44 #[.string nm, .int .i64 kd, .int .i64 un, .int .i64 h]).below hb1 (by simp))
    clear hb1
    go_wp2_with fail
    refine wp_label ?_
    go_wp2_with fail
    go_loopg [5, 7, 17] l.length (fun m v5 v7 v17 wq => ∃ (k : Nat) (s : Int), v5 = .bool true ∧ v7 = .int .i64 s ∧ v17 = .int .i64 (k : Int) ∧ k ≤ l.length ∧ l.length ≤ k + m ∧ 0 ≤ s ∧ s ≤ un ∧ Hid (kd = 1 → s = 0) ∧ Hid (compGo ⟨nm, kd, un, h⟩ s (l.take k) (l.drop k) = q) ∧ Hid (∀ b ∈ l.take k, permB ⟨nm, kd, un, h⟩ b = true) ∧ Hid (Below w.heap.size w wq) ∧ Hid (Blk wq w.heap.size 44 #[.string nm, .int .i64 kd, .int .i64 un, .int .i64 h]) ∧ Hid (Blk wq w1.heap.size 128 (sv (l.take k))))
    case atStart => exact ⟨0, 0, rfl, rfl, rfl, Nat.zero_le _, by omega, by omega, hu, Lib.hid (fun _ => rfl), HQ, Lib.hid (by simp), Lib.hid (by (repeat (first | (with_reducible exact Below.refl _ _) | (with_reducible assumption) | (with_reducible refine below_drewN ?_ _) | (with_reducible refine Below.drew ?_) | (with_reducible refine Below.al ?_ _) | (with_reducible refine Below.st ?_ (by simp; try omega)) | (with_reducible refine Below.tr ?_ (Hid.out (by assumption))) | (with_reducible exact Hid.out (by assumption))))), Lib.hid (HK1.out.alloc _), Lib.hid (Blk.new _ _ _)⟩
    case round =>
      obtain ⟨k, s, rfl, rfl, rfl, hk, hkm, hs0, hsu, HS0, HI, HPE, HB, HK, HV⟩ := hrel
      have hsz : w.heap.size ≤ w1.heap.size := HBW1.out.size
      have hne : w.heap.size < w1.heap.size := HK1.out.lt
      by_cases hlt : k < l.length
      · obtain ⟨⟨m, u⟩, hx⟩ : ∃ x, l[k] = x := ⟨_, rfl⟩
        obtain ⟨g, off, rfl, hbl, c0, c1⟩ := am_cells (HR.out.below (B'' := w.heap.size) HB.out hB hB) hlt hx
        have hbl2 : g < wr.heap.size := Nat.lt_of_lt_of_le hbl HB.out.size
        have hlti : (k : Int) < (l.length : Int) := by omega
        have HTK : Hid (l.take (k + 1) = l.take k ++ [⟨m, u⟩]) := Lib.hid (by rw [List.take_add_one, List.getElem?_eq_getElem hlt, hx]; rfl)
        have HST : Hid ((permB ⟨nm, kd, un, h⟩ ⟨m, u⟩ && decide (s + u ≤ un) && (decide (m = 0) || !clashS (l.take k) m) && compGo ⟨nm, kd, un, h⟩ (s + u) (l.take (k + 1)) (l.drop (k + 1))) = q) := Lib.hid (by
          have h1 := HI.out
          rw [drop_step hlt hx, comp_step HSH.out HPE.out ⟨hs0, hsu⟩ HS0.out] at h1
          rw [HTK.out]
          exact h1)
        have k0 := HK.out.cellx 2 (v := .int .i64 un) rfl
        have j0 := HK.out.cellx 0 (v := .string nm) rfl
        have j1 := HK.out.cellx 1 (v := .int .i64 kd) rfl
        have j3 := HK.out.cellx 3 (v := .int .i64 h) rfl
        have hlw : w.heap.size < wr.heap.size := HK.out.lt
        clear hx hbl
        cases hp : permB ⟨nm, kd, un, h⟩ ⟨m, u⟩ with
        | false =>
          have HQF : Hid (q = false) := Lib.hid (by rw [← HST.out, hp]; rfl)
          have HPF : Hid (∀ W, Calls Tryz.prog 93 #[.agg #[.string nm, .int .i64 kd, .int .i64 un, .int .i64 h], .agg #[.int .i64 m, .int .i64 u]] W (Ret W (.bool false))) := Lib.hid (fun W => hp ▸ HP.out m u W)
          clear hp
          go_wp2_with fail
          refine (HPF.out _).mono ?_
          rintro e w2 ⟨rfl, hb2⟩
          have HB2 := Lib.hid hb2
          clear hb2
          go_wp2_with fail
          (try rw [Exit.noGoto_ret])
          go_ret
          exact ⟨ret_bool HQF.out.symm, by (repeat (first | (with_reducible exact Below.refl _ _) | (with_reducible assumption) | (with_reducible refine below_drewN ?_ _) | (with_reducible refine Below.drew ?_) | (with_reducible refine Below.al ?_ _) | (with_reducible refine Below.st ?_ (by simp; try omega)) | (with_reducible refine Below.tr ?_ (Hid.out (by assumption))) | (with_reducible exact Hid.out (by assumption))))⟩
        | true =>
          have HPT : Hid (∀ W, Calls Tryz.prog 93 #[.agg #[.string nm, .int .i64 kd, .int .i64 un, .int .i64 h], .agg #[.int .i64 m, .int .i64 u]] W (Ret W (.bool true))) := Lib.hid (fun W => hp ▸ HP.out m u W)
          have HP1 : Hid (permB ⟨nm, kd, un, h⟩ ⟨m, u⟩ = true) := Lib.hid hp
          have hub : 0 ≤ u ∧ u ≤ 8 := by
            by_cases hk1 : kd = 1
            · have := (perm_one hp hk1).1; dsimp only at this; omega
            · have := perm_two hp hk1; dsimp only at this; omega
          have hwr : IntKind.i64.wrap (s + u) = s + u := IntWalk.i64_in _ (by omega)
          have HPE2 : Hid (∀ b ∈ l.take (k + 1), permB ⟨nm, kd, un, h⟩ b = true) := Lib.hid (by
            rw [HTK.out]
            intro b hb
            rcases List.mem_append.1 hb with hb | hb
            · exact HPE.out b hb
            · simp only [List.mem_singleton] at hb
              subst hb
              exact hp)
          have HS2 : Hid (kd = 1 → s + u = 0) := Lib.hid (fun hk1 => by have h1 := (perm_one hp hk1).1; have h2 := HS0.out hk1; dsimp only at h1; omega)
          clear hp
          by_cases hfit : s + u ≤ un
          · have hfi : ¬ (un < s + u) := by omega
            by_cases hm0 : m = 0
            · subst hm0
              have HN : Hid (compGo ⟨nm, kd, un, h⟩ (s + u) (l.take (k + 1)) (l.drop (k + 1)) = q) := Lib.hid (by have h1 := HST.out; rw [HP1.out, decide_eq_true hfit] at h1; simpa using h1)
              have HSV : Hid (sv (l.take (k + 1)) = sv (l.take k)) := Lib.hid (by rw [HTK.out]; exact sv_zero rfl)
              go_wp2_with fail
              refine (HPT.out _).mono ?_
              rintro e w2 ⟨rfl, hb2⟩
              obtain ⟨hc_w2, hf_w2⟩ := bcell hb2
              have hs_w2 := hb2.size
              (try simp at hs_w2)
              have hz_w2_0 : wr.heap.size < w2.heap.size := (by omega)
              clear hs_w2
              have hz : w.heap.size < w2.heap.size := by omega
              have HB2 := Lib.hid hb2
              have HK2 : Hid (Blk w2 w.heap.size 44 #[.string nm, .int .i64 kd, .int .i64 un, .int .i64 h]) := Lib.hid ((HK.out.alloc _).below hb2 (by simp; omega))
              have HV2 : Hid (Blk w2 w1.heap.size 128 (sv (l.take k))) := Lib.hid ((HV.out.alloc _).below hb2 (by have := HV.out.lt; simp; omega))
              clear hb2
              go_wp2_with fail
              go_roundg (gk - 1)
              case measure => omega
              case rel => exact ⟨k + 1, s + u, rfl, by go_num, by go_num, by omega, by omega, by omega, by omega, HS2, HN, HPE2, Lib.hid (by (repeat (first | (with_reducible exact Below.refl _ _) | (with_reducible assumption) | (with_reducible refine below_drewN ?_ _) | (with_reducible refine Below.drew ?_) | (with_reducible refine Below.al ?_ _) | (with_reducible refine Below.st ?_ (by simp; try omega)) | (with_reducible refine Below.tr ?_ (Hid.out (by assumption))) | (with_reducible exact Hid.out (by assumption))))), HK2, Lib.hid (by rw [HSV.out]; exact HV2.out)⟩
            · have hk1 : kd = 1 := Classical.byContradiction fun hk1 => hm0 (perm_two HP1.out hk1).1
              have hmb : modeB m = true := (perm_one HP1.out hk1).2.resolve_left hm0
              obtain ⟨n, hn1, hn5, rfl⟩ : ∃ n : Nat, 1 ≤ n ∧ n ≤ 5 ∧ m = (n : Int) := ⟨m.toNat, by have := mode_five hmb; omega, by have := mode_five hmb; omega, by have := mode_five hmb; omega⟩
              have HC : Hid ((!clashS (l.take k) n && compGo ⟨nm, kd, un, h⟩ (s + u) (l.take (k + 1)) (l.drop (k + 1))) = q) := Lib.hid (by have h1 := HST.out; rw [HP1.out, decide_eq_true hfit, decide_eq_false hm0] at h1; simpa using h1)
              have hm0b : ((n : Int) == 0) = false := beq_eq_false_iff_ne.2 hm0
              have HSV : Hid (sv (l.take (k + 1)) = (sv (l.take k)).setIfInBounds n (.bool true)) := Lib.hid (by rw [HTK.out]; exact sv_set rfl hn1 hn5)
              clear hm0 hk1 hmb
              go_wp2_with fail
              refine (HPT.out _).mono ?_
              rintro e w2 ⟨rfl, hb2⟩
              obtain ⟨hc_w2, hf_w2⟩ := bcell hb2
              have hs_w2 := hb2.size
              (try simp at hs_w2)
              have hz_w2_0 : wr.heap.size < w2.heap.size := (by omega)
              clear hs_w2
              have hz : w.heap.size < w2.heap.size := by omega
              have HB2 := Lib.hid hb2
              have HK2 : Hid (Blk w2 w.heap.size 44 #[.string nm, .int .i64 kd, .int .i64 un, .int .i64 h]) := Lib.hid ((HK.out.alloc _).below hb2 (by simp; omega))
              have HV2 : Hid (Blk w2 w1.heap.size 128 (sv (l.take k))) := Lib.hid ((HV.out.alloc _).below hb2 (by have := HV.out.lt; simp; omega))
              have HT2 := Lib.hid (HT.out.below (show Below w.heap.size w w2 by (repeat (first | (with_reducible exact Below.refl _ _) | (with_reducible assumption) | (with_reducible refine below_drewN ?_ _) | (with_reducible refine Below.drew ?_) | (with_reducible refine Below.al ?_ _) | (with_reducible refine Below.st ?_ (by simp; try omega)) | (with_reducible refine Below.tr ?_ (Hid.out (by assumption))) | (with_reducible exact Hid.out (by assumption))))))
              have HBW2 : Hid (Below w.heap.size w w2) := Lib.hid (by (repeat (first | (with_reducible exact Below.refl _ _) | (with_reducible assumption) | (with_reducible refine below_drewN ?_ _) | (with_reducible refine Below.drew ?_) | (with_reducible refine Below.al ?_ _) | (with_reducible refine Below.st ?_ (by simp; try omega)) | (with_reducible refine Below.tr ?_ (Hid.out (by assumption))) | (with_reducible exact Hid.out (by assumption)))))
              have hv0 := HV2.out.cellx 0 (v := .bool (seenB (l.take k) 0)) rfl
              have hv1 := HV2.out.cellx 1 (v := .bool (seenB (l.take k) 1)) rfl
              have hv2 := HV2.out.cellx 2 (v := .bool (seenB (l.take k) 2)) rfl
              have hv3 := HV2.out.cellx 3 (v := .bool (seenB (l.take k) 3)) rfl
              have hv4 := HV2.out.cellx 4 (v := .bool (seenB (l.take k) 4)) rfl
              have hv5 := HV2.out.cellx 5 (v := .bool (seenB (l.take k) 5)) rfl
              have hlv := HV2.out.lt
              have hfz := HV2.out.frozen n
              obtain ⟨un', hcn⟩ : ∃ u, w2.cell? ⟨w1.heap.size, n, none⟩ = some u := ⟨_, (HV2.out.cell n).trans (Array.getElem?_eq_getElem (show n < (sv (l.take k)).size by simp [sv]; omega))⟩
              have HM := Lib.hid (fun a => modeCompatible_any a n w2 HT2.out)
              obtain ⟨G, hG⟩ : ∃ G, G = gk := ⟨_, rfl⟩
              subst hG
              obtain ⟨wo, hwo⟩ : ∃ x, x = wr := ⟨_, rfl⟩
              subst hwo
              clear hb2
              go_wp2_with fail
              go_loopg [5, 42] 6 (fun m v5 v42 wq => ∃ j : Nat, v5 = .bool true ∧ v42 = .int .i64 (j : Int) ∧ j ≤ 6 ∧ 6 ≤ j + m ∧ wq = w2 ∧ Hid (∀ i : Nat, i < j → (seenB (l.take k) i && !comM i n) = false))
              case atStart => exact ⟨0, rfl, rfl, by omega, by omega, rfl, Lib.hid (fun _ h => absurd h (by omega))⟩
              case round =>
                obtain ⟨j, rfl, rfl, hj6, hjm, rfl, HJ⟩ := hrel
                by_cases hj : j < 6
                · have ki := fun W => sv_index (l.take k) hj W
                  unfold sv at ki
                  have hji : (j : Int) < 6 := by omega
                  have HMJ := Lib.hid (HM.out j)
                  obtain ⟨p1, hp1⟩ : ∃ p, seenB (l.take k) j = p := ⟨_, rfl⟩
                  obtain ⟨p2, hp2⟩ : ∃ p, comM j n = p := ⟨_, rfl⟩
                  rw [hp1] at ki
                  rw [hp2] at HMJ
                  have HP12 := Lib.hid (And.intro hp1 hp2)
                  clear hp1 hp2 hv0 hv1 hv2 hv3 hv4 hv5 hcn
                  cases p1 with
                  | false =>
                    go_wp2_with fail
                    go_roundg (gk - 1)
                    case measure => omega
                    case rel => exact ⟨j + 1, rfl, by go_num, by omega, by omega, rfl, Lib.hid (fun i hi => by
                      rcases Nat.lt_or_ge i j with h1 | h1
                      · exact HJ.out i h1
                      · obtain rfl : i = j := by omega
                        rw [HP12.out.1]; rfl)⟩
                  | true =>
                    cases p2 with
                    | true =>
                      go_wp2_with fail
                      refine HMJ.out.mono ?_
                      rintro e w3 ⟨rfl, hw3⟩
                      obtain rfl := hw3.symm
                      clear hw3
                      go_wp2_with fail
                      go_roundg (gk - 1)
                      case measure => omega
                      case rel => exact ⟨j + 1, rfl, by go_num, by omega, by omega, rfl, Lib.hid (fun i hi => by
                        rcases Nat.lt_or_ge i j with h1 | h1
                        · exact HJ.out i h1
                        · obtain rfl : i = j := by omega
                          rw [HP12.out.2]; simp)⟩
                    | false =>
                      have HQF : Hid (q = false) := Lib.hid (by
                        have h1 : clashS (l.take k) n = true := by
                          unfold clashS
                          rw [List.any_eq_true]
                          exact ⟨j, by simpa using hj, by rw [HP12.out.1, HP12.out.2]; rfl⟩
                        rw [← HC.out, h1]; rfl)
                      go_wp2_with fail
                      refine HMJ.out.mono ?_
                      rintro e w3 ⟨rfl, hw3⟩
                      obtain rfl := hw3.symm
                      clear hw3
                      go_wp2_with fail
                      (try rw [Exit.noGoto_ret])
                      go_ret
                      exact ⟨ret_bool HQF.out.symm, HBW2.out⟩
                · have hji : ¬ (j : Int) < 6 := by omega
                  have HN : Hid (compGo ⟨nm, kd, un, h⟩ (s + u) (l.take (k + 1)) (l.drop (k + 1)) = q) := Lib.hid (by
                    have h1 : clashS (l.take k) n = false := by
                      unfold clashS
                      rw [List.any_eq_false]
                      intro i hi
                      rw [HJ.out i (by have := List.mem_range.1 hi; omega)]
                      simp
                    rw [← HC.out, h1]; rfl)
                  go_wp2_with fail
                  go_roundg (G - 1)
                  case measure => omega
                  case rel => exact ⟨k + 1, s + u, rfl, by go_num, by go_num, by omega, by omega, by omega, by omega, HS2, HN, HPE2, Lib.hid (Below.st HBW2.out (by simp; omega)), Lib.hid (HK2.out.far (by simp; omega) _), Lib.hid (by rw [HSV.out]; exact HV2.out.set_ n _)⟩
          · have hfi : un < s + u := by omega
            have HQF : Hid (q = false) := Lib.hid (by rw [← HST.out, HP1.out, decide_eq_false hfit]; rfl)
            go_wp2_with fail
            refine (HPT.out _).mono ?_
            rintro e w2 ⟨rfl, hb2⟩
            obtain ⟨hc_w2, hf_w2⟩ := bcell hb2
            have hs_w2 := hb2.size
            (try simp at hs_w2)
            have hz_w2_0 : wr.heap.size < w2.heap.size := (by omega)
            clear hs_w2
            have hz : w.heap.size < w2.heap.size := by omega
            have HB2 := Lib.hid hb2
            clear hb2
            go_wp2_with fail
            (try rw [Exit.noGoto_ret])
            go_ret
            exact ⟨ret_bool HQF.out.symm, by (repeat (first | (with_reducible exact Below.refl _ _) | (with_reducible assumption) | (with_reducible refine below_drewN ?_ _) | (with_reducible refine Below.drew ?_) | (with_reducible refine Below.al ?_ _) | (with_reducible refine Below.st ?_ (by simp; try omega)) | (with_reducible refine Below.tr ?_ (Hid.out (by assumption))) | (with_reducible exact Hid.out (by assumption))))⟩
      · have HQT : Hid (q = true) := Lib.hid (by have h1 := HI.out; rw [drop_end hlt] at h1; exact h1.symm)
        have hlti : ¬ (k : Int) < (l.length : Int) := by omega
        go_wp2_with fail
        (try rw [Exit.noGoto_ret])
        go_ret
        exact ⟨ret_bool HQT.out.symm, by (repeat (first | (with_reducible exact Below.refl _ _) | (with_reducible assumption) | (with_reducible refine below_drewN ?_ _) | (with_reducible refine Below.drew ?_) | (with_reducible refine Below.al ?_ _) | (with_reducible refine Below.st ?_ (by simp; try omega)) | (with_reducible refine Below.tr ?_ (Hid.out (by assumption))) | (with_reducible exact Hid.out (by assumption))))⟩
end Go.Proofs.YtogeihdfmnohnaaGreatDoor
