/- Part 47 of 49 of the proof of waitgraphOf_holds (no condition). -/
import Derived.Test.YtogeihdfmnohnaaGreatDoorK46
import Derived.Test.YtogeihdfmnohnaaGreatDoorK45
import Derived.Deep.RegionHeld3
set_option linter.unusedVariables false
set_option linter.unusedSimpArgs false
namespace Go.Proofs.YtogeihdfmnohnaaGreatDoor.Wg
open Go.RowKit
def RetSignQ (w : World) (P : Prop) (e : Ending) (w' : World) : Prop := ∃ r : Int, e = .returned (.int .i64 r) ∧ (0 ≤ r ↔ P) ∧ ∃ n, w' = w.drewN n
set_option maxHeartbeats 400000 in
theorem IndexFunc_any (f : Nat) (cs : Array Value) (p : Int → Prop) (A : Option Addr) (B cap : Nat) (l : List Int) (w : World) (hm : l.length ≤ 9223372036854775807) (hr : IntsAt w B A l)
    (hcall : ∀ a W, Sem.run Tryz.prog (callFunc f a) W = .ok (.enter f a) W)
    (hF : ∀ n, ∀ y ∈ l, Calls Tryz.prog f (#[.int .i64 y] ++ cs) (w.drewN n) (RetBQ (w.drewN n) (p y))) :
    Calls Tryz.prog 72 #[.slice A l.length cap, .func (.func f) #[] cs] w (RetSignQ w (∃ y ∈ l, p y)) := by
  have HF := Lib.hid hF
  clear hF
  go_enter Tryz.func72, Tryz.ntmps72
  go_wp2_with fail
  go_loopg [8] l.length (fun m i wr => ∃ k : Nat, k ≤ l.length ∧ i = .int .i64 k ∧ Hid (∀ j (h : j < l.length), j < k → ¬ p l[j]) ∧ l.length ≤ k + m ∧ ∃ n, wr = w.drewN n)
  case atStart => exact ⟨0, Nat.zero_le _, rfl, fun j _ h => absurd h (by omega), by omega, 0, rfl⟩
  case round =>
    obtain ⟨k, hk, rfl, hno, hm2, n, rfl⟩ := hrel
    by_cases hlt : k < l.length
    · obtain ⟨b, off, rfl, hb, hc⟩ := hr.get hlt rfl
      go_wp2_with fail
      refine (HF.out n _ (List.getElem_mem hlt)).mono ?_
      rintro e w1 ⟨r, rfl, hr2, n2, rfl⟩
      have HR2 := Lib.hid hr2
      clear hr2
      cases r with
      | true =>
        go_wp2
        go_ret
        exact ⟨k, rfl, ⟨fun _ => ⟨_, List.getElem_mem hlt, HR2.out.1 (by simp)⟩, fun _ => by omega⟩, n + n2, by simp⟩
      | false =>
        go_wp2
        go_roundg (gk - 1)
        case measure => omega
        case rel => exact ⟨k + 1, by omega, by go_num, fun j hj hjk hp => (by
          by_cases e : j = k
          · subst e; have := HR2.out.2 hp; cases this
          · exact hno.out j hj (by omega) hp), by omega, n + n2, by simp⟩
    · go_wp2
      go_ret
      exact ⟨-1, rfl, ⟨fun h => absurd h (by omega), fun ⟨y, hy, hp⟩ => (by obtain ⟨j, hj, rfl⟩ := List.getElem_of_mem hy; exact absurd hp (hno.out j hj (by omega)))⟩, n, rfl⟩
set_option maxHeartbeats 400000 in
theorem ContainsFunc_any (f : Nat) (cs : Array Value) (p : Int → Prop) (A : Option Addr) (B cap : Nat) (l : List Int) (w : World) (hm : l.length ≤ 9223372036854775807) (hr : IntsAt w B A l)
    (hcall : ∀ a W, Sem.run Tryz.prog (callFunc f a) W = .ok (.enter f a) W)
    (hF : ∀ n, ∀ y ∈ l, Calls Tryz.prog f (#[.int .i64 y] ++ cs) (w.drewN n) (RetBQ (w.drewN n) (p y))) :
    Calls Tryz.prog 37 #[.slice A l.length cap, .func (.func f) #[] cs] w (RetBQ w (∃ y ∈ l, p y)) := by
  have HC := Lib.hid (IndexFunc_any f cs p A B cap l w hm hr hcall hF)
  clear hcall hF
  go_enter Tryz.func37, Tryz.ntmps37
  go_wp2_with fail
  refine HC.out.mono ?_
  rintro e w1 ⟨r, rfl, hr2, hb⟩
  have HR := Lib.hid hr2
  have HB := Lib.hid hb
  clear hr2 HC hb
  go_wp2
  go_ret
  exact ⟨decide (0 ≤ r), rfl, by rw [decide_eq_true_iff]; exact HR.out, HB.out⟩
set_option maxHeartbeats 400000 in
theorem KnotsF_q (rb sb s n n' : Nat) (y : Int) (sA nA : Option Addr) (scap ncap : Nat) (l m : List Int) (w : World) (hy1 : 0 ≤ y) (hy2 : y < n) (hl : l.length ≤ 4611686018427387904) (hm : m.length ≤ 4611686018427387904)
    (hrb : w.cell? ⟨rb, 0, none⟩ = some (.slice (some ⟨s, 0, none⟩) n n')) (hsb : w.cell? ⟨sb, 0, none⟩ = some (.slice sA l.length scap)) (hc : w.cell? ⟨s, y.toNat, none⟩ = some (.slice nA m.length ncap))
    (hil : IntsAt w w.heap.size sA l) (him : IntsAt w w.heap.size nA m) :
    Calls Tryz.prog 35 (#[.int .i64 y] ++ #[.pointer (some ⟨rb, 0, none⟩), .pointer (some ⟨sb, 0, none⟩)]) w (RetBQ w (m ≠ l)) := by
  show Calls Tryz.prog 35 #[.int .i64 y, .pointer (some ⟨rb, 0, none⟩), .pointer (some ⟨sb, 0, none⟩)] w (RetBQ w (m ≠ l))
  have HC := Lib.hid (fun k => Equal_q nA sA w.heap.size w.heap.size ncap scap m l (w.drewN k) (by omega) (by omega) him hil)
  clear hil him
  by_cases heq : m = l
  · have HE := Lib.hid heq
    clear heq
    go_enter Tryz.func35, Tryz.ntmps35
    go_wp2
    go_quiet ((go_at_call 36; exact Calls.quiet_of ((HC.out _).mono fun _ _ h => h.yes HE.out)))
    go_wp2
    go_ret
    exact .false_ rfl (fun h => h HE.out) ⟨nq, rfl⟩
  · have HE := Lib.hid heq
    clear heq
    go_enter Tryz.func35, Tryz.ntmps35
    go_wp2
    go_quiet ((go_at_call 36; exact Calls.quiet_of ((HC.out _).mono fun _ _ h => h.no HE.out)))
    go_wp2
    go_ret
    exact .true_ rfl HE.out ⟨nq, rfl⟩
theorem mkLists (n : Nat) (hn : n ≤ 1000000) (w : World) : (Instr.makeSlice 39 (.int .i64 (n : Int)) (.int .i64 (n : Int))).run Tryz.prog w = .ok (.slice (some ⟨w.heap.size, 0, none⟩) n n) (w.alloc (.cells (madeCells #[.slice none 0 0] n) 35)) := by
  obtain ⟨i0, hi, hz0, hz1, hz2⟩ := info_parts intsInfo
  rw [run_make_rowN 39 35 i0 _ Tryz.underlying39 hi hz0 _ _ n n (Nat.le_refl _) (by rw [hz2]; omega) (by omega), hz1, Nat.mul_one]
  rfl
def LBlk (w : World) (g : Nat) (R : Nat → List Int) (i n : Nat) : Prop :=
  ∃ vs : List Value, w.heap[g]? = some (.cells vs.toArray 35 (0, 0)) ∧ vs.length = n ∧ ∀ j, j < i → ∃ nA ncap, vs[j]? = some (.slice nA (R j).length ncap) ∧ IntsAt w w.heap.size nA (R j) ∧ (0 < (R j).length → ∀ a, nA = some a → a.block ≠ g)
theorem LBlk.new (w : World) (R : Nat → List Int) (n : Nat) : LBlk (w.alloc (.cells (madeCells #[.slice none 0 0] n) 35)) w.heap.size R 0 n := by
  refine ⟨(madeCells #[.slice none 0 0] n).toList, by rw [heap_alloc_new], by simp [madeCells], fun j h => by omega⟩
theorem LBlk.lt {w : World} {g i n : Nat} {R : Nat → List Int} (h : LBlk w g R i n) : g < w.heap.size := by
  obtain ⟨vs, h, _⟩ := h
  exact (Array.getElem?_eq_some_iff.1 h).1
theorem LBlk.below {w w' : World} {g i n : Nat} {R : Nat → List Int} (h : LBlk w g R i n) (hb : Below w.heap.size w w') : LBlk w' g R i n := by
  have hl := h.lt
  obtain ⟨vs, h1, h2, h3⟩ := h
  refine ⟨vs, (hb.block g hl).trans h1, h2, fun j hj => ?_⟩
  obtain ⟨nA, ncap, e, hi, ha⟩ := h3 j hj
  exact ⟨nA, ncap, e, hi.below hb (Nat.le_refl _) hb.size, ha⟩
theorem LBlk.get {w : World} {g i n : Nat} {R : Nat → List Int} (h : LBlk w g R i n) {j : Nat} (hj : j < i) : ∃ nA ncap, w.cell? ⟨g, j, none⟩ = some (.slice nA (R j).length ncap) ∧ IntsAt w w.heap.size nA (R j) := by
  obtain ⟨vs, h1, h2, h3⟩ := h
  obtain ⟨nA, ncap, e, hi, _⟩ := h3 j hj
  exact ⟨nA, ncap, by simp [World.cell?, h1, e], hi⟩
theorem LBlk.old {w : World} {g i n : Nat} {R : Nat → List Int} (h : LBlk w g R i n) {j : Nat} (hj : j < n) : (∃ v, w.cell? ⟨g, j, none⟩ = some v) ∧ w.frozen? ⟨g, j, none⟩ = false := by
  obtain ⟨vs, h1, h2, _⟩ := h
  exact ⟨⟨vs[j]'(by omega), by simp [World.cell?, h1, List.getElem?_eq_getElem (show j < vs.length by omega)]⟩, by simp [World.frozen?, h1]⟩
theorem LBlk.set_ {w : World} {g i n : Nat} {R : Nat → List Int} (h : LBlk w g R i n) (hi : i < n) {nA : Option Addr} {ncap : Nat} (hl : IntsAt w w.heap.size nA (R i)) (ha : 0 < (R i).length → ∀ a, nA = some a → a.block ≠ g) :
    LBlk (w.setCell ⟨g, i, none⟩ (.slice nA (R i).length ncap)) g R (i + 1) n := by
  obtain ⟨vs, h1, h2, h3⟩ := h
  have keep : ∀ (mA : Option Addr) (m : List Int), IntsAt w w.heap.size mA m → (0 < m.length → ∀ a, mA = some a → a.block ≠ g) → IntsAt (w.setCell ⟨g, i, none⟩ (.slice nA (R i).length ncap)) (w.setCell ⟨g, i, none⟩ (.slice nA (R i).length ncap)).heap.size mA m := fun mA m hm hma => by
    rcases Nat.eq_zero_or_pos m.length with hz | hz
    · exact fun j hj => by omega
    · exact hm.same (fun a ha _ => Below.heap_setCell w _ _ _ (hma hz a ha)) (by rw [size_setCell]; omega)
  refine ⟨vs.set i (.slice nA (R i).length ncap), by simp [World.setCell, Array.getElem?_modify, h1], by simpa using h2, fun j hj => ?_⟩
  by_cases e : j = i
  · subst e
    exact ⟨nA, ncap, by rw [List.getElem?_set]; simp [h2, hi], keep _ _ hl ha, ha⟩
  · obtain ⟨mA, mcap, e1, e2, e3⟩ := h3 j (by omega)
    exact ⟨mA, mcap, by rw [List.getElem?_set, if_neg (by omega)]; exact e1, keep _ _ e2 e3, e3⟩
theorem LBlk.far {w : World} {g i n : Nat} {R : Nat → List Int} (h : LBlk w g R i n) (n2 : Nat) : LBlk (w.drewN n2) g R i n := h
set_option maxHeartbeats 1600000 in
theorem Knots_any (A : Option Addr) (cap : Nat) (g : Gr) (w : World) (hf : FitsG g) (hr : GraphAt w w.heap.size A g) :
    Calls Tryz.prog 10 #[.slice A g.length cap] w (RetLists w (KnotsSpec g)) := by
  have hlen : g.length ≤ 40 := hf.1
  have HF := Lib.hid hf
  have hmk := mkLists g.length (by omega)
  obtain ⟨R, hR⟩ := reach_sets g
  have HR := Lib.hid hR
  have hRl := fun i => (hR i).length_le
  have HRL := Lib.hid hRl
  go_enter Tryz.func10, Tryz.ntmps10
  go_wp2_with fail
  refine (Valid_any A cap g w hf hr).mono ?_
  rintro e w1 ⟨r, rfl, hv, hb⟩
  have HV := Lib.hid hv
  clear hv hf hR hRl
  cases r with
  | false =>
    go_wp2
    go_ret
    exact ⟨none, [], 0, rfl, ListsAt.nil _ _ _, ⟨fun h => absurd (HV.out.2 h) (by simp), fun _ => rfl⟩, by simp, fun i h => absurd h (by simp), hb⟩
  | true =>
    have hgr := hr.below hb (Nat.le_refl _) hb.size
    have hvg := Lib.hid (HV.out.1 rfl)
    clear hr
    go_wp2_with fail
    clear hmk
    go_loopg [17] g.length (fun m c wr => ∃ i : Nat, i ≤ g.length ∧ c = .int .i64 (i : Int) ∧ g.length ≤ i + m ∧ Below w1.heap.size w1 wr ∧ LBlk wr w1.heap.size R i g.length ∧ wr.cell? ⟨w1.heap.size + 1, 0, none⟩ = some (.slice (some ⟨w1.heap.size, 0, none⟩) g.length g.length) ∧ w1.heap.size + 1 < wr.heap.size)
    case atStart =>
      refine ⟨0, Nat.zero_le _, rfl, by omega, ((Below.refl _ _).alloc (Nat.le_refl _) _).alloc (by simp) _, (LBlk.new w1 R g.length).below ((Below.refl _ _).alloc (Nat.le_refl _) _), ?_, by simp⟩
      simp
    case round =>
      obtain ⟨i, hi, rfl, him, hbel, hlb, hbox, hsz⟩ := hrel
      by_cases hlt : i < g.length
      · have hir : InR g.length (i : Int) := ⟨by omega, by omega⟩
        have HS : Hid (∀ W0, Below wr.heap.size wr W0 → Calls Tryz.prog 30 #[.slice A g.length cap, .int .i64 (i : Int), .func (.func 34) #[] #[]] W0 (RetBools W0 (fun bs => Hid (bs.length = g.length ∧ ∀ x, InR g.length x → (at_ bs x = true ↔ Reach1 (succs g) i x))))) := fun W0 hW0 =>
          search_any 34 g.length (succs g) i A cap W0 hlen hir hvg.out.range HF.out.short (fun _ _ => by kernel_rfl) (fun W x hW hx => next_any A cap _ g x W hlen hx hW.size ((hgr.below (B'' := W0.heap.size) (hbel.trans (hW0.mono hbel.size)) (Nat.le_refl _) (Nat.le_trans hbel.size hW0.size)).below hW (Nat.le_refl _) (Nat.le_refl _)))
        have HM : Hid (∀ gs bs c2 W, BoolBlk W gs bs → bs.length ≤ 1000000 → Calls Tryz.prog 33 #[.slice (some ⟨gs, 0, none⟩) bs.length c2] W (RetInts W (fun l => Hid (l = idxs (fun i => bs.getD i false) bs.length)))) := fun gs bs c2 W hb hl => members_any _ c2 bs W hl (hb.at_ hb.lt)
        obtain ⟨⟨old, hold⟩, hfz⟩ := hlb.old hlt
        have hlbl := hlb.lt
        have HIR := Lib.hid hir
        clear hir
        go_wp2_with fail
        go_region_held3 (fun w' => w'.cell? ⟨w1.heap.size + 1, 0, none⟩ = some (.slice (some ⟨w1.heap.size, 0, none⟩) g.length g.length))
          (first
            | go_keep
            | exact (hb2.cell (p := ⟨w1.heap.size + 1, 0, none⟩) (by simpa using hsz)).trans (by assumption)
            | exact (hb3.cell (p := ⟨w1.heap.size + 1, 0, none⟩) (by have := hb2.size; simp at this; simp; omega)).trans (by assumption))
          ((first
            | (go_at_call 30; refine (HS.out _ (by first | exact Below.refl _ _ | exact (Below.refl _ _).drew | exact below_drewN (Below.refl _ _) _)).mono ?_; rintro e w2 ⟨gs, bs, c2, rfl, hblk, hbs, hb2⟩)
            | (go_at_call 33; refine (HM.out gs bs c2 _ (by first | exact hblk | exact hblk.drewN _) (by have := hbs.out.1; omega)).mono ?_; rintro e w3 ⟨A3, l3, c3, rfl, h3, hl3, hle, hb3⟩; have hs2 := hb2.size; have hs3 := hb3.size; have hold3 := (hb3.cell (p := ⟨w1.heap.size, i, none⟩) (Nat.lt_of_lt_of_le hlbl hs2)).trans ((hb2.cell (p := ⟨w1.heap.size, i, none⟩) hlbl).trans hold); have hfz3 := (hb3.frozen (p := ⟨w1.heap.size, i, none⟩) (Nat.lt_of_lt_of_le hlbl hs2)).trans ((hb2.frozen (p := ⟨w1.heap.size, i, none⟩) hlbl).trans hfz))))
        obtain rfl : l3 = R i := by
          rw [hl3.out, hbs.out.1]
          exact (at_nat hbs.out.2).unique (HR.out i)
        have hb2' : Below wr.heap.size wr w2 := ⟨hb2.os, hb2.tape, hb2.output, hb2.size, hb2.block⟩
        have hs2' : wr.heap.size ≤ w2.heap.size := hs2
        have hlb3 := (hlb.below hb2').below hb3
        have hset := hlb3.set_ hlt (ncap := c3) h3.1 (fun h0 a ha e => by have h1 := h3.2 h0 a ha; omega)
        have hbel3 := hbel.trans ((hb2'.mono hbel.size).trans (hb3.mono (Nat.le_trans hbel.size hs2')))
        have hbox3 := (hb3.cell (p := ⟨w1.heap.size + 1, 0, none⟩) (Nat.lt_of_lt_of_le hsz hs2')).trans ((hb2'.cell (p := ⟨w1.heap.size + 1, 0, none⟩) hsz).trans hbox)
        go_wp2
        go_roundg (gk - 1)
        case measure => omega
        case rel =>
          refine ⟨i + 1, by omega, by go_num, by omega, hbel3.setCell (Nat.le_refl _) _, hset, ?_, ?_⟩
          · exact (World.cell?_setCell_other w3 ⟨w1.heap.size, i, none⟩ ⟨w1.heap.size + 1, 0, none⟩ _ (by simp)).trans hbox3
          · rw [size_setCell]; omega
      · obtain rfl : i = g.length := by omega
        have hmf : ∀ (fn : Fn) (first cap : Array Value) (w : World), (Instr.makeFunc fn first cap).run Tryz.prog w = .ok (.func fn first cap) w := fun _ _ _ _ => rfl
        obtain ⟨w4, hw4⟩ : ∃ w4, w4 = wr := ⟨_, rfl⟩
        subst hw4
        clear hi hlt him
        go_wp2_with fail
        go_loopg [5, 30] g.length (fun m v5 c wr => ∃ i : Nat, i ≤ g.length ∧ c = .int .i64 (i : Int) ∧ g.length ≤ i + m ∧ Below w4.heap.size w4 wr ∧ OwnLists wr w4.heap.size v5 (kn R i))
        case atStart => exact ⟨0, Nat.zero_le _, rfl, by omega, Below.refl _ _, OwnLists.nil _ _ (Nat.le_refl _)⟩
        case round =>
          obtain ⟨i, hi, rfl, him, hbel4, hown⟩ := hrel
          obtain ⟨G, hG⟩ : ∃ G, G = gk := ⟨_, rfl⟩
          subst hG
          have hkl := kn_length R i
          have hboxr := (hbel4.cell (p := ⟨w1.heap.size + 1, 0, none⟩) hsz).trans hbox
          by_cases hlt : i < g.length
          · obtain ⟨nA, ncap, hc0, hi0⟩ := hlb.get hlt
            have hci := (hbel4.cell (p := ⟨w1.heap.size, i, none⟩) hlb.lt).trans hc0
            have hi1 := hi0.below (B'' := w4.heap.size) hbel4 (Nat.le_refl _) (Nat.le_refl _)
            have HI := Lib.hid hi1
            have hl40 := HRL.out i
            have hks := Lib.hid (kn_succ R i)
            have hsr := hbel4.size
            have hsl := hlb.lt
            clear hc0 hi0 hi1
            by_cases hhd : (R i).head? = some (i : Int)
            · obtain ⟨rest, hrest⟩ : ∃ rest, R i = (i : Int) :: rest := by
                cases hRi : R i with
                | nil => rw [hRi] at hhd; cases hhd
                | cons a r => rw [hRi] at hhd; simp at hhd; exact ⟨r, by rw [hhd]⟩
              have hpos : 0 < (R i).length := by rw [hrest]; simp
              obtain ⟨b2, off2, rfl, hb2', hc2⟩ := HI.out.get hpos (x := (i : Int)) (by simp [hrest])
              have f0 : (((R i).length : Int) == 0) = false := by rw [beq_eq_false_iff_ne]; omega
              rw [Nat.add_zero] at hc2
              have hb3' : b2 < wr.heap.size := Nat.lt_of_lt_of_le hb2' hsr
              have HD := Lib.hid hhd
              clear hrest hhd
              go_wp2_with fail
              have hal : Below wr.heap.size wr (wr.alloc (.cells #[.slice (some ⟨b2, off2, none⟩) (R i).length ncap] 35)) := (Below.refl _ _).alloc (Nat.le_refl _) _
              have hsbox : (wr.alloc (.cells #[.slice (some ⟨b2, off2, none⟩) (R i).length ncap] 35)).cell? ⟨wr.heap.size, 0, none⟩ = some (.slice (some ⟨b2, off2, none⟩) (R i).length ncap) := cell_one_new wr _ _ 0 _ rfl
              have hF : ∀ n, ∀ y ∈ R i, Calls Tryz.prog 35 (#[.int .i64 y] ++ #[.pointer (some ⟨w1.heap.size + 1, 0, none⟩), .pointer (some ⟨wr.heap.size, 0, none⟩)]) ((wr.alloc (.cells #[.slice (some ⟨b2, off2, none⟩) (R i).length ncap] 35)).drewN n) (RetBQ ((wr.alloc (.cells #[.slice (some ⟨b2, off2, none⟩) (R i).length ncap] 35)).drewN n) (R y.toNat ≠ R i)) := fun n y hy => by
                have hyr := ((HR.out i).range y hy).1
                have hyn : y.toNat < g.length := by have h1 := hyr.1; have h2 := hyr.2; omega
                obtain ⟨mA, mcap, hm1, hm2⟩ := hlb.get hyn
                exact KnotsF_q (w1.heap.size + 1) wr.heap.size w1.heap.size g.length g.length y _ mA ncap mcap (R i) (R y.toNat) _ hyr.1 hyr.2 (by omega) (by have := HRL.out y.toNat; omega)
                  ((hal.cell (p := ⟨w1.heap.size + 1, 0, none⟩) (Nat.lt_of_lt_of_le hsz hsr)).trans hboxr) hsbox
                  ((hal.cell (p := ⟨w1.heap.size, y.toNat, none⟩) (Nat.lt_of_lt_of_le hsl hsr)).trans ((hbel4.cell (p := ⟨w1.heap.size, y.toNat, none⟩) hsl).trans hm1))
                  (HI.out.below (below_drewN hal n) hsr (Nat.le_trans hsr hal.size)) ((hm2.below (B'' := w4.heap.size) hbel4 (Nat.le_refl _) (Nat.le_refl _)).below (below_drewN hal n) hsr (Nat.le_trans hsr hal.size))
              refine ((ContainsFunc_any 35 _ (fun y => R y.toNat ≠ R i) _ w4.heap.size ncap (R i) _ (by omega) (HI.out.below hal hsr (Nat.le_refl _)) (fun _ _ => by kernel_rfl) hF).mono fun _ _ h => h.below).mono ?_
              rintro e w5 ⟨r, rfl, hr5, hb5⟩
              have HR5 := Lib.hid hr5
              have hal5 := hal.trans (hb5.mono hal.size)
              have hown5 := hown.below hal5
              have hbox5 := (hb5.cell (p := ⟨wr.heap.size, 0, none⟩) (by simp)).trans hsbox
              have hi5 := HI.out.below (B'' := w5.heap.size) hal5 hsr (Nat.le_trans hsr hal5.size)
              have HI5 := Lib.hid hi5
              have hbel5 := hbel4.trans (hal5.mono hsr)
              have hown_lt := hown.block
              have hapt : Hid (0 < (R i).length → ∀ a, some (Addr.mk b2 off2 none) = some a → u5.ownBlock ≠ some a.block) := fun _ a ha e => by
                injection ha with ha
                subst ha
                have h1 := (hown_lt b2 e).1
                omega
              clear hr5 hF hsbox hi5 hown_lt hci hc2
              cases r with
              | true =>
                have hno : Hid (¬ knotB R i = true) := fun h => by
                  unfold knotB at h
                  rw [decide_eq_true_iff] at h
                  obtain ⟨y, hy, hne⟩ := HR5.out.1 rfl
                  exact hne (h.2 y hy)
                go_wp2
                go_roundg (G - 1)
                case measure => omega
                case rel => exact ⟨i + 1, by omega, by go_num, by omega, hbel5, by rw [hks.out, if_neg hno.out]; exact hown5⟩
              | false =>
                have hyes : Hid (knotB R i = true) := by
                  show _ = _
                  unfold knotB
                  rw [decide_eq_true_iff]
                  refine ⟨HD.out, fun y hy => ?_⟩
                  by_cases e : R y.toNat = R i
                  · exact e
                  · have h9 := HR5.out.2 ⟨y, hy, e⟩
                    cases h9
                go_wp2_with (at_builtin; refine pushList rfl _ _ rfl _ _ u5 _ (R i) _ _ rfl hown5 HI5.out hapt.out _ rfl rfl (by omega) ?_; intro v' w6 hown6 hb6 _)
                go_roundg (G - 1)
                case measure => omega
                case rel => exact ⟨i + 1, by omega, by go_num, by omega, hbel5.trans hb6, by rw [hks.out, if_pos hyes.out]; exact hown6⟩
            · have hno : Hid (¬ knotB R i = true) := fun h => by
                unfold knotB at h
                rw [decide_eq_true_iff] at h
                exact hhd h.1
              have hcase : (R i).length ≤ 0 ∨ ∃ a : Int, 0 < (R i).length ∧ a ≠ i ∧ (R i)[0]? = some a := by
                cases hRi : R i with
                | nil => exact .inl (by simp)
                | cons a r => exact .inr ⟨a, by simp, fun e => hhd (by rw [hRi, e]; rfl), rfl⟩
              rcases hcase with hz | ⟨a, hpos, hne, ha⟩
              · have f0 : (((R i).length : Int) == 0) = true := beq_iff_eq.2 (by omega)
                clear hhd
                go_wp2
                go_roundg (G - 1)
                case measure => omega
                case rel => exact ⟨i + 1, by omega, by go_num, by omega, hbel4.alloc hsr _, by rw [hks.out, if_neg hno.out]; exact hown.below ((Below.refl _ _).alloc (Nat.le_refl _) _)⟩
              · obtain ⟨b2, off2, rfl, hb2', hc2⟩ := HI.out.get hpos (x := a) (by rw [List.getElem?_eq_getElem hpos] at ha; injection ha)
                have f0 : (((R i).length : Int) == 0) = false := by rw [beq_eq_false_iff_ne]; omega
                have f1 : (a != (i : Int)) = true := by simp [hne]
                rw [Nat.add_zero] at hc2
                have hb3' : b2 < wr.heap.size := Nat.lt_of_lt_of_le hb2' hsr
                clear hhd ha hne
                go_wp2
                go_roundg (G - 1)
                case measure => omega
                case rel => exact ⟨i + 1, by omega, by go_num, by omega, hbel4.alloc hsr _, by rw [hks.out, if_neg hno.out]; exact hown.below ((Below.refl _ _).alloc (Nat.le_refl _) _)⟩
          · obtain rfl : i = g.length := by omega
            obtain ⟨A', cap', e, h, h2, _⟩ := hown.form
            go_wp2
            go_ret
            refine ⟨A', _, cap', by show Ending.returned u5 = _; rw [e], h, ⟨fun _ => ⟨R, fun i _ => HR.out i, rfl⟩, fun h => absurd hvg.out h⟩, by omega, fun i hi => ?_, hb.trans ((hbel.mono hb.size).trans (hbel4.mono (Nat.le_trans hb.size hbel.size)))⟩
            obtain ⟨j, _, hj⟩ := List.mem_map.1 (List.getElem_mem hi)
            rw [← hj]
            have := HRL.out j
            omega
end Go.Proofs.YtogeihdfmnohnaaGreatDoor.Wg
namespace Go.Proofs.YtogeihdfmnohnaaGreatDoor.Wg
open Go.RowKit
theorem fill_set (n k : Nat) (h : k < n) : (List.replicate k true ++ List.replicate (n - k) false).set k true = List.replicate (k + 1) true ++ List.replicate (n - (k + 1)) false := by
  rw [List.set_append_right _ _ (by simp)]
  simp only [List.length_replicate, Nat.sub_self]
  obtain ⟨m, hm⟩ : ∃ m, n - k = m + 1 := ⟨n - k - 1, by omega⟩
  rw [hm, show n - (k + 1) = m by omega, List.replicate_succ, List.set_cons_zero, List.replicate_succ', List.append_assoc]
  rfl
theorem at_replicate_true (n : Nat) (x : Int) (hx : InR n x) : at_ (List.replicate n true) x = true := by
  unfold at_ InR at *
  rw [List.getD_eq_getElem?_getD, List.getElem?_replicate, if_pos (by omega)]; rfl
set_option maxHeartbeats 1600000 in
theorem Stuck_any (A : Option Addr) (cap : Nat) (g : Gr) (w : World) (hf : FitsG g) (hr : GraphAt w w.heap.size A g) :
    Calls Tryz.prog 12 #[.slice A g.length cap] w (RetInts w (StuckSpec g)) := by
  have hlen : g.length ≤ 40 := hf.1
  have hmk := mkBools g.length (by omega)
  have HF := Lib.hid hf
  go_enter Tryz.func12, Tryz.ntmps12
  go_wp2_with fail
  refine (Valid_any A cap g w hf hr).mono ?_
  rintro e w1 ⟨r, rfl, hv, hb⟩
  have HV := Lib.hid hv
  clear hv hf
  cases r with
  | false =>
    go_wp2
    go_ret
    exact ⟨none, [], 0, rfl, NewInts.nil _ _ _, ⟨fun h => absurd (HV.out.2 h) (by simp), fun _ => rfl⟩, by simp, hb⟩
  | true =>
    have hgr := hr.below hb (Nat.le_refl _) hb.size
    have hvg := Lib.hid (HV.out.1 rfl)
    clear hr
    go_wp2_with fail
    clear hmk
    go_loopg [19] g.length (fun m c wr => ∃ k : Nat, k ≤ g.length ∧ c = .int .i64 (k : Int) ∧ g.length ≤ k + m ∧ Below w1.heap.size w1 wr ∧ BoolBlk wr w1.heap.size (List.replicate k true ++ List.replicate (g.length - k) false))
    case atStart => exact ⟨0, Nat.zero_le _, rfl, by omega, (Below.refl _ _).alloc (Nat.le_refl _) _, by simpa using BoolBlk.new w1 g.length⟩
    case round =>
      obtain ⟨k, hk, rfl, hkm, hbel, hblk⟩ := hrel
      by_cases hlt : k < g.length
      · have hcs : wr.cell? ⟨w1.heap.size, k, none⟩ = some (.bool false) := hblk.cell (j := k) (by simp; omega) (by rw [List.getElem_append_right (by simp)]; simp)
        have hfs : wr.frozen? ⟨w1.heap.size, k, none⟩ = false := hblk.free _
        have hset := Lib.hid (fill_set g.length k hlt)
        go_wp2
        go_roundg (gk - 1)
        case measure => omega
        case rel => exact ⟨k + 1, by omega, by go_num, by omega, hbel.setCell (Nat.le_refl _) _, by rw [← hset.out]; exact hblk.set_ k true⟩
      · obtain rfl : k = g.length := by omega
        have hblk0 : BoolBlk wr w1.heap.size (List.replicate g.length true) := by simpa using hblk
        clear hblk hkm hlt
        go_wp2_with fail
        go_loopg [5] (g.length + 1) (fun m ch wq => ∃ (b : Bool) (ss : List Bool), ch = .bool b ∧ Hid (CSound g (fun z => !at_ ss z)) ∧ Hid (ss.length = g.length) ∧ BoolBlk wq w1.heap.size ss ∧ Below w1.heap.size w1 wq ∧
          marked ss + b.toNat ≤ m ∧ Hid (b = false → CDone g (fun z => !at_ ss z) g.length))
        case atStart =>
          refine ⟨true, List.replicate g.length true, rfl, fun x hx h => ?_, by simp [Hid], hblk0, hbel, by simp [marked, List.countP_replicate], fun h => by cases h⟩
          simp [at_replicate_true _ _ hx] at h
        case round =>
          clear hbel hblk0
          obtain ⟨b, ss, rfl, hsnd, hsl, hblk, hbel, hm, hdone⟩ := hrel
          obtain ⟨G, hG⟩ : ∃ G, G = gk := ⟨_, rfl⟩
          subst hG
          cases b with
          | false =>
            have hfin := Lib.hid (hsnd.out.final (hdone.out rfl))
            have hmem := members_any _ g.length ss wr (by rw [hsl.out]; omega) (hblk.at_ hblk.lt)
            rw [hsl.out] at hmem
            have HM := Lib.hid hmem
            clear hmem hsnd hdone
            go_wp2_with fail
            refine HM.out.mono ?_
            rintro e w3 ⟨A3, l3, c3, rfl, h3, hl3, hle, hb3⟩
            have HL3 := Lib.hid hl3
            clear hl3 HM
            go_wp2
            go_ret
            refine ⟨A3, l3, c3, rfl, h3.older (Nat.le_trans hb.size hbel.size), ⟨fun _ => ?_, fun h => absurd hvg.out h⟩, hle, hb.trans ((hbel.mono hb.size).trans (hb3.mono (Nat.le_trans hb.size hbel.size)))⟩
            rw [HL3.out]
            exact at_nat fun x hx => by rw [← hfin.out x hx]; simp
          | true =>
            have hm1 : marked ss + 1 ≤ G := hm
            clear hm hdone
            go_wp2_with fail
            go_loopg [5, 29] g.length (fun m ch c wq => ∃ (b : Bool) (s2 : List Bool) (k : Nat), ch = .bool b ∧ c = .int .i64 (k : Int) ∧ k ≤ g.length ∧ g.length ≤ k + m ∧ Hid (CSound g (fun z => !at_ s2 z)) ∧ Hid (s2.length = g.length) ∧ BoolBlk wq w1.heap.size s2 ∧ Below w1.heap.size w1 wq ∧
              marked s2 + b.toNat ≤ marked ss ∧ Hid (b = false → CDone g (fun z => !at_ s2 z) k))
            case atStart => exact ⟨false, ss, 0, rfl, rfl, Nat.zero_le _, by omega, hsnd.out, hsl.out, hblk, hbel, by simp, fun _ x hx h => absurd hx.1 (by omega)⟩
            case round =>
              clear hsnd hsl hblk hbel
              obtain ⟨b, s2, k, rfl, rfl, hk2, hkm2, hsnd, hsl, hblk, hbel, hmk, hdone⟩ := hrel
              obtain ⟨wo, hwo⟩ : ∃ wo, wo = wr := ⟨_, rfl⟩
              subst hwo
              obtain ⟨G2, hG2⟩ : ∃ G2, G2 = gk := ⟨_, rfl⟩
              subst hG2
              by_cases hlt : k < g.length
              · obtain ⟨b0, off, nA, ncap, rfl, hbb, hc1, hc2, hN⟩ := (hgr.below (B'' := w1.heap.size) hbel (Nat.le_refl _) (Nat.le_refl _)) k hlt
                have hn40 := (HF.out.2 k hlt).1
                have hHF := Lib.hid (HF.out.2 k hlt)
                have hse := Lib.hid (succs_eq (x := (k : Int)) (by simpa using hlt))
                have hke := Lib.hid (kOf_eq (x := (k : Int)) (by simpa using hlt))
                have HN := Lib.hid hN
                have hrange := Lib.hid (hvg.out.range (k : Int) ⟨by omega, by omega⟩)
                clear hN
                go_wp2_with fail
                go_loopg [8, 37] g[k].next.length (fun m d c wq => ∃ j : Nat, c = .int .i64 (j : Int) ∧ d = .int .i64 (((g[k].next.take j).countP (fun z => !at_ s2 z) : Nat) : Int) ∧ j ≤ g[k].next.length ∧ g[k].next.length ≤ j + m ∧ wq = wo.alloc (.cells #[.int .i64 g[k].k, .slice nA g[k].next.length ncap] 37))
                case atStart => exact ⟨0, rfl, rfl, Nat.zero_le _, by omega, rfl⟩
                case round =>
                  obtain ⟨j, rfl, rfl, hj, hjm, rfl⟩ := hrel
                  have hcl : (g[k].next.take j).countP (fun z => !at_ s2 z) ≤ j := Nat.le_trans List.countP_le_length (List.length_take_le _ _)
                  by_cases hlt2 : j < g[k].next.length
                  · obtain ⟨b2, off2, rfl, hb2, hc3⟩ := HN.out.get hlt2 rfl
                    have hyr := hrange.out g[k].next[j] (by rw [hse.out]; simp)
                    obtain ⟨hy1, hy2⟩ := hyr
                    have hct := Lib.hid (countP_take_succ (p := fun z => !at_ s2 z) hlt2)
                    have hb2' : b2 < wo.heap.size := Nat.lt_of_lt_of_le hb2 hbel.size
                    have hblt := hblk.lt
                    cases hs : at_ s2 g[k].next[j] with
                    | true =>
                      have hcs : wo.cell? ⟨w1.heap.size, g[k].next[j].toNat, none⟩ = some (.bool true) := hblk.cell (by rw [hsl.out]; omega) (bs_at hsl.out ⟨hy1, hy2⟩ hs)
                      have HS := Lib.hid hs
                      clear hs
                      go_wp2
                      go_roundg (gk - 1)
                      case measure => omega
                      case rel => exact ⟨j + 1, by go_num, by rw [hct.out, HS.out]; rfl, by omega, by omega, rfl⟩
                    | false =>
                      have hcs : wo.cell? ⟨w1.heap.size, g[k].next[j].toNat, none⟩ = some (.bool false) := hblk.cell (by rw [hsl.out]; omega) (bs_at hsl.out ⟨hy1, hy2⟩ hs)
                      have HS := Lib.hid hs
                      clear hs
                      go_wp2
                      go_roundg (gk - 1)
                      case measure => omega
                      case rel => exact ⟨j + 1, by go_num, by rw [hct.out, HS.out]; simp, by omega, by omega, rfl⟩
                  · have hcn : cntD g (fun z => !at_ s2 z) k = (g[k].next.take j).countP (fun z => !at_ s2 z) := by
                      unfold cntD; rw [hse.out, List.take_of_length_le (by omega)]; simp
                    have hkk : kOf g k = g[k].k := by rw [hke.out]; simp
                    have HCN := Lib.hid hcn
                    have HKK := Lib.hid hkk
                    have hb2 := (hbel.alloc hbel.size (.cells #[.int .i64 g[k].k, .slice nA g[k].next.length ncap] 37))
                    have hblk2 : BoolBlk (wo.alloc (.cells #[.int .i64 g[k].k, .slice nA g[k].next.length ncap] 37)) w1.heap.size s2 := hblk.below (B := wo.heap.size) ((Below.refl _ _).alloc (Nat.le_refl _) _) hblk.lt
                    have hblt := hblk.lt
                    have hkr : InR g.length (k : Int) := ⟨by omega, by omega⟩
                    have hfz : wo.frozen? ⟨w1.heap.size, k, none⟩ = false := hblk.free _
                    clear hcn hkk
                    cases hs : at_ s2 k with
                    | false =>
                      have hcs : wo.cell? ⟨w1.heap.size, k, none⟩ = some (.bool false) := hblk.cell (by rw [hsl.out]; omega) (bs_at hsl.out hkr hs)
                      have HS := Lib.hid hs
                      clear hs
                      go_wp2
                      go_roundg (G2 - 1)
                      case measure => omega
                      case rel => exact ⟨b, s2, k + 1, rfl, by go_num, by omega, by omega, hsnd.out, hsl.out, hblk2, hb2, hmk, fun e => (hdone.out e).step (.inl (by simp [HS.out]))⟩
                    | true =>
                      have hcs : wo.cell? ⟨w1.heap.size, k, none⟩ = some (.bool true) := hblk.cell (by rw [hsl.out]; omega) (bs_at hsl.out hkr hs)
                      have hms := marked_set hsl.out hkr hs
                      have HS := Lib.hid hs
                      clear hs
                      by_cases hge : g[k].k ≤ (((g[k].next.take j).countP (fun z => !at_ s2 z) : Nat) : Int)
                      · have hd : decide (g[k].k ≤ (((g[k].next.take j).countP (fun z => !at_ s2 z) : Nat) : Int)) = true := decide_eq_true hge
                        have HG := Lib.hid hge
                        have HMS := Lib.hid hms
                        clear hge hms
                        go_wp2
                        go_roundg (G2 - 1)
                        case measure => omega
                        case rel =>
                          have h1 := HMS.out
                          simp only [Int.toNat_natCast] at h1
                          refine ⟨true, s2.set k false, k + 1, rfl, by go_num, by omega, by omega, hsnd.out.step hvg.out hkr (by rw [HCN.out, HKK.out]; exact HG.out) (fun y hy => at_set_false hsl.out hkr hy), by simp [Hid, hsl.out], (hblk.set_ k false).alloc _, (hbel.setCell (Nat.le_refl _) _).alloc (by rw [size_setCell]; exact hbel.size) _, by simp; omega, fun e => by cases e⟩
                      · have hd : decide (g[k].k ≤ (((g[k].next.take j).countP (fun z => !at_ s2 z) : Nat) : Int)) = false := decide_eq_false hge
                        have HG := Lib.hid hge
                        clear hge hms
                        go_wp2
                        go_roundg (G2 - 1)
                        case measure => omega
                        case rel => exact ⟨b, s2, k + 1, rfl, by go_num, by omega, by omega, hsnd.out, hsl.out, hblk2, hb2, hmk, fun e => (hdone.out e).step (.inr (by rw [HCN.out, HKK.out]; have := HG.out; omega))⟩
              · obtain rfl : k = g.length := by omega
                go_wp2
                go_roundg (G - 1)
                case measure => omega
                case rel => exact ⟨b, s2, rfl, hsnd.out, hsl.out, hblk, hbel, by omega, hdone.out⟩
end Go.Proofs.YtogeihdfmnohnaaGreatDoor.Wg
