/- Part 2 of 49 of the proof of waitgraphOf_holds (no condition). -/
import Derived.Test.YtogeihdfmnohnaaGreatDoorK01
import Derived.Test.YtogeihdfmnohnaaGreatDoorChecked
import Derived.StillTail
import Derived.Sort.Walk0
import Derived.Lib.AtoiAll
import Derived.Lib.ItoaNum
import Derived.Lib.Split
set_option linter.unusedVariables false
set_option linter.unusedSimpArgs false
namespace Go.Proofs.YtogeihdfmnohnaaGreatDoor
open Go.RowKit
structure Ext (w0 : World) where
  w : World
  below : Below w0.heap.size w0 w
instance (w0 : World) : Nonempty (Ext w0) := ⟨⟨w0, Below.refl _ _⟩⟩
theorem Ext.cell {w0 : World} {b o : Nat} {v : Value} (h : w0.cell? ⟨b, o, none⟩ = some v) (n : Ext w0) : n.w.cell? ⟨b, o, none⟩ = some v :=
  (n.below.cell (p := ⟨b, o, none⟩) (World.block_lt_of_cell? w0 _ h)).trans h
theorem below_drewN {B : Nat} {a w : World} (h : Below B a w) (n : Nat) : Below B a (w.drewN n) := ⟨h.os, h.tape, h.output, h.size, h.block⟩
theorem wp_region_grow {P : Program} {id : Nat} {Q : Exit → Act → World → Prop} {a : Act} {w : World} {l : List Oper} (hm : P.follows .mixedOrders = true) (hB : Region.lexB .any l.toArray = true)
    (h : wpQuiet P l.toArray (fun w' => ∃ n : Ext w, w' = n.w) (fun a' => ∀ w', (∃ n : Ext w, w' = n.w) → Q .normal a' w') l a) : (Code.region id l.toArray true).wp P Q a w :=
  wp_region_quiet (C := fun w' => ∃ n : Ext w, w' = n.w) hm hB ⟨⟨_, (Below.refl w.heap.size w).drew⟩, rfl⟩ (by simpa using h)
theorem Ext.call {P : Program} {f : FuncId} {args : Array Value} {w0 : World} {v : Value} (n : Ext w0) (h : Calls P f args n.w fun e w' => e = .returned v ∧ Below n.w.heap.size n.w w') : Calls P f args n.w fun e w' => e = .returned v ∧ ∃ m : Ext w0, w' = m.w :=
  h.mono fun _ _ ⟨he, hb⟩ => ⟨he, ⟨_, n.below.trans (hb.mono n.below.size)⟩, rfl⟩
theorem Ext.call_same {P : Program} {f : FuncId} {args : Array Value} {w0 : World} {v : Value} (n : Ext w0) (h : Calls P f args n.w fun e w' => e = .returned v ∧ w' = n.w) : Calls P f args n.w fun e w' => e = .returned v ∧ ∃ m : Ext w0, w' = m.w :=
  h.mono fun _ _ ⟨he, hb⟩ => ⟨he, n, hb⟩
theorem cellNewA (w : World) (cs : Array Value) (e : TypeId) (j : Nat) : (w.alloc (.cells cs e)).cell? ⟨w.heap.size, j, none⟩ = cs[j]? := cell_of_row _ _ _ _ _ _ (heap_alloc_new w (.cells cs e))
theorem Ext.new {w0 : World} (cs : Array Value) (e : TypeId) {j : Nat} {v : Value} (h : cs[j]? = some v) (n : Ext (w0.alloc (.cells cs e))) : n.w.cell? ⟨w0.heap.size, j, none⟩ = some v := Ext.cell ((cellNewA w0 cs e j).trans h) n
theorem Ext.old {w0 : World} {b o : Nat} {v : Value} (ob : Obj) (h : w0.cell? ⟨b, o, none⟩ = some v) (n : Ext (w0.alloc ob)) : n.w.cell? ⟨b, o, none⟩ = some v :=
  Ext.cell ((World.cell?_alloc_lt w0 ob ⟨b, o, none⟩ (World.block_lt_of_cell? w0 _ h)).trans h) n
def Blk (w : World) (g : Nat) (t : TypeId) (cs : Array Value) : Prop := w.heap[g]? = some (.cells cs t (0, 0))
section
variable {w w' : World} {g : Nat} {t : TypeId} {cs : Array Value}
theorem Blk.lt (h : Blk w g t cs) : g < w.heap.size := (Array.getElem?_eq_some_iff.1 h).1
theorem Blk.cell (h : Blk w g t cs) (i : Nat) : w.cell? ⟨g, i, none⟩ = cs[i]? := cell_of_row w g i cs t (0, 0) h
theorem Blk.cellx (h : Blk w g t cs) (i : Nat) {v : Value} (hv : cs[i]? = some v) : w.cell? ⟨g, i, none⟩ = some v := (h.cell i).trans hv
theorem Blk.frozen (h : Blk w g t cs) (i : Nat) : w.frozen? ⟨g, i, none⟩ = false := by
  unfold Blk at h
  simp [World.frozen?, h]
theorem Blk.new (w : World) (t : TypeId) (cs : Array Value) : Blk (w.alloc (.cells cs t)) w.heap.size t cs := heap_alloc_new w _
theorem Blk.drewN (h : Blk w g t cs) (n : Nat) : Blk (w.drewN n) g t cs := h
theorem Blk.alloc (h : Blk w g t cs) (o : Obj) : Blk (w.alloc o) g t cs := (Below.heap_alloc w o g h.lt).trans h
theorem Blk.set_ (h : Blk w g t cs) (i : Nat) (u : Value) : Blk (w.setCell ⟨g, i, none⟩ u) g t (cs.setIfInBounds i u) := by
  unfold Blk at h ⊢
  simp [World.setCell, Array.getElem?_modify, h]
theorem Blk.far (h : Blk w g t cs) {p : Addr} (hp : g ≠ p.block) (u : Value) : Blk (w.setCell p u) g t cs := (Below.heap_setCell w p u g hp).trans h
theorem Blk.below {B : Nat} (h : Blk w g t cs) (hb : Below B w w') (hg : g < B) : Blk w' g t cs := (hb.block g hg).trans h
end
structure Just (w0 : World) where
  w : World
  eq : w = w0
instance (w0 : World) : Nonempty (Just w0) := ⟨⟨w0, rfl⟩⟩
theorem Just.cell {w0 : World} {b o : Nat} {v : Value} (h : w0.cell? ⟨b, o, none⟩ = some v) (n : Just w0.drew) : n.w.cell? ⟨b, o, none⟩ = some v := by rw [n.eq]; exact h
theorem Just.new {w0 : World} (cs : Array Value) (e : TypeId) {j : Nat} {v : Value} (h : cs[j]? = some v) (n : Just (w0.alloc (.cells cs e)).drew) : n.w.cell? ⟨w0.heap.size, j, none⟩ = some v := Just.cell ((cellNewA w0 cs e j).trans h) n
theorem Just.old {w0 : World} {b o : Nat} {v : Value} (ob : Obj) (h : w0.cell? ⟨b, o, none⟩ = some v) (n : Just (w0.alloc ob).drew) : n.w.cell? ⟨b, o, none⟩ = some v :=
  Just.cell ((World.cell?_alloc_lt w0 ob ⟨b, o, none⟩ (World.block_lt_of_cell? w0 _ h)).trans h) n
theorem Just.call {P : Program} {f : FuncId} {args : Array Value} {w0 : World} {v : Value} (n : Just w0) (h : Calls P f args n.w fun e w' => e = .returned v ∧ w' = n.w) : Calls P f args n.w fun e w' => e = .returned v ∧ ∃ m : Just w0, w' = m.w :=
  h.mono fun _ _ ⟨he, hb⟩ => ⟨he, n, hb⟩
theorem still_of_quiet {P : Program} {ops : Array Oper} {w1 : World} {Q : Act → Prop} : ∀ (l : List Oper) (a : Act), wpQuiet P ops (fun w' => ∃ n : Just w1, w' = n.w) Q l a → wpStill P ops w1 Q l a
  | [], a, h => h
  | o :: l, a, h => by
    simp only [wpQuiet, wpStill] at h ⊢
    by_cases hw : Region.wanted o (yielded ops a.tmps) = true
    · simp only [hw, if_true] at h ⊢
      obtain ⟨v, h1, h2⟩ := h
      have h3 := h1 w1 ⟨⟨w1, rfl⟩, rfl⟩
      have h4 := still_of_quiet l _ h2
      unfold Oper.quietAt at h3
      unfold Oper.still
      generalize (execOp a.eval o).run P w1 = r at *
      cases r with
      | ok n w' =>
        cases n <;> simp only [Oper.quietUpon] at h3 <;> simp only [Oper.stillUpon]
        case value u => obtain ⟨e1, e2⟩ := h3; exact ⟨e1, by rw [e2]; exact h4⟩
        case skip => obtain ⟨e1, e2⟩ := h3; exact ⟨e1, by rw [← e2]; exact h4⟩
        case enter f args => obtain ⟨e1, e2⟩ := h3; exact ⟨e1, v, e2.mono fun _ _ ⟨he, n, hn⟩ => ⟨he, hn.trans n.eq⟩, h4⟩
      | halt x w' => simp only [Oper.quietUpon] at h3
    · simp only [hw] at h ⊢
      exact still_of_quiet l _ h
theorem wp_region_tail {P : Program} {id : Nat} {Q : Exit → Act → World → Prop} {a : Act} {w : World} {l : List Oper} (n : Nat) (hm : P.follows .mixedOrders = true) (hB : Region.lexTailB .any l.toArray n = true)
    (h : wpQuiet P l.toArray (fun w' => ∃ m : Just w.drew, w' = m.w) (fun a' => wpList P l.toArray Q (l.drop n) a' w.drew) (l.take n) a) : (Code.region id l.toArray true).wp P Q a w :=
  wp_region_still_tail n hm hB (still_of_quiet _ _ h)
end Go.Proofs.YtogeihdfmnohnaaGreatDoor
namespace Go.Proofs.YtogeihdfmnohnaaGreatDoor
open Go.RowKit
def Ret (w : World) (v : Value) (e : Ending) (w' : World) : Prop := e = .returned v ∧ Below w.heap.size w w'
def Same (w : World) (v : Value) (e : Ending) (w' : World) : Prop := e = .returned v ∧ w' = w
theorem ret_bool {a b : Bool} (h : a = b) : Ending.returned (.bool a) = .returned (.bool b) := by rw [h]
theorem ret_int {k : IntKind} {a b : Int} (h : a = b) : Ending.returned (.int k a) = .returned (.int k b) := by rw [h]
def RetRow {α : Type} (E : El α) (t : TypeId) (w : World) (l : List α) (e : Ending) (w' : World) : Prop := ∃ v, e = .returned v ∧ OwnRows E t w' w.heap.size v l ∧ Below w.heap.size w w'
end Go.Proofs.YtogeihdfmnohnaaGreatDoor
namespace Go.Proofs.YtogeihdfmnohnaaGreatDoor
open Go.RowKit
def nameB (s : Bs) : Bool := decide (1 ≤ s.length) && decide (s.length ≤ 12) && !rsv s && (s.take 1).all letterB && s.all partB
theorem size_toList (s : ByteArray) : s.toList.length = s.size := by rw [ByteArray.toList_eq]; simp
theorem get_str (s : ByteArray) (k : Nat) (h : k < s.size) (h' : k < s.toList.length) : s.toList[k] = s[k] := by
  simp only [ByteArray.toList_eq]
  rfl
theorem all_take_succ {p : UInt8 → Bool} {l : Bs} {k : Nat} (h : k < l.length) : (l.take (k + 1)).all p = ((l.take k).all p && p l[k]) := by
  rw [List.take_succ_eq_append_getElem h, List.all_append]
  simp
theorem nameB_of {s : Bs} (h1 : 1 ≤ s.length) (h12 : s.length ≤ 12) : nameB s = (!rsv s && letterB s[0] && s.all partB) := by
  unfold nameB
  rw [decide_eq_true h1, decide_eq_true h12]
  cases s with
  | nil => simp at h1
  | cons a r => simp
set_option maxHeartbeats 400000 in
theorem rValidName_any (s : ByteArray) (w : World) : Calls Tryz.prog 174 #[.string s] w fun e w' => e = .returned (.bool (nameB s.toList)) ∧ w' = w := by
  have hsz := size_toList s
  by_cases h1 : s.size < 1
  · have hn : Hid (nameB s.toList = false) := Lib.hid (by unfold nameB; rw [show decide (1 ≤ s.toList.length) = false from decide_eq_false (by omega)]; rfl)
    go_enter Tryz.func174, Tryz.ntmps174
    go_wp2_with fail
    go_ret
    exact ⟨ret_bool hn.out.symm, rfl⟩
  · by_cases h2 : 12 < s.size
    · have hn : Hid (nameB s.toList = false) := Lib.hid (by unfold nameB; rw [show decide (s.toList.length ≤ 12) = false from decide_eq_false (by omega), Bool.and_false]; rfl)
      go_enter Tryz.func174, Tryz.ntmps174
      go_wp2_with fail
      go_ret
      exact ⟨ret_bool hn.out.symm, rfl⟩
    · have HN := Lib.hid (nameB_of (s := s.toList) (by omega) (by omega))
      have HG := Lib.hid (get_str s)
      have h0 : 0 < s.size := by omega
      have hlen : s.toList.length = s.size := hsz
      generalize nameB s.toList = r at *
      go_enter Tryz.func174, Tryz.ntmps174
      go_wp2_with fail
      refine (Letter_any _ w).mono ?_
      rintro e w' ⟨rfl, hw'⟩
      obtain rfl := hw'.symm
      obtain ⟨b0, hb0⟩ : ∃ b, letterB s[0] = b := ⟨_, rfl⟩
      have HB := Lib.hid hb0
      rw [hb0]
      clear hb0
      cases b0 with
      | false =>
        go_wp2
        go_ret
        exact ⟨ret_bool (by rw [HN.out, HG.out 0 h0 (by omega), HB.out]; simp), rfl⟩
      | true =>
        go_wp2_with fail
        refine (rReserved_any s w).mono ?_
        rintro e w' ⟨rfl, hw'⟩
        obtain rfl := hw'.symm
        obtain ⟨b1, hb1⟩ : ∃ b, rsv s.toList = b := ⟨_, rfl⟩
        have HB1 := Lib.hid hb1
        rw [hb1]
        clear hb1
        cases b1 with
        | true =>
          go_wp2
          go_ret
          exact ⟨ret_bool (by rw [HN.out, HB1.out]; simp), rfl⟩
        | false =>
          have HM : Hid (r = s.toList.all partB) := Lib.hid (by rw [HN.out, HB1.out, HG.out 0 h0 (by omega), HB.out]; simp)
          go_wp2_with fail
          go_loopg [3] s.size (fun m v wq => ∃ k : Nat, v = .int .i64 (k : Int) ∧ k ≤ s.size ∧ s.size ≤ k + m ∧ Hid ((s.toList.take k).all partB = true) ∧ wq = w)
          case atStart => exact ⟨0, rfl, Nat.zero_le _, by omega, Lib.hid (by simp), rfl⟩
          case round =>
            obtain ⟨k, rfl, hk, hkm, hall, rfl⟩ := hrel
            by_cases hlt : k < s.size
            · go_wp2_with fail
              refine (Part_any _ _).mono ?_
              rintro e w' ⟨rfl, hw'⟩
              obtain rfl := hw'.symm
              obtain ⟨b2, hb2⟩ : ∃ b, partB s[k] = b := ⟨_, rfl⟩
              have HB2 := Lib.hid hb2
              rw [hb2]
              clear hb2
              cases b2 with
              | false =>
                go_wp2
                go_ret
                refine ⟨ret_bool ?_, rfl⟩
                rw [HM.out]
                symm
                rw [Bool.eq_false_iff]
                intro h
                have h3 := (List.all_eq_true.1 h) _ (List.getElem_mem (show k < s.toList.length by omega))
                rw [HG.out k hlt (by omega), HB2.out] at h3
                cases h3
              | true =>
                have hnx : Hid ((s.toList.take (k + 1)).all partB = true) := Lib.hid (by rw [all_take_succ (by omega), hall.out, HG.out k hlt (by omega), HB2.out]; rfl)
                go_wp2
                go_roundg (gk - 1)
                case measure => omega
                case rel => exact ⟨k + 1, by go_num, by omega, by omega, hnx, rfl⟩
            · have hfin : Hid (r = true) := Lib.hid (by rw [HM.out, ← hall.out, List.take_of_length_le (by omega)])
              go_wp2
              go_ret
              exact ⟨ret_bool hfin.out.symm, rfl⟩
def OkAt (k : Nat) (n : Int) : Prop := (97 ≤ n ∧ n ≤ 122) ∨ (k ≠ 0 ∧ ((48 ≤ n ∧ n ≤ 57) ∨ n = 95 ∨ n = 45))
theorem partB_iff {c : UInt8} : partB c = true ↔ OkAt 1 c.toNat := by
  unfold partB letterB OkAt
  simp only [Bool.or_eq_true, Bool.and_eq_true, decide_eq_true_eq]
  omega
theorem letterB_iff {c : UInt8} : letterB c = true ↔ OkAt 0 c.toNat := by
  unfold letterB OkAt
  simp only [Bool.and_eq_true, decide_eq_true_eq]
  omega
theorem all_part_iff {s : Bs} (h : 0 < s.length) : (letterB s[0] && s.all partB) = true ↔ ∀ k (hk : k < s.length), OkAt k s[k].toNat := by
  rw [Bool.and_eq_true, letterB_iff, List.all_eq_true]
  constructor
  · rintro ⟨h1, h2⟩ k hk
    have := partB_iff.1 (h2 _ (List.getElem_mem hk))
    rcases Nat.eq_zero_or_pos k with rfl | h0
    · exact h1
    · unfold OkAt at this ⊢
      omega
  · intro h1
    refine ⟨h1 0 h, fun c hc => ?_⟩
    obtain ⟨k, hk, rfl⟩ := List.mem_iff_getElem.1 hc
    rw [partB_iff]
    have := h1 k hk
    unfold OkAt at this ⊢
    omega
set_option maxHeartbeats 800000 in
theorem ValidName_any (s : ByteArray) (w : World) : Calls Tryz.prog 152 #[.string s] w fun e w' => e = .returned (.bool (nameB s.toList)) ∧ w' = w := by
  have hsz := size_toList s
  by_cases h1 : s.size < 1
  · have hn : Hid (nameB s.toList = false) := Lib.hid (by unfold nameB; rw [show decide (1 ≤ s.toList.length) = false from decide_eq_false (by omega)]; rfl)
    go_enter Tryz.func152, Tryz.ntmps152
    go_wp2_with fail
    go_ret
    exact ⟨ret_bool hn.out.symm, rfl⟩
  · by_cases h2 : 12 < s.size
    · have hn : Hid (nameB s.toList = false) := Lib.hid (by unfold nameB; rw [show decide (s.toList.length ≤ 12) = false from decide_eq_false (by omega), Bool.and_false]; rfl)
      go_enter Tryz.func152, Tryz.ntmps152
      go_wp2_with fail
      go_ret
      exact ⟨ret_bool hn.out.symm, rfl⟩
    · have HN := Lib.hid (nameB_of (s := s.toList) (by omega) (by omega))
      have HG := Lib.hid (get_str s)
      have h0 : 0 < s.size := by omega
      have hlen : s.toList.length = s.size := hsz
      have HAP := Lib.hid (all_part_iff (s := s.toList) (by omega))
      generalize nameB s.toList = r at *
      go_enter Tryz.func152, Tryz.ntmps152
      go_wp2_with fail
      refine (Reserved_any s w).mono ?_
      rintro e w' ⟨rfl, hw'⟩
      obtain rfl := hw'.symm
      obtain ⟨b1, hb1⟩ : ∃ b, rsv s.toList = b := ⟨_, rfl⟩
      have HB1 := Lib.hid hb1
      rw [hb1]
      clear hb1
      cases b1 with
      | true =>
        go_wp2
        go_ret
        exact ⟨ret_bool (by rw [HN.out, HB1.out]; simp), rfl⟩
      | false =>
        have HM : Hid (r = (letterB s.toList[0] && s.toList.all partB)) := Lib.hid (by rw [HN.out, HB1.out]; simp)
        have HBad : Hid (∀ k (h : k < s.size), ¬ OkAt k s[k].toNat → false = r) := Lib.hid fun k h hno => by
          symm
          rw [Bool.eq_false_iff, HM.out]
          intro hc
          have := HAP.out.1 hc k (by omega)
          rw [HG.out k h (by omega)] at this
          exact hno this
        have HGood : Hid ((∀ k (h : k < s.size), OkAt k s[k].toNat) → true = r) := Lib.hid fun h => by
          rw [HM.out]
          symm
          refine HAP.out.2 fun k hk => ?_
          rw [HG.out k (by omega) hk]
          exact h k (by omega)
        clear HN HM HB1 HG HAP hlen hsz
        go_wp2_with fail
        go_loopg [21] s.size (fun m v wq => ∃ k : Nat, v = .int .i64 (k : Int) ∧ k ≤ s.size ∧ s.size ≤ k + m ∧ Hid (∀ j (h : j < s.size), j < k → OkAt j s[j].toNat) ∧ wq = w)
        case atStart => exact ⟨0, rfl, Nat.zero_le _, by omega, Lib.hid (fun j _ h => absurd h (by omega)), rfl⟩
        case round =>
          obtain ⟨k, rfl, hk, hkm, hall, rfl⟩ := hrel
          by_cases hlt : k < s.size
          · have hbad := Lib.hid (HBad.out k hlt)
            have hnext : Hid (OkAt k s[k].toNat → ∀ j (h : j < s.size), j < k + 1 → OkAt j s[j].toNat) := Lib.hid fun hk1 j hj h => by
              by_cases e : j = k
              · subst e; exact hk1
              · exact hall.out j hj (by omega)
            have hN : OkAt k s[k].toNat ∨ ¬ OkAt k s[k].toNat := Classical.em _
            have hcl : (97 ≤ (s[k].toNat : Int) ∧ (s[k].toNat : Int) ≤ 122) ∨ (s[k].toNat : Int) < 97 ∨ 122 < (s[k].toNat : Int) := by omega
            have hco : (48 ≤ (s[k].toNat : Int) ∧ (s[k].toNat : Int) ≤ 57) ∨ (s[k].toNat : Int) = 95 ∨ (s[k].toNat : Int) = 45 ∨ ((s[k].toNat : Int) < 48 ∧ ¬ (s[k].toNat : Int) = 45) ∨ (57 < (s[k].toNat : Int) ∧ ¬ (s[k].toNat : Int) = 95) := by omega
            rcases hN with hN | hN
            · have hn := Lib.hid (hnext.out hN)
              unfold OkAt at hN
              clear hbad hnext HBad HGood
              rcases hcl with ⟨ha, hb⟩ | hcl
              · clear hco hN
                go_wp2_with fail
                all_goals
                  go_roundg (gk - 1)
                  case measure => omega
                  case rel => exact ⟨k + 1, by go_num, by omega, by omega, hn, rfl⟩
              · have hk0 : 0 < k := by omega
                have hco2 : (48 ≤ (s[k].toNat : Int) ∧ (s[k].toNat : Int) ≤ 57) ∨ (s[k].toNat : Int) = 95 ∨ (s[k].toNat : Int) = 45 := by omega
                clear hN hco
                rcases hcl with ha | ha
                all_goals rcases hco2 with ⟨hb, hc⟩ | hb | hb
                all_goals first
                  | (exfalso; omega)
                  | (go_wp2_with fail
                     go_roundg (gk - 1)
                     case measure => omega
                     case rel => exact ⟨k + 1, by go_num, by omega, by omega, hn, rfl⟩)
            · have hb0 := Lib.hid (hbad.out hN)
              clear hbad hnext HBad HGood
              have hcl2 : (s[k].toNat : Int) < 97 ∨ 122 < (s[k].toNat : Int) := by unfold OkAt at hN; omega
              have hk1 : k = 0 ∨ (0 < k ∧ (((s[k].toNat : Int) < 48 ∧ ¬ (s[k].toNat : Int) = 45) ∨ (57 < (s[k].toNat : Int) ∧ ¬ (s[k].toNat : Int) = 95))) := by unfold OkAt at hN; omega
              clear hN hcl hco
              rcases hk1 with rfl | ⟨hk0, hco⟩
              · rcases hcl2 with ha | ha
                all_goals
                  go_wp2_with fail
                  all_goals first
                    | (go_ret
                       exact ⟨ret_bool hb0.out, rfl⟩)
                    | (exfalso
                       have d1 : decide ((s[0].toNat : Int) ≤ 122) = false := decide_eq_false (by omega)
                       simp_all)
              · rcases hcl2 with ha | ha
                all_goals rcases hco with ⟨hb, hc⟩ | ⟨hb, hc⟩
                all_goals first
                  | (exfalso; omega)
                  | (have e1 : ((s[k].toNat : Int) == 95) = false := beq_eq_false_iff_ne.2 (by omega)
                     have e2 : ((s[k].toNat : Int) == 45) = false := beq_eq_false_iff_ne.2 (by omega)
                     try have e3 : decide ((s[k].toNat : Int) ≤ 57) = false := decide_eq_false (by omega)
                     try have e4 : decide ((s[k].toNat : Int) ≤ 122) = false := decide_eq_false (by omega)
                     go_wp2_with fail
                     all_goals
                       go_ret
                       exact ⟨ret_bool hb0.out, rfl⟩)
          · go_wp2
            go_ret
            exact ⟨ret_bool (HGood.out fun j hj => hall.out j hj (by omega)), rfl⟩
end Go.Proofs.YtogeihdfmnohnaaGreatDoor
namespace Go.Proofs.YtogeihdfmnohnaaGreatDoor
open Go.RowKit
structure Rs where
  name : ByteArray
  kind : Int
  units : Int
  home : Int
deriving Inhabited
abbrev Ct := List Rs
def Rs.key (r : Rs) : Bs := r.name.toList
def Rs.cells (r : Rs) : List Value := [.string r.name, .int .i64 r.kind, .int .i64 r.units, .int .i64 r.home]
def Rs.val (r : Rs) : Value := .agg #[.string r.name, .int .i64 r.kind, .int .i64 r.units, .int .i64 r.home]
def resE : El Rs := El.plain 4 (by decide) Rs.cells (fun _ => rfl) (by intro x u hu; simp [Rs.cells] at hu; rcases hu with rfl | rfl | rfl | rfl <;> rfl)
def Rs.Fit (r : Rs) : Prop := r.name.size ≤ maxLen ∧ I64 r.kind ∧ I64 r.units ∧ I64 r.home
theorem toList_inj {a b : ByteArray} (h : a.toList = b.toList) : a = b := by
  rw [ByteArray.toList_eq, ByteArray.toList_eq] at h
  have h2 : a.data = b.data := Array.toList_inj.1 h
  cases a
  cases b
  simpa using h2
def shapedB (r : Rs) : Bool := (decide (r.kind = 1) && decide (r.units = 1)) || (decide (r.kind = 2) && decide (1 ≤ r.units) && decide (r.units ≤ 8))
def resB (r : Rs) : Bool := nameB r.key && shapedB r && decide (0 ≤ r.home) && decide (r.home < 4)
def Sorted (l : Ct) : Prop := ∀ i (h : i + 1 < l.length), l[i].key < l[i + 1].key
def VCat (l : Ct) : Prop := l.length ≤ 8 ∧ (∀ i (h : i < l.length), resB l[i] = true) ∧ Sorted l
theorem VCat.nil : VCat [] := ⟨by simp, fun i h => absurd h (by simp), fun i h => absurd h (by simp)⟩
theorem Sorted.lt {l : Ct} (h : Sorted l) : ∀ j i (hj : j < l.length) (hi : i < j), l[i].key < l[j].key := by
  intro j
  induction j with
  | zero => intro i _ hi; omega
  | succ j ih =>
    intro i hj hi
    have h1 := h j hj
    by_cases e : i = j
    · subst e; exact h1
    · exact List.lt_trans (ih i (by omega) (by omega)) h1
theorem Sorted.inj {l : Ct} (h : Sorted l) {i j : Nat} (hi : i < l.length) (hj : j < l.length) (e : l[i].key = l[j].key) : i = j := by
  rcases Nat.lt_trichotomy i j with hlt | he | hgt
  · exact absurd (h.lt j i hj hlt) (by rw [e]; exact List.lt_irrefl _)
  · exact he
  · exact absurd (h.lt i j hi hgt) (by rw [e]; exact List.lt_irrefl _)
end Go.Proofs.YtogeihdfmnohnaaGreatDoor
namespace Go.Proofs.YtogeihdfmnohnaaGreatDoor
open Go.RowKit
set_option maxHeartbeats 400000 in
theorem rShaped_any (r : Rs) (w : World) : Calls Tryz.prog 106 #[r.val] w (Ret w (.bool (shapedB r))) := by
  obtain ⟨nm, k, u, h⟩ := r
  unfold Rs.val shapedB
  go_enter Tryz.func106, Tryz.ntmps106
  go_wp2
  all_goals go_ret
  all_goals refine ⟨ret_bool ?_, (Below.refl _ _).alloc (Nat.le_refl _) _⟩
  all_goals (first | rfl | (simp_all; done) | (simp_all; omega) | (rw [Bool.eq_iff_iff]; simp_all; done) | (rw [Bool.eq_iff_iff]; simp_all; omega))
set_option maxHeartbeats 400000 in
theorem Shaped_any (r : Rs) (w : World) : Calls Tryz.prog 92 #[r.val] w (Ret w (.bool (shapedB r))) := by
  obtain ⟨nm, k, u, h⟩ := r
  unfold Rs.val shapedB
  go_enter Tryz.func92, Tryz.ntmps92
  go_wp2
  all_goals go_ret
  all_goals refine ⟨ret_bool ?_, (Below.refl _ _).alloc (Nat.le_refl _) _⟩
  all_goals (first | rfl | (simp_all; done) | (simp_all; omega) | (rw [Bool.eq_iff_iff]; simp_all; done) | (rw [Bool.eq_iff_iff]; simp_all; omega))
set_option maxHeartbeats 400000 in
theorem ValidRes_any (r : Rs) (w : World) : Calls Tryz.prog 149 #[r.val] w (Ret w (.bool (resB r))) := by
  have HS := Lib.hid (fun w => Shaped_any r w)
  have HN := Lib.hid (fun w => ValidName_any r.name w)
  unfold resB Rs.key
  obtain ⟨b1, hb1⟩ : ∃ b, nameB r.name.toList = b := ⟨_, rfl⟩
  obtain ⟨b2, hb2⟩ : ∃ b, shapedB r = b := ⟨_, rfl⟩
  rw [hb1] at HN ⊢
  rw [hb2] at HS ⊢
  clear hb1 hb2
  obtain ⟨nm, k, u, h⟩ := r
  unfold Rs.val at HS ⊢
  go_enter Tryz.func149, Tryz.ntmps149
  go_wp2_with fail
  refine (HN.out _).mono ?_
  rintro e w' ⟨rfl, hw'⟩
  obtain rfl := hw'.symm
  cases b1 with
  | false =>
    go_wp2
    go_ret
    exact ⟨ret_bool (by simp), (Below.refl _ _).alloc (Nat.le_refl _) _⟩
  | true =>
    go_wp2_with fail
    refine (HS.out _).mono ?_
    rintro e w' ⟨rfl, hb⟩
    have hbb := ((Below.refl w.heap.size w).alloc (Nat.le_refl _) _).trans (hb.mono (by simp))
    obtain ⟨hc, hz⟩ : (∀ b o, b < w.heap.size + 1 → w'.cell? ⟨b, o, none⟩ = (w.alloc (.cells #[.string nm, .int .i64 k, .int .i64 u, .int .i64 h] 44)).cell? ⟨b, o, none⟩) ∧ w.heap.size + 1 ≤ w'.heap.size :=
      ⟨fun b o hlt => hb.cell (p := ⟨b, o, none⟩) (by simpa using hlt), by simpa using hb.size⟩
    clear hb
    go_wp2
    all_goals go_ret
    all_goals refine ⟨ret_bool ?_, hbb⟩
    all_goals (clear hbb hc hz HS HN)
    all_goals (first | rfl | (simp_all; done) | (simp_all; omega) | (rw [Bool.eq_iff_iff]; simp_all; done) | (rw [Bool.eq_iff_iff]; simp_all; omega))
set_option maxHeartbeats 800000 in
theorem rValidRes_any (r : Rs) (w : World) : Calls Tryz.prog 168 #[r.val] w (Ret w (.bool (resB r))) := by
  have HS := Lib.hid (fun w => rShaped_any r w)
  have HN := Lib.hid (fun w => rValidName_any r.name w)
  unfold resB Rs.key
  obtain ⟨b1, hb1⟩ : ∃ b, nameB r.name.toList = b := ⟨_, rfl⟩
  obtain ⟨b2, hb2⟩ : ∃ b, shapedB r = b := ⟨_, rfl⟩
  rw [hb1] at HN ⊢
  rw [hb2] at HS ⊢
  clear hb1 hb2
  obtain ⟨nm, k, u, h⟩ := r
  unfold Rs.val at HS ⊢
  go_enter Tryz.func168, Tryz.ntmps168
  go_wp2_with fail
  refine (HN.out _).mono ?_
  rintro e w' ⟨rfl, hw'⟩
  obtain rfl := hw'.symm
  cases b1 with
  | false =>
    go_wp2
    go_ret
    exact ⟨ret_bool (by simp), (Below.refl _ _).alloc (Nat.le_refl _) _⟩
  | true =>
    go_wp2_with fail
    refine (HS.out _).mono ?_
    rintro e w' ⟨rfl, hb⟩
    have hbb := ((Below.refl w.heap.size w).alloc (Nat.le_refl _) _).trans (hb.mono (by simp))
    obtain ⟨hc, hz⟩ : (∀ b o, b < w.heap.size + 1 → w'.cell? ⟨b, o, none⟩ = (w.alloc (.cells #[.string nm, .int .i64 k, .int .i64 u, .int .i64 h] 44)).cell? ⟨b, o, none⟩) ∧ w.heap.size + 1 ≤ w'.heap.size :=
      ⟨fun b o hlt => hb.cell (p := ⟨b, o, none⟩) (by simpa using hlt), by simpa using hb.size⟩
    clear hb
    go_wp2
    all_goals go_ret
    all_goals refine ⟨ret_bool ?_, hbb⟩
    all_goals (clear hbb hc hz HS HN)
    all_goals (first | rfl | (simp_all; done) | (simp_all; omega) | (rw [Bool.eq_iff_iff]; simp_all; done) | (rw [Bool.eq_iff_iff]; simp_all; omega))
end Go.Proofs.YtogeihdfmnohnaaGreatDoor
namespace Go.Proofs.YtogeihdfmnohnaaGreatDoor
structure Pr where
  site : Int
  inc : Int
  num : Int
  deriving DecidableEq
structure St where
  time : Int
  site : Int
  deriving DecidableEq
def vpB (p : Pr) : Bool := decide (0 ≤ p.site) && decide (p.site ≤ 3) && (decide (1 ≤ p.inc) && decide (p.inc ≤ 99)) && (decide (1 ≤ p.num) && decide (p.num ≤ 999))
def ordI (a b : Int) : Int := if a < b then -1 else if b < a then 1 else 0
def cmpP (p q : Pr) : Int := if ordI p.site q.site ≠ 0 then ordI p.site q.site else if ordI p.inc q.inc ≠ 0 then ordI p.inc q.inc else ordI p.num q.num
def zeroP : Pr := ⟨0, 0, 0⟩
end Go.Proofs.YtogeihdfmnohnaaGreatDoor
namespace Go.Proofs.YtogeihdfmnohnaaGreatDoor
theorem ordI_cases (a b : Int) : (a < b ∧ ordI a b = -1) ∨ (a = b ∧ ordI a b = 0) ∨ (b < a ∧ ordI a b = 1) := by
  unfold ordI
  split
  · exact Or.inl ⟨by assumption, rfl⟩
  · split
    · exact Or.inr (Or.inr ⟨by assumption, rfl⟩)
    · exact Or.inr (Or.inl ⟨by omega, rfl⟩)
def LtP (p q : Pr) : Prop := p.site < q.site ∨ p.site = q.site ∧ (p.inc < q.inc ∨ p.inc = q.inc ∧ p.num < q.num)
theorem cmpP_cases (p q : Pr) : (LtP p q ∧ cmpP p q = -1) ∨ (p = q ∧ cmpP p q = 0) ∨ (LtP q p ∧ cmpP p q = 1) := by
  unfold cmpP LtP
  rcases ordI_cases p.site q.site with ⟨h, e⟩ | ⟨h, e⟩ | ⟨h, e⟩ <;> rw [e]
  · exact Or.inl ⟨Or.inl h, rfl⟩
  · rw [if_neg (by decide)]
    rcases ordI_cases p.inc q.inc with ⟨h2, e⟩ | ⟨h2, e⟩ | ⟨h2, e⟩ <;> rw [e]
    · exact Or.inl ⟨Or.inr ⟨h, Or.inl h2⟩, rfl⟩
    · rw [if_neg (by decide)]
      rcases ordI_cases p.num q.num with ⟨h3, e⟩ | ⟨h3, e⟩ | ⟨h3, e⟩ <;> rw [e]
      · exact Or.inl ⟨Or.inr ⟨h, Or.inr ⟨h2, h3⟩⟩, rfl⟩
      · refine Or.inr (Or.inl ⟨?_, rfl⟩)
        cases p; cases q
        simp_all
      · exact Or.inr (Or.inr ⟨Or.inr ⟨h.symm, Or.inr ⟨h2.symm, h3⟩⟩, rfl⟩)
    · exact Or.inr (Or.inr ⟨Or.inr ⟨h.symm, Or.inl h2⟩, rfl⟩)
  · exact Or.inr (Or.inr ⟨Or.inl h, rfl⟩)
theorem LtP_irrefl (p : Pr) : ¬ LtP p p := by
  unfold LtP
  omega
theorem LtP_trans {p q r : Pr} (h1 : LtP p q) (h2 : LtP q r) : LtP p r := by
  unfold LtP at *
  omega
theorem LtP_asymm {p q : Pr} (h1 : LtP p q) : ¬ LtP q p := fun h2 => LtP_irrefl p (LtP_trans h1 h2)
theorem cmpP_zero (p q : Pr) : cmpP p q = 0 ↔ p = q := by
  rcases cmpP_cases p q with ⟨h, e⟩ | ⟨h, e⟩ | ⟨h, e⟩ <;> rw [e]
  · exact ⟨fun c => absurd c (by decide), fun c => absurd h (by rw [c]; exact LtP_irrefl _)⟩
  · exact ⟨fun _ => h, fun _ => rfl⟩
  · exact ⟨fun c => absurd c (by decide), fun c => absurd h (by rw [c]; exact LtP_irrefl _)⟩
end Go.Proofs.YtogeihdfmnohnaaGreatDoor
