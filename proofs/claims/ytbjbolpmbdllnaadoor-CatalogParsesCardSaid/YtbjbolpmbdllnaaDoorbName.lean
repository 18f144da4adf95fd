/- ValidName, the program's and the document's. -/
import Derived.Test.YtbjbolpmbdllnaaDoorbNames
import Derived.Test.YtbjbolpmbdllnaaDoorDat
namespace Go.Proofs.YtbjbolpmbdllnaaDoor
open Go.RowKit

theorem ret_bool {a b : Bool} (h : a = b) : Ending.returned (.bool a) = .returned (.bool b) := by rw [h]
theorem ret_int {k : IntKind} {a b : Int} (h : a = b) : Ending.returned (.int k a) = .returned (.int k b) := by rw [h]

def nameB (s : Bs) : Bool := decide (1 ≤ s.length) && decide (s.length ≤ 12) && !rsv s && (s.take 1).all letterB && s.all partB

theorem size_toList (s : ByteArray) : s.toList.length = s.size := by rw [ByteArray.toList_eq]; simp
theorem index_str (s : ByteArray) (k : Nat) (h : k < s.toList.length) (w : World) : (Instr.index 9 (.string s) (.int .i64 (k : Int))).run Tryd.prog w = .ok (.int .u8 ((s.toList[k]).toNat : Nat)) w := by
  have h' : k < s.size := by rw [← size_toList]; exact h
  rw [run_index_string w _ s _ _ Tryd.underlying9, dif_pos ⟨by omega, by omega⟩]
  simp only [ByteArray.toList_eq, Int.toNat_natCast]
  rfl

theorem get_str (s : ByteArray) (k : Nat) (h : k < s.size) (h' : k < s.toList.length) : s.toList[k] = s[k] := by
  simp only [ByteArray.toList_eq]
  rfl
theorem all_take_succ {p : UInt8 → Bool} {l : Bs} {k : Nat} (h : k < l.length) : (l.take (k + 1)).all p = ((l.take k).all p && p l[k]) := by
  rw [List.take_succ_eq_append_getElem h, List.all_append]
  simp

theorem nameB_of {s : Bs} (h1 : 1 ≤ s.length) (h12 : s.length ≤ 12) : nameB s = (!rsv s && letterB s[0] && s.all partB) := by
  unfold nameB
  rw [decide_eq_true h1, decide_eq_true h12]
  cases s with
  | nil => simp at h1
  | cons a r => simp

set_option maxHeartbeats 400000 in
theorem rValidName_any (s : ByteArray) (w : World) : Calls Tryd.prog 30 #[.string s] w fun e w' => e = .returned (.bool (nameB s.toList)) ∧ w' = w := by
  have hsz := size_toList s
  by_cases h1 : s.size < 1
  · have hn : Hid (nameB s.toList = false) := Lib.hid (by unfold nameB; rw [show decide (1 ≤ s.toList.length) = false from decide_eq_false (by omega)]; rfl)
    go_enter Tryd.func30, Tryd.ntmps30
    go_wp2_with fail
    go_ret
    exact ⟨ret_bool hn.out.symm, rfl⟩
  · by_cases h2 : 12 < s.size
    · have hn : Hid (nameB s.toList = false) := Lib.hid (by unfold nameB; rw [show decide (s.toList.length ≤ 12) = false from decide_eq_false (by omega), Bool.and_false]; rfl)
      go_enter Tryd.func30, Tryd.ntmps30
      go_wp2_with fail
      go_ret
      exact ⟨ret_bool hn.out.symm, rfl⟩
    · have HN := Lib.hid (nameB_of (s := s.toList) (by omega) (by omega))
      have HG := Lib.hid (get_str s)
      have h0 : 0 < s.size := by omega
      have hlen : s.toList.length = s.size := hsz
      generalize nameB s.toList = r at *
      go_enter Tryd.func30, Tryd.ntmps30
      go_wp2_with fail
      refine (Letter_any _ w).mono ?_
      rintro e w' ⟨rfl, hw'⟩
      obtain rfl := hw'.symm
      obtain ⟨b0, hb0⟩ : ∃ b, letterB s[0] = b := ⟨_, rfl⟩
      have HB := Lib.hid hb0
      rw [hb0]
      clear hb0
      cases b0 with
      | false =>
        go_wp2
        go_ret
        exact ⟨ret_bool (by rw [HN.out, HG.out 0 h0 (by omega), HB.out]; simp), rfl⟩
      | true =>
        go_wp2_with fail
        refine (rReserved_any s w).mono ?_
        rintro e w' ⟨rfl, hw'⟩
        obtain rfl := hw'.symm
        obtain ⟨b1, hb1⟩ : ∃ b, rsv s.toList = b := ⟨_, rfl⟩
        have HB1 := Lib.hid hb1
        rw [hb1]
        clear hb1
        cases b1 with
        | true =>
          go_wp2
          go_ret
          exact ⟨ret_bool (by rw [HN.out, HB1.out]; simp), rfl⟩
        | false =>
          have HM : Hid (r = s.toList.all partB) := Lib.hid (by rw [HN.out, HB1.out, HG.out 0 h0 (by omega), HB.out]; simp)
          go_wp2_with fail
          go_loopg [3] s.size (fun m v wq => ∃ k : Nat, v = .int .i64 (k : Int) ∧ k ≤ s.size ∧ s.size ≤ k + m ∧ Hid ((s.toList.take k).all partB = true) ∧ wq = w)
          case atStart => exact ⟨0, rfl, Nat.zero_le _, by omega, Lib.hid (by simp), rfl⟩
          case round =>
            obtain ⟨k, rfl, hk, hkm, hall, rfl⟩ := hrel
            by_cases hlt : k < s.size
            · go_wp2_with fail
              refine (Part_any _ _).mono ?_
              rintro e w' ⟨rfl, hw'⟩
              obtain rfl := hw'.symm
              obtain ⟨b2, hb2⟩ : ∃ b, partB s[k] = b := ⟨_, rfl⟩
              have HB2 := Lib.hid hb2
              rw [hb2]
              clear hb2
              cases b2 with
              | false =>
                go_wp2
                go_ret
                refine ⟨ret_bool ?_, rfl⟩
                rw [HM.out]
                symm
                rw [Bool.eq_false_iff]
                intro h
                have h3 := (List.all_eq_true.1 h) _ (List.getElem_mem (show k < s.toList.length by omega))
                rw [HG.out k hlt (by omega), HB2.out] at h3
                cases h3
              | true =>
                have hnx : Hid ((s.toList.take (k + 1)).all partB = true) := Lib.hid (by rw [all_take_succ (by omega), hall.out, HG.out k hlt (by omega), HB2.out]; rfl)
                go_wp2
                go_roundg (gk - 1)
                case measure => omega
                case rel => exact ⟨k + 1, by go_num, by omega, by omega, hnx, rfl⟩
            · have hfin : Hid (r = true) := Lib.hid (by rw [HM.out, ← hall.out, List.take_of_length_le (by omega)])
              go_wp2
              go_ret
              exact ⟨ret_bool hfin.out.symm, rfl⟩

/-- c may stand at place k of a name. -/
def OkAt (k : Nat) (n : Int) : Prop := (97 ≤ n ∧ n ≤ 122) ∨ (k ≠ 0 ∧ ((48 ≤ n ∧ n ≤ 57) ∨ n = 95 ∨ n = 45))
theorem partB_iff {c : UInt8} : partB c = true ↔ OkAt 1 c.toNat := by
  unfold partB letterB OkAt
  simp only [Bool.or_eq_true, Bool.and_eq_true, decide_eq_true_eq]
  omega
theorem letterB_iff {c : UInt8} : letterB c = true ↔ OkAt 0 c.toNat := by
  unfold letterB OkAt
  simp only [Bool.and_eq_true, decide_eq_true_eq]
  omega
theorem all_part_iff {s : Bs} (h : 0 < s.length) : (letterB s[0] && s.all partB) = true ↔ ∀ k (hk : k < s.length), OkAt k s[k].toNat := by
  rw [Bool.and_eq_true, letterB_iff, List.all_eq_true]
  constructor
  · rintro ⟨h1, h2⟩ k hk
    have := partB_iff.1 (h2 _ (List.getElem_mem hk))
    rcases Nat.eq_zero_or_pos k with rfl | h0
    · exact h1
    · unfold OkAt at this ⊢
      omega
  · intro h1
    refine ⟨h1 0 h, fun c hc => ?_⟩
    obtain ⟨k, hk, rfl⟩ := List.mem_iff_getElem.1 hc
    rw [partB_iff]
    have := h1 k hk
    unfold OkAt at this ⊢
    omega

set_option maxHeartbeats 800000 in
theorem ValidName_any (s : ByteArray) (w : World) : Calls Tryd.prog 17 #[.string s] w fun e w' => e = .returned (.bool (nameB s.toList)) ∧ w' = w := by
  have hsz := size_toList s
  by_cases h1 : s.size < 1
  · have hn : Hid (nameB s.toList = false) := Lib.hid (by unfold nameB; rw [show decide (1 ≤ s.toList.length) = false from decide_eq_false (by omega)]; rfl)
    go_enter Tryd.func17, Tryd.ntmps17
    go_wp2_with fail
    go_ret
    exact ⟨ret_bool hn.out.symm, rfl⟩
  · by_cases h2 : 12 < s.size
    · have hn : Hid (nameB s.toList = false) := Lib.hid (by unfold nameB; rw [show decide (s.toList.length ≤ 12) = false from decide_eq_false (by omega), Bool.and_false]; rfl)
      go_enter Tryd.func17, Tryd.ntmps17
      go_wp2_with fail
      go_ret
      exact ⟨ret_bool hn.out.symm, rfl⟩
    · have HN := Lib.hid (nameB_of (s := s.toList) (by omega) (by omega))
      have HG := Lib.hid (get_str s)
      have h0 : 0 < s.size := by omega
      have hlen : s.toList.length = s.size := hsz
      have HAP := Lib.hid (all_part_iff (s := s.toList) (by omega))
      generalize nameB s.toList = r at *
      go_enter Tryd.func17, Tryd.ntmps17
      go_wp2_with fail
      refine (Reserved_any s w).mono ?_
      rintro e w' ⟨rfl, hw'⟩
      obtain rfl := hw'.symm
      obtain ⟨b1, hb1⟩ : ∃ b, rsv s.toList = b := ⟨_, rfl⟩
      have HB1 := Lib.hid hb1
      rw [hb1]
      clear hb1
      cases b1 with
      | true =>
        go_wp2
        go_ret
        exact ⟨ret_bool (by rw [HN.out, HB1.out]; simp), rfl⟩
      | false =>
        have HM : Hid (r = (letterB s.toList[0] && s.toList.all partB)) := Lib.hid (by rw [HN.out, HB1.out]; simp)
        have HBad : Hid (∀ k (h : k < s.size), ¬ OkAt k s[k].toNat → false = r) := Lib.hid fun k h hno => by
          symm
          rw [Bool.eq_false_iff, HM.out]
          intro hc
          have := HAP.out.1 hc k (by omega)
          rw [HG.out k h (by omega)] at this
          exact hno this
        have HGood : Hid ((∀ k (h : k < s.size), OkAt k s[k].toNat) → true = r) := Lib.hid fun h => by
          rw [HM.out]
          symm
          refine HAP.out.2 fun k hk => ?_
          rw [HG.out k (by omega) hk]
          exact h k (by omega)
        clear HN HM HB1 HG HAP hlen hsz
        go_wp2_with fail
        go_loopg [21] s.size (fun m v wq => ∃ k : Nat, v = .int .i64 (k : Int) ∧ k ≤ s.size ∧ s.size ≤ k + m ∧ Hid (∀ j (h : j < s.size), j < k → OkAt j s[j].toNat) ∧ wq = w)
        case atStart => exact ⟨0, rfl, Nat.zero_le _, by omega, Lib.hid (fun j _ h => absurd h (by omega)), rfl⟩
        case round =>
          obtain ⟨k, rfl, hk, hkm, hall, rfl⟩ := hrel
          by_cases hlt : k < s.size
          · have hbad := Lib.hid (HBad.out k hlt)
            have hnext : Hid (OkAt k s[k].toNat → ∀ j (h : j < s.size), j < k + 1 → OkAt j s[j].toNat) := Lib.hid fun hk1 j hj h => by
              by_cases e : j = k
              · subst e; exact hk1
              · exact hall.out j hj (by omega)
            have hN : OkAt k s[k].toNat ∨ ¬ OkAt k s[k].toNat := Classical.em _
            have hcl : (97 ≤ (s[k].toNat : Int) ∧ (s[k].toNat : Int) ≤ 122) ∨ (s[k].toNat : Int) < 97 ∨ 122 < (s[k].toNat : Int) := by omega
            have hco : (48 ≤ (s[k].toNat : Int) ∧ (s[k].toNat : Int) ≤ 57) ∨ (s[k].toNat : Int) = 95 ∨ (s[k].toNat : Int) = 45 ∨ ((s[k].toNat : Int) < 48 ∧ ¬ (s[k].toNat : Int) = 45) ∨ (57 < (s[k].toNat : Int) ∧ ¬ (s[k].toNat : Int) = 95) := by omega
            rcases hN with hN | hN
            · have hn := Lib.hid (hnext.out hN)
              unfold OkAt at hN
              clear hbad hnext HBad HGood
              rcases hcl with ⟨ha, hb⟩ | hcl
              · clear hco hN
                go_wp2_with fail
                all_goals
                  go_roundg (gk - 1)
                  case measure => omega
                  case rel => exact ⟨k + 1, by go_num, by omega, by omega, hn, rfl⟩
              · have hk0 : 0 < k := by omega
                have hco2 : (48 ≤ (s[k].toNat : Int) ∧ (s[k].toNat : Int) ≤ 57) ∨ (s[k].toNat : Int) = 95 ∨ (s[k].toNat : Int) = 45 := by omega
                clear hN hco
                rcases hcl with ha | ha
                all_goals rcases hco2 with ⟨hb, hc⟩ | hb | hb
                all_goals first
                  | (exfalso; omega)
                  | (go_wp2_with fail
                     go_roundg (gk - 1)
                     case measure => omega
                     case rel => exact ⟨k + 1, by go_num, by omega, by omega, hn, rfl⟩)
            · have hb0 := Lib.hid (hbad.out hN)
              clear hbad hnext HBad HGood
              have hcl2 : (s[k].toNat : Int) < 97 ∨ 122 < (s[k].toNat : Int) := by unfold OkAt at hN; omega
              have hk1 : k = 0 ∨ (0 < k ∧ (((s[k].toNat : Int) < 48 ∧ ¬ (s[k].toNat : Int) = 45) ∨ (57 < (s[k].toNat : Int) ∧ ¬ (s[k].toNat : Int) = 95))) := by unfold OkAt at hN; omega
              clear hN hcl hco
              rcases hk1 with rfl | ⟨hk0, hco⟩
              · rcases hcl2 with ha | ha
                all_goals
                  go_wp2_with fail
                  all_goals first
                    | (go_ret
                       exact ⟨ret_bool hb0.out, rfl⟩)
                    | (exfalso
                       have d1 : decide ((s[0].toNat : Int) ≤ 122) = false := decide_eq_false (by omega)
                       simp_all)
              · rcases hcl2 with ha | ha
                all_goals rcases hco with ⟨hb, hc⟩ | ⟨hb, hc⟩
                all_goals first
                  | (exfalso; omega)
                  | (have e1 : ((s[k].toNat : Int) == 95) = false := beq_eq_false_iff_ne.2 (by omega)
                     have e2 : ((s[k].toNat : Int) == 45) = false := beq_eq_false_iff_ne.2 (by omega)
                     try have e3 : decide ((s[k].toNat : Int) ≤ 57) = false := decide_eq_false (by omega)
                     try have e4 : decide ((s[k].toNat : Int) ≤ 122) = false := decide_eq_false (by omega)
                     go_wp2_with fail
                     all_goals
                       go_ret
                       exact ⟨ret_bool hb0.out, rfl⟩)
          · go_wp2
            go_ret
            exact ⟨ret_bool (HGood.out fun j hj => hall.out j hj (by omega)), rfl⟩
end Go.Proofs.YtbjbolpmbdllnaaDoor
