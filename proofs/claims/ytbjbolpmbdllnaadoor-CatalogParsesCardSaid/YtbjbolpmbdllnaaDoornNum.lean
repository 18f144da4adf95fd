/- Number, the document's. -/
import Derived.Test.YtbjbolpmbdllnaaDoornPlain
namespace Go.Proofs.YtbjbolpmbdllnaaDoor
open Go.RowKit

/-- The call returns v and leaves the world alone. -/
def Same (w : World) (v : Value) (e : Ending) (w' : World) : Prop := e = .returned v ∧ w' = w
def numV : Option Int → Value
  | some x => .tuple #[.int .i64 x, .bool true]
  | none => .tuple #[.int .i64 0, .bool false]
theorem numV_no {s : List UInt8} (h : numB s = false) : numV (numS s) = .tuple #[.int .i64 0, .bool false] := by
  unfold numS
  rw [h]
  rfl
theorem take_snoc (s : ByteArray) (k : Nat) (h : k < s.size) : s.data.toList.take (k + 1) = s.data.toList.take k ++ [s[k]] := by
  rw [List.take_succ_eq_append_getElem (by simpa using h)]; rfl
theorem valD_bound : ∀ (n : Nat) (l : List UInt8), l.length = n → (∀ c ∈ l, digB c = true) → valD l < 10 ^ n
  | 0, l, h, _ => by rw [List.length_eq_zero_iff.1 h]; decide
  | n + 1, l, h, hd => by
    obtain ⟨r, c, rfl⟩ : ∃ r c, l = r ++ [c] := ⟨l.dropLast, l.getLast (by intro e; rw [e] at h; simp at h), (List.dropLast_concat_getLast _).symm⟩
    have hc := hd c (by simp)
    unfold digB at hc
    simp at hc
    have := valD_bound n r (by simpa using h) (fun x hx => hd x (List.mem_append_left _ hx))
    rw [valD_snoc, Nat.pow_succ]
    omega

set_option maxHeartbeats 1600000 in
theorem Number_any (s : ByteArray) (w : World) : Calls Tryd.prog 23 #[.string s] w (Same w (numV (numS s.data.toList))) := by
  have hlen : s.data.toList.length = s.size := by simp
  have hno := fun h => numV_no (s := s.data.toList) h
  have HNO := Lib.hid hno
  clear hno
  obtain ⟨v, hv⟩ : ∃ v, numV (numS s.data.toList) = v := ⟨_, rfl⟩
  rw [hv] at HNO ⊢
  have HV := Lib.hid hv
  have HL := Lib.hid hlen
  clear hv hlen
  by_cases h1 : s.size < 1
  · have hv := HNO.out (by unfold numB; rw [HL.out]; simp; omega)
    have h1' : (s.size : Int) < 1 := by omega
    go_enter Tryd.func23, Tryd.ntmps23
    go_wp2
    go_ret2
    exact ⟨by rw [hv]; rfl, rfl⟩
  · by_cases h2 : 4 < s.size
    · have hv := HNO.out (by unfold numB; rw [HL.out]; simp; omega)
      have HVV := Lib.hid hv
      clear hv
      go_enter Tryd.func23, Tryd.ntmps23
      go_wp2
      go_ret2
      exact ⟨by rw [HVV.out]; rfl, rfl⟩
    · have h0s : 0 < s.size := by omega
      have hhd : s.data.toList.head? = some s[0] := by
        rw [List.head?_eq_getElem?, List.getElem?_eq_getElem (by simpa using h0s)]
        rfl
      by_cases h3 : 1 < s.size ∧ s[0].toNat = 48
      · obtain ⟨h3, h4⟩ := h3
        have hv := HNO.out (by unfold numB; rw [HL.out, hhd]; have : s[0] = 48 := UInt8.toNat_inj.1 (by rw [h4]; rfl); simp [this]; omega)
        have HVV := Lib.hid hv
        have h4' : ((s[0].toNat : Int) == 48) = true := beq_iff_eq.2 (by omega)
        clear hv h4 hhd
        go_enter Tryd.func23, Tryd.ntmps23
        go_wp2
        go_ret2
        exact ⟨by rw [HVV.out]; rfl, rfl⟩
      · have HH : Hid ((1 < s.data.toList.length && s.data.toList.head? == some 48) = false) := Lib.hid (by
          rw [HL.out, hhd]
          rw [Bool.eq_false_iff]
          intro h
          simp at h
          exact h3 ⟨h.1, by rw [h.2]; rfl⟩)
        have h4' : (1 : Int) < (s.size : Int) → ((s[0].toNat : Int) == 48) = false := fun h => beq_eq_false_iff_ne.2 (fun e => h3 ⟨by omega, by omega⟩)
        clear hhd
        have HL4 : Hid (s.size ≤ 4) := Lib.hid (by omega)
        go_enter Tryd.func23, Tryd.ntmps23
        go_wp2
        all_goals
          go_loop [4, 5] (fun n i => ∃ k : Nat, k ≤ s.size ∧ i = .int .i64 k ∧ n = .int .i64 (valD (s.data.toList.take k)) ∧ valD (s.data.toList.take k) < 10000 ∧ Hid (∀ c ∈ s.data.toList.take k, digB c = true)) (fun _ i => s.size - (intOf i).toNat)
          case atStart => exact ⟨0, Nat.zero_le _, rfl, rfl, by simp [valD], Lib.hid (by simp)⟩
          case round =>
            obtain ⟨k, hk, rfl, rfl, hvb, HD⟩ := hrel
            by_cases hlt : k < s.size
            · have hts := take_snoc s k hlt
              by_cases hdg : 48 ≤ s[k].toNat ∧ s[k].toNat ≤ 57
              · obtain ⟨d1, d2⟩ := hdg
                have HT : Hid (valD (s.data.toList.take (k + 1)) = 10 * valD (s.data.toList.take k) + (s[k].toNat - 48)) := Lib.hid (by rw [hts, valD_snoc])
                have HA : Hid (∀ c ∈ s.data.toList.take (k + 1), digB c = true) := Lib.hid (by
                  rw [hts]
                  intro c hc
                  rcases List.mem_append.1 hc with hc | hc
                  · exact HD.out c hc
                  · rw [List.mem_singleton.1 hc]
                    unfold digB
                    simp
                    omega)
                have HB : Hid (valD (s.data.toList.take (k + 1)) < 10000) := Lib.hid (by
                  have := valD_bound _ (s.data.toList.take (k + 1)) rfl HA.out
                  have h4 := HL4.out
                  have hl : (s.data.toList.take (k + 1)).length ≤ 4 := by rw [List.length_take, HL.out]; omega
                  have : 10 ^ (s.data.toList.take (k + 1)).length ≤ 10 ^ 4 := Nat.pow_le_pow_right (by omega) hl
                  omega)
                clear hts
                generalize valD (s.data.toList.take k) = n at *
                have e1 : (48 : Int) ≤ (s[k].toNat : Int) := by omega
                have e2 : (s[k].toNat : Int) ≤ 57 := by omega
                go_wp2
                go_round
                case rel => exact ⟨k + 1, by omega, by go_num, by rw [HT.out]; go_num, HB.out, HA⟩
                case measure => simp [intOf]; omega
              · have hv := HNO.out (by
                  have hmem : s[k] ∈ s.data.toList := by
                    have : s[k] ∈ s.data.toList.take (k + 1) := by rw [hts]; simp
                    exact List.mem_of_mem_take this
                  unfold numB
                  rw [Bool.and_eq_false_iff]
                  refine Or.inr ?_
                  rw [List.all_eq_false]
                  refine ⟨_, hmem, ?_⟩
                  unfold digB
                  simp
                  omega)
                have HVV := Lib.hid hv
                clear hv hts
                have e3 : ¬ ((48 : Int) ≤ (s[k].toNat : Int) ∧ (s[k].toNat : Int) ≤ 57) := by omega
                go_wp2
                all_goals first
                  | (exfalso; omega)
                  | (go_ret2
                     exact ⟨by rw [HVV.out]; rfl, rfl⟩)
            · obtain rfl : k = s.size := by omega
              have hall : s.data.toList.take s.size = s.data.toList := List.take_of_length_le (by simp)
              rw [hall] at HD ⊢
              have HVV : Hid (v = .tuple #[.int .i64 (valD s.data.toList), .bool true]) := Lib.hid (by
                rw [← HV.out]
                unfold numS
                rw [if_pos]
                · rfl
                · unfold numB
                  have h4 := HL4.out
                  have hh := HH.out
                  simp only [Bool.and_eq_true, decide_eq_true_eq, HL.out, Bool.not_eq_true', List.all_eq_true]
                  rw [HL.out] at hh
                  exact ⟨⟨⟨by omega, h4⟩, hh⟩, HD.out⟩)
              clear hall
              go_wp2
              go_ret2
              exact ⟨by rw [HVV.out]; rfl, rfl⟩
end Go.Proofs.YtbjbolpmbdllnaaDoor
