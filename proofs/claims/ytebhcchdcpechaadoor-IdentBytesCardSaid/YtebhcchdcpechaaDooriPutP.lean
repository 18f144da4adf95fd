/- PutProc, the program's. -/
import Derived.Test.YtebhcchdcpechaaDooriPut
import Derived.LoopN
import Derived.Handy
namespace Go.Proofs.YtebhcchdcpechaaDoor
open Go.RowKit

/-- PutUint onto a row of the call's own. -/
theorem PutUint_own {w0 : World} {base : Nat} {v : Value} {l : List UInt8} (n : Int) (w : World) (hown : OwnRows byteE 5 w base v l) (hb : Below base w0 w) (h0 : 0 ≤ n) (h1 : n ≤ 999) (hm : l.length ≤ 140737488355300) :
    Calls Tryd.prog 50 #[v, .int .u64 n] w fun e w' => ∃ v', e = .returned v' ∧ OwnRows byteE 5 w' base v' (l ++ encS n.toNat) ∧ Below base w0 w' := by
  obtain ⟨A, cap, rfl, hA, hr, hc, hcm⟩ := hown.form2
  have := PutUint_any A cap l n.toNat w (by omega) hA hc hcm hm hr
  rw [show ((n.toNat : Nat) : Int) = n by omega] at this
  refine this.mono ?_
  rintro e w' ⟨v', rfl, ho, hbl⟩
  exact ⟨v', rfl, ho.older hown.1, hb.trans (hbl.mono hown.1)⟩

set_option maxHeartbeats 3200000 in
set_option maxRecDepth 100000 in
theorem PutProc_any (A : Option Addr) (cap : Nat) (l : List UInt8) (p : Pr) (w : World) (hm : l.length ≤ 140737488355200) (hr : RowsAt byteE w (Lo w.heap.size) A l) :
    Calls Tryd.prog 33 #[.slice A l.length cap, p.val] w (RetRow byteE 5 w (l ++ putS p)) := by
  have HR := Lib.hid hr
  have HV := Lib.hid (fun W => VProc_any p W)
  obtain ⟨bv, hbv⟩ : ∃ b, vpB p = b := ⟨_, rfl⟩
  rw [hbv] at HV
  have HBV := Lib.hid hbv
  obtain ⟨L, hL⟩ : ∃ L, l ++ putS p = L := ⟨_, rfl⟩
  rw [hL]
  have HL := Lib.hid hL
  clear hr hbv hL
  obtain ⟨a, b, c⟩ := p
  unfold Pr.val at *
  have i0 : ∀ w : World, (Instr.index 57 (.agg #[.int .i64 a, .int .i64 b, .int .i64 c]) (.int .i64 0)).run Tryd.prog w = .ok (.int .i64 a) w := fun _ => by kernel_rfl
  have i1 : ∀ w : World, (Instr.index 57 (.agg #[.int .i64 a, .int .i64 b, .int .i64 c]) (.int .i64 1)).run Tryd.prog w = .ok (.int .i64 b) w := fun _ => by kernel_rfl
  have i2 : ∀ w : World, (Instr.index 57 (.agg #[.int .i64 a, .int .i64 b, .int .i64 c]) (.int .i64 2)).run Tryd.prog w = .ok (.int .i64 c) w := fun _ => by kernel_rfl
  have HN : Hid (OwnRows byteE 5 (w.alloc (.cells #[.int .i64 a, .int .i64 b, .int .i64 c] 23)) (w.heap.size + 1) (.slice none 0 0) []) := Lib.hid (OwnRows.nil _ _ _ _ (by simp))
  have HRA : Hid (RowsAt byteE (w.alloc (.cells #[.int .i64 a, .int .i64 b, .int .i64 c] 23)) (Oth (w.alloc (.cells #[.int .i64 a, .int .i64 b, .int .i64 c] 23)) (.slice none 0 0)) A l) := Lib.hid (HR.out.same (fun b hb => Below.heap_alloc w _ b hb) fun b hb => ⟨Nat.lt_of_lt_of_le hb (by simp), fun e => by cases e⟩)
  go_enter Tryd.func33, Tryd.ntmps33
  go_wp2_with (at_builtin; refine pushRB byteTB rfl (.const (.slice none 0 0)) (.tmp 8) rfl _ (w.heap.size + 1) _ [] l l.length rfl A cap rfl HN.out rfl HRA.out (by simp [maxLen]; omega) (by simp; omega) ?_; intro v3 w3 hown3 hb3 hsp3; rw [List.nil_append] at hown3; have HOWN3 := Lib.hid hown3; have hb4 : Below (w.alloc (.cells #[.int .i64 a, .int .i64 b, .int .i64 c] 23)).heap.size (w.alloc (.cells #[.int .i64 a, .int .i64 b, .int .i64 c] 23)) w3 := (by simpa using hb3); obtain ⟨hc3, hf3⟩ := bcell hb4; have hz3 : w.heap.size < w3.heap.size := (by have := hb4.size; simp at this; omega); have HB3 := Lib.hid (Below.tr (Below.al (Below.refl _ w) _) hb4); clear hown3 hb3 hb4 hsp3)
  refine (HV.out _).mono ?_
  rintro e w4 ⟨rfl, hb4⟩
  have HOWN4 := Lib.hid (HOWN3.out.below (B := w3.heap.size) hb4 (Nat.le_refl _))
  obtain ⟨hc4, hf4⟩ := bcell hb4
  have hz4 : w.heap.size < w4.heap.size := by have := hb4.size; omega
  have HB4 : Hid (Below w.heap.size w w4) := Lib.hid (Below.tr HB3.out hb4)
  clear hb4
  cases bv with
  | false =>
    have HL0 : Hid (L = l) := Lib.hid (by
      rw [← HL.out]
      unfold putS
      rw [if_neg (by rw [HBV.out]; simp), List.append_nil])
    go_wp2_with fail
    go_ret
    exact ⟨_, rfl, by rw [HL0.out]; exact HOWN4.out.older (by omega), HB4.out⟩
  | true =>
    obtain ⟨a0, a1, b0, b1, c0, c1⟩ := vpB_iff.1 HBV.out
    dsimp only at a0 a1 b0 b1 c0 c1
    have HL0 : Hid (L = l ++ encS a.toNat ++ encS b.toNat ++ encS c.toNat) := Lib.hid (by
      rw [← HL.out]
      unfold putS putP
      rw [if_pos HBV.out]
      simp)
    have wa : IntKind.u64.wrap a = a := IntWalk.u64_in _ (by omega)
    have wb : IntKind.u64.wrap b = b := IntWalk.u64_in _ (by omega)
    have wc : IntKind.u64.wrap c = c := IntWalk.u64_in _ (by omega)
    have HLa : Hid ((encS a.toNat).length ≤ 10 ∧ (encS b.toNat).length ≤ 10) := Lib.hid ⟨encS_len 9 _ (by
      have e70 : (2 : Nat) ^ (7 * (9 + 1)) = 1180591620717411303424 := by decide
      omega), encS_len 9 _ (by
      have e70 : (2 : Nat) ^ (7 * (9 + 1)) = 1180591620717411303424 := by decide
      omega)⟩
    have HRG := Lib.hid (And.intro (And.intro a0 a1) (And.intro (And.intro b0 b1) (And.intro c0 c1)))
    clear a0 a1 b0 b1 c0 c1
    go_wp2_with fail
    clear hc3 hf3 hc4 hf4
    refine wp_loop_rounds 4 ?_
    rw [rounds_succ]
    go_wp2_with fail
    refine (PutUint_own a _ HOWN4.out (Below.refl _ _) HRG.out.1.1 (by have := HRG.out.1.2; omega) (by omega)).mono ?_
    rintro e w5 ⟨v5, rfl, hown5, hb5⟩
    have HOWN5 := Lib.hid hown5
    have HB5 : Hid (Below w.heap.size w w5) := Lib.hid (HB4.out.trans (hb5.mono (by omega)))
    clear hown5 hb5
    go_wp2_with fail
    rw [rounds_succ]
    go_wp2_with fail
    refine (PutUint_own b _ HOWN5.out (Below.refl _ _) (by have := HRG.out.2.1.1; omega) (by have := HRG.out.2.1.2; omega) (by have := HLa.out.1; rw [List.length_append]; omega)).mono ?_
    rintro e w6 ⟨v6, rfl, hown6, hb6⟩
    have HOWN6 := Lib.hid hown6
    have HB6 : Hid (Below w.heap.size w w6) := Lib.hid (HB5.out.trans (hb6.mono (by omega)))
    clear hown6 hb6
    go_wp2_with fail
    rw [rounds_succ]
    go_wp2_with fail
    refine (PutUint_own c _ HOWN6.out (Below.refl _ _) (by have := HRG.out.2.2.1; omega) HRG.out.2.2.2 (by have := HLa.out; rw [List.length_append, List.length_append]; omega)).mono ?_
    rintro e w7 ⟨v7, rfl, hown7, hb7⟩
    have HOWN7 := Lib.hid hown7
    have HB7 : Hid (Below w.heap.size w w7) := Lib.hid (HB6.out.trans (hb7.mono (by omega)))
    clear hown7 hb7
    go_wp2_with fail
    rw [rounds_succ]
    go_wp2_with fail
    go_ret
    exact ⟨_, rfl, by rw [HL0.out]; exact HOWN7.out.older (by omega), HB7.out⟩
end Go.Proofs.YtebhcchdcpechaaDoor
