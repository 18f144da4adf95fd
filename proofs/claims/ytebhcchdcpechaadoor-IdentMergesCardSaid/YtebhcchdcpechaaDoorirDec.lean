/- Decimal, FormatProc, the document's. -/
import Derived.Test.YtebhcchdcpechaaDooriFormat
import Derived.Test.YtebhcchdcpechaaDoorRows2
import Derived.Deep.RegionWith
namespace Go.Proofs.YtebhcchdcpechaaDoor
open Go.RowKit

theorem run_conv1 (c : UInt8) (W : World) (b : Nat) (h : W.cell? ⟨b, 0, none⟩ = some (.int .u8 (c.toNat : Int))) : (convert 45 9 (.slice (some ⟨b, 0, none⟩) 1 1)).run Tryd.prog W = .ok (.string ⟨#[c]⟩) W :=
  run_convert_bytes_back (P := Tryd.prog) W 45 9 5 ⟨b, 0, none⟩ 1 [c] Tryd.underlying45 Tryd.underlying5 Tryd.underlying9 (by
    intro j hj
    have : j = 0 := by simpa using hj
    subst this
    rw [addr_add]
    exact h)
theorem u8_of {n : Int} (h0 : 0 ≤ n) (h : n < 10) : ((UInt8.ofNat (48 + n.toNat)).toNat : Int) = 48 + n := by
  rw [UInt8.toNat_ofNat']
  have : (48 + n.toNat) % 2 ^ 8 = 48 + n.toNat := Nat.mod_eq_of_lt (by omega)
  rw [this]
  omega

set_option maxHeartbeats 2000000 in
set_option maxRecDepth 100000 in
theorem rDecimal_any : ∀ (k : Nat) (n : Int), 0 ≤ n → n ≤ k → n < 10000 → ∀ w : World, Calls Tryd.prog 44 #[.int .i64 n] w (RetS w (dgI n)) := by
  intro k
  induction k with
  | zero =>
    intro n h0 hk _ w
    obtain rfl : n = 0 := by omega
    have hd : Hid (dgI 0 = [48]) := Lib.hid (by unfold dgI; exact Lib.decDigits_one (by decide))
    have hcv := fun (W : World) (b : Nat) h => run_conv1 48 W b h
    simp only [show (((48 : UInt8).toNat : Nat) : Int) = 48 from rfl] at hcv
    go_enter Tryd.func44, Tryd.ntmps44
    go_wp2_with fail
    go_ret
    exact ⟨by rw [hd.out]; rfl, (Below.refl _ _).alloc (Nat.le_refl _) _⟩
  | succ k ih =>
    intro n h0 hk h4 w
    have hu := u8_of (n := n % 10) (by omega) (by omega)
    by_cases hn : n < 10
    · have hd : Hid (dgI n = [UInt8.ofNat (48 + (n % 10).toNat)]) := Lib.hid (by
        rw [show n % 10 = n by omega]
        unfold dgI
        exact Lib.decDigits_one (by omega))
      rw [show n % 10 = n by omega] at hu hd
      obtain ⟨c, hc⟩ : ∃ c, UInt8.ofNat (48 + n.toNat) = c := ⟨_, rfl⟩
      rw [hc] at hu hd
      have hcv := fun (W : World) (b : Nat) h => run_conv1 c W b h
      simp only [hu] at hcv
      clear hu hc ih
      go_enter Tryd.func44, Tryd.ntmps44
      go_wp2_with fail
      go_ret
      exact ⟨by rw [hd.out]; rfl, (Below.refl _ _).alloc (Nat.le_refl _) _⟩
    · have hd : dgI n = dgI (n / 10) ++ [UInt8.ofNat (48 + (n % 10).toNat)] := by
        unfold dgI
        rw [decDigits_step (by omega), show (n / 10).toNat = n.toNat / 10 by omega, show (n % 10).toNat = n.toNat % 10 by omega]
      obtain ⟨c, hc⟩ : ∃ c, UInt8.ofNat (48 + (n % 10).toNat) = c := ⟨_, rfl⟩
      rw [hc] at hu hd
      have hcv := fun (W : World) (b : Nat) h => run_conv1 c W b h
      simp only [hu] at hcv
      have hl : (dgI (n / 10)).length ≤ 4 := dec_length_le 3 _ (by omega)
      obtain ⟨s, hs, hs1, _⟩ := add_exD ⟨(dgI (n / 10)).toArray⟩ ⟨#[c]⟩ (by simp [ByteArray.size]; omega)
      have HS : Hid (s.data.toList = dgI n) := Lib.hid (by rw [hd, hs1])
      have IH := Lib.hid (fun W => ih (n / 10) (by omega) (by omega) (by omega) W)
      clear hu hc ih hd hs1 hl
      generalize dgI (n / 10) = d at *
      go_enter Tryd.func44, Tryd.ntmps44
      go_wp2_with fail
      have q0 : n.tdiv 10 = n / 10 := Int.tdiv_eq_ediv_of_nonneg h0
      have q1 : n.tmod 10 = n % 10 := Int.tmod_eq_emod_of_nonneg h0
      have q2 : IntKind.i64.wrap (n / 10) = n / 10 := IntWalk.i64_in _ (by omega)
      have q3 : IntKind.i64.wrap (n % 10) = n % 10 := IntWalk.i64_in _ (by omega)
      have q4 : IntKind.i64.wrap (48 + n % 10) = 48 + n % 10 := IntWalk.i64_in _ (by omega)
      have q5 : IntKind.u8.wrap (48 + n % 10) = 48 + n % 10 := by
        simp [IntKind.wrap, IntKind.bits, IntKind.signed]
        omega
      go_region_with (go_at_call 44; refine (IH.out _).mono ?_; rintro e w1 ⟨rfl, hb⟩; obtain ⟨hc1, hf1⟩ := bcell hb)
      all_goals go_wp2
      all_goals go_ret
      all_goals refine ⟨congrArg Ending.returned (str_data HS.out), ?_⟩
      all_goals ((repeat (first | (with_reducible exact Below.refl _ _) | (with_reducible assumption) | (with_reducible refine below_drewN ?_ _) | (with_reducible refine Below.drew ?_) | (with_reducible refine Below.al ?_ _) | (with_reducible refine Below.st ?_ (by simp; try omega)) | (with_reducible refine Below.tr ?_ (by assumption)))))
end Go.Proofs.YtebhcchdcpechaaDoor
