/- PutUint, the document's. -/
import Derived.Test.YtebhcchdcpechaaDooriPut
namespace Go.Proofs.YtebhcchdcpechaaDoor
open Go.RowKit

set_option maxHeartbeats 3200000 in
set_option maxRecDepth 100000 in
theorem rPutUint_any (A : Option Addr) (cap : Nat) (l : List UInt8) (v : Nat) (w : World) (hv : v < 18446744073709551616) (hm : l.length ≤ 140737488355300) (hr : RowsAt byteE w (Lo w.heap.size) A l) :
    Calls Tryd.prog 51 #[.slice A l.length cap, .int .u64 (v : Int)] w (RetRow byteE 5 w (l ++ encS v)) := by
  have HR := Lib.hid hr
  have hlen : (encS v).length ≤ 10 := encS_len 9 v (by
    have e70 : (2 : Nat) ^ (7 * (9 + 1)) = 1180591620717411303424 := by decide
    omega)
  have HLEN := Lib.hid hlen
  have HV64 := Lib.hid hv
  clear hr hlen hv
  go_enter Tryd.func51, Tryd.ntmps51
  have hown0 := OwnRows.made byteE 5 w w.heap.size #[] 0 (Nat.le_refl _) (by simp [maxLen]) rfl
  have HOWN0 := Lib.hid hown0
  have HRA : Hid (RowsAt byteE (w.alloc (.cells #[] 5)) (Oth (w.alloc (.cells #[] 5)) (.slice (some ⟨w.heap.size, 0, none⟩) 0 0)) A l) := Lib.hid (HR.out.same (fun b hb => Below.heap_alloc w _ b hb) fun b hb => ⟨Nat.lt_of_lt_of_le hb (by simp), fun e => by injection e with e; have : b < w.heap.size := hb; simp at e; omega⟩)
  clear hown0
  go_wp2_with (at_builtin; refine pushRB byteTB rfl (.tmp 6) (.tmp 7) rfl _ w.heap.size _ [] l l.length rfl A cap rfl HOWN0.out rfl HRA.out (by simp [maxLen]; omega) (by simp; omega) ?_; intro v3 w3 hown3 hb3 hsp3; rw [List.nil_append] at hown3; have HOWN3 := Lib.hid hown3; have HB3 : Hid (Below w.heap.size w w3) := Lib.hid ((Below.al (Below.refl _ _) _).trans hb3); clear hown3 hb3 hsp3)
  go_loopg [1, 5] (encS v).length (fun g v1 v5 wq => ∃ (m : Nat) (pre : List UInt8), v1 = .int .u64 (m : Int) ∧ Hid (m < 18446744073709551616) ∧ Hid (encS v = pre ++ encS m) ∧ (encS m).length ≤ g ∧ OwnRows byteE 5 wq w.heap.size v5 (l ++ pre) ∧ Below w.heap.size w wq)
  case atStart => exact ⟨v, [], rfl, HV64, Lib.hid rfl, Nat.le_refl _, by rw [List.append_nil]; exact HOWN3.out, HB3.out⟩
  case round =>
    obtain ⟨m, pre, rfl, HM, HE, hg, hown, hbw⟩ := hrel
    have HOWN := Lib.hid hown
    clear hown
    have HBW := Lib.hid hbw
    have hpre : Hid (pre.length + (encS m).length ≤ 10) := Lib.hid (by have := HLEN.out; rw [HE.out, List.length_append] at this; exact this)
    clear hbw
    by_cases hlt : m < 128
    · have es := encS_small hlt
      have hw8 : IntKind.u8.wrap (m : Int) = (m : Int) := IntWalk.u8_in _ (by omega)
      have htn : ((UInt8.ofNat m).toNat : Int) = (m : Int) := by rw [ofNat_toNat (by omega)]
      have ES := Lib.hid es
      have HT := Lib.hid htn
      clear es htn
      have hl10 : Hid ((l ++ pre).length < maxLen ∧ ((l ++ pre).length + 1) * 1 ≤ 140737488355328) := Lib.hid (by have := hpre.out; simp [maxLen]; omega)
      go_wp2_with (at_builtin; refine pushOneB byteTB rfl (.tmp 20) (.tmp 23) rfl wr w.heap.size u5 (l ++ pre) (UInt8.ofNat m) [.int .u8 (m : Int)] _ rfl rfl HOWN.out wr.heap.size rfl rfl (by show [_] = [_]; rw [HT.out]) hl10.out.1 hl10.out.2 ?_; intro v7 w7 hown7 hb7 hsp7; have HOWN7 := Lib.hid hown7; have HB7 := Lib.hid (HBW.out.trans hb7); clear hown7 hb7 hsp7)
      go_ret
      exact ⟨_, rfl, by rw [HE.out, ES.out, ← List.append_assoc]; exact HOWN7.out, HB7.out⟩
    · have es := encS_big hlt
      have a1 := u64_mask127 HM.out
      have a2 : IntKind.u8.wrap ((m : Int) % 128) = (m : Int) % 128 := IntWalk.u8_in _ (by omega)
      have a3 : bits .or .u8 ((m : Int) % 128) 128 = (m : Int) % 128 + 128 := by
        have := u8_or128' (x := m % 128) (by omega)
        rwa [show ((m % 128 : Nat) : Int) = (m : Int) % 128 by omega] at this
      have htn : ((UInt8.ofNat (m % 128 + 128)).toNat : Int) = (m : Int) % 128 + 128 := by rw [ofNat_toNat (by omega)]; omega
      have ES := Lib.hid es
      have HT := Lib.hid htn
      have hgr : Hid ((encS (m / 128)).length + 1 ≤ gk) := Lib.hid (by rw [es] at hg; simpa using hg)
      have hM2 : Hid (m / 128 < 18446744073709551616) := Lib.hid (by have := HM.out; omega)
      have hlti : (128 : Int) ≤ (m : Int) := by omega
      clear es htn
      have hl10 : Hid ((l ++ pre).length < maxLen ∧ ((l ++ pre).length + 1) * 1 ≤ 140737488355328) := Lib.hid (by have := hpre.out; simp [maxLen]; omega)
      go_wp2_with (at_builtin; refine pushOneB byteTB rfl (.tmp 11) (.tmp 16) rfl wr w.heap.size u5 (l ++ pre) (UInt8.ofNat (m % 128 + 128)) [.int .u8 ((m : Int) % 128 + 128)] _ rfl rfl HOWN.out wr.heap.size rfl rfl (by show [_] = [_]; rw [HT.out]) hl10.out.1 hl10.out.2 ?_; intro v7 w7 hown7 hb7 hsp7; have HOWN7 := Lib.hid hown7; have HB7 := Lib.hid (HBW.out.trans hb7); clear hown7 hb7 hsp7)
      go_roundg (gk - 1)
      case measure => have := hgr.out; omega
      case rel => exact ⟨m / 128, pre ++ [UInt8.ofNat (m % 128 + 128)], by congr 1, hM2, Lib.hid (by rw [HE.out, ES.out]; simp), by have := hgr.out; omega, by rw [← List.append_assoc]; exact HOWN7.out, HB7.out⟩
end Go.Proofs.YtebhcchdcpechaaDoor
