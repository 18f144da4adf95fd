/- PutUint, the program's and the document's. -/
import Derived.Test.YtebhcchdcpechaaDooriBytes
import Derived.WalkSpells
import Derived.WalkLawsBesides
namespace Go.Proofs.YtebhcchdcpechaaDoor
open Go.RowKit

/-- The call returns a new row that reads as l. -/
def RetRow {α : Type} (E : El α) (t : TypeId) (w : World) (l : List α) (e : Ending) (w' : World) : Prop := ∃ v, e = .returned v ∧ OwnRows E t w' w.heap.size v l ∧ Below w.heap.size w w'

theorem u64_mask127 {m : Nat} (h : m < 18446744073709551616) : bits .and .u64 (m : Int) 127 = (m : Int) % 128 := by
  have := u64_and_nat m 127 h (by decide)
  rw [nat_mask7] at this
  exact this.trans (by omega)
theorem u8_or128' {x : Nat} (h : x < 128) : bits .or .u8 (x : Int) 128 = (x : Int) + 128 := by
  have := u8_or_nat x 128 (by omega) (by decide)
  rw [Nat.or_comm, nat_join 7 128 x (by decide) (by omega)] at this
  exact this.trans (by omega)
/-- The slice that PutUint appends to: the argument, or a row of the call's own. -/
def PutAt (A : Option Addr) (w : World) (l pre : List UInt8) (v : Value) (wq : World) : Prop :=
  (pre = [] ∧ v = .slice A l.length l.length ∧ wq = w) ∨ OwnRows byteE 5 wq w.heap.size v (l ++ pre)

set_option maxHeartbeats 3200000 in
set_option maxRecDepth 100000 in
theorem PutUint_any (A : Option Addr) (cap : Nat) (l : List UInt8) (v : Nat) (w : World) (hv : v < 18446744073709551616) (hA : A = none → l.length = 0 ∧ cap = 0) (hc : l.length ≤ cap) (hcm : cap ≤ maxLen) (hm : l.length ≤ 140737488355300) (hr : RowsAt byteE w (Lo w.heap.size) A l) :
    Calls Tryd.prog 50 #[.slice A l.length cap, .int .u64 (v : Int)] w (RetRow byteE 5 w (l ++ encS v)) := by
  unfold maxLen at hcm
  have HR := Lib.hid hr
  have HA : Hid (A = none → l.length = 0 ∧ l.length = 0) := Lib.hid (fun h => ⟨(hA h).1, (hA h).1⟩)
  have hlen : (encS v).length ≤ 10 := encS_len 9 v (by
    have e70 : (2 : Nat) ^ (7 * (9 + 1)) = 1180591620717411303424 := by decide
    omega)
  have HLEN := Lib.hid hlen
  have HV64 := Lib.hid hv
  clear hr hA hlen hv
  go_enter Tryd.func50, Tryd.ntmps50
  go_wp2_with fail
  go_loopg [1, 5] (encS v).length (fun g v1 v5 wq => ∃ (m : Nat) (pre : List UInt8), v1 = .int .u64 (m : Int) ∧ Hid (m < 18446744073709551616) ∧ Hid (encS v = pre ++ encS m) ∧ (encS m).length ≤ g ∧ Hid (PutAt A w l pre v5 wq) ∧ Below w.heap.size w wq)
  case atStart => exact ⟨v, [], rfl, HV64, Lib.hid rfl, Nat.le_refl _, Lib.hid (Or.inl ⟨rfl, rfl, rfl⟩), Below.refl _ _⟩
  case round =>
    obtain ⟨m, pre, rfl, HM, HE, hg, HP, hbw⟩ := hrel
    have HBW := Lib.hid hbw
    have hpre : Hid (pre.length + (encS m).length ≤ 10) := Lib.hid (by have := HLEN.out; rw [HE.out, List.length_append] at this; exact this)
    clear hbw
    by_cases hlt : m < 128
    · have es := encS_small hlt
      have hw8 : IntKind.u8.wrap (m : Int) = (m : Int) := IntWalk.u8_in _ (by omega)
      have htn : ((UInt8.ofNat m).toNat : Int) = (m : Int) := by rw [ofNat_toNat (by omega)]
      have ES := Lib.hid es
      have HT := Lib.hid htn
      clear es htn
      rcases HP.out with ⟨rfl, rfl, rfl⟩ | hown
      · go_wp2_with (at_builtin; refine pushGrowB byteTB rfl (.tmp 23) (.tmp 26) rfl wr A l.length l.length l rfl (UInt8.ofNat m) [.int .u8 (m : Int)] _ rfl rfl (Nat.le_refl _) HA.out HR.out wr.heap.size rfl rfl (by show [_] = [_]; rw [HT.out]) (by unfold maxLen; omega) (by omega) ?_; intro v7 w7 hown7 hb7; have HOWN7 := Lib.hid hown7; have HB7 := Lib.hid hb7; clear hown7 hb7)
        go_ret
        exact ⟨_, rfl, by rw [HE.out, ES.out]; exact HOWN7.out, HB7.out⟩
      · have HOWN := Lib.hid hown
        have hl10 : Hid ((l ++ pre).length < maxLen ∧ ((l ++ pre).length + 1) * 1 ≤ 140737488355328) := Lib.hid (by have := hpre.out; simp [maxLen]; omega)
        clear hown
        go_wp2_with (at_builtin; refine pushOneB byteTB rfl (.tmp 23) (.tmp 26) rfl wr w.heap.size u5 (l ++ pre) (UInt8.ofNat m) [.int .u8 (m : Int)] _ rfl rfl HOWN.out wr.heap.size rfl rfl (by show [_] = [_]; rw [HT.out]) hl10.out.1 hl10.out.2 ?_; intro v7 w7 hown7 hb7 hsp7; have HOWN7 := Lib.hid hown7; have HB7 := Lib.hid (HBW.out.trans hb7); clear hown7 hb7 hsp7)
        go_ret
        exact ⟨_, rfl, by rw [HE.out, ES.out, ← List.append_assoc]; exact HOWN7.out, HB7.out⟩
    · have es := encS_big hlt
      have a1 := u64_mask127 HM.out
      have a2 : IntKind.u8.wrap ((m : Int) % 128) = (m : Int) % 128 := IntWalk.u8_in _ (by omega)
      have a3 : bits .or .u8 ((m : Int) % 128) 128 = (m : Int) % 128 + 128 := by
        have := u8_or128' (x := m % 128) (by omega)
        rwa [show ((m % 128 : Nat) : Int) = (m : Int) % 128 by omega] at this
      have htn : ((UInt8.ofNat (m % 128 + 128)).toNat : Int) = (m : Int) % 128 + 128 := by rw [ofNat_toNat (by omega)]; omega
      have ES := Lib.hid es
      have HT := Lib.hid htn
      have hgr : Hid ((encS (m / 128)).length + 1 ≤ gk) := Lib.hid (by rw [es] at hg; simpa using hg)
      have hM2 : Hid (m / 128 < 18446744073709551616) := Lib.hid (by have := HM.out; omega)
      have hlti : (127 : Int) < (m : Int) := by omega
      clear es htn
      rcases HP.out with ⟨rfl, rfl, rfl⟩ | hown
      · go_wp2_with (at_builtin; refine pushGrowB byteTB rfl (.tmp 14) (.tmp 19) rfl wr A l.length l.length l rfl (UInt8.ofNat (m % 128 + 128)) [.int .u8 ((m : Int) % 128 + 128)] _ rfl rfl (Nat.le_refl _) HA.out HR.out wr.heap.size rfl rfl (by show [_] = [_]; rw [HT.out]) (by unfold maxLen; omega) (by omega) ?_; intro v7 w7 hown7 hb7; have HOWN7 := Lib.hid hown7; have HB7 := Lib.hid hb7; clear hown7 hb7)
        go_roundg (gk - 1)
        case measure => have := hgr.out; omega
        case rel => exact ⟨m / 128, [UInt8.ofNat (m % 128 + 128)], by congr 1, hM2, Lib.hid (by rw [HE.out, ES.out]; rfl), by have := hgr.out; omega, Lib.hid (Or.inr HOWN7.out), HB7.out⟩
      · have HOWN := Lib.hid hown
        have hl10 : Hid ((l ++ pre).length < maxLen ∧ ((l ++ pre).length + 1) * 1 ≤ 140737488355328) := Lib.hid (by have := hpre.out; simp [maxLen]; omega)
        clear hown
        go_wp2_with (at_builtin; refine pushOneB byteTB rfl (.tmp 14) (.tmp 19) rfl wr w.heap.size u5 (l ++ pre) (UInt8.ofNat (m % 128 + 128)) [.int .u8 ((m : Int) % 128 + 128)] _ rfl rfl HOWN.out wr.heap.size rfl rfl (by show [_] = [_]; rw [HT.out]) hl10.out.1 hl10.out.2 ?_; intro v7 w7 hown7 hb7 hsp7; have HOWN7 := Lib.hid hown7; have HB7 := Lib.hid (HBW.out.trans hb7); clear hown7 hb7 hsp7)
        go_roundg (gk - 1)
        case measure => have := hgr.out; omega
        case rel => exact ⟨m / 128, pre ++ [UInt8.ofNat (m % 128 + 128)], by congr 1, hM2, Lib.hid (by rw [HE.out, ES.out]; simp), by have := hgr.out; omega, Lib.hid (Or.inr (by rw [← List.append_assoc]; exact HOWN7.out)), HB7.out⟩
end Go.Proofs.YtebhcchdcpechaaDoor
