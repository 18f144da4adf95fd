/- Same. -/
import Derived.Test.YtbjbolpmbdllnaaDoorbSpec
import Derived.Laws.StructEq
namespace Go.Proofs.YtbjbolpmbdllnaaDoor
open Go.RowKit

theorem Rs.ext_key {a b : Rs} (h1 : a.name.toList = b.name.toList) (h2 : a.kind = b.kind) (h3 : a.units = b.units) (h4 : a.home = b.home) : a = b := by
  obtain ⟨n, k, u, h⟩ := a
  obtain ⟨n', k', u', h'⟩ := b
  simp only at h1 h2 h3 h4
  rw [toList_inj h1, h2, h3, h4]

/-- a and b are the same resource, as Go compares. -/
def sameB (a b : Rs) : Bool := a.name.toList == b.name.toList && (a.kind == b.kind && (a.units == b.units && a.home == b.home))
theorem sameB_iff {a b : Rs} : sameB a b = true ↔ a = b := by
  unfold sameB
  simp only [Bool.and_eq_true, beq_iff_eq]
  constructor
  · rintro ⟨h1, h2, h3, h4⟩
    exact Rs.ext_key h1 h2 h3 h4
  · rintro rfl
    exact ⟨rfl, rfl, rfl, rfl⟩
theorem sameB_false {a b : Rs} (h : sameB a b = false) : a ≠ b := fun e => by rw [sameB_iff.2 e] at h; cases h
theorem equalRes (a b : Rs) (w : World) : (Op.equalIn 10000 36 a.val b.val).run Tryd.prog w = .ok (sameB a b) w := by
  have hS : Tryd.prog.underlying 36 = some (.struct (Tryd.prog.fieldsOf 36)) := by kernel_rfl
  have hp : Tryd.prog.stoodInHeld 36 = false := by kernel_rfl
  unfold Rs.val
  rw [show (10000 : Nat) = 9999 + 1 from rfl, run_equalIn_agg w 9999 36 _ _ hS hp]
  have u3 := Tryd.underlying3
  have u9 := Tryd.underlying9
  simp only [Program.fieldsOf, Tryd.underlying36]
  go_simp
  unfold sameB
  by_cases h1 : a.name.toList = b.name.toList <;> by_cases h2 : a.kind = b.kind <;> by_cases h3 : a.units = b.units <;> by_cases h4 : a.home = b.home <;> simp [h1, h2, h3, h4]
/-- The comparisons of two resources, for the walk. -/
theorem cmpRes (a b : Rs) : (∀ w, (binOp .neq 36 a.val b.val).run Tryd.prog w = .ok (.bool (!sameB a b)) w) ∧ (∀ w, (binOp .eql 36 a.val b.val).run Tryd.prog w = .ok (.bool (sameB a b)) w) ∧
    ∀ (op : BinOp) (x y : Operand) (xs ys : Array Value) w, (eqGuard op 36 x y (.agg xs) (.agg ys)).run Tryd.prog w = .ok () w := by
  refine ⟨fun w => ?_, fun w => ?_, fun op x y xs ys w => run_eqGuard_agg w op 36 x y xs ys (by kernel_rfl)⟩
  · have := run_neq_struct (P := Tryd.prog) w 36 #[.string a.name, .int .i64 a.kind, .int .i64 a.units, .int .i64 a.home] #[.string b.name, .int .i64 b.kind, .int .i64 b.units, .int .i64 b.home]
    refine this.trans ?_
    rw [show (Op.equalIn 10000 36 (.agg #[.string a.name, .int .i64 a.kind, .int .i64 a.units, .int .i64 a.home]) (.agg #[.string b.name, .int .i64 b.kind, .int .i64 b.units, .int .i64 b.home])).run Tryd.prog w = .ok (sameB a b) w from equalRes a b w]
    rfl
  · have := run_eql_struct (P := Tryd.prog) w 36 #[.string a.name, .int .i64 a.kind, .int .i64 a.units, .int .i64 a.home] #[.string b.name, .int .i64 b.kind, .int .i64 b.units, .int .i64 b.home]
    refine this.trans ?_
    rw [show (Op.equalIn 10000 36 (.agg #[.string a.name, .int .i64 a.kind, .int .i64 a.units, .int .i64 a.home]) (.agg #[.string b.name, .int .i64 b.kind, .int .i64 b.units, .int .i64 b.home])).run Tryd.prog w = .ok (sameB a b) w from equalRes a b w]
    rfl

set_option maxHeartbeats 1600000 in
theorem Same_any (A A' : Option Addr) (B B' cap cap' : Nat) (l l' : Ct) (w : World) (hm : l.length ≤ maxLen) (hm' : l'.length ≤ maxLen) (_ : B ≤ w.heap.size) (_ : B' ≤ w.heap.size) (hr : RowsAt resE w (Lo B) A l) (hr' : RowsAt resE w (Lo B') A' l') :
    Calls Tryd.prog 10 #[.slice A l.length cap, .slice A' l'.length cap'] w (RetB w (l = l')) := by
  unfold maxLen at hm hm'
  have HR := Lib.hid hr
  have HR' := Lib.hid hr'
  clear hr hr'
  by_cases hl : l.length = l'.length
  · have hl2 : ((l.length : Int) != (l'.length : Int)) = false := by simp [hl]
    have HL := Lib.hid hl
    clear hl
    go_enter Tryd.func10, Tryd.ntmps10
    go_wp2_with fail
    clear hl2
    go_loopg [5] l.length (fun m v wq => ∃ k : Nat, v = .int .i64 (k : Int) ∧ k ≤ l.length ∧ l.length ≤ k + m ∧ Hid (∀ i (h : i < l.length) (h' : i < l'.length), i < k → l[i] = l'[i]) ∧ ∃ n, wq = w.drewN n)
    case atStart => exact ⟨0, rfl, Nat.zero_le _, by omega, Lib.hid (fun _ _ _ h => absurd h (by omega)), 0, rfl⟩
    case round =>
      obtain ⟨k, rfl, hk, hkm, hall, n, rfl⟩ := hrel
      by_cases hlt : k < l.length
      · have hlt' : k < l'.length := by rw [← HL.out]; exact hlt
        obtain ⟨⟨nm, kd, u, h⟩, hx⟩ : ∃ x, l[k] = x := ⟨_, rfl⟩
        obtain ⟨b, off, rfl, hbl, hc0, hc1, hc2, hc3⟩ := res_cells HR.out hlt hx
        obtain ⟨⟨nm', kd', u', h'⟩, hx'⟩ : ∃ x, l'[k] = x := ⟨_, rfl⟩
        obtain ⟨b', off', rfl, hbl', hc0', hc1', hc2', hc3'⟩ := res_cells HR'.out hlt' hx'
        have HX := Lib.hid hx
        have HX' := Lib.hid hx'
        have hlti : (k : Int) < (l.length : Int) := by omega
        have hlti' : (k : Int) < (l'.length : Int) := by omega
        obtain ⟨hne, _, hgd⟩ := cmpRes l[k] l'[k]
        obtain ⟨q, hq⟩ : ∃ q, sameB l[k] l'[k] = q := ⟨_, rfl⟩
        have HQ := Lib.hid hq
        rw [hq, hx, hx'] at hne
        unfold Rs.val at hne
        clear hx hx' hq
        cases q with
        | true =>
          go_wp2_with fail
          go_quiet (fail)
          go_wp2_with fail
          go_roundg (gk - 1)
          case measure => omega
          case rel => exact ⟨k + 1, by go_num, by omega, by omega, Lib.hid (fun i h1 h2 h3 => by
            rcases Nat.lt_or_ge i k with h4 | h4
            · exact hall.out i h1 h2 h4
            · obtain rfl : i = k := by omega
              exact sameB_iff.1 HQ.out), _, rfl⟩
        | false =>
          go_wp2_with fail
          go_quiet (fail)
          go_wp2_with fail
          go_ret
          exact .false_ rfl (fun h => sameB_false HQ.out (by subst h; rfl)) (below_drewN (below_drewN (Below.refl _ _) _) _)
      · have hfin : Hid (l = l') := Lib.hid (List.ext_getElem HL.out fun i h h' => hall.out i h h' (by omega))
        go_wp2
        go_ret
        exact .true_ rfl hfin.out (below_drewN (Below.refl _ _) n)
  · have hl2 : ((l.length : Int) != (l'.length : Int)) = true := by simp; omega
    have HL := Lib.hid hl
    clear hl
    go_enter Tryd.func10, Tryd.ntmps10
    go_wp2
    go_ret
    exact .false_ rfl (fun h => HL.out (by rw [h])) (Below.refl _ _)
end Go.Proofs.YtbjbolpmbdllnaaDoor
