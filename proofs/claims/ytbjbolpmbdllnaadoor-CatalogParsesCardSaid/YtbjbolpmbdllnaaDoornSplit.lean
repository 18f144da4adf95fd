/- Split, the document's. -/
import Derived.Test.YtbjbolpmbdllnaaDoornNum
import Derived.Test.YtbjbolpmbdllnaaDoorRows2
import Derived.WalkSpells
import Derived.WalkLawsBesides
namespace Go.Proofs.YtbjbolpmbdllnaaDoor
open Go.RowKit

theorem strTB : ElTB Tryd.prog strE 50 9 16 := ElTB.mk' Tryd.underlying50 (.string ⟨#[]⟩) 1 16 (by kernel_rfl) rfl rfl
theorem strT : ElT Tryd.prog strE 50 9 := ⟨16, strTB, by decide⟩
def dL (L : List ByteArray) : List (List UInt8) := L.map fun x => x.data.toList
theorem set_last {α : Type} (l : List α) (n : Nat) (a : α) (h : l.length = n + 1) : l.set n a = l.dropLast ++ [a] := by
  rw [List.set_eq_take_append_cons_drop, if_pos (by omega), List.dropLast_eq_take, h, List.drop_eq_nil_of_le (by omega)]
  rfl
theorem dL_set (L : List ByteArray) (n : Nat) (x y : ByteArray) (h : L.length = n + 1) (hx : L[n]? = some x) (c : UInt8) (hy : y.data.toList = x.data.toList ++ [c]) : dL (L.set n y) = (dL L).dropLast ++ [(dL L).getLastD [] ++ [c]] := by
  unfold dL
  rw [List.map_set, set_last _ n _ (by simpa using h), hy]
  have e : (List.map (fun x : ByteArray => x.data.toList) L).getLastD [] = x.data.toList := by
    rw [List.getLastD_eq_getLast?, List.getLast?_eq_getElem?, List.length_map, h, Nat.add_sub_cancel, List.getElem?_map, hx]
    rfl
  rw [e]
theorem extract_one (s : ByteArray) (k : Nat) (h : k < s.size) : (s.extract k (k + 1)).data.toList = [s[k]] := by
  rw [ByteArray.data_extract, Array.toList_extract, List.extract_eq_take_drop]
  have h' : k < s.data.toList.length := by simpa using h
  rw [List.drop_eq_getElem_cons h']
  simp
  rfl
theorem add_exD' (a b : ByteArray) (h : a.size + b.size ≤ 1099511627776) : ∃ s : ByteArray, (∀ W, (Op.stringOp .add a b).run Tryd.prog W = .ok (.string s) W) ∧ s.data.toList = a.data.toList ++ b.data.toList ∧ s.size = a.size + b.size := by
  obtain ⟨s, h1, h2, h3⟩ := add_ex a b h
  exact ⟨s, h1, by rwa [ByteArray.toList_eq, ByteArray.toList_eq, ByteArray.toList_eq] at h2, h3⟩
/-- The call returns a new row of strings that read as the words of s. -/
def RetWords (w : World) (s : ByteArray) (c : UInt8) (e : Ending) (w' : World) : Prop :=
  ∃ (v : Value) (L : List ByteArray), e = .returned v ∧ OwnRows strE 9 w' w.heap.size v L ∧ dL L = spl c s.data.toList ∧ (∀ x ∈ L, x.size ≤ s.size) ∧ L.length ≤ s.size + 1 ∧ Below w.heap.size w w'

set_option maxHeartbeats 3200000 in
set_option maxRecDepth 100000 in
theorem rSplit_any (s : ByteArray) (c : UInt8) (hs : s.size ≤ 100000) (w : World) : Calls Tryd.prog 22 #[.string s, .int .u8 (c.toNat : Int)] w (RetWords w s c) := by
  go_enter Tryd.func22, Tryd.ntmps22
  go_wp2_with fail
  go_loopg [5, 6] s.size (fun m v5 v6 wq => ∃ (k : Nat) (L : List ByteArray), v6 = .int .i64 (k : Int) ∧ k ≤ s.size ∧ s.size ≤ k + m ∧ OwnRows strE 9 wq w.heap.size v5 L ∧ Hid (dL L = spl c (s.data.toList.take k)) ∧ Hid ((∀ x ∈ L, x.size ≤ k) ∧ L.length ≤ k + 1) ∧ Below w.heap.size w wq)
  case atStart => exact ⟨0, [⟨#[]⟩], rfl, Nat.zero_le _, by omega, OwnRows.one (E := strE) w w.heap.size ⟨#[]⟩ [.string ⟨#[]⟩] (Nat.le_refl _) rfl, Lib.hid rfl, Lib.hid ⟨by simp; decide, by simp⟩, (Below.refl _ _).alloc (Nat.le_refl _) _⟩
  case round =>
    obtain ⟨k, L, rfl, hk, hkm, hown, HL, HZ, hbw⟩ := hrel
    have HOWN := Lib.hid hown
    have HBW := Lib.hid hbw
    clear hown hbw
    by_cases hlt : k < s.size
    · have hts := take_snoc s k hlt
      have hsp : spl c (s.data.toList.take (k + 1)) = splStep c (dL L) s[k] := by rw [hts, spl_snoc, HL.out]
      have HSP := Lib.hid hsp
      have hL21 : Hid (L.length < 68719476736) := Lib.hid (by have := HZ.out.2; omega)
      clear hts hsp
      by_cases hc : s[k].toNat = c.toNat
      · have HC := Lib.hid hc
        have hb : ((s[k].toNat : Int) == (c.toNat : Int)) = true := beq_iff_eq.2 (by omega)
        clear hc
        go_wp2_with (at_builtin; refine pushOne strT rfl (.tmp 19) (.tmp 20) rfl wr w.heap.size u5 L ⟨#[]⟩ [.string ⟨#[]⟩] _ rfl rfl HOWN.out wr.heap.size rfl rfl rfl hL21.out ?_; intro v7 w7 hown7 hb7 hsp7; have HB7 := Lib.hid (HBW.out.trans hb7); have HOWN7 := Lib.hid hown7; clear hown7 hb7 hsp7)
        go_roundg (s.size - (k + 1))
        case measure => omega
        case rel =>
          refine ⟨k + 1, L ++ [⟨#[]⟩], by go_num, by omega, by omega, HOWN7.out, Lib.hid ?_, Lib.hid ⟨?_, ?_⟩, HB7.out⟩
          · rw [HSP.out]
            unfold splStep dL
            rw [if_pos (UInt8.toNat_inj.1 HC.out)]
            simp
          · intro x hx
            rcases List.mem_append.1 hx with hx | hx
            · exact Nat.le_trans (HZ.out.1 x hx) (by omega)
            · rw [List.mem_singleton.1 hx]
              exact Nat.zero_le _
          · have := HZ.out.2
            simp
            omega
      · have HC := Lib.hid hc
        have hb : ((s[k].toNat : Int) == (c.toNat : Int)) = false := beq_eq_false_iff_ne.2 (by omega)
        clear hc
        have hne : L ≠ [] := by
          intro e
          have := (spl_join c (s.data.toList.take k)).1
          rw [← HL.out, e] at this
          exact this rfl
        obtain ⟨n, hn⟩ : ∃ n, L.length = n + 1 := by
          rcases L with _ | ⟨a, r⟩
          · exact absurd rfl hne
          · exact ⟨r.length, rfl⟩
        obtain ⟨x, hx⟩ : ∃ x, L[n]'(by omega) = x := ⟨_, rfl⟩
        have hxs : x.size ≤ k := HZ.out.1 x (hx ▸ List.getElem_mem _)
        obtain ⟨g, cap, rfl, hg0, hg1, hcap, hcm, hfz, hrow⟩ := HOWN.out.addr (by omega)
        obtain ⟨b', off, hA, _, hcell⟩ := str_cell hrow (show n < L.length by omega) hx
        injection hA with hA
        injection hA with e1 e2
        subst e1
        subst e2
        rw [Nat.zero_add] at hcell
        have hcl := Just.cell hcell
        obtain ⟨y, hy1, hy2, hy3⟩ := add_exD' x (s.extract k (k + 1)) (by rw [ByteArray.size_extract]; omega)
        have HY := Lib.hid hy2
        have HYS := Lib.hid hy3
        have HN := Lib.hid hn
        have hnb : n ≤ 100001 := by have := HZ.out.2; omega
        have w1 : IntKind.i64.wrap ((n : Int) + 1 - 1) = (n : Int) := by rw [IntWalk.i64_in _ (by omega)]; omega
        have w2 : IntKind.i64.wrap ((k : Int) + 1) = (k : Int) + 1 := IntWalk.i64_in _ (by omega)
        have HX : Hid (L[n]? = some x) := Lib.hid (by rw [← hx]; exact List.getElem?_eq_getElem _)
        have HCELL := Lib.hid hcell
        clear hx hn hne hrow hy2 hy3 hcell
        rw [HN.out]
        go_wp2_with fail
        refine wp_region_tail 17 (by kernel_rfl) (by kernel_rfl) ?_; simp only [List.take_succ_cons, List.take_zero, List.drop_succ_cons, List.drop_zero]
        (repeat (go_big_quiet_step (fail))); refine wpQuiet_nil ?_
        clear w1 w2 hcl
        have hcell := HCELL.out
        go_wp2_with fail
        go_roundg (s.size - (k + 1))
        case measure => omega
        case rel =>
          refine ⟨k + 1, L.set n y, by go_num, by omega, by omega, ?_, Lib.hid ?_, Lib.hid ⟨?_, ?_⟩, ?_⟩
          · have h1 := HOWN.out.set1 (u := .string y) (y := y) rfl (show n < L.length by rw [HN.out]; omega) rfl
            rw [HN.out] at h1
            exact h1.drewN 1
          · rw [HSP.out]
            unfold splStep
            rw [if_neg (fun e => HC.out (by rw [e]))]
            exact dL_set L n x y HN.out HX.out _ (by rw [HY.out, extract_one s k hlt])
          · intro z hz
            rcases List.mem_or_eq_of_mem_set hz with hz | rfl
            · exact Nat.le_trans (HZ.out.1 z hz) (by omega)
            · rw [HYS.out, ByteArray.size_extract]
              omega
          · have := HZ.out.2
            simp
            omega
          · exact (HBW.out.setCell hg0 _).drew
    · obtain rfl : k = s.size := by omega
      go_wp2_with fail
      go_ret
      exact ⟨_, L, rfl, HOWN.out, by rw [HL.out, List.take_of_length_le (by simp)], HZ.out.1, HZ.out.2, HBW.out⟩
end Go.Proofs.YtbjbolpmbdllnaaDoor
