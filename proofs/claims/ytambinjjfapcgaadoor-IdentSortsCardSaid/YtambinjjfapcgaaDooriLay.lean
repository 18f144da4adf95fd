/- What the library's own functions want of the heap, and their contracts in plain words. -/
import Derived.Test.YtambinjjfapcgaaDooriFun
import Derived.Test.YtambinjjfapcgaaDoorShelfA
import Derived.Laws.NewBlocks
import Derived.Lib.SmallJoins
namespace Go.Proofs.YtambinjjfapcgaaDoor
open Go.RowKit

structure Lay (w : World) : Prop where
  mx : ∃ m, w.cell? ⟨2, 0, none⟩ = some (.int .i64 m)
  tab : Lib.TabIs Tryd.prog w "internal/strconv.uint64pow10" .u64 Lib.pow10Tab
  syn : ∃ ev, w.cell? ⟨0, 0, none⟩ = some ev ∧ (ev = .nilIface ∨ ∃ te pe, ev = .iface te pe)
  rng : ∃ ev, w.cell? ⟨1, 0, none⟩ = some ev ∧ (ev = .nilIface ∨ ∃ te pe, ev = .iface te pe)

theorem cell_lt {w : World} {a : Addr} {v : Value} (h : w.cell? a = some v) : a.block < w.heap.size := by
  rcases Nat.lt_or_ge a.block w.heap.size with h' | h'
  · exact h'
  · simp [World.cell?, Array.getElem?_eq_none h'] at h
theorem cell_below {w w' : World} (hb : Below w.heap.size w w') {a : Addr} {v : Value} (h : w.cell? a = some v) : w'.cell? a = some v := (hb.cell (p := a) (cell_lt h)).trans h
theorem var_below {w w' : World} (hb : Below w.heap.size w w') {n : String} {cs : Array Value} (h : w.var? Tryd.prog n = some cs) : w'.var? Tryd.prog n = some cs := by
  unfold World.var? at h ⊢
  rcases hg : Tryd.prog.globalNamed n with _ | g
  · rw [hg] at h; cases h
  · rw [hg] at h
    simp only [Option.bind_some] at h ⊢
    have hlt : g < w.heap.size := by
      rcases Nat.lt_or_ge g w.heap.size with h' | h'
      · exact h'
      · rw [Array.getElem?_eq_none h'] at h; cases h
    rw [hb.block g hlt]
    exact h
theorem Lay.below {w w' : World} (h : Lay w) (hb : Below w.heap.size w w') : Lay w' where
  mx := let ⟨m, hm⟩ := h.mx; ⟨m, cell_below hb hm⟩
  tab := var_below hb h.tab
  syn := let ⟨e, he, hk⟩ := h.syn; ⟨e, cell_below hb he, hk⟩
  rng := let ⟨e, he, hk⟩ := h.rng; ⟨e, cell_below hb he, hk⟩

theorem Itoa_any (n : Int) (h0 : 0 ≤ n) (h1 : n ≤ 999) (w : World) (hL : Lay w) : Calls Tryd.prog 22 #[.int .i64 n] w (Ret w (.string ⟨(dgI n).toArray⟩)) := by
  refine (Tryd.strconv_Itoa n (by omega) (by omega) w hL.tab).mono ?_
  rintro e w' ⟨rfl, k, os, rfl⟩
  refine ⟨?_, ?_⟩
  · have : Lib.itoa n = dgI n := by unfold Lib.itoa dgI; rw [if_neg (by omega)]
    rw [this]
  · exact ⟨rfl, rfl, rfl, by show _ ≤ (w.heap ++ _).size; simp, fun i hi => by
      show (w.heap ++ _)[i]? = _
      rw [Array.getElem?_append, if_pos hi]⟩

/-- Atoi: the number, or an error that is not nil. -/
def atoiR (w : World) (s : ByteArray) (e : Ending) (w' : World) : Prop :=
  Below w.heap.size w w' ∧ match okI (Lib.atoiAll s.data.toList) with
    | some v => e = .returned (.tuple #[.int .i64 v, .nilIface])
    | none => ∃ x t p, e = .returned (.tuple #[.int .i64 x, .iface t p])
theorem Atoi_any (s : ByteArray) (hs : s.size ≤ 281474976710656) (w : World) (hL : Lay w) : Calls Tryd.prog 19 #[.string s] w (atoiR w s) := by
  unfold atoiR
  rcases h : Lib.atoiAll s.data.toList with v | _ | _
  · refine (Tryd.strconv_Atoi_ok s (by omega) v h w).mono ?_
    rintro e w' ⟨rfl, hw⟩
    refine ⟨?_, rfl⟩
    rcases hw with rfl | ⟨t, rfl⟩
    · exact Below.refl _ _
    · exact Joins.below_bytesWorld _ _ _ _ (Nat.le_refl _)
  · obtain ⟨ev, he, hk⟩ := hL.syn
    refine (Tryd.strconv_Atoi_syntax s hs h ev w he hk).mono ?_
    rintro e w' ⟨N, rfl, _, _, hb⟩
    exact ⟨hb, _, _, _, rfl⟩
  · obtain ⟨ev, he, hk⟩ := hL.rng
    refine (Tryd.strconv_Atoi_range s hs h ev w he hk).mono ?_
    rintro e w' ⟨N, rfl, _, _, hb⟩
    exact ⟨hb, _, _, _, rfl⟩
end Go.Proofs.YtambinjjfapcgaaDoor
