/- Cuts of slices, nil let in. -/
import Derived.Test.YtambinjjfapcgaaDoorGrow
import Derived.Test.YtambinjjfapcgaaDoorChecked
namespace Go.Proofs.YtambinjjfapcgaaDoor
open Go.RowKit

/-- The address of s[k:]. -/
def cutA (A : Option Addr) (cap k size : Nat) : Option Addr := if cap = k then A else A.map (·.add (k * size))
theorem RowsAt.cut {α : Type} {E : El α} {w : World} {S : Nat → Prop} {A : Option Addr} {l : List α} {k cap : Nat} (h : RowsAt E w S A l) (hk : k ≤ l.length) (hc : l.length ≤ cap) : RowsAt E w S (cutA A cap k E.n) (l.drop k) := by
  unfold cutA
  rcases Nat.eq_or_lt_of_le hk with e | e
  · rw [e, List.drop_length]
    exact RowsAt.nil _ _ _ _
  · rw [if_neg (by omega)]
    obtain ⟨b, off, _, hA, _⟩ := h.get e
    subst hA
    simp only [Option.map_some, addr_add]
    exact h.drop k
theorem run_head {P : Program} {t e : TypeId} {i : TypeInfo} (ht : P.underlying t = some (.slice e)) (hi : P.info? e = some i) (A : Option Addr) (n cap k : Nat) (hk : k ≤ cap) (w : World) :
    (Instr.slice t (.slice A n cap) none (some (.int .i64 (k : Int))) none).run P w = .ok (.slice A k cap) w := by
  have he : P.elem t = e := by simp [Program.elem, ht]
  have hh : ((k : Int)).toNat = k := by omega
  rw [run_slice_h w t A n cap (by rw [he]; exact ht) .i64 k (by omega) (by omega), he, hh]
  have h0 : ∀ a : Addr, a.add 0 = a := fun a => by unfold Addr.add; simp
  cases A <;> simp [sizeOf, typeInfo, hi, sliced, Result.andThen, h0]
theorem run_tail {P : Program} {t e : TypeId} {i : TypeInfo} (ht : P.underlying t = some (.slice e)) (hi : P.info? e = some i) (A : Option Addr) (n cap k : Nat) (hk : k ≤ n) (w : World) :
    (Instr.slice t (.slice A n cap) (some (.int .i64 (k : Int))) none none).run P w = .ok (.slice (cutA A cap k i.size) (n - k) (cap - k)) w := by
  have he : P.elem t = e := by simp [Program.elem, ht]
  have hh : ((k : Int)).toNat = k := by omega
  rw [run_slice_l w t A n cap (by rw [he]; exact ht) .i64 k (by omega) (by omega), he, hh]
  simp [sizeOf, typeInfo, hi, sliced, Result.andThen, cutA]
/-- The two cuts of s at k, for the walk. -/
theorem cuts {t e : TypeId} {z : Value} {sz by_ : Nat} (ht : Tryd.prog.underlying t = some (.slice e)) (hi : (Tryd.prog.info? e).map (fun i => (i.zero, i.size, i.bytes)) = some (some z, sz, by_)) (A : Option Addr) (n cap k : Nat) (hk : k ≤ n) (hc : n ≤ cap) :
    (∀ w, (Instr.sliceAt t (.slice A n cap) none (some (.int .i64 (k : Int))) none).run Tryd.prog w = .ok (.slice A k cap) w) ∧
    ∀ w, (Instr.sliceAt t (.slice A n cap) (some (.int .i64 (k : Int))) none none).run Tryd.prog w = .ok (.slice (cutA A cap k sz) (n - k) (cap - k)) w := by
  obtain ⟨i0, hi0, hz0, hz1, hz2⟩ := info_parts hi
  have he : Tryd.prog.elem t = e := by simp [Program.elem, ht]
  constructor
  · intro w
    rw [run_sliceAt_slice w t _ _ _ _ (by rw [he]; exact ht)]
    exact run_head ht hi0 A n cap k (by omega) w
  · intro w
    rw [run_sliceAt_slice w t _ _ _ _ (by rw [he]; exact ht), run_tail ht hi0 A n cap k hk w, hz1]
end Go.Proofs.YtambinjjfapcgaaDoor
