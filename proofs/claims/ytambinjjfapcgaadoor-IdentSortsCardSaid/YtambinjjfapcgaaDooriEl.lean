/- How processes, stamps and bytes lie in memory. -/
import Derived.Test.YtambinjjfapcgaaDooriFun
import Derived.Test.YtambinjjfapcgaaDooriCodec
import Derived.Test.YtambinjjfapcgaaDoorRows2
namespace Go.Proofs.YtambinjjfapcgaaDoor
open Go.RowKit

def Pr.cells (p : Pr) : List Value := [.int .i64 p.site, .int .i64 p.inc, .int .i64 p.num]
def St.cells (p : St) : List Value := [.int .i64 p.time, .int .i64 p.site]
def Pr.Fit (p : Pr) : Prop := I64 p.site ∧ I64 p.inc ∧ I64 p.num
def St.Fit (p : St) : Prop := I64 p.time ∧ I64 p.site
def prE : El Pr := El.plain 3 (by decide) Pr.cells (fun _ => rfl) (by intro x u hu; simp [Pr.cells] at hu; rcases hu with rfl | rfl | rfl <;> rfl)
def stE : El St := El.plain 2 (by decide) St.cells (fun _ => rfl) (by intro x u hu; simp [St.cells] at hu; rcases hu with rfl | rfl <;> rfl)
theorem pr_val (p : Pr) : p.val = .agg p.cells.toArray := rfl
theorem st_val (p : St) : p.val = .agg p.cells.toArray := rfl


theorem pr_cells {w : World} {S : Nat → Prop} {A : Option Addr} {l : List Pr} {i : Nat} {a b c : Int} (h : RowsAt prE w S A l) (hi : i < l.length) (hx : l[i] = ⟨a, b, c⟩) :
    ∃ k off, A = some ⟨k, off, none⟩ ∧ S k ∧ w.cell? ⟨k, off + i * 3, none⟩ = some (.int .i64 a) ∧ w.cell? ⟨k, off + i * 3 + 1, none⟩ = some (.int .i64 b) ∧ w.cell? ⟨k, off + i * 3 + 2, none⟩ = some (.int .i64 c) := by
  obtain ⟨k, off, cs, hA, hS, hc, hd⟩ := h.getx hi hx
  have hc' : cs = [.int .i64 a, .int .i64 b, .int .i64 c] := hc
  subst hc'
  exact ⟨k, off, hA, hS, hd 0 (show 0 < 3 by decide), hd 1 (show 1 < 3 by decide), hd 2 (show 2 < 3 by decide)⟩
theorem prTB : ElTB Tryd.prog prE 22 24 24 := ElTB.mk' Tryd.underlying22 (.agg #[.int .i64 0, .int .i64 0, .int .i64 0]) 3 24 (by kernel_rfl) rfl rfl
theorem prT : ElT Tryd.prog prE 22 24 := ⟨24, prTB, by decide⟩

def byteE : El UInt8 := El.plain 1 (by decide) (fun c => [.int .u8 (c.toNat : Int)]) (fun _ => rfl) (by intro x u hu; simp at hu; subst hu; rfl)
theorem byte_cell {w : World} {S : Nat → Prop} {A : Option Addr} {l : List UInt8} {i : Nat} (h : RowsAt byteE w S A l) (hi : i < l.length) :
    ∃ b off, A = some ⟨b, off, none⟩ ∧ S b ∧ w.cell? ⟨b, off + i, none⟩ = some (.int .u8 (l[i].toNat : Int)) := by
  obtain ⟨b, off, cs, hA, hS, hc, hd⟩ := h.get hi
  have hc' : cs = [.int .u8 (l[i].toNat : Int)] := hc
  subst hc'
  have := hd 0 (show 0 < 1 by decide)
  exact ⟨b, off, hA, hS, by simpa [show byteE.n = 1 from rfl] using this⟩
theorem byteTB : ElTB Tryd.prog byteE 73 5 1 := ElTB.mk' Tryd.underlying73 (.int .u8 0) 1 1 (by kernel_rfl) rfl rfl
theorem byteT : ElT Tryd.prog byteE 73 5 := ⟨1, byteTB, by decide⟩
theorem byteE_one (w : World) (S : Nat → Prop) (c : UInt8) : byteE.rep w S c [.int .u8 (c.toNat : Int)] := rfl
end Go.Proofs.YtambinjjfapcgaaDoor
