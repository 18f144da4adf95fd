/- Part 36 of 49 of the proof of waitgraphOf_holds (no condition). -/
import Derived.Test.YtogeihdfmnohnaaGreatDoorProg
import Derived.Test.YtogeihdfmnohnaaGreatDoorK17
import Derived.Test.YtogeihdfmnohnaaGreatDoorK31
import Derived.Test.YtogeihdfmnohnaaGreatDoorK35
import Derived.Shelf.Sort.Plain
import Derived.Shelf.Slices.In.SortNone
import Derived.Shelf.Slices.CompactI
import Derived.Ground.NamesProg
import Derived.Ground.Names2Prog
import Derived.Ground.SlsfProg
import Derived.Deep.DeepCutAuto
set_option linter.unusedVariables false
set_option linter.unusedSimpArgs false
namespace Go.Proofs
open Go.Shelf
def Tryz.sortInts_ren : Go.Shelf.Ren := ⟨fun | 189 => 52 | 125 => 89 | 257 => 88 | 128 => 134 | 129 => 135 | 294 => 125 | 295 => 126 | 296 => 127 | 297 => 128 | 298 => 129 | 299 => 130 | 216 => 131 | 300 => 132 | 301 => 133 | 328 => 162 | 329 => 163 | 330 => 164 | 331 => 165 | 332 => 166 | 215 => 167 | 343 => 184 | n => n, fun | 28 => 35 | 3 => 3 | 46 => 123 | 0 => 0 | 51 => 166 | 53 => 168 | 4 => 4 | 183 => 159 | 182 => 158 | 131 => 163 | 5 => 5 | 9 => 9 | 218 => 181 | 222 => 143 | 228 => 194 | 229 => 189 | n => n, fun | n => n⟩
theorem Tryz.sortInts : Go.Proofs.Lays.n189 Tryz.prog Tryz.sortInts_ren := {
  mixed := by kernel_rfl
  f125 := Tryz.func89.trans (congrArg some (by kernel_rfl))
  f128 := Tryz.func134.trans (congrArg some (by kernel_rfl))
  f129 := Tryz.func135.trans (congrArg some (by kernel_rfl))
  f189 := Tryz.func52.trans (congrArg some (by kernel_rfl))
  f215 := Tryz.func167.trans (congrArg some (by kernel_rfl))
  f216 := Tryz.func131.trans (congrArg some (by kernel_rfl))
  f257 := Tryz.func88.trans (congrArg some (by kernel_rfl))
  f294 := Tryz.func125.trans (congrArg some (by kernel_rfl))
  f295 := Tryz.func126.trans (congrArg some (by kernel_rfl))
  f296 := Tryz.func127.trans (congrArg some (by kernel_rfl))
  f297 := Tryz.func128.trans (congrArg some (by kernel_rfl))
  f298 := Tryz.func129.trans (congrArg some (by kernel_rfl))
  f299 := Tryz.func130.trans (congrArg some (by kernel_rfl))
  f300 := Tryz.func132.trans (congrArg some (by kernel_rfl))
  f301 := Tryz.func133.trans (congrArg some (by kernel_rfl))
  f328 := Tryz.func162.trans (congrArg some (by kernel_rfl))
  f329 := Tryz.func163.trans (congrArg some (by kernel_rfl))
  f330 := Tryz.func164.trans (congrArg some (by kernel_rfl))
  f331 := Tryz.func165.trans (congrArg some (by kernel_rfl))
  f332 := Tryz.func166.trans (congrArg some (by kernel_rfl))
  f343 := Tryz.func184.trans (congrArg some (by kernel_rfl))
  t0 := Tryz.underlying0
  a0 := Tryz.isAgg0
  z0 := Tryz.sizeOf0
  v0 := Tryz.zeroValue0
  t3 := Tryz.underlying3
  a3 := Tryz.isAgg3
  z3 := Tryz.sizeOf3
  v3 := Tryz.zeroValue3
  t4 := Tryz.underlying4
  a4 := Tryz.isAgg4
  z4 := Tryz.sizeOf4
  v4 := Tryz.zeroValue4
  t5 := Tryz.underlying5
  a5 := Tryz.isAgg5
  z5 := Tryz.sizeOf5
  v5 := Tryz.zeroValue5
  t9 := Tryz.underlying9
  a9 := Tryz.isAgg9
  z9 := Tryz.sizeOf9
  v9 := Tryz.zeroValue9
  t28 := Tryz.underlying35
  a28 := Tryz.isAgg35
  z28 := Tryz.sizeOf35
  v28 := Tryz.zeroValue35
  t46 := Tryz.underlying123
  a46 := Tryz.isAgg123
  z46 := Tryz.sizeOf123
  v46 := Tryz.zeroValue123
  t51 := Tryz.underlying166
  a51 := Tryz.isAgg166
  z51 := Tryz.sizeOf166
  v51 := Tryz.zeroValue166
  t53 := Tryz.underlying168
  a53 := Tryz.isAgg168
  z53 := Tryz.sizeOf168
  v53 := Tryz.zeroValue168
  t131 := Tryz.underlying163
  a131 := Tryz.isAgg163
  z131 := Tryz.sizeOf163
  v131 := Tryz.zeroValue163
  t182 := Tryz.underlying158
  a182 := Tryz.isAgg158
  z182 := Tryz.sizeOf158
  v182 := Tryz.zeroValue158
  t183 := Tryz.underlying159
  a183 := Tryz.isAgg159
  z183 := Tryz.sizeOf159
  v183 := Tryz.zeroValue159
  t218 := Tryz.underlying181
  a218 := Tryz.isAgg181
  z218 := Tryz.sizeOf181
  v218 := Tryz.zeroValue181
  t222 := Tryz.underlying143
  a222 := Tryz.isAgg143
  z222 := Tryz.sizeOf143
  v222 := Tryz.zeroValue143
  t228 := Tryz.underlying194
  a228 := Tryz.isAgg194
  z228 := Tryz.sizeOf194
  v228 := Tryz.zeroValue194
  t229 := Tryz.underlying189
  a229 := Tryz.isAgg189
  z229 := Tryz.sizeOf189
  v229 := Tryz.zeroValue189 }
def Tryz.compactInts_ren : Go.Shelf.Ren := ⟨fun | 20 => 56 | n => n, fun | 22 => 35 | 3 => 3 | 4 => 4 | 0 => 0 | n => n, fun | n => n⟩
theorem Tryz.compactInts : Go.Proofs.Lays2.n20 Tryz.prog Tryz.compactInts_ren := {
  mixed := by kernel_rfl
  f20 := Tryz.func56.trans (congrArg some (by kernel_rfl))
  t0 := Tryz.underlying0
  a0 := Tryz.isAgg0
  z0 := Tryz.sizeOf0
  v0 := Tryz.zeroValue0
  t3 := Tryz.underlying3
  a3 := Tryz.isAgg3
  z3 := Tryz.sizeOf3
  v3 := Tryz.zeroValue3
  t4 := Tryz.underlying4
  a4 := Tryz.isAgg4
  z4 := Tryz.sizeOf4
  v4 := Tryz.zeroValue4
  t22 := Tryz.underlying35
  a22 := Tryz.isAgg35
  z22 := Tryz.sizeOf35
  v22 := Tryz.zeroValue35
  i3 := by kernel_rfl }
end Go.Proofs
namespace Go.Proofs.YtogeihdfmnohnaaGreatDoor
open Go.RowKit Go.Shelf Go.Sort
theorem flat1 (d : Array Int) : flatK (fun x => [Value.int .i64 x]) 1 d = d.map (Value.int .i64) := by
  apply Array.ext
  · simp
  · intro t h1 h2
    have ht : t < d.size := by simpa using h2
    rw [← getElem!_pos _ t h1, get_flatK _ _ _ _ (by simpa using ht), Array.getElem_map, Nat.div_one, Nat.mod_one, getElem!_pos d t ht]
    rfl
theorem holds1 {w : World} {g : Nat} {d : Array Int} (h : HoldsK (fun x => [Value.int .i64 x]) 1 w g 0 d) : Holds (Value.int .i64) w g 0 d := by
  unfold HoldsK at h
  rw [flat1] at h
  intro j hj
  have := h j (by simpa using hj)
  rw [getElem!_pos _ j (by simpa using hj)] at this
  simpa [getElem!_pos d j hj] using this
theorem putRow1 (w : World) (g : Nat) (d : Array Int) : putRow (Value.int .i64) w g 0 d = putRowK (fun x => [Value.int .i64 x]) 1 w g 0 d := by
  unfold putRowK putRow
  rw [flat1]
  congr 1
  funext c
  unfold putCells
  congr 1
  funext k x
  simp only [Array.size_map, Nat.zero_le, true_and, Nat.zero_add, Nat.sub_zero, id]
  split
  · next h => rw [getElem!_pos d k h, getElem!_pos _ k (by simpa using h), Array.getElem_map]
  · rfl
theorem SortInt_own {w0 : World} {base : Nat} {v : Value} {l : List Int} (w : World) (hown : OwnRows intE 3 w base v l) (hb : Below base w0 w) (hsz : l.length < 4611686018427387904) :
    Calls Tryz.prog 52 #[v] w fun e w' => e = .returned (.tuple #[]) ∧ OwnRows intE 3 w' base v (sortI l) ∧ Below base w0 w' := by
  rcases Nat.eq_zero_or_pos l.length with h0 | h0
  · obtain ⟨A, cap, rfl, _, _, _, _⟩ := hown.form2
    obtain rfl := List.eq_nil_of_length_eq_zero h0
    refine (Any.slices_Sort_int_none Tryz.sortInts A cap w).mono ?_
    rintro e w' ⟨rfl, rfl⟩
    exact ⟨rfl, by simpa [sortI] using hown, hb⟩
  · obtain ⟨g, cap, rfl, hg, hg2, _, _, _, _⟩ := hown.addr h0
    refine (Any.slices_Sort_int Tryz.sortInts g 0 cap l w (holds1 hown.holdsK) hg2 hsz).mono ?_
    rintro e w' ⟨rfl, n, os, rfl⟩
    rw [putRow1]
    exact ⟨rfl, hown.sorted hg2 (by simp [sortI]) n os, below_sorted hb hg hg2 n _ os⟩
theorem compact_len (l : List Int) : (Go.Lib.compact l).length ≤ l.length := by
  unfold Go.Lib.compact Go.Lib.compactUpTo
  rw [List.length_map]
  refine Nat.le_trans (List.length_filter_le _ _) ?_
  simp
theorem CompactInt_own {w0 : World} {base : Nat} {v : Value} {l : List Int} (w : World) (hown : OwnRows intE 3 w base v l) (hb : Below base w0 w) (hsz : l.length ≤ 281474976710656) :
    Calls Tryz.prog 56 #[v] w fun e w' => ∃ v', e = .returned v' ∧ OwnRows intE 3 w' base v' (Go.Lib.compact l) ∧ Below base w0 w' := by
  rcases Nat.eq_zero_or_pos l.length with h0 | h0
  · obtain ⟨A, cap, rfl, _, _, _, _⟩ := hown.form2
    obtain rfl := List.eq_nil_of_length_eq_zero h0
    refine (Any.slices_Compact_int_empty Tryz.compactInts A cap w).mono ?_
    rintro e w' ⟨rfl, rfl⟩
    exact ⟨_, rfl, hown, hb⟩
  · obtain ⟨g, cap, rfl, hg, hg2, _, _, _, _⟩ := hown.addr h0
    obtain ⟨A, cap', hA, _, hcap, _⟩ := hown.form
    have hcap2 : l.length ≤ cap := by injection hA
    refine (Any.slices_Compact_int Tryz.compactInts g 0 cap l w (holds1 hown.holdsK) (by omega) hcap2).mono ?_
    rintro e w' ⟨rfl, q, rfl⟩
    rw [putRow1]
    have hl := compact_len l
    generalize Go.Lib.compact l = m at *
    obtain ⟨Z, hZ⟩ : ∃ z, z = List.replicate (l.length - m.length) (0 : Int) := ⟨_, rfl⟩
    rw [← hZ]
    have hlen : (m ++ Z).length = l.length := by rw [hZ]; simp; try omega
    have h1 := hown.sorted hg2 hlen q #[]
    have h3 : Below base w0 (sortWorldK (fun x => [Value.int .i64 x]) 1 w g 0 q (m ++ Z).toArray #[]) := below_sorted hb hg hg2 q _ #[]
    unfold sortWorldK at h1 h3
    rw [grow_empty] at h1 h3
    refine ⟨_, rfl, ?_, h3⟩
    rw [← hlen] at h1
    have h2 := OwnRows.cut h1 (k := m.length) (by simp)
    rwa [List.take_left] at h2
end Go.Proofs.YtogeihdfmnohnaaGreatDoor
namespace Go.Proofs.YtogeihdfmnohnaaGreatDoor
open Go.RowKit
variable {α : Type} {E : El α} {e : TypeId}
theorem stepPushOneB {P : Program} {t : TypeId} {by_ : Nat} (T : ElTB P E t e by_) {ops : Array Oper} {o : Oper} {a : Act} {w : World} {K : Act → World → Prop} {Q : Exit → Act → World → Prop} {E' : Prop} (hgd : o.guard = none) (s x : Operand)
    (ho : o.op = .call { callee := .builtin .append, args := #[s, x], argTypes := #[t, t] })
    (base : Nat) (v : Value) (l : List α) (y : α) (cs : List Value) (ca : Array Value) (hca : ca = cs.toArray) (hs : a.eval s = v) (hown : OwnRows E e w base v l) (nb : Nat) (hx : a.eval x = .slice (some ⟨nb, 0, none⟩) 1 1) (hnb : nb = w.heap.size) (hy : E.rep w (Oth w v) y cs) (hl : l.length < maxLen) (hlb : (l.length + 1) * by_ ≤ 140737488355328)
    (h : ∀ v' w', OwnRows E e w' base v' (l ++ [y]) → Below base w w' → Spares w w' v v' → K (a.put o.dst v') w') :
    if Region.wanted o (yielded ops a.tmps) = true then Oper.wp P o a (w.alloc (.cells ca e)) K Q else E' := by
  subst hnb
  subst hca
  have hsz : w.heap.size ≤ (w.alloc (.cells cs.toArray e)).heap.size := by simp
  have hkeep : ∀ b, b < w.heap.size → (w.alloc (.cells cs.toArray e)).heap[b]? = w.heap[b]? := fun b hb => Below.heap_alloc w _ b hb
  have hy' : E.rep (w.alloc (.cells cs.toArray e)) (Oth (w.alloc (.cells cs.toArray e)) v) y cs := E.same hy (fun b hb => hkeep b hb.1) fun b hb => ⟨Nat.lt_of_lt_of_le hb.1 hsz, hb.2⟩
  have hnot : v.ownBlock ≠ some w.heap.size := fun e => by have := (hown.block _ e).2; omega
  refine stepPushRB T hgd s x ho base v l [y] 1 rfl _ 1 hs (hown.alloc _) hx ⟨cs, Reps.single hy', fun _ => ⟨w.heap.size, 0, rfl, ⟨by simp, hnot⟩, fun j u hu => cellOfNew w cs e j u hu⟩⟩ hl hlb ?_
  intro v' w' h1 h2 h3
  refine h v' w' h1 (((Below.refl base w).alloc hown.1 _).trans h2) fun b hb => ?_
  obtain ⟨e1, e2⟩ := h3 b ⟨Nat.lt_of_lt_of_le hb.1 hsz, hb.2⟩
  exact ⟨e1.trans (hkeep b hb.1), e2⟩
end Go.Proofs.YtogeihdfmnohnaaGreatDoor
namespace Go.Proofs.YtogeihdfmnohnaaGreatDoor
open Go.RowKit
def RetOf (w : World) (G : List No) (P : List Pr) (er : Int) (e : Ending) (w' : World) : Prop := ∃ A c A' c', e = .returned (.tuple #[.slice A G.length c, .slice A' P.length c', .int .i64 er]) ∧ RowsAt noE w' (New w.heap.size w') A G ∧ RowsAt prE w' (New w.heap.size w') A' P ∧ Below w.heap.size w w'
def okG (s : Ws) : List No := bif decide (errS s = 0) then graphS s else []
def okP (s : Ws) : List Pr := bif decide (errS s = 0) then procsW s else []
theorem RetOf.err {w w' : World} {er : Int} (h : Below w.heap.size w w') : RetOf w [] [] er (.returned (.tuple #[.slice none 0 0, .slice none 0 0, .int .i64 er])) w' := ⟨none, 0, none, 0, rfl, RowsAt.nil _ _ _ _, RowsAt.nil _ _ _ _, h⟩
theorem two_nodes {w : World} {v : Value} {bs base : Nat} {A1 A2 : Option Addr} {k1 k2 : Int} {n1 n2 : List Int} {c1 c2 : Nat} (h1 : RowsAt intE w (New bs w) A1 n1) (h2 : RowsAt intE w (New bs w) A2 n2) (l1 : n1.length ≤ 100000) (l2 : n2.length ≤ 100000) (hb : bs ≤ w.heap.size) (hbase : base ≤ bs) (hv : ∀ k, v.ownBlock = some k → k < bs) :
    RowsAt (noE.from base) (w.alloc (.cells #[.int .i64 k1, .slice A1 n1.length c1, .int .i64 k2, .slice A2 n2.length c2] 37)) (Oth (w.alloc (.cells #[.int .i64 k1, .slice A1 n1.length c1, .int .i64 k2, .slice A2 n2.length c2] 37)) v) (some ⟨w.heap.size, 0, none⟩) [⟨k1, n1⟩, ⟨k2, n2⟩] := by
  have hk : ∀ {A : Option Addr} {n : List Int}, RowsAt intE w (New bs w) A n → RowsAt intE (w.alloc (.cells #[.int .i64 k1, .slice A1 n1.length c1, .int .i64 k2, .slice A2 n2.length c2] 37)) (fun b => Oth (w.alloc (.cells #[.int .i64 k1, .slice A1 n1.length c1, .int .i64 k2, .slice A2 n2.length c2] 37)) v b ∧ base ≤ b) A n := fun h =>
    h.same (fun b hb2 => Below.heap_alloc w _ b hb2.2) fun b hb2 => ⟨⟨by have := hb2.2; simp; omega, fun e => by have h3 := hv b e; have h4 := hb2.1; omega⟩, Nat.le_trans hbase hb2.1⟩
  refine ⟨[.int .i64 k1, .slice A1 n1.length c1, .int .i64 k2, .slice A2 n2.length c2], ⟨[.int .i64 k1, .slice A1 n1.length c1], [.int .i64 k2, .slice A2 n2.length c2], rfl, ⟨A1, c1, rfl, l1, hk h1⟩, ⟨[.int .i64 k2, .slice A2 n2.length c2], [], rfl, ⟨A2, c2, rfl, l2, hk h2⟩, rfl⟩⟩, fun _ => ⟨w.heap.size, 0, rfl, ⟨by simp, fun e => by have := hv _ e; omega⟩, fun j u hu => cellOfNew w [.int .i64 k1, .slice A1 n1.length c1, .int .i64 k2, .slice A2 n2.length c2] 37 j u hu⟩⟩
theorem one_node {w : World} {v : Value} {bs base : Nat} {A1 : Option Addr} {k1 : Int} {n1 : List Int} {c1 : Nat} (h1 : RowsAt intE w (New bs w) A1 n1) (l1 : n1.length ≤ 100000) (hbase : base ≤ bs) (hv : ∀ k, v.ownBlock = some k → k < bs) :
    (noE.from base).rep w (Oth w v) ⟨k1, n1⟩ [.int .i64 k1, .slice A1 n1.length c1] :=
  ⟨A1, c1, rfl, l1, h1.mono fun b hb2 => ⟨⟨hb2.2, fun e => by have h3 := hv b e; have h4 := hb2.1; omega⟩, Nat.le_trans hbase hb2.1⟩⟩
theorem lit0 (w : World) (base : Nat) (x : Int) (hb : base ≤ w.heap.size) : RowsAt intE (w.alloc (.cells #[.int .i64 x] 3)) (New base (w.alloc (.cells #[.int .i64 x] 3))) (some ⟨w.heap.size, 0, none⟩) [x] :=
  ⟨[.int .i64 x], ⟨[.int .i64 x], [], rfl, rfl, rfl⟩, fun _ => ⟨w.heap.size, 0, rfl, ⟨hb, by simp⟩, fun j u hu => cellOfNew w [.int .i64 x] 3 j u hu⟩⟩
theorem lit1 {w W : World} {base : Nat} {x : Int} (hb : base ≤ w.heap.size) (h : Below (w.alloc (.cells #[.int .i64 x] 3)).heap.size (w.alloc (.cells #[.int .i64 x] 3)) W) : RowsAt intE W (New base W) (some ⟨w.heap.size, 0, none⟩) [x] := New.grow h (Nat.le_refl _) (lit0 w base x hb)
theorem goP_len (s : Ws) (p : Pr) : ∀ (la : List Tm) (bs : List Bool) (k : Int) (nx : List Int), (goP s p la bs k nx).2.length ≤ nx.length + la.length
  | [], _, _, _ => by simp [goP]
  | _ :: _, [], _, _ => by simp [goP]
  | a :: la, b :: bs, k, nx => by
    rw [goP_cons]
    cases b with
    | true => have := goP_len s p la bs (k - 1) nx; simp only [cond_true, List.length_cons]; omega
    | false =>
      have h1 := goP_len s p la bs k (addI nx (posGo s p a.name 0 s.queues))
      have h2 := addI_len nx (posGo s p a.name 0 s.queues)
      simp only [cond_false, List.length_cons]
      omega
theorem atS_len (x : Ex) : (atS x).length ≤ 8 := by
  cases hv : veB x with
  | true => exact (veB_sh hv).2.2.1
  | false => rw [atS_no hv]; simp
theorem nodeP_len (s : Ws) (p : Pr) : (nodeP s p).next.length ≤ 8 := by
  unfold nodeP
  cases needS s.needs p with
  | none => simp
  | some x =>
    dsimp only
    cases holdsS x.expr (grantS s p) with
    | true => simp
    | false =>
      have h1 := goP_len s p (atS x.expr) (grantS s p) (if x.expr.k = 0 then 1 else x.expr.k) []
      have h2 := atS_len x.expr
      simp only [cond_false]
      simp only [List.length_nil] at h1
      omega
end Go.Proofs.YtogeihdfmnohnaaGreatDoor
namespace Go.Proofs.YtogeihdfmnohnaaGreatDoor
open Go.RowKit
structure Bd (w : World) (gb : Nat) (bc : Value → Array Value) (fs : List Int) (A4 : Option Addr) (v5 : Value) (L : List No) : Prop where
  blk : Blk w gb 65 (bc v5)
  fst : RowsAt intE w (fun b => Oth w v5 b ∧ gb < b) A4 fs
  nds : OwnRows (noE.from (gb + 1)) 37 w (gb + 1) v5 L
theorem Bd.next {w w' : World} {gb : Nat} {bc : Value → Array Value} {fs : List Int} {A4 : Option Addr} {v5 : Value} {L : List No} (h : Bd w gb bc fs A4 v5 L) (hb : Below w.heap.size w w') : Bd w' gb bc fs A4 v5 L :=
  ⟨h.blk.below hb h.blk.lt, h.fst.same (fun b hb2 => hb.block b hb2.1.1) (fun b hb2 => ⟨⟨Nat.lt_of_lt_of_le hb2.1.1 hb.size, hb2.1.2⟩, hb2.2⟩), h.nds.below hb (Nat.le_refl _)⟩
theorem ownF_set {w : World} {gb o : Nat} {v u : Value} {l : List No} (h : OwnRows (noE.from (gb + 1)) 37 w (gb + 1) v l) : OwnRows (noE.from (gb + 1)) 37 (w.setCell ⟨gb, o, none⟩ u) (gb + 1) v l :=
  h.but (But.st (But.refl gb w) (.inl rfl)) (fun e => by have := (h.block _ e).1; omega) (fun xs hr => by
    have hr2 : ∀ (l : List No) (xs : List Value), Reps (noE.from (gb + 1)) w (Oth w v) l xs → Reps (noE.from (gb + 1)) (w.setCell ⟨gb, o, none⟩ u) (Oth (w.setCell ⟨gb, o, none⟩ u) v) l xs := by
      intro l
      induction l with
      | nil => intro xs h; exact h
      | cons x l ih =>
        intro xs h
        obtain ⟨cs, rest, rfl, h1, h2⟩ := h
        exact ⟨cs, rest, rfl, noE.same h1 (fun b hb => Below.heap_setCell _ _ _ _ (by have := hb.2; show b ≠ gb; omega)) (fun b hb => ⟨⟨by have := hb.1.1; simpa using this, hb.1.2⟩, hb.2⟩), ih rest h2⟩
    exact hr2 _ _ hr)
theorem Bd.push {w w' : World} {gb o : Nat} {bc : Value → Array Value} {fs : List Int} {A4 : Option Addr} {v5 v6 : Value} {L L2 : List No} (h : Bd w gb bc fs A4 v5 L) (ho : OwnRows (noE.from (gb + 1)) 37 w' (gb + 1) v6 L2) (hb : Below (gb + 1) w w') (hs : Spares w w' v5 v6) (hc : (bc v5).setIfInBounds o v6 = bc v6) : Bd (w'.setCell ⟨gb, o, none⟩ v6) gb bc fs A4 v6 L2 :=
  ⟨hc ▸ (h.blk.below hb (Nat.lt_succ_self _)).set_ o v6, h.fst.same (fun b hb2 => (Below.heap_setCell _ _ _ _ (by have := hb2.2; show b ≠ gb; omega)).trans (hs b hb2.1).1) (fun b hb2 => ⟨⟨by have := Nat.lt_of_lt_of_le hb2.1.1 hb.size; simpa using this, (hs b hb2.1).2⟩, hb2.2⟩), ownF_set ho⟩
theorem lit2 (w : World) (base : Nat) (x y : Int) (hb : base ≤ w.heap.size) : RowsAt intE (w.alloc (.cells #[.int .i64 x, .int .i64 y] 3)) (New base (w.alloc (.cells #[.int .i64 x, .int .i64 y] 3))) (some ⟨w.heap.size, 0, none⟩) [x, y] :=
  ⟨[.int .i64 x, .int .i64 y], ⟨[.int .i64 x], [.int .i64 y], rfl, rfl, ⟨[.int .i64 y], [], rfl, rfl, rfl⟩⟩, fun _ => ⟨w.heap.size, 0, rfl, ⟨hb, by simp⟩, fun j u hu => cellOfNew w [.int .i64 x, .int .i64 y] 3 j u hu⟩⟩
end Go.Proofs.YtogeihdfmnohnaaGreatDoor
