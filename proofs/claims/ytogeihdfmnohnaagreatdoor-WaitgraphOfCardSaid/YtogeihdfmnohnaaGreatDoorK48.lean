/- Part 48 of 49 of the proof of waitgraphOf_holds (no condition). -/
import Derived.Test.YtogeihdfmnohnaaGreatDoorK43
import Derived.Test.YtogeihdfmnohnaaGreatDoorK45
import Derived.ArgAppend
set_option linter.unusedVariables false
set_option linter.unusedSimpArgs false
namespace Go.Proofs.YtogeihdfmnohnaaGreatDoor.Wg
open Go.RowKit
def OwnQ (w : World) (base : Nat) (v : Value) (l : List Int) : Prop :=
  base ≤ w.heap.size ∧ ∃ g off cap cur, v = .slice (some ⟨g, off, none⟩) l.length cap ∧ base ≤ g ∧ w.heap[g]? = some (.cells cur 3 (0, 0)) ∧ l.length ≤ cap ∧ cap ≤ maxLen ∧ off + cap ≤ cur.size ∧
    ∀ j (h : j < l.length), cur[off + j]? = some (.int .i64 l[j])
theorem OwnQ.below {w w' : World} {base base' : Nat} {v : Value} {l : List Int} (h : OwnQ w base v l) (hb : Below base' w w') (hB : w.heap.size ≤ base') : OwnQ w' base v l := by
  obtain ⟨h0, g, off, cap, cur, hv, hg, hh, rest⟩ := h
  have hlt := (Array.getElem?_eq_some_iff.1 hh).1
  exact ⟨Nat.le_trans h0 hb.size, g, off, cap, cur, hv, hg, by rw [hb.block g (by omega)]; exact hh, rest⟩
theorem OwnQ.alloc {w : World} {base : Nat} {v : Value} {l : List Int} (h : OwnQ w base v l) (o : Obj) : OwnQ (w.alloc o) base v l := h.below ((Below.refl w.heap.size w).alloc (Nat.le_refl _) o) (Nat.le_refl _)
theorem OwnQ.setCell {w : World} {base : Nat} {v : Value} {l : List Int} (h : OwnQ w base v l) {a : Addr} (ha : a.block < base) (u : Value) : OwnQ (w.setCell a u) base v l := by
  obtain ⟨h0, g, off, cap, cur, hv, hg, hh, rest⟩ := h
  exact ⟨by simpa [World.setCell] using h0, g, off, cap, cur, hv, hg, by rw [Below.heap_setCell _ _ _ _ (by omega)]; exact hh, rest⟩
theorem OwnQ.one (w : World) (base nb : Nat) (x : Int) (hnb : nb = w.heap.size) (hb : base ≤ w.heap.size) : OwnQ (w.alloc (.cells #[.int .i64 x] 3)) base (.slice (some ⟨nb, 0, none⟩) 1 1) [x] := by
  subst hnb
  exact ⟨by simp; omega, w.heap.size, 0, 1, #[.int .i64 x], rfl, hb, heap_alloc_new w _, by simp, by unfold maxLen; omega, by simp, fun j hj => by
    have : j = 0 := by simpa using hj
    subst this; rfl⟩
theorem OwnQ.head {w : World} {base : Nat} {v : Value} {x : Int} {l : List Int} (h : OwnQ w base v (x :: l)) :
    ∃ g off cap, v = .slice (some ⟨g, off, none⟩) (l.length + 1) cap ∧ base ≤ g ∧ g < w.heap.size ∧ l.length + 1 ≤ cap ∧ cap ≤ 9223372036854775807 ∧ w.cell? ⟨g, off, none⟩ = some (.int .i64 x) ∧
      (cap = 1 → OwnQ w base (.slice (some ⟨g, off, none⟩) l.length 0) l) ∧ (cap ≠ 1 → OwnQ w base (.slice (some ⟨g, off + 1, none⟩) l.length (cap - 1)) l) := by
  obtain ⟨h0, g, off, cap, cur, hv, hg, hh, hlc, hcm, hsz, hc⟩ := h
  simp only [List.length_cons] at hlc hv
  refine ⟨g, off, cap, hv, hg, (Array.getElem?_eq_some_iff.1 hh).1, hlc, by unfold maxLen at hcm; omega, ?_, ?_, ?_⟩
  · have h1 : w.cell? ⟨g, off, none⟩ = cur[off]? := by simp [World.cell?, hh]
    rw [h1]
    exact hc 0 (by simp)
  · intro h1
    refine ⟨h0, g, off, 0, cur, rfl, hg, hh, by omega, by omega, by omega, fun j hj => by omega⟩
  · intro h1
    refine ⟨h0, g, off + 1, cap - 1, cur, rfl, hg, hh, by omega, by omega, by omega, fun j hj => ?_⟩
    rw [show off + 1 + j = off + (j + 1) by omega]
    exact hc (j + 1) (by simp; omega)
theorem OwnQ.nil_form {w : World} {base : Nat} {v : Value} (h : OwnQ w base v []) : ∃ A cap, v = .slice A 0 cap := by
  obtain ⟨_, g, off, cap, cur, hv, _⟩ := h
  exact ⟨_, cap, hv⟩
theorem run_pushQ (w : World) (ty : TypeId) (base : Nat) (v : Value) (l : List Int) (n : Int) (A : Addr) (hown : OwnQ w base v l) (hx : w.cell? A = some (.int .i64 n)) (hl : l.length < 1099511627776) :
    ∃ v' w', (Builtin.append_ #[35, 35] ty #[v, .slice (some A) 1 1]).run Tryz.prog w = .ok v' w' ∧ OwnQ w' base v' (l ++ [n]) ∧ Below base w w' ∧
      ∀ b, b < w.heap.size → v.ownBlock ≠ some b → w'.heap[b]? = w.heap[b]? ∧ v'.ownBlock ≠ some b := by
  obtain ⟨i0, hi, hz0, hz1, hz2⟩ := info_parts intInfo
  obtain ⟨h0, g, off, cap, cur, rfl, hg, hh, hlc, hcm, hsz, hc⟩ := hown
  have hnews : ∀ j u, [Value.int .i64 n][j]? = some u → w.cell? (A.add j) = some u := by
    intro j u hu
    cases j with
    | zero => simp at hu; subst hu; exact hx
    | succ j => simp at hu
  have h1c : ∀ u ∈ [Value.int .i64 n], u.oneCell' = true := by intro u hu; simp at hu; subst hu; rfl
  by_cases hroom : l.length + 1 ≤ cap
  · have hcell : w.cell? ⟨g, off + l.length * i0.size + 0, none⟩ = cur[off + l.length]? := by rw [hz1]; simp [World.cell?, hh]
    have hlt : off + l.length < cur.size := by omega
    have hrun := run_append_room_cells (P := Tryz.prog) w 35 ty 3 i0 Tryz.underlying35 hi g off l.length cap A 1 1 [.int .i64 n] (by simp [hz1]) hnews h1c hroom
      (fun j hj => by obtain rfl : j = 0 := by simpa using hj
                      rw [hcell]; simp [hlt]) (fun j hj => by simp [World.frozen?, hh])
    rw [hz1, Nat.mul_one] at hrun
    have hset : w.setCells g (off + l.length) [.int .i64 n] = w.setCell ⟨g, off + l.length, none⟩ (.int .i64 n) := rfl
    rw [hset] at hrun
    have hh' : (w.setCell ⟨g, off + l.length, none⟩ (.int .i64 n)).heap[g]? = some (.cells (cur.setIfInBounds (off + l.length) (.int .i64 n)) 3 (0, 0)) := by
      simp [World.setCell, Array.getElem?_modify, hh]
    refine ⟨_, _, hrun, ⟨by simpa [World.setCell] using h0, g, off, cap, _, by simp, hg, hh', by simpa using hroom, hcm, by simpa using hsz, fun j hj => ?_⟩, (Below.refl base w).setCell hg _, fun b hb hne => ⟨Below.heap_setCell w _ _ b (fun e => hne (by simp [Value.ownBlock, e])), by simpa [Value.ownBlock] using hne⟩⟩
    have hj2 : j < l.length + 1 := by simpa using hj
    rw [Array.getElem?_setIfInBounds]
    by_cases e : j = l.length
    · subst e
      simp [hlt]
    · rw [if_neg (by omega), hc j (by omega), List.getElem_append_left]
  · obtain ⟨v', w', hrun, r1, r2⟩ := run_append_arg_grows (P := Tryz.prog) w 35 ty 3 i0 (.int .i64 0) 1 8 Tryz.underlying35 hi hz0 hz1 hz2 rfl (by decide) ⟨g, off, none⟩ l.length cap (l.map (Value.int .i64)) (by simp)
      (fun j u hu => by
        rw [addr_add]
        have h1 : w.cell? ⟨g, off + j, none⟩ = cur[off + j]? := by simp [World.cell?, hh]
        rw [h1]
        rcases Nat.lt_or_ge j l.length with hj | hj
        · rw [hc j hj]; simpa [List.getElem?_eq_getElem hj] using hu
        · simp [List.getElem?_eq_none hj] at hu) A 1 1 [.int .i64 n] (by simp) hnews (by omega) (by unfold maxLen; omega) (by omega)
    have hb : Below base w w' := (Below.refl base w).grown r2 h0 (fun k hk => by cases hk)
    have hgl := (Array.getElem?_eq_some_iff.1 hh).1
    rcases r1.2 with ⟨_, hn⟩ | ⟨g2, cap2, cur2, hv, hg2, hh2, hnc, hcm2, hcs, ht⟩
    · omega
    · refine ⟨v', w', hrun, ⟨Nat.le_trans h0 hb.size, g2, 0, cap2, cur2, by simpa using hv, by omega, hh2, by simpa using hnc, hcm2, by omega, fun j hj => ?_⟩, hb, fun b hb hne => ⟨r2.block b hb (by simp), by rw [hv]; simp [Value.ownBlock]; omega⟩⟩
      have hj2 : j < l.length + 1 := by simpa using hj
      have h2 : (cur2.toList.take ((l.length + 1) * 1))[j]? = (l.map (Value.int .i64) ++ [Value.int .i64 n])[j]? := by rw [ht]
      rw [List.getElem?_take_of_lt (by omega)] at h2
      rw [Nat.zero_add, ← Array.getElem?_toList, h2, show l.map (Value.int .i64) ++ [Value.int .i64 n] = (l ++ [n]).map (Value.int .i64) by simp, List.getElem?_map, List.getElem?_eq_getElem hj]
      rfl
theorem pushQ {ops : Array Oper} {rest : List Oper} {o : Oper} {a : Act} {Q : Exit → Act → World → Prop} (hgd : o.guard = none) (s x : Operand)
    (ho : o.op = .call { callee := .builtin .append, args := #[s, x], argTypes := #[35, 35] })
    (w : World) (base : Nat) (v : Value) (l : List Int) (n : Int) (hs : a.eval s = v) (hown : OwnQ w base v l) (nb : Nat) (hx : a.eval x = .slice (some ⟨nb, 0, none⟩) 1 1) (hnb : nb = w.heap.size) (hl : l.length < 1099511627776)
    (h : ∀ v' w', OwnQ w' base v' (l ++ [n]) → Below base w w' → Spares w w' v v' → wpList Tryz.prog ops Q rest (a.put o.dst v') w') :
    wpList Tryz.prog ops Q (o :: rest) a (w.alloc (.cells #[.int .i64 n] 3)) := by
  subst hnb
  refine wpList_plain hgd fun K hK => ?_
  obtain ⟨v', w', hrun, h1, h2, h3⟩ := run_pushQ (w.alloc (.cells #[.int .i64 n] 3)) o.type base v l n ⟨w.heap.size, 0, none⟩ (hown.alloc _) (cell_one_new _ _ _ 0 _ rfl) hl
  unfold Oper.wp execOp
  simp only [ho, resolve, invoke, builtin, Sem.run_bind, Sem.run_pure, Result.andThen_ok, List.map_toArray, List.map_cons, List.map_nil, hs, hx, hrun]
  refine hK _ _ (h v' w' h1 (((Below.refl base w).alloc hown.1 _).trans h2) fun b hb hne => ?_)
  obtain ⟨e1, e2⟩ := h3 b (by simp; omega) hne
  exact ⟨e1.trans (Below.heap_alloc w _ b hb), e2⟩
end Go.Proofs.YtogeihdfmnohnaaGreatDoor.Wg
namespace Go.Proofs.YtogeihdfmnohnaaGreatDoor.Wg
open Go.RowKit
def RetFar (w : World) (P : List Int → Prop) (e : Ending) (w' : World) : Prop :=
  ∃ g l cap, e = .returned (.slice (some ⟨g, 0, none⟩) l.length cap) ∧ IntBlk w' g l ∧ P l ∧ Below w.heap.size w w'
theorem fill_set_int (n k : Nat) (h : k < n) : (List.replicate k (-1 : Int) ++ List.replicate (n - k) 0).set k (-1) = List.replicate (k + 1) (-1 : Int) ++ List.replicate (n - (k + 1)) 0 := by
  rw [List.set_append_right _ _ (by simp)]
  simp only [List.length_replicate, Nat.sub_self]
  obtain ⟨m, hm⟩ : ∃ m, n - k = m + 1 := ⟨n - k - 1, by omega⟩
  rw [hm, show n - (k + 1) = m by omega, List.replicate_succ, List.set_cons_zero, List.replicate_succ', List.append_assoc]
  rfl
set_option maxHeartbeats 1600000 in
theorem distances_any (A : Option Addr) (cap : Nat) (g : Gr) (to : Int) (w : World) (hf : FitsG g) (hv : ValidG g) (hto : InR g.length to) (hr : GraphAt w w.heap.size A g) :
    Calls Tryz.prog 32 #[.slice A g.length cap, .int .i64 to] w (RetFar w (fun l => FarSpec g to l)) := by
  have hlen : g.length ≤ 40 := hf.1
  have hmk := mkInts g.length (by omega)
  have HF := Lib.hid hf
  have HV := Lib.hid hv
  have HT := Lib.hid hto
  obtain ⟨ht1, ht2⟩ := hto
  clear hf hv
  go_enter Tryz.func32, Tryz.ntmps32
  go_wp2_with fail
  clear hmk
  go_loopg [16] g.length (fun m c wr => ∃ k : Nat, k ≤ g.length ∧ c = .int .i64 (k : Int) ∧ g.length ≤ k + m ∧ Below w.heap.size w wr ∧ IntBlk wr w.heap.size (List.replicate k (-1) ++ List.replicate (g.length - k) 0))
  case atStart => exact ⟨0, Nat.zero_le _, rfl, by omega, (Below.refl _ _).alloc (Nat.le_refl _) _, by simpa using IntBlk.new w g.length⟩
  case round =>
    obtain ⟨k, hk, rfl, hkm, hbel, hblk⟩ := hrel
    by_cases hlt : k < g.length
    · have hcs : wr.cell? ⟨w.heap.size, k, none⟩ = some (.int .i64 0) := hblk.cell (j := k) (by simp; omega) (by rw [List.getElem_append_right (by simp)]; simp)
      have hfs : wr.frozen? ⟨w.heap.size, k, none⟩ = false := hblk.free _
      have hset := Lib.hid (fill_set_int g.length k hlt)
      go_wp2
      go_roundg (gk - 1)
      case measure => omega
      case rel => exact ⟨k + 1, by omega, by go_num, by omega, hbel.setCell (Nat.le_refl _) _, by rw [← hset.out]; exact hblk.set_ k (-1)⟩
    · obtain rfl : k = g.length := by omega
      have hblk0 : IntBlk wr w.heap.size (List.replicate g.length (-1)) := by simpa using hblk
      have hblt := hblk.lt
      have hcs : wr.cell? ⟨w.heap.size, to.toNat, none⟩ = some (.int .i64 (-1)) := hblk0.cell (j := to.toNat) (by simp; omega) (by simp)
      have hfs : wr.frozen? ⟨w.heap.size, to.toNat, none⟩ = false := hblk0.free _
      clear hblk hkm hlt
      go_wp2_with fail
      go_loopg [7] (2 * g.length + 1) (fun m v7 wq => ∃ (fs q : List Int) (D : Int), Hid (QInv g to fs q D (fun _ _ => False)) ∧ IntBlk wq w.heap.size fs ∧ OwnQ wq (w.heap.size + 1) v7 q ∧ Below w.heap.size w wq ∧ 2 * una fs + q.length ≤ m ∧ m ≤ 2 * g.length + 1)
      case atStart =>
        have hst := QInv.start g to HT.out
        refine ⟨_, _, 0, hst, (hblk0.set_ to.toNat 0).alloc _, ?_, ?_, ?_, Nat.le_refl _⟩
        · exact OwnQ.one _ _ _ _ (by rw [size_setCell]) (by rw [size_setCell]; omega)
        · exact (hbel.setCell (Nat.le_refl _) _).alloc (by rw [size_setCell]; exact hbel.size) _
        · have h1 := hst.small to HT.out (by rw [hst.root]; omega)
          rw [hst.root] at h1
          simp only [List.length_singleton]
          omega
      case round =>
        clear hbel hblk0 hblt hcs hfs
        obtain ⟨G, hG⟩ : ∃ G, G = gk := ⟨_, rfl⟩
        subst hG
        obtain ⟨fs, q, D, hinv, hblk, hown, hbel, hm1, hm2⟩ := hrel
        cases q with
        | nil =>
          obtain ⟨A7, c7, rfl⟩ := hown.nil_form
          have hfin := Lib.hid (hinv.out.found HV.out HT.out)
          have hfl := Lib.hid hinv.out.len
          go_wp2
          go_ret
          exact ⟨w.heap.size, fs, g.length, by rw [hfl.out]; rfl, hblk, hfin.out, hbel⟩
        | cons x q =>
          obtain ⟨g7, off7, cap7, rfl, hg7, hg7', hc7, hc7m, hcell, hq1, hq2⟩ := hown.head
          obtain ⟨hxr, hx0, _⟩ := hinv.out.queue x (by simp)
          have hxs := hinv.out.small x hxr hx0
          have hpop := Lib.hid hinv.out.pop
          have hlq : (x :: q).length = q.length + 1 := rfl
          have hm3 : 2 * una fs + q.length + 1 ≤ G := by omega
          have hprev := fun (A7 : Option Addr) (W : World) (hW : Below w.heap.size w W) => prev_any A cap w.heap.size g x W HF.out hW.size (hr.below hW (Nat.le_refl _) (Nat.le_refl _))
          have HP := Lib.hid (hprev none)
          have HXR := Lib.hid hxr
          have HQ : Hid (OwnQ wr (w.heap.size + 1) (if cap7 = 1 then .slice (some ⟨g7, off7, none⟩) q.length 0 else .slice (some ⟨g7, off7 + 1, none⟩) q.length (cap7 - 1)) q) := by
            by_cases e : cap7 = 1
            · rw [if_pos e]; exact hq1 e
            · rw [if_neg e]; exact hq2 e
          clear hq1 hq2 hprev hlq hinv hm1 hown
          have hsp : cap7 ≤ 1 ∨ 2 ≤ cap7 := by omega
          rcases hsp with hc1 | hc1
          · obtain rfl : cap7 = 1 := by omega
            have hq0 : q.length ≤ 0 := by omega
            have hown7 : OwnQ wr (w.heap.size + 1) (.slice (some ⟨g7, off7, none⟩) 0 0) q := by
              have h := HQ.out
              rw [if_pos rfl] at h
              rwa [show q.length = 0 by omega] at h
            clear HQ hc1
            go_wp2_with fail
            refine (HP.out wr hbel).mono ?_
            rintro e w1 ⟨A1, c1, rfl, hjs, hloc, hb1⟩
            have hblk1 := hblk.below hb1 hblk.lt
            have hown1 := hown7.below hb1 (Nat.le_refl _)
            have hbel1 := hbel.trans (hb1.mono hbel.size)
            have hL : (preds g x).length ≤ g.length := idxs_length _ _
            have HLOC : Hid (0 < (preds g x).length → ∀ a, A1 = some a → a.block ≠ w.heap.size ∧ a.block ≠ g7) := fun h0 a ha => by have h1 := hloc h0 a ha; have h2 := hbel.size; omega
            clear hloc hblk hown7 hcell hbel
            go_wp2_with fail
            go_loopg [7, 40] (preds g x).length (fun m2 v7 c w2 => ∃ (fs2 q2 : List Int) (k : Nat), c = .int .i64 (k : Int) ∧ k ≤ (preds g x).length ∧ (preds g x).length ≤ k + m2 ∧ Hid (QInv g to fs2 q2 (fa fs2 x) (fun z y => z = x ∧ y ∈ (preds g x).drop k)) ∧ 0 ≤ fa fs2 x ∧
              IntBlk w2 w.heap.size fs2 ∧ OwnQ w2 (w.heap.size + 1) v7 q2 ∧ Below w.heap.size w w2 ∧ IntsAt w2 w2.heap.size A1 (preds g x) ∧ Hid (0 < (preds g x).length → ∀ a, A1 = some a → a.block ≠ w.heap.size ∧ v7.ownBlock ≠ some a.block) ∧ 2 * una fs2 + q2.length ≤ 2 * una fs + q.length)
            case atStart => exact ⟨fs, q, 0, rfl, Nat.zero_le _, by omega, hpop.out, hx0, hblk1, hown1, hbel1, hjs, fun h0 a ha => ⟨(HLOC.out h0 a ha).1, by have := (HLOC.out h0 a ha).2; simp [Value.ownBlock]; omega⟩, Nat.le_refl _⟩
            case round =>
              clear hblk1 hown1 hbel1 hjs
              obtain ⟨fs2, q2, k, rfl, hk, hkm, hinv, hx2, hblk, hown, hbel, hjs, hap, hm4⟩ := hrel
              by_cases hlt : k < (preds g x).length
              · obtain ⟨b2, off2, rfl, hb2, hc2⟩ := hjs.get hlt rfl
                have hyr := (mem_preds.1 (List.getElem_mem hlt)).1
                have HYR := Lib.hid hyr
                obtain ⟨hy1, hy2⟩ := hyr
                obtain ⟨hx1, hx3⟩ := HXR.out
                have hfl := Lib.hid hinv.out.len
                have hcy : wr.cell? ⟨w.heap.size, (preds g x)[k].toNat, none⟩ = some (.int .i64 (fa fs2 (preds g x)[k])) := hblk.cell (by rw [hfl.out]; omega) (fa_get hfl.out HYR.out)
                by_cases hs : fa fs2 (preds g x)[k] < 0
                · have hcx : wr.cell? ⟨w.heap.size, x.toNat, none⟩ = some (.int .i64 (fa fs2 x)) := hblk.cell (by rw [hfl.out]; omega) (fa_get hfl.out HXR.out)
                  have hfz : wr.frozen? ⟨w.heap.size, (preds g x)[k].toNat, none⟩ = false := hblk.free _
                  have hbx := hinv.out.small x HXR.out hx2
                  have hxb : fa fs2 x ≤ 40 := by omega
                  have hln : (q2 ++ [(preds g x)[k]]).length = q2.length + 1 := by simp
                  have hun := una_set (v := fa fs2 x + 1) hfl.out HYR.out hs (by omega)
                  have hun2 := Lib.hid hun
                  clear hun hbx
                  go_wp2_with (at_builtin; refine pushQ rfl _ _ rfl _ _ _ _ _ rfl (hown.setCell (by simp) _) _ rfl (by simp [World.setCell]) (by omega) ?_; intro v' w3 hown3 hb3 hsp3)
                  have hun := hun2.out
                  obtain ⟨hpu, hpx⟩ := hinv.out.push HXR.out hx2 HT.out hlt hs
                  obtain ⟨q1, q2'⟩ := hap.out (by omega) _ rfl
                  have hzz : (wr.setCell ⟨w.heap.size, (preds g x)[k].toNat, none⟩ (.int .i64 (fa fs2 x + 1))).heap.size = wr.heap.size := by simp [World.setCell]
                  obtain ⟨q3, q4⟩ := hsp3 b2 (by rw [hzz]; exact hb2) q2'
                  have q5 := q3.trans (Below.heap_setCell wr ⟨w.heap.size, (preds g x)[k].toNat, none⟩ (.int .i64 (fa fs2 x + 1)) b2 q1)
                  have q6 := hb3.size
                  go_roundg (gk - 1)
                  case measure => omega
                  case rel =>
                    refine ⟨fs2.set (preds g x)[k].toNat (fa fs2 x + 1), q2 ++ [(preds g x)[k]], k + 1, by go_num, by omega, by omega, hpu, by rw [hpx]; exact hx2, (hblk.set_ _ _).below hb3 (by omega), hown3, (hbel.setCell (Nat.le_refl _) _).trans (hb3.mono (by omega)), ?_, ?_, by omega⟩
                    · exact hjs.same (fun a ha _ => by injection ha with ha; subst ha; exact q5) (by omega)
                    · intro _ a ha; injection ha with ha; subst ha; exact ⟨q1, q4⟩
                · have hs2 : 0 ≤ fa fs2 (preds g x)[k] := by omega
                  go_wp2
                  go_roundg (gk - 1)
                  case measure => omega
                  case rel => exact ⟨fs2, q2, k + 1, by go_num, by omega, by omega, hinv.out.skip hlt hs2, hx2, hblk, hown, hbel, hjs, hap, hm4⟩
              · go_wp2
                go_roundg (G - 1)
                case measure => omega
                case rel => exact ⟨fs2, q2, _, hinv.out.done_ (by omega), hblk, hown, hbel, by omega, by omega⟩
          · have hown7 : OwnQ wr (w.heap.size + 1) (.slice (some ⟨g7, off7 + 1, none⟩) q.length (cap7 - 1)) q := by
              have h := HQ.out
              rwa [if_neg (by omega)] at h
            clear HQ
            go_wp2_with fail
            refine (HP.out wr hbel).mono ?_
            rintro e w1 ⟨A1, c1, rfl, hjs, hloc, hb1⟩
            have hblk1 := hblk.below hb1 hblk.lt
            have hown1 := hown7.below hb1 (Nat.le_refl _)
            have hbel1 := hbel.trans (hb1.mono hbel.size)
            have hL : (preds g x).length ≤ g.length := idxs_length _ _
            have HLOC : Hid (0 < (preds g x).length → ∀ a, A1 = some a → a.block ≠ w.heap.size ∧ a.block ≠ g7) := fun h0 a ha => by have h1 := hloc h0 a ha; have h2 := hbel.size; omega
            clear hloc hblk hown7 hcell hbel
            go_wp2_with fail
            go_loopg [7, 40] (preds g x).length (fun m2 v7 c w2 => ∃ (fs2 q2 : List Int) (k : Nat), c = .int .i64 (k : Int) ∧ k ≤ (preds g x).length ∧ (preds g x).length ≤ k + m2 ∧ Hid (QInv g to fs2 q2 (fa fs2 x) (fun z y => z = x ∧ y ∈ (preds g x).drop k)) ∧ 0 ≤ fa fs2 x ∧
              IntBlk w2 w.heap.size fs2 ∧ OwnQ w2 (w.heap.size + 1) v7 q2 ∧ Below w.heap.size w w2 ∧ IntsAt w2 w2.heap.size A1 (preds g x) ∧ Hid (0 < (preds g x).length → ∀ a, A1 = some a → a.block ≠ w.heap.size ∧ v7.ownBlock ≠ some a.block) ∧ 2 * una fs2 + q2.length ≤ 2 * una fs + q.length)
            case atStart => exact ⟨fs, q, 0, rfl, Nat.zero_le _, by omega, hpop.out, hx0, hblk1, hown1, hbel1, hjs, fun h0 a ha => ⟨(HLOC.out h0 a ha).1, by have := (HLOC.out h0 a ha).2; simp [Value.ownBlock]; omega⟩, Nat.le_refl _⟩
            case round =>
              clear hblk1 hown1 hbel1 hjs
              obtain ⟨fs2, q2, k, rfl, hk, hkm, hinv, hx2, hblk, hown, hbel, hjs, hap, hm4⟩ := hrel
              by_cases hlt : k < (preds g x).length
              · obtain ⟨b2, off2, rfl, hb2, hc2⟩ := hjs.get hlt rfl
                have hyr := (mem_preds.1 (List.getElem_mem hlt)).1
                have HYR := Lib.hid hyr
                obtain ⟨hy1, hy2⟩ := hyr
                obtain ⟨hx1, hx3⟩ := HXR.out
                have hfl := Lib.hid hinv.out.len
                have hcy : wr.cell? ⟨w.heap.size, (preds g x)[k].toNat, none⟩ = some (.int .i64 (fa fs2 (preds g x)[k])) := hblk.cell (by rw [hfl.out]; omega) (fa_get hfl.out HYR.out)
                by_cases hs : fa fs2 (preds g x)[k] < 0
                · have hcx : wr.cell? ⟨w.heap.size, x.toNat, none⟩ = some (.int .i64 (fa fs2 x)) := hblk.cell (by rw [hfl.out]; omega) (fa_get hfl.out HXR.out)
                  have hfz : wr.frozen? ⟨w.heap.size, (preds g x)[k].toNat, none⟩ = false := hblk.free _
                  have hbx := hinv.out.small x HXR.out hx2
                  have hxb : fa fs2 x ≤ 40 := by omega
                  have hln : (q2 ++ [(preds g x)[k]]).length = q2.length + 1 := by simp
                  have hun := una_set (v := fa fs2 x + 1) hfl.out HYR.out hs (by omega)
                  have hun2 := Lib.hid hun
                  clear hun hbx
                  go_wp2_with (at_builtin; refine pushQ rfl _ _ rfl _ _ _ _ _ rfl (hown.setCell (by simp) _) _ rfl (by simp [World.setCell]) (by omega) ?_; intro v' w3 hown3 hb3 hsp3)
                  have hun := hun2.out
                  obtain ⟨hpu, hpx⟩ := hinv.out.push HXR.out hx2 HT.out hlt hs
                  obtain ⟨q1, q2'⟩ := hap.out (by omega) _ rfl
                  have hzz : (wr.setCell ⟨w.heap.size, (preds g x)[k].toNat, none⟩ (.int .i64 (fa fs2 x + 1))).heap.size = wr.heap.size := by simp [World.setCell]
                  obtain ⟨q3, q4⟩ := hsp3 b2 (by rw [hzz]; exact hb2) q2'
                  have q5 := q3.trans (Below.heap_setCell wr ⟨w.heap.size, (preds g x)[k].toNat, none⟩ (.int .i64 (fa fs2 x + 1)) b2 q1)
                  have q6 := hb3.size
                  go_roundg (gk - 1)
                  case measure => omega
                  case rel =>
                    refine ⟨fs2.set (preds g x)[k].toNat (fa fs2 x + 1), q2 ++ [(preds g x)[k]], k + 1, by go_num, by omega, by omega, hpu, by rw [hpx]; exact hx2, (hblk.set_ _ _).below hb3 (by omega), hown3, (hbel.setCell (Nat.le_refl _) _).trans (hb3.mono (by omega)), ?_, ?_, by omega⟩
                    · exact hjs.same (fun a ha _ => by injection ha with ha; subst ha; exact q5) (by omega)
                    · intro _ a ha; injection ha with ha; subst ha; exact ⟨q1, q4⟩
                · have hs2 : 0 ≤ fa fs2 (preds g x)[k] := by omega
                  go_wp2
                  go_roundg (gk - 1)
                  case measure => omega
                  case rel => exact ⟨fs2, q2, k + 1, by go_num, by omega, by omega, hinv.out.skip hlt hs2, hx2, hblk, hown, hbel, hjs, hap, hm4⟩
              · go_wp2
                go_roundg (G - 1)
                case measure => omega
                case rel => exact ⟨fs2, q2, _, hinv.out.done_ (by omega), hblk, hown, hbel, by omega, by omega⟩
end Go.Proofs.YtogeihdfmnohnaaGreatDoor.Wg
