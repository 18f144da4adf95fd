/- Part 18 of 49 of the proof of waitgraphOf_holds (no condition). -/
import Derived.Test.YtogeihdfmnohnaaGreatDoorK03
import Derived.Test.YtogeihdfmnohnaaGreatDoorK17
import Derived.Test.YtogeihdfmnohnaaGreatDoorK15
import Derived.Test.YtogeihdfmnohnaaGreatDoorK16
import Derived.Test.YtogeihdfmnohnaaGreatDoorK14
import Derived.Laws.BitsAllLaws
import Derived.WalkLawsBesides
import Derived.WalkSpells
import Derived.Deep.RegionLaw
set_option linter.unusedVariables false
set_option linter.unusedSimpArgs false
namespace Go.Proofs.YtogeihdfmnohnaaGreatDoor
open Go.RowKit
set_option maxHeartbeats 1600000 in
set_option maxRecDepth 100000 in
theorem SortProcs_any (A : Option Addr) (cap : Nat) (l : List Pr) (w : World) (hm : l.length ≤ 68719476736) (hr : RowsAt prE w (Lo w.heap.size) A l) :
    Calls Tryz.prog 46 #[.slice A l.length cap] w (RetRow prE 51 w (sortS l)) := by
  have HR : Hid (RowsAt prE w (Oth w (.slice none 0 0)) A l) := Lib.hid (hr.same (fun b hb => rfl) fun b hb => ⟨hb, fun e => by cases e⟩)
  have HN : Hid (OwnRows prE 51 w w.heap.size (.slice none 0 0) []) := Lib.hid (OwnRows.nil _ _ _ _ (Nat.le_refl _))
  have HL : Hid (sortS l = Lib.compact (l.mergeSort fun x y => !decide (cmpP y x < 0))) := Lib.hid rfl
  rw [HL.out]
  have HM := Lib.hid hm
  clear hr hm HL
  go_enter Tryz.func46, Tryz.ntmps46
  go_wp2_with (at_builtin; refine pushRB prTB rfl (.const (.slice none 0 0)) (.tmp 4) rfl _ w.heap.size _ [] l l.length rfl A cap rfl HN.out rfl HR.out (by have := HM.out; simp [maxLen]; omega) (by have := HM.out; simp; omega) ?_; intro v1 w1 hown1 hb1 _; rw [List.nil_append] at hown1; have HOWN1 := Lib.hid hown1; have HB1 := Lib.hid hb1; clear hown1 hb1)
  refine (SortFunc_own _ HOWN1.out HB1.out (by have := HM.out; omega)).mono ?_
  rintro e w2 ⟨rfl, hown2, hb2⟩
  have HOWN2 := Lib.hid hown2
  have HB2 := Lib.hid hb2
  clear hown2 hb2
  go_wp2_with fail
  refine (Compact_own _ HOWN2.out HB2.out (by rw [List.length_mergeSort]; have := HM.out; omega)).mono ?_
  rintro e w3 ⟨v3, rfl, hown3, hb3⟩
  have HOWN3 := Lib.hid hown3
  have HB3 := Lib.hid hb3
  clear hown3 hb3
  go_wp2_with fail
  go_ret
  exact ⟨_, rfl, HOWN3.out, HB3.out⟩
end Go.Proofs.YtogeihdfmnohnaaGreatDoor
namespace Go.Proofs.YtogeihdfmnohnaaGreatDoor
open Go.RowKit
def procsQ (q : Qu) : List Pr := sortS (prsL q.holds ++ ordL q)
set_option maxRecDepth 100000 in
set_option maxHeartbeats 1600000 in
theorem rQProcs_any (q : Qu) (A1 A2 A3 : Option Addr) (c1 c2 c3 : Nat) (w : World) (B : Nat) (hq : QF w B A1 A2 A3 q) (h1 : q.holds.length ≤ 8) (h2 : q.convs.length ≤ 8) (h3 : q.waits.length ≤ 8) :
    Calls Tryz.prog 98 #[q.val A1 A2 A3 c1 c2 c3] w (RetRow prE 51 w (procsQ q)) := by
  have HP := Lib.hid (fun W (hb : Below w.heap.size w W) => rHProcs_any A1 B c1 q.holds W (by omega) (Nat.le_trans hq.hB hb.size) (hq.r1.below hb hq.hB (Nat.le_refl _)))
  have HOD := Lib.hid (fun W (hb : Below w.heap.size w W) => rQOrder_any q A1 A2 A3 c1 c2 c3 W B (hq.below hb) h2 h3)
  have HSP := Lib.hid (fun A B cap l W hm hB hr => rSortProcs_any A B cap l W hm hB hr)
  have HL1 : Hid ((prsL q.holds).length ≤ 8) := Lib.hid (by simpa [prsL] using h1)
  have HL2 : Hid ((ordL q).length ≤ 16) := Lib.hid (by simp [ordL]; omega)
  have HD : Hid (procsQ q = sortS (prsL q.holds ++ ordL q)) := Lib.hid rfl
  clear hq
  generalize procsQ q = R at *
  generalize ordL q = o at *
  generalize prsL q.holds = p at *
  obtain ⟨⟨nm, kd, un, h⟩, hs, cs, ws, gen⟩ := q
  unfold Qu.val at *
  dsimp only at HP HOD HL1 ⊢
  have HX0 : Hid (BoxQ w nm kd un h A1 hs.length c1 A2 cs.length c2 A3 ws.length c3 gen (w.alloc (.cells #[.string nm, .int .i64 kd, .int .i64 un, .int .i64 h, .slice A1 hs.length c1, .slice A2 cs.length c2, .slice A3 ws.length c3, .int .i64 gen] 48)).drew) := Lib.hid (BoxQ.made.next (Below.refl _ _).drew)
  have HCJ : Hid (∀ v, BoxQ w nm kd un h A1 hs.length c1 A2 cs.length c2 A3 ws.length c3 gen v → v.cell? ⟨w.heap.size, 0, none⟩ = some (.string nm) ∧ v.cell? ⟨w.heap.size, 1, none⟩ = some (.int .i64 kd) ∧ v.cell? ⟨w.heap.size, 2, none⟩ = some (.int .i64 un) ∧ v.cell? ⟨w.heap.size, 3, none⟩ = some (.int .i64 h) ∧ v.cell? ⟨w.heap.size, 4, none⟩ = some (.slice A1 hs.length c1) ∧ v.cell? ⟨w.heap.size, 5, none⟩ = some (.slice A2 cs.length c2) ∧ v.cell? ⟨w.heap.size, 6, none⟩ = some (.slice A3 ws.length c3) ∧ v.cell? ⟨w.heap.size, 7, none⟩ = some (.int .i64 gen)) := Lib.hid (fun v b => ⟨b.cel.q0, b.cel.q1, b.cel.q2, b.cel.q3, b.cel.q4, b.cel.q5, b.cel.q6, b.cel.q7⟩)
  have hC1 := Lib.hid (HCJ.out _ HX0.out)
  have HK1 : Hid (∀ b W, Sem.run Tryz.prog (callFunc 145 b) W = .ok (.enter 145 b) W) := Lib.hid (fun b W => by kernel_rfl)
  have HK2 : Hid (∀ b W, Sem.run Tryz.prog (callFunc 21 b) W = .ok (.enter 21 b) W) := Lib.hid (fun b W => by kernel_rfl)
  have HK3 : Hid (∀ b W, Sem.run Tryz.prog (callFunc 63 b) W = .ok (.enter 63 b) W) := Lib.hid (fun b W => by kernel_rfl)
  obtain ⟨q0, q1, q2, q3, q4, q5, q6, q7⟩ := HCJ.out _ HX0.out
  go_enter Tryz.func98, Tryz.ntmps98
  go_wp2_with fail
  go_region_law (first
    | (refine stepCall rfl 145 #[.tmp 4] #[45] rfl #[.slice A1 hs.length c1] rfl HK1.out (HP.out _ HX0.out.below) ?_; rintro e w2 ⟨v2, rfl, hown2, hb2⟩; refine ⟨v2, rfl, ?_⟩; have HX2 := Lib.hid (HX0.out.next hb2); have HO2 := Lib.hid hown2; have HBa := Lib.hid hb2; clear hown2 hb2; obtain ⟨r0, r1, r2, r3, r4, r5, r6, r7⟩ := HCJ.out _ HX2.out)
    | (refine stepCall rfl 21 #[.tmp 6] #[48] rfl #[.agg #[.string nm, .int .i64 kd, .int .i64 un, .int .i64 h, .slice A1 hs.length c1, .slice A2 cs.length c2, .slice A3 ws.length c3, .int .i64 gen]] rfl HK2.out (HOD.out _ HX2.out.below) ?_; rintro e w3 ⟨v3, rfl, hown3, hb3⟩; refine ⟨v3, rfl, ?_⟩; have HX3 := Lib.hid (HX2.out.next hb3); obtain ⟨A6, c6, rfl, hr6, hl6⟩ := hown3.oth_of (fun k hk => (HO2.out.block k hk).2); have HR6 := Lib.hid hr6; have HO3 := Lib.hid (HO2.out.below hb3 (Nat.le_refl _)); have HBb := Lib.hid (Below.tr HBa.out hb3); clear hown3 hb3 hr6)
    | (refine stepPushRB prTB rfl (.tmp 5) (.tmp 7) rfl (w.alloc (.cells #[.string nm, .int .i64 kd, .int .i64 un, .int .i64 h, .slice A1 hs.length c1, .slice A2 cs.length c2, .slice A3 ws.length c3, .int .i64 gen] 48)).drew.heap.size v2 p o o.length rfl A6 c6 rfl HO3.out rfl HR6.out (by have := HL1.out; have := HL2.out; unfold maxLen; omega) (by have := HL1.out; have := HL2.out; omega) ?_; intro v4 w4 hown4 hb4 hsp4; have HX4 := Lib.hid (HX0.out.next (HBb.out.trans hb4)); obtain ⟨A7, c7, rfl, hr7, _, _⟩ := hown4.form; have HR7 := Lib.hid hr7; have HB4 := Lib.hid hb4; clear hown4 hb4 hsp4 hr7)
    | (refine stepCall rfl 63 #[.tmp 8] #[28] rfl #[.slice A7 (p ++ o).length c7] (by rw [List.length_append]; rfl) HK3.out (HSP.out A7 w4.heap.size c7 (p ++ o) w4 (by have := HL1.out; have := HL2.out; rw [List.length_append]; omega) (Nat.le_refl _) HR7.out) ?_; rintro e w5 ⟨v5, rfl, hown5, hb5⟩; refine ⟨v5, rfl, ?_⟩; have HX5 := Lib.hid (HX4.out.next hb5); have HO5 := Lib.hid hown5; clear hown5 hb5))
  all_goals (
    go_wp2_with fail
    go_ret
    exact ⟨v5, rfl, by rw [HD.out]; exact HO5.out.older (Nat.le_trans HX0.out.below.size (Nat.le_trans HBb.out.size HB4.out.size)), HX5.out.below⟩)
set_option maxRecDepth 100000 in
set_option maxHeartbeats 1600000 in
theorem QProcs_any (q : Qu) (A1 A2 A3 : Option Addr) (c1 c2 c3 : Nat) (w : World) (B : Nat) (hq : QF w B A1 A2 A3 q) (h1 : q.holds.length ≤ 8) (h2 : q.convs.length ≤ 8) (h3 : q.waits.length ≤ 8) :
    Calls Tryz.prog 80 #[q.val A1 A2 A3 c1 c2 c3] w (RetRow prE 51 w (procsQ q)) := by
  have HP := Lib.hid (fun W (hb : Below w.heap.size w W) => HProcs_any A1 B c1 q.holds W (by omega) (Nat.le_trans hq.hB hb.size) (hq.r1.below hb hq.hB (Nat.le_refl _)))
  have HOD := Lib.hid (fun W (hb : Below w.heap.size w W) => QOrder_any q A1 A2 A3 c1 c2 c3 W B (hq.below hb) h2 h3)
  have HSP := Lib.hid (fun A cap l W hm hr => SortProcs_any A cap l W hm hr)
  have HL1 : Hid ((prsL q.holds).length ≤ 8) := Lib.hid (by simpa [prsL] using h1)
  have HL2 : Hid ((ordL q).length ≤ 16) := Lib.hid (by simp [ordL]; omega)
  have HD : Hid (procsQ q = sortS (prsL q.holds ++ ordL q)) := Lib.hid rfl
  clear hq
  generalize procsQ q = R at *
  generalize ordL q = o at *
  generalize prsL q.holds = p at *
  obtain ⟨⟨nm, kd, un, h⟩, hs, cs, ws, gen⟩ := q
  unfold Qu.val at *
  dsimp only at HP HOD HL1 ⊢
  have HX0 : Hid (BoxQ w nm kd un h A1 hs.length c1 A2 cs.length c2 A3 ws.length c3 gen (w.alloc (.cells #[.string nm, .int .i64 kd, .int .i64 un, .int .i64 h, .slice A1 hs.length c1, .slice A2 cs.length c2, .slice A3 ws.length c3, .int .i64 gen] 48)).drew) := Lib.hid (BoxQ.made.next (Below.refl _ _).drew)
  have HCJ : Hid (∀ v, BoxQ w nm kd un h A1 hs.length c1 A2 cs.length c2 A3 ws.length c3 gen v → v.cell? ⟨w.heap.size, 0, none⟩ = some (.string nm) ∧ v.cell? ⟨w.heap.size, 1, none⟩ = some (.int .i64 kd) ∧ v.cell? ⟨w.heap.size, 2, none⟩ = some (.int .i64 un) ∧ v.cell? ⟨w.heap.size, 3, none⟩ = some (.int .i64 h) ∧ v.cell? ⟨w.heap.size, 4, none⟩ = some (.slice A1 hs.length c1) ∧ v.cell? ⟨w.heap.size, 5, none⟩ = some (.slice A2 cs.length c2) ∧ v.cell? ⟨w.heap.size, 6, none⟩ = some (.slice A3 ws.length c3) ∧ v.cell? ⟨w.heap.size, 7, none⟩ = some (.int .i64 gen)) := Lib.hid (fun v b => ⟨b.cel.q0, b.cel.q1, b.cel.q2, b.cel.q3, b.cel.q4, b.cel.q5, b.cel.q6, b.cel.q7⟩)
  have hC1 := Lib.hid (HCJ.out _ HX0.out)
  have HK1 : Hid (∀ b W, Sem.run Tryz.prog (callFunc 117 b) W = .ok (.enter 117 b) W) := Lib.hid (fun b W => by kernel_rfl)
  have HK2 : Hid (∀ b W, Sem.run Tryz.prog (callFunc 15 b) W = .ok (.enter 15 b) W) := Lib.hid (fun b W => by kernel_rfl)
  have HK3 : Hid (∀ b W, Sem.run Tryz.prog (callFunc 46 b) W = .ok (.enter 46 b) W) := Lib.hid (fun b W => by kernel_rfl)
  obtain ⟨q0, q1, q2, q3, q4, q5, q6, q7⟩ := HCJ.out _ HX0.out
  go_enter Tryz.func80, Tryz.ntmps80
  go_wp2_with fail
  go_region_law (first
    | (refine stepCall rfl 117 #[.tmp 4] #[45] rfl #[.slice A1 hs.length c1] rfl HK1.out (HP.out _ HX0.out.below) ?_; rintro e w2 ⟨v2, rfl, hown2, hb2⟩; refine ⟨v2, rfl, ?_⟩; have HX2 := Lib.hid (HX0.out.next hb2); have HO2 := Lib.hid hown2; have HBa := Lib.hid hb2; clear hown2 hb2; obtain ⟨r0, r1, r2, r3, r4, r5, r6, r7⟩ := HCJ.out _ HX2.out)
    | (refine stepCall rfl 15 #[.tmp 6] #[48] rfl #[.agg #[.string nm, .int .i64 kd, .int .i64 un, .int .i64 h, .slice A1 hs.length c1, .slice A2 cs.length c2, .slice A3 ws.length c3, .int .i64 gen]] rfl HK2.out (HOD.out _ HX2.out.below) ?_; rintro e w3 ⟨v3, rfl, hown3, hb3⟩; refine ⟨v3, rfl, ?_⟩; have HX3 := Lib.hid (HX2.out.next hb3); obtain ⟨A6, c6, rfl, hr6, hl6⟩ := hown3.oth_of (fun k hk => (HO2.out.block k hk).2); have HR6 := Lib.hid hr6; have HO3 := Lib.hid (HO2.out.below hb3 (Nat.le_refl _)); have HBb := Lib.hid (Below.tr HBa.out hb3); clear hown3 hb3 hr6)
    | (refine stepPushRB prTB rfl (.tmp 5) (.tmp 7) rfl (w.alloc (.cells #[.string nm, .int .i64 kd, .int .i64 un, .int .i64 h, .slice A1 hs.length c1, .slice A2 cs.length c2, .slice A3 ws.length c3, .int .i64 gen] 48)).drew.heap.size v2 p o o.length rfl A6 c6 rfl HO3.out rfl HR6.out (by have := HL1.out; have := HL2.out; unfold maxLen; omega) (by have := HL1.out; have := HL2.out; omega) ?_; intro v4 w4 hown4 hb4 hsp4; have HX4 := Lib.hid (HX0.out.next (HBb.out.trans hb4)); obtain ⟨A7, c7, rfl, hr7, _, _⟩ := hown4.form; have HR7 := Lib.hid hr7; have HB4 := Lib.hid hb4; clear hown4 hb4 hsp4 hr7)
    | (refine stepCall rfl 46 #[.tmp 8] #[28] rfl #[.slice A7 (p ++ o).length c7] (by rw [List.length_append]; rfl) HK3.out (HSP.out A7 c7 (p ++ o) w4 (by have := HL1.out; have := HL2.out; rw [List.length_append]; omega) HR7.out) ?_; rintro e w5 ⟨v5, rfl, hown5, hb5⟩; refine ⟨v5, rfl, ?_⟩; have HX5 := Lib.hid (HX4.out.next hb5); have HO5 := Lib.hid hown5; clear hown5 hb5))
  all_goals (
    go_wp2_with fail
    go_ret
    exact ⟨v5, rfl, by rw [HD.out]; exact HO5.out.older (Nat.le_trans HX0.out.below.size (Nat.le_trans HBb.out.size HB4.out.size)), HX5.out.below⟩)
end Go.Proofs.YtogeihdfmnohnaaGreatDoor
namespace Go.Proofs.YtogeihdfmnohnaaGreatDoor
open Go.RowKit
def quE : El Qu where
  n := 8
  pos := by decide
  rep := fun w S q cs => ∃ A1 A2 A3 c1 c2 c3, cs = [.string q.res.name, .int .i64 q.res.kind, .int .i64 q.res.units, .int .i64 q.res.home, .slice A1 q.holds.length c1, .slice A2 q.convs.length c2, .slice A3 q.waits.length c3, .int .i64 q.gen] ∧
    q.holds.length ≤ maxLen ∧ q.convs.length ≤ maxLen ∧ q.waits.length ≤ maxLen ∧ RowsAt hoE w S A1 q.holds ∧ RowsAt wtE w S A2 q.convs ∧ RowsAt wtE w S A3 q.waits
  len := fun h => by obtain ⟨A1, A2, A3, c1, c2, c3, rfl, _⟩ := h; rfl
  one := fun h => by obtain ⟨A1, A2, A3, c1, c2, c3, rfl, _⟩ := h; intro u hu; simp at hu; rcases hu with rfl | rfl | rfl | rfl | rfl | rfl | rfl | rfl <;> rfl
  same := fun h hk hS => by
    obtain ⟨A1, A2, A3, c1, c2, c3, e, h1, h2, h3, h4, h5, h6⟩ := h
    exact ⟨A1, A2, A3, c1, c2, c3, e, h1, h2, h3, h4.same hk hS, h5.same hk hS, h6.same hk hS⟩
theorem qu_cells {w : World} {B i : Nat} {A : Option Addr} {l : List Qu} {q : Qu} (h : RowsAt quE w (Lo B) A l) (hB : B ≤ w.heap.size) (hi : i < l.length) (hx : l[i] = q) :
    ∃ g off A1 A2 A3 c1 c2 c3, A = some ⟨g, off, none⟩ ∧ g < B ∧ w.cell? ⟨g, off + i * 8, none⟩ = some (.string q.res.name) ∧ w.cell? ⟨g, off + i * 8 + 1, none⟩ = some (.int .i64 q.res.kind) ∧ w.cell? ⟨g, off + i * 8 + 2, none⟩ = some (.int .i64 q.res.units) ∧ w.cell? ⟨g, off + i * 8 + 3, none⟩ = some (.int .i64 q.res.home) ∧
      w.cell? ⟨g, off + i * 8 + 4, none⟩ = some (.slice A1 q.holds.length c1) ∧ w.cell? ⟨g, off + i * 8 + 5, none⟩ = some (.slice A2 q.convs.length c2) ∧ w.cell? ⟨g, off + i * 8 + 6, none⟩ = some (.slice A3 q.waits.length c3) ∧ w.cell? ⟨g, off + i * 8 + 7, none⟩ = some (.int .i64 q.gen) ∧ QF w B A1 A2 A3 q := by
  obtain ⟨g, off, cs, hA, hS, hc, hd⟩ := h.getx hi hx
  obtain ⟨A1, A2, A3, c1, c2, c3, rfl, h1, h2, h3, h4, h5, h6⟩ := hc
  exact ⟨g, off, A1, A2, A3, c1, c2, c3, hA, hS, hd 0 (show 0 < 8 by decide), hd 1 (show 1 < 8 by decide), hd 2 (show 2 < 8 by decide), hd 3 (show 3 < 8 by decide), hd 4 (show 4 < 8 by decide), hd 5 (show 5 < 8 by decide), hd 6 (show 6 < 8 by decide), hd 7 (show 7 < 8 by decide), h4, h5, h6, h1, h2, h3, hB⟩
def findT (n : ByteArray) : Nat → List Qu → Int
  | _, [] => -1
  | k, q :: l => bif q.res.name.toList == n.toList then (k : Int) else findT n (k + 1) l
theorem findT_cons (n : ByteArray) (k : Nat) (q : Qu) (l : List Qu) : findT n k (q :: l) = bif q.res.name.toList == n.toList then (k : Int) else findT n (k + 1) l := rfl
set_option maxHeartbeats 1600000 in
theorem rTFind_any (A : Option Addr) (B cap : Nat) (l : List Qu) (n : ByteArray) (w : World) (hm : l.length ≤ maxLen) (hB : B ≤ w.heap.size) (hr : RowsAt quE w (Lo B) A l) :
    Calls Tryz.prog 67 #[.slice A l.length cap, .string n] w (Ret w (.int .i64 (findT n 0 l))) := by
  unfold maxLen at hm
  have HR := Lib.hid hr
  clear hr
  obtain ⟨v, hv⟩ : ∃ v, findT n 0 l = v := ⟨_, rfl⟩
  rw [hv]
  have HV : Hid (findT n 0 (l.drop 0) = v) := Lib.hid hv
  clear hv
  go_enter Tryz.func67, Tryz.ntmps67
  go_wp2_with fail
  go_loopg [5] l.length (fun m0 v5 wq => ∃ k : Nat, v5 = .int .i64 (k : Int) ∧ k ≤ l.length ∧ l.length ≤ k + m0 ∧ Hid (findT n k (l.drop k) = v) ∧ Hid (Below w.heap.size w wq))
  case atStart => exact ⟨0, rfl, Nat.zero_le _, by omega, HV, Lib.hid (Below.refl _ _)⟩
  case round =>
    obtain ⟨k, rfl, hk, hkm, HI, HB⟩ := hrel
    by_cases hlt : k < l.length
    · obtain ⟨q, hx⟩ : ∃ x, l[k] = x := ⟨_, rfl⟩
      obtain ⟨g, off, A1, A2, A3, c1, c2, c3, rfl, hbl, d0, d1, d2, d3, d4, d5, d6, d7, _⟩ := qu_cells (HR.out.below (B'' := B) HB.out hB (Nat.le_refl _)) (Nat.le_trans hB HB.out.size) hlt hx
      have hbl2 : g < wr.heap.size := Nat.lt_of_lt_of_le hbl (Nat.le_trans hB HB.out.size)
      have hlti : (k : Int) < (l.length : Int) := by omega
      obtain ⟨q1, hq⟩ : ∃ p, (q.res.name.toList == n.toList) = p := ⟨_, rfl⟩
      have HS : Hid ((bif q1 then (k : Int) else findT n (k + 1) (l.drop (k + 1))) = v) := Lib.hid (by have h := HI.out; rw [drop_step hlt hx, findT_cons, hq] at h; exact h)
      clear hx hbl d1 d2 d3 d4 d5 d6 d7
      cases q1 <;> (go_wp2_with fail; (try (go_quiet (fail); go_wp2_with fail)); first
        | (go_roundg (gk - 1); (case measure => omega); (case rel => exact ⟨k + 1, by go_num, by omega, by omega, HS, Lib.hid (by (repeat (first | (with_reducible exact Below.refl _ _) | (with_reducible assumption) | (with_reducible refine below_drewN ?_ _) | (with_reducible refine Below.drew ?_) | (with_reducible refine Below.al ?_ _) | (with_reducible refine Below.st ?_ (by simp; try omega)) | (with_reducible refine Below.tr ?_ (Hid.out (by assumption))) | (with_reducible exact Hid.out (by assumption)))))⟩))
        | (go_ret; exact ⟨ret_int (show (k : Int) = v from HS.out), by (repeat (first | (with_reducible exact Below.refl _ _) | (with_reducible assumption) | (with_reducible refine below_drewN ?_ _) | (with_reducible refine Below.drew ?_) | (with_reducible refine Below.al ?_ _) | (with_reducible refine Below.st ?_ (by simp; try omega)) | (with_reducible refine Below.tr ?_ (Hid.out (by assumption))) | (with_reducible exact Hid.out (by assumption))))⟩))
    · have HS : Hid (-1 = v) := Lib.hid (by have h := HI.out; rw [drop_end hlt] at h; exact h)
      have hlti : ¬ (k : Int) < (l.length : Int) := by omega
      go_wp2_with fail
      go_ret
      exact ⟨ret_int HS.out, by (repeat (first | (with_reducible exact Below.refl _ _) | (with_reducible assumption) | (with_reducible refine below_drewN ?_ _) | (with_reducible refine Below.drew ?_) | (with_reducible refine Below.al ?_ _) | (with_reducible refine Below.st ?_ (by simp; try omega)) | (with_reducible refine Below.tr ?_ (Hid.out (by assumption))) | (with_reducible exact Hid.out (by assumption))))⟩
set_option maxHeartbeats 1600000 in
theorem TFind_any (A : Option Addr) (B cap : Nat) (l : List Qu) (n : ByteArray) (w : World) (hm : l.length ≤ maxLen) (hB : B ≤ w.heap.size) (hr : RowsAt quE w (Lo B) A l) :
    Calls Tryz.prog 85 #[.slice A l.length cap, .string n] w (Ret w (.int .i64 (findT n 0 l))) := by
  unfold maxLen at hm
  have HR := Lib.hid hr
  clear hr
  obtain ⟨v, hv⟩ : ∃ v, findT n 0 l = v := ⟨_, rfl⟩
  rw [hv]
  have HV : Hid (findT n 0 (l.drop 0) = v) := Lib.hid hv
  clear hv
  go_enter Tryz.func85, Tryz.ntmps85
  go_wp2_with fail
  go_loopg [9] l.length (fun m0 v9 wq => ∃ k : Nat, v9 = .int .i64 (k : Int) ∧ k ≤ l.length ∧ l.length ≤ k + m0 ∧ Hid (findT n k (l.drop k) = v) ∧ Hid (Below w.heap.size w wq))
  case atStart => exact ⟨0, rfl, Nat.zero_le _, by omega, HV, Lib.hid (Below.refl _ _)⟩
  case round =>
    obtain ⟨k, rfl, hk, hkm, HI, HB⟩ := hrel
    by_cases hlt : k < l.length
    · obtain ⟨⟨⟨nm, kd, un, h⟩, hs, cs, ws, gen⟩, hx⟩ : ∃ x, l[k] = x := ⟨_, rfl⟩
      obtain ⟨g, off, A1, A2, A3, c1, c2, c3, rfl, hbl, d0, d1, d2, d3, d4, d5, d6, d7, _⟩ := qu_cells (HR.out.below (B'' := B) HB.out hB (Nat.le_refl _)) (Nat.le_trans hB HB.out.size) hlt hx
      dsimp only at d0 d1 d2 d3 d4 d5 d6 d7
      have hbl2 : g < wr.heap.size := Nat.lt_of_lt_of_le hbl (Nat.le_trans hB HB.out.size)
      have hlti : (k : Int) < (l.length : Int) := by omega
      obtain ⟨q1, hq⟩ : ∃ p, (nm.toList == n.toList) = p := ⟨_, rfl⟩
      have HS : Hid ((bif q1 then (k : Int) else findT n (k + 1) (l.drop (k + 1))) = v) := Lib.hid (by have h := HI.out; rw [drop_step hlt hx, findT_cons] at h; rw [← hq]; exact h)
      clear hx hbl
      cases q1 <;> (go_wp2_with fail; first
        | (go_roundg (gk - 1); (case measure => omega); (case rel => exact ⟨k + 1, by go_num, by omega, by omega, HS, Lib.hid (by (repeat (first | (with_reducible exact Below.refl _ _) | (with_reducible assumption) | (with_reducible refine below_drewN ?_ _) | (with_reducible refine Below.drew ?_) | (with_reducible refine Below.al ?_ _) | (with_reducible refine Below.st ?_ (by simp; try omega)) | (with_reducible refine Below.tr ?_ (Hid.out (by assumption))) | (with_reducible exact Hid.out (by assumption)))))⟩))
        | (go_ret; exact ⟨ret_int (show (k : Int) = v from HS.out), by (repeat (first | (with_reducible exact Below.refl _ _) | (with_reducible assumption) | (with_reducible refine below_drewN ?_ _) | (with_reducible refine Below.drew ?_) | (with_reducible refine Below.al ?_ _) | (with_reducible refine Below.st ?_ (by simp; try omega)) | (with_reducible refine Below.tr ?_ (Hid.out (by assumption))) | (with_reducible exact Hid.out (by assumption))))⟩))
    · have HS : Hid (-1 = v) := Lib.hid (by have h := HI.out; rw [drop_end hlt] at h; exact h)
      have hlti : ¬ (k : Int) < (l.length : Int) := by omega
      go_wp2_with fail
      go_ret
      exact ⟨ret_int HS.out, by (repeat (first | (with_reducible exact Below.refl _ _) | (with_reducible assumption) | (with_reducible refine below_drewN ?_ _) | (with_reducible refine Below.drew ?_) | (with_reducible refine Below.al ?_ _) | (with_reducible refine Below.st ?_ (by simp; try omega)) | (with_reducible refine Below.tr ?_ (Hid.out (by assumption))) | (with_reducible exact Hid.out (by assumption))))⟩
def allQ : List Qu → List Pr
  | [] => []
  | q :: l => procsQ q ++ allQ l
theorem allQ_app : ∀ (l : List Qu) (q : Qu), allQ (l ++ [q]) = allQ l ++ procsQ q
  | [], q => by simp [allQ]
  | x :: l, q => by simp [allQ, allQ_app l q]
theorem allQ_take {l : List Qu} {k : Nat} {q : Qu} (h : k < l.length) (hx : l[k] = q) : allQ (l.take (k + 1)) = allQ (l.take k) ++ procsQ q := by
  rw [← allQ_app]
  congr 1
  rw [List.take_add_one, List.getElem?_eq_getElem h, hx]
  rfl
def shortQ (q : Qu) : Prop := q.holds.length ≤ 8 ∧ q.convs.length ≤ 8 ∧ q.waits.length ≤ 8
theorem procsQ_len {q : Qu} (h : shortQ q) : (procsQ q).length ≤ 24 := by
  unfold procsQ
  have h1 := sortS_len (prsL q.holds ++ ordL q)
  have h2 : (prsL q.holds ++ ordL q).length = q.holds.length + (q.convs.length + q.waits.length) := by simp [prsL, ordL, prwL]
  have := h.1
  have := h.2.1
  have := h.2.2
  omega
theorem allQ_len : ∀ (l : List Qu), (∀ q ∈ l, shortQ q) → (allQ l).length ≤ l.length * 24
  | [], _ => by simp [allQ]
  | q :: l, h => by
    have h1 := allQ_len l fun x hx => h x (by simp [hx])
    have h2 := procsQ_len (h q (by simp))
    simp only [allQ, List.length_append, List.length_cons]
    omega
def procsT (l : List Qu) : List Pr := sortS (allQ l)
set_option maxHeartbeats 1600000 in
theorem rTProcs_any (A : Option Addr) (B cap : Nat) (l : List Qu) (w : World) (hm : l.length ≤ 12) (hs : ∀ q ∈ l, shortQ q) (hB : B ≤ w.heap.size) (hr : RowsAt quE w (Lo B) A l) :
    Calls Tryz.prog 62 #[.slice A l.length cap] w (RetRow prE 51 w (procsT l)) := by
  have HSP := Lib.hid (fun A B cap l W hm hB hr => rSortProcs_any A B cap l W hm hB hr)
  have HP := Lib.hid (fun q A1 A2 A3 c1 c2 c3 W (hq : QF W B A1 A2 A3 q) (h : shortQ q) => rQProcs_any q A1 A2 A3 c1 c2 c3 W B hq h.1 h.2.1 h.2.2)
  have HSH := Lib.hid hs
  have HT : Hid (procsT l = sortS (allQ l)) := Lib.hid rfl
  have HLL := Lib.hid (fun k => allQ_len (l.take k) fun q hq => hs q (List.mem_of_mem_take hq))
  have HR := Lib.hid hr
  clear hr hs
  generalize procsT l = R at *
  go_enter Tryz.func62, Tryz.ntmps62
  go_wp2_with fail
  go_loopg [3, 4] l.length (fun m v3 v4 wq => ∃ k : Nat, v4 = .int .i64 (k : Int) ∧ k ≤ l.length ∧ l.length ≤ k + m ∧ Hid (OwnRows prE 51 wq w.heap.size v3 (allQ (l.take k))) ∧ Hid (Below w.heap.size w wq))
  case atStart => exact ⟨0, rfl, Nat.zero_le _, by omega, Lib.hid (OwnRows.nil _ _ _ _ (Nat.le_refl _)), Lib.hid (Below.refl _ _)⟩
  case round =>
    obtain ⟨k, rfl, hk, hkm, HO, HB⟩ := hrel
    have hLK : (allQ (l.take k)).length ≤ 288 := by have := HLL.out k; rw [List.length_take] at this; omega
    by_cases hlt : k < l.length
    · obtain ⟨q, hx⟩ : ∃ x, l[k] = x := ⟨_, rfl⟩
      have HSQ : Hid (shortQ q) := Lib.hid (hx ▸ HSH.out _ (List.getElem_mem hlt))
      have HPL := Lib.hid (procsQ_len HSQ.out)
      have HE : Hid (allQ (l.take k) ++ procsQ q = allQ (l.take (k + 1))) := Lib.hid (allQ_take hlt hx).symm
      obtain ⟨g, off, A1, A2, A3, c1, c2, c3, rfl, hbl, d0, d1, d2, d3, d4, d5, d6, d7, hqf⟩ := qu_cells (HR.out.below (B'' := B) HB.out hB (Nat.le_refl _)) (Nat.le_trans hB HB.out.size) hlt hx
      have HC := Lib.hid (HP.out q A1 A2 A3 c1 c2 c3 wr hqf HSQ.out)
      obtain ⟨⟨nm, kd, un, h⟩, hs, cs, ws, gen⟩ := q
      unfold Qu.val at HC
      dsimp only at d0 d1 d2 d3 d4 d5 d6 d7 HC
      generalize procsQ ⟨⟨nm, kd, un, h⟩, hs, cs, ws, gen⟩ = pq at *
      have hbl2 : g < wr.heap.size := Nat.lt_of_lt_of_le hbl (Nat.le_trans hB HB.out.size)
      have hlti : (k : Int) < (l.length : Int) := by omega
      generalize allQ (l.take k) = aq at *
      clear hx hbl hqf
      go_wp2_with fail
      refine HC.out.mono ?_
      rintro e w2 ⟨v2, rfl, hown2, hb2⟩
      obtain ⟨A6, c6, rfl, hr6, hl6⟩ := hown2.oth_of (fun k hk => (HO.out.block k hk).2)
      have HR6 := Lib.hid hr6
      have HO2 := Lib.hid (HO.out.below hb2 (Nat.le_refl _))
      have HB2 : Hid (Below w.heap.size w w2) := Lib.hid (Below.tr HB.out hb2)
      clear hown2 hb2 hr6
      go_wp2_with (at_builtin; refine pushRB prTB rfl (.tmp 11) (.tmp 16) rfl w2 w.heap.size u3 aq pq pq.length rfl A6 c6 rfl HO2.out rfl HR6.out (by have := HPL.out; unfold maxLen; omega) (by have := HPL.out; omega) ?_; intro v7 w7 hown7 hb7 hsp7; have HB7 : Hid (Below w.heap.size w w7) := Lib.hid (HB2.out.trans hb7); have HO7 := Lib.hid hown7; clear hown7 hb7 hsp7)
      rw [HE.out] at HO7
      go_roundg (gk - 1)
      case measure => omega
      case rel => exact ⟨k + 1, by go_num, by omega, by omega, HO7, HB7⟩
    · have HE : Hid (allQ (l.take k) = allQ l) := Lib.hid (by rw [List.take_of_length_le (by omega)])
      rw [HE.out] at HO hLK
      have hlti : ¬ (k : Int) < (l.length : Int) := by omega
      obtain ⟨A7, c7, rfl, hr7, _, _⟩ := HO.out.form
      have HR7 := Lib.hid hr7
      clear hr7
      go_wp2_with fail
      refine (HSP.out A7 wr.heap.size c7 (allQ l) wr (by omega) (Nat.le_refl _) HR7.out).mono ?_
      rintro e w5 ⟨v5, rfl, hown5, hb5⟩
      have HO5 := Lib.hid hown5
      have HB5 : Hid (Below w.heap.size w w5) := Lib.hid (Below.tr HB.out hb5)
      clear hown5 hb5
      go_wp2_with fail
      go_ret
      exact ⟨v5, rfl, by rw [HT.out]; exact HO5.out.older HB.out.size, HB5.out⟩
set_option maxHeartbeats 1600000 in
theorem TProcs_any (A : Option Addr) (B cap : Nat) (l : List Qu) (w : World) (hm : l.length ≤ 12) (hs : ∀ q ∈ l, shortQ q) (hB : B ≤ w.heap.size) (hr : RowsAt quE w (Lo B) A l) :
    Calls Tryz.prog 45 #[.slice A l.length cap] w (RetRow prE 51 w (procsT l)) := by
  have HSP := Lib.hid (fun A cap l W hm hr => SortProcs_any A cap l W hm hr)
  have HP := Lib.hid (fun q A1 A2 A3 c1 c2 c3 W (hq : QF W B A1 A2 A3 q) (h : shortQ q) => QProcs_any q A1 A2 A3 c1 c2 c3 W B hq h.1 h.2.1 h.2.2)
  have HSH := Lib.hid hs
  have HT : Hid (procsT l = sortS (allQ l)) := Lib.hid rfl
  have HLL := Lib.hid (fun k => allQ_len (l.take k) fun q hq => hs q (List.mem_of_mem_take hq))
  have HR := Lib.hid hr
  clear hr hs
  generalize procsT l = R at *
  go_enter Tryz.func45, Tryz.ntmps45
  go_wp2_with fail
  go_loopg [3, 8] l.length (fun m v3 v8 wq => ∃ k : Nat, v8 = .int .i64 (k : Int) ∧ k ≤ l.length ∧ l.length ≤ k + m ∧ Hid (OwnRows prE 51 wq w.heap.size v3 (allQ (l.take k))) ∧ Hid (Below w.heap.size w wq))
  case atStart => exact ⟨0, rfl, Nat.zero_le _, by omega, Lib.hid (OwnRows.nil _ _ _ _ (Nat.le_refl _)), Lib.hid (Below.refl _ _)⟩
  case round =>
    obtain ⟨k, rfl, hk, hkm, HO, HB⟩ := hrel
    have hLK : (allQ (l.take k)).length ≤ 288 := by have := HLL.out k; rw [List.length_take] at this; omega
    by_cases hlt : k < l.length
    · obtain ⟨q, hx⟩ : ∃ x, l[k] = x := ⟨_, rfl⟩
      have HSQ : Hid (shortQ q) := Lib.hid (hx ▸ HSH.out _ (List.getElem_mem hlt))
      have HPL := Lib.hid (procsQ_len HSQ.out)
      have HE : Hid (allQ (l.take k) ++ procsQ q = allQ (l.take (k + 1))) := Lib.hid (allQ_take hlt hx).symm
      obtain ⟨g, off, A1, A2, A3, c1, c2, c3, rfl, hbl, d0, d1, d2, d3, d4, d5, d6, d7, hqf⟩ := qu_cells (HR.out.below (B'' := B) HB.out hB (Nat.le_refl _)) (Nat.le_trans hB HB.out.size) hlt hx
      have HC := Lib.hid (fun W (hb : Below wr.heap.size wr W) => HP.out q A1 A2 A3 c1 c2 c3 W (hqf.below hb) HSQ.out)
      obtain ⟨⟨nm, kd, un, h⟩, hs, cs, ws, gen⟩ := q
      unfold Qu.val at HC
      dsimp only at d0 d1 d2 d3 d4 d5 d6 d7 HC
      generalize procsQ ⟨⟨nm, kd, un, h⟩, hs, cs, ws, gen⟩ = pq at *
      have hbl2 : g < wr.heap.size := Nat.lt_of_lt_of_le hbl (Nat.le_trans hB HB.out.size)
      have hlti : (k : Int) < (l.length : Int) := by omega
      generalize allQ (l.take k) = aq at *
      clear hx hbl hqf
      go_wp2_with fail
      refine (HC.out _ (by (repeat (first | (with_reducible exact Below.refl _ _) | (with_reducible assumption) | (with_reducible refine below_drewN ?_ _) | (with_reducible refine Below.drew ?_) | (with_reducible refine Below.al ?_ _) | (with_reducible refine Below.st ?_ (by simp; try omega)) | (with_reducible refine Below.tr ?_ (Hid.out (by assumption))) | (with_reducible exact Hid.out (by assumption)))))).mono ?_
      rintro e w2 ⟨v2, rfl, hown2, hb2⟩
      obtain ⟨A6, c6, rfl, hr6, hl6⟩ := hown2.oth_of (fun k hk => by have := (HO.out.block k hk).2; simp; omega)
      have HR6 := Lib.hid hr6
      have HO2 := Lib.hid ((HO.out.below (Below.al (Below.refl _ _) _) (Nat.le_refl _)).below hb2 (Nat.le_refl _))
      have HB2 : Hid (Below w.heap.size w w2) := Lib.hid (Below.tr (Below.al HB.out _) hb2)
      clear hown2 hb2 hr6
      go_wp2_with (at_builtin; refine pushRB prTB rfl (.tmp 12) (.tmp 14) rfl w2 w.heap.size u3 aq pq pq.length rfl A6 c6 rfl HO2.out rfl HR6.out (by have := HPL.out; unfold maxLen; omega) (by have := HPL.out; omega) ?_; intro v7 w7 hown7 hb7 hsp7; have HB7 : Hid (Below w.heap.size w w7) := Lib.hid (HB2.out.trans hb7); have HO7 := Lib.hid hown7; clear hown7 hb7 hsp7)
      rw [HE.out] at HO7
      go_roundg (gk - 1)
      case measure => omega
      case rel => exact ⟨k + 1, by go_num, by omega, by omega, HO7, HB7⟩
    · have HE : Hid (allQ (l.take k) = allQ l) := Lib.hid (by rw [List.take_of_length_le (by omega)])
      rw [HE.out] at HO hLK
      have hlti : ¬ (k : Int) < (l.length : Int) := by omega
      obtain ⟨A7, c7, rfl, hr7, _, _⟩ := HO.out.form
      have HR7 := Lib.hid hr7
      clear hr7
      go_wp2_with fail
      refine (HSP.out A7 c7 (allQ l) wr (by omega) HR7.out).mono ?_
      rintro e w5 ⟨v5, rfl, hown5, hb5⟩
      have HO5 := Lib.hid hown5
      have HB5 : Hid (Below w.heap.size w w5) := Lib.hid (Below.tr HB.out hb5)
      clear hown5 hb5
      go_wp2_with fail
      go_ret
      exact ⟨v5, rfl, by rw [HT.out]; exact HO5.out.older HB.out.size, HB5.out⟩
end Go.Proofs.YtogeihdfmnohnaaGreatDoor
