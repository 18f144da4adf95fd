/- Part 33 of 49 of the proof of waitgraphOf_holds (no condition). -/
import Derived.Test.YtogeihdfmnohnaaGreatDoorK32
import Derived.Deep.DeepCutAuto
set_option linter.unusedVariables false
set_option linter.unusedSimpArgs false
namespace Go.Proofs.YtogeihdfmnohnaaGreatDoor
open Go.RowKit
def posGo (s : Ws) (p : Pr) (n : ByteArray) : Nat → List Qu → Int
  | _, [] => 0
  | k, q :: l => bif q.res.name.toList == n.toList then ((firstS s k : Nat) : Int) + 2 * idxP p 0 (ordL q) else posGo s p n (k + 1) l
theorem posGo_cons (s : Ws) (p : Pr) (n : ByteArray) (k : Nat) (q : Qu) (l : List Qu) : posGo s p n k (q :: l) = bif q.res.name.toList == n.toList then ((firstS s k : Nat) : Int) + 2 * idxP p 0 (ordL q) else posGo s p n (k + 1) l := rfl
theorem getW_idx (p : Pr) : ∀ (l : List Wt) (k : Nat), (getW l p).isSome = true → ∃ j, j < l.length ∧ idxP p k (prwL l) = ((k + j : Nat) : Int)
  | [], _, h => by simp [getW] at h
  | x :: l, k, h => by
    rw [getW_cons] at h
    have h2 : prwL (x :: l) = x.proc :: prwL l := rfl
    rw [h2, idxP_cons]
    by_cases h1 : x.proc = p
    · rw [decide_eq_true h1]
      exact ⟨0, by simp, rfl⟩
    · rw [decide_eq_false h1] at h ⊢
      obtain ⟨j, hj, e⟩ := getW_idx p l (k + 1) h
      exact ⟨j + 1, by simp; omega, by rw [cond_false, e]; congr 1; omega⟩
theorem wait_pos (s : Ws) (p : Pr) (n : ByteArray) : ∀ (l : List Qu) (k : Nat), waitT n p l = true → ∃ i, ∃ h : i < l.length, ∃ j, j < (ordL l[i]).length ∧ findT n k l = ((k + i : Nat) : Int) ∧ idxP p 0 (ordL l[i]) = (j : Int) ∧ posGo s p n k l = ((firstS s (k + i) + 2 * j : Nat) : Int)
  | [], _, h => by simp [waitT] at h
  | q :: l, k, h => by
    rw [waitT_cons] at h
    rw [findT_cons, posGo_cons]
    cases hq : q.res.name.toList == n.toList with
    | true =>
      rw [hq] at h
      obtain ⟨j, hj, e⟩ := getW_idx p (q.convs ++ q.waits) 0 h
      have e2 : idxP p 0 (ordL q) = (j : Int) := by rw [Nat.zero_add] at e; exact e
      refine ⟨0, by simp, j, ?_, rfl, e2, ?_⟩
      · simpa [ordL, prwL] using hj
      · rw [cond_true, e2]
        simp
    | false =>
      rw [hq] at h
      obtain ⟨i, hi, j, hj, h1, h2, h3⟩ := wait_pos s p n l (k + 1) h
      refine ⟨i + 1, by simp; omega, j, hj, ?_, h2, ?_⟩
      · rw [cond_false, h1]; congr 1; omega
      · rw [cond_false, h3]; congr 3; omega
def goP (s : Ws) (p : Pr) : List Tm → List Bool → Int → List Int → Int × List Int
  | a :: la, b :: bs, k, nx => bif b then goP s p la bs (k - 1) nx else goP s p la bs k (addI nx (posGo s p a.name 0 s.queues))
  | _, _, k, nx => (k, nx)
theorem goP_cons (s : Ws) (p : Pr) (a : Tm) (la : List Tm) (b : Bool) (bs : List Bool) (k : Int) (nx : List Int) : goP s p (a :: la) (b :: bs) k nx = bif b then goP s p la bs (k - 1) nx else goP s p la bs k (addI nx (posGo s p a.name 0 s.queues)) := rfl
def nodeP (s : Ws) (p : Pr) : No := match needS s.needs p with
  | none => ⟨0, []⟩
  | some x => bif holdsS x.expr (grantS s p) then ⟨0, []⟩ else
    ⟨(goP s p (atS x.expr) (grantS s p) (if x.expr.k = 0 then 1 else x.expr.k) []).1, (goP s p (atS x.expr) (grantS s p) (if x.expr.k = 0 then 1 else x.expr.k) []).2⟩
theorem ndB_of : ∀ (l : List Nd) (p : Option Pr) (q : Pr) (x : Nd), vnGo p l = true → needS l q = some x → ndB x = true
  | [], _, _, _, _, h => by cases h
  | y :: l, p, q, x, h, h2 => by
    rw [vnGo_cons] at h
    simp only [Bool.and_eq_true] at h
    rw [needS_cons] at h2
    cases hd : decide (y.proc = q) with
    | true => rw [hd] at h2; injection h2 with h2; rw [← h2]; exact h.1.1
    | false => rw [hd] at h2; exact ndB_of l _ q x h.2 h2
set_option maxRecDepth 100000 in
set_option maxHeartbeats 16000000 in
theorem rprocess_any (s : Ws) (d : Nat) (A1 A2 : Option Addr) (c1 c2 B : Nat) (x y z : Int) (w : World) (hw : WF w B d A1 A2 s) (hv : stateB s = true) :
    Calls Tryz.prog 24 #[s.val A1 A2 c1 c2, .agg #[.int .i64 x, .int .i64 y, .int .i64 z]] w (RetNo w (nodeP s ⟨x, y, z⟩)) := by
  have HN := Lib.hid (fun W (hb : Below w.heap.size w W) => rNeed_any s d A1 A2 c1 c2 B x y z W (hw.below hb))
  have HGR := Lib.hid (fun W (hb : Below w.heap.size w W) => rGranted_any s d A1 A2 c1 c2 B x y z W (hw.below hb))
  have HF := Lib.hid (fun n W (hb : Below w.heap.size w W) => rTFind_any A1 B c1 s.queues n W hw.m1 (Nat.le_trans hw.hB hb.size) (hw.r1.below hb hw.hB (Nat.le_refl _)))
  have HOD := Lib.hid (fun q A1 A2 A3 c1 c2 c3 W (hq : QF W B A1 A2 A3 q) (h : shortQ q) => rQOrder_any q A1 A2 A3 c1 c2 c3 W B hq h.2.1 h.2.2)
  have hsh := stateB_short hv
  have HPL := Lib.hid (fun i n W (hb : Below w.heap.size w W) hi hn => gplace_any s d A1 A2 c1 c2 B i n W (hw.below hb) hsh.1 hsh.2.2 hsh.2.1 hi hn)
  have HA := Lib.hid (fun x A cap B W (hx : ExF W B d A x) => r08Atoms_any d x A cap B W hx)
  have HHO := Lib.hid (fun x A A3 cap c3 B set W (hx : ExF W B d A x) h2 h3 => rHolds_any d x A A3 cap c3 B set W hx h2 h3)
  have HSH := Lib.hid hsh
  have HRQ := Lib.hid hw.r1
  have HBw := Lib.hid hw.hB
  have HND := Lib.hid (fun xx h => ndB_of s.needs none ⟨x, y, z⟩ xx (by unfold stateB at hv; simp only [Bool.and_eq_true] at hv; exact hv.1.2) h)
  have HGS : Hid (∀ xx, needS s.needs ⟨x, y, z⟩ = some xx → grantS s ⟨x, y, z⟩ = (atS xx.expr).map (fun a => !waitT a.name ⟨x, y, z⟩ s.queues)) := Lib.hid fun xx h => by unfold grantS; rw [h, hv]; rfl
  have HNP : Hid (nodeP s ⟨x, y, z⟩ = match needS s.needs ⟨x, y, z⟩ with
    | none => ⟨0, []⟩
    | some xx => bif holdsS xx.expr (grantS s ⟨x, y, z⟩) then ⟨0, []⟩ else
      ⟨(goP s ⟨x, y, z⟩ (atS xx.expr) (grantS s ⟨x, y, z⟩) (if xx.expr.k = 0 then 1 else xx.expr.k) []).1, (goP s ⟨x, y, z⟩ (atS xx.expr) (grantS s ⟨x, y, z⟩) (if xx.expr.k = 0 then 1 else xx.expr.k) []).2⟩) := Lib.hid rfl
  have HKF : Hid (∀ b W, Sem.run Tryz.prog (callFunc 67 b) W = .ok (.enter 67 b) W) := Lib.hid (fun b W => by kernel_rfl)
  have HKA : Hid (∀ b W, Sem.run Tryz.prog (callFunc 27 b) W = .ok (.enter 27 b) W) := Lib.hid (fun b W => by kernel_rfl)
  have HKP : Hid (∀ b W, Sem.run Tryz.prog (callFunc 28 b) W = .ok (.enter 28 b) W) := Lib.hid (fun b W => by kernel_rfl)
  have HKU : Hid (∀ b W, Sem.run Tryz.prog (callFunc 26 b) W = .ok (.enter 26 b) W) := Lib.hid (fun b W => by kernel_rfl)
  clear hw hv hsh
  obtain ⟨R, hR⟩ : ∃ r, nodeP s ⟨x, y, z⟩ = r := ⟨_, rfl⟩
  rw [hR] at HNP ⊢
  clear hR
  obtain ⟨nd, hnd⟩ : ∃ r, needS s.needs ⟨x, y, z⟩ = r := ⟨_, rfl⟩
  rw [hnd] at HN HNP HGS HND
  clear hnd
  obtain ⟨bs, hbs⟩ : ∃ r, grantS s ⟨x, y, z⟩ = r := ⟨_, rfl⟩
  rw [hbs] at HGR HNP HGS
  clear hbs
  obtain ⟨S, hS⟩ : ∃ t, t = s := ⟨_, rfl⟩
  rw [← hS] at HNP
  have HSS := Lib.hid hS
  clear hS
  obtain ⟨qs, ns⟩ := s
  unfold Ws.val at *
  dsimp only at HN HGR HF HPL HSH HRQ HGS ⊢
  have HWP := Lib.hid (fun n => wait_pos S ⟨x, y, z⟩ n qs 0)
  have HSQU : Hid (S.queues = qs) := Lib.hid (by rw [HSS.out])
  have HS : Hid (Blk (((w.alloc (.cells #[.slice A1 qs.length c1, .slice A2 ns.length c2] 25)).alloc (.cells #[.int .i64 x, .int .i64 y, .int .i64 z] 51)).alloc (.cells #[.int .i64 0, .slice none 0 0] 37)) w.heap.size 25 #[.slice A1 qs.length c1, .slice A2 ns.length c2]) := Lib.hid (((Blk.new w _ _).alloc _).alloc _)
  have HP : Hid (Blk (((w.alloc (.cells #[.slice A1 qs.length c1, .slice A2 ns.length c2] 25)).alloc (.cells #[.int .i64 x, .int .i64 y, .int .i64 z] 51)).alloc (.cells #[.int .i64 0, .slice none 0 0] 37)) (w.heap.size + 1) 51 #[.int .i64 x, .int .i64 y, .int .i64 z]) := Lib.hid (by
    have := (Blk.new (w.alloc (.cells #[.slice A1 qs.length c1, .slice A2 ns.length c2] 25)) 51 #[.int .i64 x, .int .i64 y, .int .i64 z]).alloc (.cells #[.int .i64 0, .slice none 0 0] 37)
    rwa [size_alloc_1] at this)
  have HZ : Hid (Blk (((w.alloc (.cells #[.slice A1 qs.length c1, .slice A2 ns.length c2] 25)).alloc (.cells #[.int .i64 x, .int .i64 y, .int .i64 z] 51)).alloc (.cells #[.int .i64 0, .slice none 0 0] 37)) (w.heap.size + 1 + 1) 37 #[.int .i64 0, .slice none 0 0]) := Lib.hid (by
    have := Blk.new ((w.alloc (.cells #[.slice A1 qs.length c1, .slice A2 ns.length c2] 25)).alloc (.cells #[.int .i64 x, .int .i64 y, .int .i64 z] 51)) 37 #[.int .i64 0, .slice none 0 0]
    rwa [size_alloc_1, size_alloc_1] at this)
  have HW3 : Hid (Below w.heap.size w (((w.alloc (.cells #[.slice A1 qs.length c1, .slice A2 ns.length c2] 25)).alloc (.cells #[.int .i64 x, .int .i64 y, .int .i64 z] 51)).alloc (.cells #[.int .i64 0, .slice none 0 0] 37))) := Lib.hid (Below.al (Below.al (Below.al (Below.refl _ _) _) _) _)
  go_enter Tryz.func24, Tryz.ntmps24
  go_wp2_with fail
  generalize ((w.alloc (.cells #[.slice A1 qs.length c1, .slice A2 ns.length c2] 25)).alloc (.cells #[.int .i64 x, .int .i64 y, .int .i64 z] 51)).alloc (.cells #[.int .i64 0, .slice none 0 0] 37) = w3 at *
  refine (HN.out _ HW3.out).mono ?_
  rintro e w4 ⟨hb4, hr4⟩
  have HB4 : Hid (Below w.heap.size w w4) := Lib.hid (Below.tr HW3.out hb4)
  have HS4 := Lib.hid (HS.out.below hb4 HS.out.lt)
  have HP4 := Lib.hid (HP.out.below hb4 HP.out.lt)
  have HZ4 := Lib.hid (HZ.out.below hb4 HZ.out.lt)
  have s0 := HS4.out.cellx 0 (v := .slice A1 qs.length c1) rfl
  have s1 := HS4.out.cellx 1 (v := .slice A2 ns.length c2) rfl
  have p0 := HP4.out.cellx 0 (v := .int .i64 x) rfl
  have p1 := HP4.out.cellx 1 (v := .int .i64 y) rfl
  have p2 := HP4.out.cellx 2 (v := .int .i64 z) rfl
  have hz4 := HZ4.out.lt
  have hz4' := HS4.out.lt
  have hz4'' := HP4.out.lt
  clear hb4
  cases nd with
  | none =>
    obtain rfl := hr4
    have HE : Hid (R = ⟨0, []⟩) := HNP
    have HB5 : Hid (Below w.heap.size w (w4.alloc (.cells #[.int .i64 0, .int .i64 0, .int .i64 0, .int .i64 0, .string { data := #[] }, .int .i64 0, .int .i64 0, .slice none 0 0, .int .i64 0] 60))) := Lib.hid (Below.al HB4.out _)
    have HZ5 := Lib.hid (HZ4.out.alloc (.cells #[.int .i64 0, .int .i64 0, .int .i64 0, .int .i64 0, .string { data := #[] }, .int .i64 0, .int .i64 0, .slice none 0 0, .int .i64 0] 60))
    go_wp2_with fail
    generalize w4.alloc (.cells #[.int .i64 0, .int .i64 0, .int .i64 0, .int .i64 0, .string { data := #[] }, .int .i64 0, .int .i64 0, .slice none 0 0, .int .i64 0] 60) = w5 at *
    refine (HGR.out _ HB5.out).mono ?_
    rintro e w6 ⟨v6, rfl, ho6, hb6⟩
    obtain ⟨A6, c6, rfl, _, _, _⟩ := ho6.form
    have HB6 : Hid (Below w.heap.size w w6) := Lib.hid (Below.tr HB5.out hb6)
    have HZ6 := Lib.hid (HZ5.out.below hb6 HZ5.out.lt)
    clear hb6 ho6
    go_wp2_with (refine storeBox rfl 37 (.tmp 4) (.tmp 30) rfl (w.heap.size + 1 + 1) 0 37 #[.int .i64 0, .slice none 0 0] #[.int .i64 0, .slice none 0 0] #[.int .i64 0, .slice none 0 0] rfl rfl HZ6.out sizeNo (by simp) (by simp [Value.oneCell']) rfl ?_; intro w8 hk8 hb8; have HF8 := Lib.hid hk8; have HB8 := Lib.hid hb8; clear hk8 hb8)
    rw [HE.out]
    exact bodyPost_ret_by (v := .agg #[.int .i64 0, .slice none 0 0]) (results_cell_row rfl _ _ (w.heap.size + 1 + 1) 37 #[.int .i64 0, .slice none 0 0] (0, 0) _ rfl HF8.out Tryz.underlying37 rfl sizeNo) rfl ⟨none, 0, rfl, RowsAt.nil _ _ _ _, HB6.out.trans (HB8.out.below (by omega) HB6.out.size)⟩
  | some nx =>
    obtain ⟨A3, c3, rfl, hx4⟩ := hr4
    have HX4 := Lib.hid hx4
    have HN1 := Lib.hid (HND.out nx rfl)
    have HG1 := Lib.hid (HGS.out nx rfl)
    clear hx4 HND HGS
    obtain ⟨⟨a, b, c⟩, ⟨k, ⟨nm, ⟨m, u⟩⟩, l⟩, gen⟩ := nx
    unfold Nd.val
    dsimp only [Ex.k, Ex.atom, Ex.kids] at HNP HX4 HG1 HN1 ⊢
    have HB5 : Hid (Below w.heap.size w (w4.alloc (.cells #[.int .i64 a, .int .i64 b, .int .i64 c, .int .i64 k, .string nm, .int .i64 m, .int .i64 u, .slice A3 l.length c3, .int .i64 gen] 60))) := Lib.hid (Below.al HB4.out _)
    have HS5 := Lib.hid (HS4.out.alloc (.cells #[.int .i64 a, .int .i64 b, .int .i64 c, .int .i64 k, .string nm, .int .i64 m, .int .i64 u, .slice A3 l.length c3, .int .i64 gen] 60))
    have HP5 := Lib.hid (HP4.out.alloc (.cells #[.int .i64 a, .int .i64 b, .int .i64 c, .int .i64 k, .string nm, .int .i64 m, .int .i64 u, .slice A3 l.length c3, .int .i64 gen] 60))
    have HZ5 := Lib.hid (HZ4.out.alloc (.cells #[.int .i64 a, .int .i64 b, .int .i64 c, .int .i64 k, .string nm, .int .i64 m, .int .i64 u, .slice A3 l.length c3, .int .i64 gen] 60))
    have HN5 : Hid (Blk (w4.alloc (.cells #[.int .i64 a, .int .i64 b, .int .i64 c, .int .i64 k, .string nm, .int .i64 m, .int .i64 u, .slice A3 l.length c3, .int .i64 gen] 60)) w4.heap.size 60 #[.int .i64 a, .int .i64 b, .int .i64 c, .int .i64 k, .string nm, .int .i64 m, .int .i64 u, .slice A3 l.length c3, .int .i64 gen]) := Lib.hid (Blk.new _ _ _)
    have HX5 : Hid (ExF (w4.alloc (.cells #[.int .i64 a, .int .i64 b, .int .i64 c, .int .i64 k, .string nm, .int .i64 m, .int .i64 u, .slice A3 l.length c3, .int .i64 gen] 60)) w4.heap.size d A3 (.mk k ⟨nm, ⟨m, u⟩⟩ l)) := Lib.hid (HX4.out.below (Below.al (Below.refl _ _) _))
    go_wp2_with fail
    generalize w4.alloc (.cells #[.int .i64 a, .int .i64 b, .int .i64 c, .int .i64 k, .string nm, .int .i64 m, .int .i64 u, .slice A3 l.length c3, .int .i64 gen] 60) = w5 at *
    refine (HGR.out _ HB5.out).mono ?_
    rintro e w6 ⟨v6, rfl, ho6, hb6⟩
    obtain ⟨A6, c6, rfl, hr6, hl6, hm6⟩ := ho6.form
    have HR6 := Lib.hid hr6
    have HB6 : Hid (Below w.heap.size w w6) := Lib.hid (Below.tr HB5.out hb6)
    have HS6 := Lib.hid (HS5.out.below hb6 HS5.out.lt)
    have HP6 := Lib.hid (HP5.out.below hb6 HP5.out.lt)
    have HZ6 := Lib.hid (HZ5.out.below hb6 HZ5.out.lt)
    have HN6 := Lib.hid (HN5.out.below hb6 HN5.out.lt)
    have HX6 := Lib.hid (HX5.out.below hb6)
    clear hb6 ho6 hr6 s0 s1 p0 p1 p2 hz4 hz4' hz4''
    have n0 := HN6.out.cellx 0 (v := .int .i64 a) rfl
    have n3 := HN6.out.cellx 3 (v := .int .i64 k) rfl
    have n4 := HN6.out.cellx 4 (v := .string nm) rfl
    have n5 := HN6.out.cellx 5 (v := .int .i64 m) rfl
    have n6 := HN6.out.cellx 6 (v := .int .i64 u) rfl
    have n7 := HN6.out.cellx 7 (v := .slice A3 l.length c3) rfl
    have hz6 := HN6.out.lt
    have HLB : Hid (bs.length ≤ 1000) := Lib.hid (by
      rw [HG1.out, List.length_map]
      have h := (show ndB ⟨⟨a, b, c⟩, .mk k ⟨nm, ⟨m, u⟩⟩ l, gen⟩ = true from HN1.out)
      unfold ndB at h
      simp only [Bool.and_eq_true] at h
      have := (veB_sh h.1.1.2).2.2.1
      exact Nat.le_trans this (by omega))
    have HH1 := Lib.hid (HHO.out (.mk k ⟨nm, ⟨m, u⟩⟩ l) A3 A6 c3 c6 w6.heap.size bs w6 (HX6.out.up (by omega) (Nat.le_refl _)) HR6.out HLB.out)
    have HA1 := Lib.hid (fun W (hb : Below w6.heap.size w6 W) => HA.out (.mk k ⟨nm, ⟨m, u⟩⟩ l) A3 c3 w4.heap.size W (HX6.out.below hb))
    unfold Ex.val at HH1 HA1
    dsimp only [Ex.k, Ex.atom, Ex.kids] at HH1 HA1
    have HL8 : Hid ((atS (.mk k ⟨nm, ⟨m, u⟩⟩ l)).length ≤ 8 ∧ -1 ≤ k ∧ k ≤ 24) := Lib.hid (by
      have h := (show ndB ⟨⟨a, b, c⟩, .mk k ⟨nm, ⟨m, u⟩⟩ l, gen⟩ = true from HN1.out)
      unfold ndB at h
      simp only [Bool.and_eq_true] at h
      have h1 := veB_sh h.1.1.2
      have h2 := h.1.1.2
      unfold veB okB at h2
      simp only [Bool.and_eq_true, decide_eq_true_eq] at h2
      have h3 := h2.1.2
      rw [Ex.cnt_mk] at h3
      have h4 := length_cntL l
      have h5 := h1.1
      rw [shB_mk] at h5
      unfold headB at h5
      refine ⟨h1.2.2.1, ?_⟩
      cases hE : l.isEmpty with
      | true => rw [hE] at h5; simp at h5; omega
      | false => rw [hE] at h5; simp at h5; omega)
    have HNP2 : Hid (R = bif holdsS (.mk k ⟨nm, ⟨m, u⟩⟩ l) bs then ⟨0, []⟩ else
      ⟨(goP S ⟨x, y, z⟩ (atS (.mk k ⟨nm, ⟨m, u⟩⟩ l)) bs (if k = 0 then 1 else k) []).1, (goP S ⟨x, y, z⟩ (atS (.mk k ⟨nm, ⟨m, u⟩⟩ l)) bs (if k = 0 then 1 else k) []).2⟩) := HNP
    generalize holdsS (.mk k ⟨nm, ⟨m, u⟩⟩ l) bs = hq at *
    generalize atS (.mk k ⟨nm, ⟨m, u⟩⟩ l) = L at *
    obtain ⟨hL8, hk1, hk2⟩ := HL8.out
    clear HNP HHO HN1
    go_wp2_with fail
    refine HH1.out.mono ?_
    rintro e w7 ⟨rfl, hb7⟩
    have HB7 : Hid (Below w.heap.size w w7) := Lib.hid (Below.tr HB6.out hb7)
    have HB67 := Lib.hid hb7
    have HS7 := Lib.hid (HS6.out.below hb7 HS6.out.lt)
    have HP7 := Lib.hid (HP6.out.below hb7 HP6.out.lt)
    have HZ7 := Lib.hid (HZ6.out.below hb7 HZ6.out.lt)
    have HN7 := Lib.hid (HN6.out.below hb7 HN6.out.lt)
    have HR7 := Lib.hid (HR6.out.below (B'' := w6.heap.size) hb7 (Nat.le_refl _) (Nat.le_refl _))
    clear hb7 n0 n3 n4 n5 n6 n7
    have n0 := HN7.out.cellx 0 (v := .int .i64 a) rfl
    have n3 := HN7.out.cellx 3 (v := .int .i64 k) rfl
    have n4 := HN7.out.cellx 4 (v := .string nm) rfl
    have n5 := HN7.out.cellx 5 (v := .int .i64 m) rfl
    have n6 := HN7.out.cellx 6 (v := .int .i64 u) rfl
    have n7 := HN7.out.cellx 7 (v := .slice A3 l.length c3) rfl
    have hz7 := HN7.out.lt
    have hzz7 := HZ7.out.lt
    cases hq with
    | true =>
      have HE : Hid (R = ⟨0, []⟩) := HNP2
      go_wp2_with (refine storeBox rfl 37 (.tmp 4) (.tmp 30) rfl (w.heap.size + 1 + 1) 0 37 #[.int .i64 0, .slice none 0 0] #[.int .i64 0, .slice none 0 0] #[.int .i64 0, .slice none 0 0] rfl rfl HZ7.out sizeNo (by simp) (by simp [Value.oneCell']) rfl ?_; intro w8 hk8 hb8; have HF8 := Lib.hid hk8; have HB8 := Lib.hid hb8; clear hk8 hb8)
      rw [HE.out]
      exact bodyPost_ret_by (v := .agg #[.int .i64 0, .slice none 0 0]) (results_cell_row rfl _ _ (w.heap.size + 1 + 1) 37 #[.int .i64 0, .slice none 0 0] (0, 0) _ rfl HF8.out Tryz.underlying37 rfl sizeNo) rfl ⟨none, 0, rfl, RowsAt.nil _ _ _ _, HB7.out.trans (HB8.out.below (by omega) HB7.out.size)⟩
    | false =>
      have HE : Hid (R = ⟨(goP S ⟨x, y, z⟩ L bs (if k = 0 then 1 else k) []).1, (goP S ⟨x, y, z⟩ L bs (if k = 0 then 1 else k) []).2⟩) := HNP2
      clear HNP2
      obtain ⟨K0, hK0⟩ : ∃ t, (if k = 0 then (1 : Int) else k) = t := ⟨_, rfl⟩
      rw [hK0] at HE
      have hK1 : -1 ≤ K0 ∧ K0 ≤ 24 := by split at hK0 <;> omega
      go_upto_if 38 with fail
      go_cut [] (fun wx => Hid (Blk wx w7.heap.size 37 #[.int .i64 K0, .slice none 0 0]) ∧ Hid (Below w7.heap.size w7 wx))
      case first =>
        by_cases hk : k = 0
        · obtain rfl : 1 = K0 := by rw [if_pos hk] at hK0; exact hK0
          subst hk
          go_wp2_with fail
          go_meet
          exact ⟨Lib.hid (Blk.new _ _ _), Lib.hid (Below.al (Below.refl _ _) _)⟩
        · obtain rfl : k = K0 := by rw [if_neg hk] at hK0; exact hK0
          have hk3 : (k == 0) = false := by simpa using hk
          go_wp2_with fail
          go_meet
          exact ⟨Lib.hid (Blk.new _ _ _), Lib.hid (Below.al (Below.refl _ _) _)⟩
      case rest =>
      obtain ⟨HM8, HB8⟩ := hcut
      clear hK0
      obtain ⟨w8, hw8⟩ : ∃ v, v = wc := ⟨_, rfl⟩
      subst hw8
      have HS8 := Lib.hid (HS7.out.below HB8.out HS7.out.lt)
      have HP8 := Lib.hid (HP7.out.below HB8.out HP7.out.lt)
      have HZ8 := Lib.hid (HZ7.out.below HB8.out HZ7.out.lt)
      have HN8 := Lib.hid (HN7.out.below HB8.out HN7.out.lt)
      have hz8 := HN8.out.lt
      clear n0 n3 n4 n5 n6 n7
      have n0 := HN8.out.cellx 0 (v := .int .i64 a) rfl
      have n3 := HN8.out.cellx 3 (v := .int .i64 k) rfl
      have n4 := HN8.out.cellx 4 (v := .string nm) rfl
      have n5 := HN8.out.cellx 5 (v := .int .i64 m) rfl
      have n6 := HN8.out.cellx 6 (v := .int .i64 u) rfl
      have n7 := HN8.out.cellx 7 (v := .slice A3 l.length c3) rfl
      go_wp2_with fail
      refine (HA1.out _ (Below.tr HB67.out HB8.out)).mono ?_
      rintro e w9 ⟨v9, rfl, ho9, hb9⟩
      obtain ⟨A9, c9, rfl, hr9, hl9⟩ := OwnRows.newP ho9
      have HR9 := Lib.hid (New.older hr9 (show w7.heap.size + 1 ≤ w8.heap.size from HM8.out.lt))
      have HB9 : Hid (Below w.heap.size w w9) := Lib.hid (Below.tr HB7.out (Below.tr HB8.out hb9))
      have HB79 : Hid (Below w7.heap.size w7 w9) := Lib.hid (Below.tr HB8.out hb9)
      have HS9 := Lib.hid (HS8.out.below hb9 HS8.out.lt)
      have HP9 := Lib.hid (HP8.out.below hb9 HP8.out.lt)
      have HZ9 := Lib.hid (HZ8.out.below hb9 HZ8.out.lt)
      have HM9 := Lib.hid (HM8.out.below hb9 HM8.out.lt)
      have HBS9 := Lib.hid (HR7.out.below (B'' := w7.heap.size) HB79.out HB67.out.size HB67.out.size)
      clear hb9 ho9 hr9 n0 n3 n4 n5 n6 n7 HS8 HP8 HZ8 HM8 HA1 HX6 HN7 HN6 HR6 HR7 HS7 HP7
      have hz9 := HM9.out.lt
      have hbl : bs.length = L.length := by rw [HG1.out, List.length_map]
      have HQ0 : Hid (R = ⟨(goP S ⟨x, y, z⟩ (L.drop 0) (bs.drop 0) K0 []).1, (goP S ⟨x, y, z⟩ (L.drop 0) (bs.drop 0) K0 []).2⟩) := HE
      clear HE
      go_wp2_with fail
      go_loopg [10] L.length (fun m0 v10 wq => ∃ (j : Nat) (K : Int) (nx : List Int) (AX : Option Addr) (cx : Nat), v10 = .int .i64 (j : Int) ∧ j ≤ L.length ∧ L.length ≤ j + m0 ∧ nx.length ≤ j ∧ (K0 - j ≤ K ∧ K ≤ K0) ∧ Hid (R = ⟨(goP S ⟨x, y, z⟩ (L.drop j) (bs.drop j) K nx).1, (goP S ⟨x, y, z⟩ (L.drop j) (bs.drop j) K nx).2⟩) ∧ Hid (Blk wq w7.heap.size 37 #[.int .i64 K, .slice AX nx.length cx]) ∧ Hid (RowsAt intE wq (New (w7.heap.size + 1) wq) AX nx) ∧ Hid (But w7.heap.size w9 wq))
      case atStart => exact ⟨0, K0, [], none, 0, rfl, Nat.zero_le _, by omega, by simp, by omega, HQ0, HM9, Lib.hid (RowsAt.nil _ _ _ _), Lib.hid (But.refl _ _)⟩
      case round =>
        obtain ⟨j, K, nx, AX, cx, rfl, hj, hjm, hnl, hKb, HI, HM, HX, HB⟩ := hrel
        have hszr := HB.out.size
        have HS := Lib.hid (show Blk wr w.heap.size 25 _ from (HB.out.block _ HS9.out.lt (by have := HZ7.out.lt; omega)).trans HS9.out)
        have HP := Lib.hid (show Blk wr (w.heap.size + 1) 51 _ from (HB.out.block _ HP9.out.lt (by have := HZ7.out.lt; omega)).trans HP9.out)
        have HZ := Lib.hid (show Blk wr (w.heap.size + 1 + 1) 37 _ from (HB.out.block _ HZ9.out.lt (by have := HZ7.out.lt; omega)).trans HZ9.out)
        have HBW : Hid (Below w.heap.size w wr) := Lib.hid (HB9.out.trans (HB.out.below (by have := HZ7.out.lt; omega) HB9.out.size))
        have HB7r : Hid (Below w7.heap.size w7 wr) := Lib.hid (HB79.out.trans (HB.out.below (Nat.le_refl _) HB79.out.size))
        by_cases hlt : j < L.length
        · have hlti : (j : Int) < (L.length : Int) := by omega
          have hjb : j < bs.length := by omega
          have hjbi : (j : Int) < (bs.length : Int) := by omega
          obtain ⟨⟨n1, ⟨m1, u1⟩⟩, hx⟩ : ∃ x, L[j] = x := ⟨_, rfl⟩
          obtain ⟨bj, hbj⟩ : ∃ x, bs[j] = x := ⟨_, rfl⟩
          have HWT : Hid (bj = !waitT n1 ⟨x, y, z⟩ qs) := Lib.hid (by
            rw [← hbj]
            have h := HG1.out
            subst h
            rw [List.getElem_map, hx])
          have HE : Hid (R = ⟨(goP S ⟨x, y, z⟩ (⟨n1, ⟨m1, u1⟩⟩ :: L.drop (j + 1)) (bj :: bs.drop (j + 1)) K nx).1, (goP S ⟨x, y, z⟩ (⟨n1, ⟨m1, u1⟩⟩ :: L.drop (j + 1)) (bj :: bs.drop (j + 1)) K nx).2⟩) := Lib.hid (by have h := HI.out; rw [drop_step hlt hx, drop_step hjb hbj] at h; exact h)
          rw [goP_cons] at HE
          obtain ⟨g1, off1, hA9, hgl, e0, e1, e2⟩ := tm_cells (S := Lo wr.heap.size) (HR9.out.same (fun b hb => HB.out.block b hb.2 (by have h1 := hb.1; omega)) (fun b hb => Nat.lt_of_lt_of_le hb.2 hszr)) hlt hx
          obtain ⟨g2, off2, hA6, hgl2, e3⟩ := bo_cell (HBS9.out.but (B' := wr.heap.size) HB.out HB79.out.size (Nat.le_refl _) HB7r.out.size) hjb hbj
          have hgl' : g1 < wr.heap.size := hgl
          have hgl2' : g2 < wr.heap.size := hgl2
          have m0 := HM.out.cellx 0 (v := .int .i64 K) rfl
          have m1' := HM.out.cellx 1 (v := .slice AX nx.length cx) rfl
          have fm0 := HM.out.frozen 0
          have fm1 := HM.out.frozen 1
          have hmz := HM.out.lt
          subst hA9
          subst hA6
          clear hx hbj
          cases bj with
          | true =>
            have HE2 : Hid (R = ⟨(goP S ⟨x, y, z⟩ (L.drop (j + 1)) (bs.drop (j + 1)) (K - 1) nx).1, (goP S ⟨x, y, z⟩ (L.drop (j + 1)) (bs.drop (j + 1)) (K - 1) nx).2⟩) := HE
            go_wp2_with fail
            go_roundg (gk - 1)
            case measure => omega
            case rel => exact ⟨j + 1, K - 1, nx, AX, cx, by go_num, by omega, by omega, by omega, by omega, HE2, Lib.hid (HM.out.set_ 0 (.int .i64 (K - 1))), Lib.hid (HX.out.same (fun b hb => Below.heap_setCell _ _ _ _ (by have h1 := hb.1; show b ≠ w7.heap.size; omega)) (fun b hb => ⟨hb.1, by have h2 := hb.2; simpa using h2⟩)), Lib.hid (But.st HB.out (.inl rfl))⟩
          | false =>
            have hwt : waitT n1 ⟨x, y, z⟩ qs = true := by have h := HWT.out; cases hq2 : waitT n1 ⟨x, y, z⟩ qs with
              | true => rfl
              | false => rw [hq2] at h; cases h
            obtain ⟨qi, hqi, jj, hjj, hf1, hf2, hf3⟩ := HWP.out n1 hwt
            have HE2 : Hid (R = ⟨(goP S ⟨x, y, z⟩ (L.drop (j + 1)) (bs.drop (j + 1)) K (addI nx ((firstS S qi + 2 * jj : Nat) : Int))).1, (goP S ⟨x, y, z⟩ (L.drop (j + 1)) (bs.drop (j + 1)) K (addI nx ((firstS S qi + 2 * jj : Nat) : Int))).2⟩) := Lib.hid (by
              have h := HE.out
              rw [cond_false] at h
              rw [HSQU.out, hf3, Nat.zero_add] at h
              exact h)
            have hf1' : findT n1 0 qs = (qi : Int) := by rw [hf1]; omega
            have HFC := Lib.hid (fun W hb => HF.out n1 W hb)
            rw [hf1'] at HFC
            have hqii : (qi : Int) < (qs.length : Int) := by omega
            have HSQ : Hid (shortQ qs[qi]) := Lib.hid (HSH.out.2.1 _ (List.getElem_mem hqi))
            have HADL := Lib.hid (addI_len nx ((firstS S qi + 2 * jj : Nat) : Int))
            have HPL1 := Lib.hid (fun W (hb : Below w.heap.size w W) => HPL.out qi jj W hb (by omega) (by have h := ordL_len HSQ.out; omega))
            rw [← HSS.out] at HPL1
            generalize firstS S qi = fs at *
            have s0 := HS.out.cellx 0 (v := .slice A1 qs.length c1) rfl
            have hzs := HS.out.lt
            have HFE := Lib.hid (fun n : Ext wr => HFC.out n.w (Below.tr HBW.out n.below))
            clear hf1 hf3 hwt HE HWT
            have HFX := Lib.hid hf1'
            clear hf1'
            go_wp2_with fail
            have g0 := Ext.cell s0
            have g1' := Ext.cell e0
            refine wp_region_grow (by kernel_rfl) (by kernel_rfl) ?_; (repeat (go_big_quiet_step ((go_at_call 67; exact Ext.call _ (HFE.out _))))); refine wpQuiet_nil ?_; rintro w2 ⟨n2, rfl⟩; have hb2 := n2.below; generalize n2.w = w2 at hb2 ⊢; clear n2
            have HB10 := Lib.hid hb2
            clear hb2 g0 g1' s0 e0 e1 e2 e3 m0 m1' fm0 fm1
            have HBW10 : Hid (Below w.heap.size w w2) := Lib.hid (Below.tr HBW.out HB10.out)
            have HS10 := Lib.hid (HS.out.below HB10.out HS.out.lt)
            have HP10 := Lib.hid (HP.out.below HB10.out HP.out.lt)
            have HM10 := Lib.hid (HM.out.below HB10.out HM.out.lt)
            have HX10 := Lib.hid (New.grow HB10.out (Nat.le_refl _) HX.out)
            have s0 := HS10.out.cellx 0 (v := .slice A1 qs.length c1) rfl
            have hzs2 := HS10.out.lt
            obtain ⟨qu, hx⟩ : ∃ x, qs[qi] = x := ⟨_, rfl⟩
            have HBR : Hid (B ≤ w2.heap.size) := Lib.hid (Nat.le_trans HBw.out HBW10.out.size)
            obtain ⟨gq, offq, B1, B2, B3, r1, r2, r3, hAq, hgq, d0, d1, d2, d3, d4, d5, d6, d7, hqf⟩ := qu_cells (HRQ.out.below (B'' := B) HBW10.out HBw.out (Nat.le_refl _)) HBR.out hqi hx
            rw [hx] at HSQ hf2 hjj
            have HJJ := Lib.hid hjj
            have HIX := Lib.hid hf2
            have hgq2 : gq < w2.heap.size := Nat.lt_of_lt_of_le hgq HBR.out
            have HODC := Lib.hid (HOD.out qu B1 B2 B3 r1 r2 r3 w2 hqf HSQ.out)
            obtain ⟨⟨qnm, kd, un, qh⟩, qhs, qcs, qws, qgen⟩ := qu
            unfold Qu.val at HODC
            dsimp only at d0 d1 d2 d3 d4 d5 d6 d7 HODC
            subst hAq
            clear hx hgq hqf hjj hf2
            generalize ordL ⟨⟨qnm, kd, un, qh⟩, qhs, qcs, qws, qgen⟩ = o at *
            go_wp2_with fail
            refine HODC.out.mono ?_
            rintro e w11 ⟨v11, rfl, ho11, hb11⟩
            obtain ⟨AO, cO, rfl, hrO, hlO, hmO⟩ := ho11.form
            have HRO := Lib.hid hrO
            have HLO := Lib.hid (Nat.le_trans hlO hmO)
            have HB11 : Hid (Below wr.heap.size wr w11) := Lib.hid (Below.tr HB10.out hb11)
            have HBW11 : Hid (Below w.heap.size w w11) := Lib.hid (Below.tr HBW.out HB11.out)
            have HS11 := Lib.hid (HS10.out.below hb11 HS10.out.lt)
            have HP11 := Lib.hid (HP10.out.below hb11 HP10.out.lt)
            have HM11 := Lib.hid (HM10.out.below hb11 HM10.out.lt)
            have HX11 := Lib.hid (New.grow hb11 (Nat.le_refl _) HX10.out)
            clear hb11 ho11 hrO s0 hzs2 d0 d1 d2 d3 d4 d5 d6 d7
            have s0 := HS11.out.cellx 0 (v := .slice (some ⟨gq, offq, none⟩) qs.length c1) rfl
            have s1 := HS11.out.cellx 1 (v := .slice A2 ns.length c2) rfl
            have p0 := HP11.out.cellx 0 (v := .int .i64 x) rfl
            have p1 := HP11.out.cellx 1 (v := .int .i64 y) rfl
            have p2 := HP11.out.cellx 2 (v := .int .i64 z) rfl
            have m0 := HM11.out.cellx 0 (v := .int .i64 K) rfl
            have m1' := HM11.out.cellx 1 (v := .slice AX nx.length cx) rfl
            have fm1 := HM11.out.frozen 1
            have hy1 := HS11.out.lt
            have hy2 := HP11.out.lt
            have hy3 := HM11.out.lt
            have HAT := Lib.hid (fun W (hb : Below w11.heap.size w11 W) => at_any AO w11.heap.size cO o x y z W HLO.out hb.size (HRO.out.below hb (Nat.le_refl _) (Nat.le_refl _)))
            rw [HIX.out] at HAT
            have HPU := Lib.hid (fun W (hb : Below w11.heap.size w11 W) => put_any AX cx (w7.heap.size + 1) nx ((fs + 2 * jj : Nat) : Int) W (by omega) (Nat.le_trans hy3 hb.size) (New.grow hb (Nat.le_refl _) HX11.out))
            have HPC := Lib.hid (fun W (hb : Below w11.heap.size w11 W) => HPL1.out W (Below.tr HBW11.out hb))
            generalize addI nx ((fs + 2 * jj : Nat) : Int) = nx2 at *
            go_wp2_with fail
            go_region_law (first
              | (refine stepCall rfl 27 #[.tmp 75, .tmp 76] _ rfl #[.slice AO o.length cO, .agg #[.int .i64 x, .int .i64 y, .int .i64 z]] rfl HKA.out (HAT.out _ (by (repeat (first | (with_reducible exact Below.refl _ _) | (with_reducible assumption) | (with_reducible refine below_drewN ?_ _) | (with_reducible refine Below.drew ?_) | (with_reducible refine Below.al ?_ _) | (with_reducible refine Below.st ?_ (by simp; try omega)) | (with_reducible refine Below.tr ?_ (Hid.out (by assumption))) | (with_reducible exact Hid.out (by assumption)))))) ?_; rintro e w12 ⟨rfl, hb12⟩; refine ⟨_, rfl, ?_⟩; have HB12 : Hid (Below w11.heap.size w11 w12) := Lib.hid (Below.tr (by (repeat (first | (with_reducible exact Below.refl _ _) | (with_reducible assumption) | (with_reducible refine below_drewN ?_ _) | (with_reducible refine Below.drew ?_) | (with_reducible refine Below.al ?_ _) | (with_reducible refine Below.st ?_ (by simp; try omega)) | (with_reducible refine Below.tr ?_ (Hid.out (by assumption))) | (with_reducible exact Hid.out (by assumption))))) hb12); obtain ⟨hc12, hf12⟩ := bcell HB12.out; have hs12 := HB12.out.size; clear hb12)
              | (refine stepCall rfl 28 #[.tmp 73, .tmp 74, .tmp 77] _ rfl #[.agg #[.slice (some ⟨gq, offq, none⟩) qs.length c1, .slice A2 ns.length c2], .int .i64 (qi : Int), .int .i64 (jj : Int)] rfl HKP.out (HPC.out _ (by (repeat (first | (with_reducible exact Below.refl _ _) | (with_reducible assumption) | (with_reducible refine below_drewN ?_ _) | (with_reducible refine Below.drew ?_) | (with_reducible refine Below.al ?_ _) | (with_reducible refine Below.st ?_ (by simp; try omega)) | (with_reducible refine Below.tr ?_ (Hid.out (by assumption))) | (with_reducible exact Hid.out (by assumption)))))) ?_; rintro e w13 ⟨rfl, hb13⟩; refine ⟨_, rfl, ?_⟩; have HB13 : Hid (Below w11.heap.size w11 w13) := Lib.hid (Below.tr HB12.out hb13); obtain ⟨hc13, hf13⟩ := bcell HB13.out; have hs13 := HB13.out.size; clear hb13 hc12 hf12)
              | (refine stepCall rfl 26 #[.tmp 72, .tmp 78] _ rfl #[.slice AX nx.length cx, .int .i64 ((fs + 2 * jj : Nat) : Int)] rfl HKU.out (HPU.out _ HB13.out) ?_; rintro e w14 ⟨v14, rfl, hrow14, hb14⟩; refine ⟨_, rfl, ?_⟩; obtain ⟨A14, c14, rfl, hr14⟩ := hrow14; have HR14 := Lib.hid hr14; have HB14 : Hid (Below w11.heap.size w11 w14) := Lib.hid (Below.tr HB13.out hb14); have hm14 := (HB14.out.cell (p := ⟨w7.heap.size, 1, none⟩) hy3).trans m1'; have hmf14 := (HB14.out.frozen (p := ⟨w7.heap.size, 1, none⟩) hy3).trans fm1; have hs14 := HB14.out.size; clear hb14 hr14 hc13 hf13))
            all_goals (
              go_wp2_with fail
              have HM14 := Lib.hid (HM11.out.below HB14.out HM11.out.lt)
              go_roundg (gk - 1)
              case measure => omega
              case rel => exact ⟨j + 1, K, nx2, A14, c14, by go_num, by omega, by omega, by have := HADL.out; omega, by omega, HE2, Lib.hid (HM14.out.set_ 1 (.slice A14 nx2.length c14)), Lib.hid (HR14.out.same (fun b hb => Below.heap_setCell _ _ _ _ (by have h1 := hb.1; show b ≠ w7.heap.size; omega)) (fun b hb => ⟨hb.1, by have h2 := hb.2; simpa using h2⟩)), Lib.hid (But.st (HB.out.grow (HB11.out.trans (HB14.out.mono HB11.out.size))) (.inl rfl))⟩)
        · have hlti : ¬ (j : Int) < (L.length : Int) := by omega
          have HE : Hid (R = ⟨K, nx⟩) := Lib.hid (by have h := HI.out; rw [drop_end hlt] at h; simpa [goP] using h)
          go_wp2_with (first
            | (refine loadBox rfl 37 (.tmp 8) rfl w7.heap.size 0 37 #[.int .i64 K, .slice AX nx.length cx] [.int .i64 K, .slice AX nx.length cx] _ rfl HM.out (by simp) Tryz.underlying37 rfl sizeNo ?_)
            | (refine storeBox rfl 37 (.tmp 4) (.tmp 81) rfl (w.heap.size + 1 + 1) 0 37 #[.int .i64 0, .slice none 0 0] #[.int .i64 K, .slice AX nx.length cx] #[.int .i64 K, .slice AX nx.length cx] rfl rfl HZ.out sizeNo (by simp) (by simp [Value.oneCell']) rfl ?_; intro w12 hk12 hb12; have HF12 := Lib.hid hk12; have HB12 := Lib.hid hb12; clear hk12 hb12))
          rw [HE.out]
          exact bodyPost_ret_by (v := .agg #[.int .i64 K, .slice AX nx.length cx]) (results_cell_row rfl _ _ (w.heap.size + 1 + 1) 37 #[.int .i64 K, .slice AX nx.length cx] (0, 0) _ rfl HF12.out Tryz.underlying37 rfl sizeNo) rfl ⟨AX, cx, rfl, HX.out.same (fun b hb => HB12.out.block b hb.2 (by have h1 := hb.1; have := HZ7.out.lt; omega)) (fun b hb => ⟨by have h1 := hb.1; have := HZ7.out.lt; omega, Nat.lt_of_lt_of_le hb.2 HB12.out.size⟩), HBW.out.trans (HB12.out.below (by omega) HBW.out.size)⟩
end Go.Proofs.YtogeihdfmnohnaaGreatDoor
