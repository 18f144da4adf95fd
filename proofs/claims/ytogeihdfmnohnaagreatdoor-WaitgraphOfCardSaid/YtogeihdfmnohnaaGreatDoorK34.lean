/- Part 34 of 49 of the proof of waitgraphOf_holds (no condition). -/
import Derived.Test.YtogeihdfmnohnaaGreatDoorK31
import Derived.Test.YtogeihdfmnohnaaGreatDoorK33
import Derived.Test.YtogeihdfmnohnaaGreatDoorK11
import Derived.Sort.Walk0
set_option linter.unusedVariables false
set_option linter.unusedSimpArgs false
namespace Go.Proofs.YtogeihdfmnohnaaGreatDoor
open Go.RowKit
theorem lt8_trans {a b c : List UInt8} (h1 : a < b) (h2 : b < c) : a < c := List.lt_trans h1 h2
theorem lt8_irrefl (a : List UInt8) : ¬ a < a := List.lt_irrefl a
theorem names_asc : ∀ (l : List Qu) (p : Option ByteArray), vqGo p l = true → (∀ m, p = some m → ∀ q ∈ l, m.toList < q.res.name.toList) ∧ l.Pairwise (fun a b => a.res.name ≠ b.res.name)
  | [], _, _ => ⟨fun _ _ q hq => absurd hq (by simp), List.Pairwise.nil⟩
  | x :: l, p, h => by
    rw [vqGo_cons] at h
    simp only [Bool.and_eq_true] at h
    have ih := names_asc l _ h.2
    have h1 := ih.1 _ rfl
    refine ⟨?_, List.pairwise_cons.2 ⟨fun q hq e => ?_, ih.2⟩⟩
    · rintro m rfl q hq
      have h2 : m.toList < x.res.name.toList := by
        have := h.1.2
        unfold ltP at this
        dsimp only at this
        rw [bytesLess_eq] at this
        simpa using this
      rcases List.mem_cons.1 hq with e | e
      · rw [e]; exact h2
      · exact lt8_trans h2 (h1 q e)
    · have := h1 q hq
      rw [e] at this
      exact lt8_irrefl _ this
theorem state_names {s : Ws} (h : stateB s = true) : s.queues.Pairwise (fun a b => a.res.name ≠ b.res.name) := by
  unfold stateB partsB at h
  simp only [Bool.and_eq_true] at h
  exact (names_asc _ _ h.1.1.1.2).2
def rawQ (s : Ws) (p : Pr) (n : ByteArray) : Nat → List Qu → List Int → List Int
  | _, [], acc => acc
  | k, q :: l, acc => rawQ s p n (k + 1) l (bif (q.res.name.toList == n.toList) && decide (0 ≤ idxP p 0 (ordL q)) then acc ++ [((firstS s k : Nat) : Int) + 2 * idxP p 0 (ordL q)] else acc)
theorem rawQ_cons (s : Ws) (p : Pr) (n : ByteArray) (k : Nat) (q : Qu) (l : List Qu) (acc : List Int) : rawQ s p n k (q :: l) acc = rawQ s p n (k + 1) l (bif (q.res.name.toList == n.toList) && decide (0 ≤ idxP p 0 (ordL q)) then acc ++ [((firstS s k : Nat) : Int) + 2 * idxP p 0 (ordL q)] else acc) := rfl
theorem rawQ_none (s : Ws) (p : Pr) (n : ByteArray) : ∀ (l : List Qu) (k : Nat) (acc : List Int), (∀ q ∈ l, q.res.name ≠ n) → rawQ s p n k l acc = acc
  | [], _, _, _ => rfl
  | q :: l, k, acc, h => by
    have h1 : (q.res.name.toList == n.toList) = false := by
      have := h q (by simp)
      rw [Bool.eq_false_iff]
      intro e
      exact this (toList_inj (by simpa using e))
    rw [rawQ_cons, h1]
    exact rawQ_none s p n l (k + 1) acc fun q hq => h q (by simp [hq])
theorem rawQ_one (s : Ws) (p : Pr) (n : ByteArray) : ∀ (l : List Qu) (k : Nat) (acc : List Int), l.Pairwise (fun a b => a.res.name ≠ b.res.name) → waitT n p l = true → rawQ s p n k l acc = acc ++ [posGo s p n k l]
  | [], _, _, _, h => by simp [waitT] at h
  | q :: l, k, acc, hd, h => by
    rw [waitT_cons] at h
    rw [rawQ_cons, posGo_cons]
    have hd2 := List.pairwise_cons.1 hd
    cases hq : q.res.name.toList == n.toList with
    | true =>
      rw [hq] at h
      have hn : q.res.name = n := toList_inj (by simpa using hq)
      obtain ⟨j, hj, e⟩ := getW_idx p (q.convs ++ q.waits) 0 h
      have e2 : idxP p 0 (ordL q) = (j : Int) := by rw [Nat.zero_add] at e; exact e
      rw [e2, decide_eq_true (by omega)]
      exact rawQ_none s p n l (k + 1) _ fun x hx e3 => hd2.1 x hx (hn.trans e3.symm)
    | false =>
      rw [hq] at h
      exact rawQ_one s p n l (k + 1) acc hd2.2 h
def rawP (s : Ws) (p : Pr) : List Tm → List Bool → Int → List Int → Int × List Int
  | a :: la, b :: bs, k, acc => bif b then rawP s p la bs (k - 1) acc else rawP s p la bs k (rawQ s p a.name 0 s.queues acc)
  | _, _, k, acc => (k, acc)
theorem rawP_cons (s : Ws) (p : Pr) (a : Tm) (la : List Tm) (b : Bool) (bs : List Bool) (k : Int) (acc : List Int) : rawP s p (a :: la) (b :: bs) k acc = bif b then rawP s p la bs (k - 1) acc else rawP s p la bs k (rawQ s p a.name 0 s.queues acc) := rfl
def vals (s : Ws) (p : Pr) (la : List Tm) : List Int := (la.filter fun a => waitT a.name p s.queues).map fun a => posGo s p a.name 0 s.queues
theorem rawP_eq (s : Ws) (p : Pr) (hd : s.queues.Pairwise (fun a b => a.res.name ≠ b.res.name)) : ∀ (la : List Tm) (k : Int) (acc nx : List Int),
    rawP s p la (la.map fun a => !waitT a.name p s.queues) k acc = ((goP s p la (la.map fun a => !waitT a.name p s.queues) k nx).1, acc ++ vals s p la) ∧ (goP s p la (la.map fun a => !waitT a.name p s.queues) k nx).2 = addAll nx (vals s p la)
  | [], k, acc, nx => by simp [rawP, goP, vals, addAll]
  | a :: la, k, acc, nx => by
    rw [List.map_cons, rawP_cons, goP_cons]
    unfold vals
    cases hw : waitT a.name p s.queues with
    | true =>
      rw [List.filter_cons_of_pos (by simpa using hw), List.map_cons, rawQ_one s p a.name s.queues 0 acc hd hw]
      have ih := rawP_eq s p hd la k (acc ++ [posGo s p a.name 0 s.queues]) (addI nx (posGo s p a.name 0 s.queues))
      simp only [Bool.not_true, cond_false]
      rw [ih.1]
      refine ⟨?_, ih.2⟩
      rw [List.append_assoc]
      rfl
    | false =>
      rw [List.filter_cons_of_neg (by simpa using hw)]
      exact rawP_eq s p hd la (k - 1) acc nx
theorem sumO_mono (l : List Qu) : ∀ (i j : Nat), i ≤ j → sumO (l.take i) ≤ sumO (l.take j) := by
  intro i j h
  induction j with
  | zero => obtain rfl : i = 0 := by omega
            exact Nat.le_refl _
  | succ j ih =>
    rcases Nat.lt_or_ge j i with h1 | h1
    · obtain rfl : i = j + 1 := by omega
      exact Nat.le_refl _
    · refine Nat.le_trans (ih h1) ?_
      rcases Nat.lt_or_ge j l.length with h2 | h2
      · rw [sumO_take h2 rfl]; omega
      · rw [List.take_of_length_le h2, List.take_of_length_le (by omega)]; exact Nat.le_refl _
theorem pos_ne (s : Ws) (p : Pr) {n1 n2 : ByteArray} (h : n1 ≠ n2) (h1 : waitT n1 p s.queues = true) (h2 : waitT n2 p s.queues = true) : posGo s p n1 0 s.queues ≠ posGo s p n2 0 s.queues := by
  obtain ⟨i1, hi1, j1, hj1, f1, _, e1⟩ := wait_pos s p n1 s.queues 0 h1
  obtain ⟨i2, hi2, j2, hj2, f2, _, e2⟩ := wait_pos s p n2 s.queues 0 h2
  have g : ∀ (n : ByteArray) (i : Nat) (hi : i < s.queues.length), findT n 0 s.queues = ((0 + i : Nat) : Int) → s.queues[i].res.name = n := by
    intro n i hi hf
    rcases findT_spec n p s.queues 0 with ⟨h3, _⟩ | ⟨i3, hi3, h3, _, h4⟩
    · rw [h3] at hf; omega
    · have : i3 = i := by rw [h3] at hf; omega
      subst this
      exact h4
  have k1 := g n1 i1 hi1 f1
  have k2 := g n2 i2 hi2 f2
  rw [e1, e2]
  simp only [Nat.zero_add]
  unfold firstS
  have hs1 := sumO_take (l := s.queues) hi1 rfl
  have hs2 := sumO_take (l := s.queues) hi2 rfl
  rcases Nat.lt_trichotomy i1 i2 with h3 | h3 | h3
  · have := sumO_mono s.queues (i1 + 1) i2 h3
    omega
  · subst h3
    exact absurd (k1.symm.trans k2) h
  · have := sumO_mono s.queues (i2 + 1) i1 h3
    omega
theorem vals_nodup (s : Ws) (p : Pr) (la : List Tm) (h : la.Pairwise fun a b => a.name ≠ b.name) : (vals s p la).Nodup := by
  unfold vals List.Nodup
  rw [List.pairwise_map, List.pairwise_filter]
  exact h.imp fun hab h1 h2 => pos_ne s p hab (by simpa using h1) (by simpa using h2)
theorem veB_names {x : Ex} (h : veB x = true) : (atS x).Pairwise fun a b => a.name ≠ b.name := (veB_sh h).2.2.2.2.2
theorem node_raw (s : Ws) (p : Pr) (x : Nd) (hv : stateB s = true) (hx : needS s.needs p = some x) (hh : holdsS x.expr (grantS s p) = false) (k : Int) (hk : k = if x.expr.k = 0 then 1 else x.expr.k) :
    nodeP s p = ⟨(rawP s p (atS x.expr) (grantS s p) k []).1, sortI (rawP s p (atS x.expr) (grantS s p) k []).2⟩ := by
  have hnd : ndB x = true := by
    unfold stateB at hv
    simp only [Bool.and_eq_true] at hv
    exact ndB_of s.needs none p x hv.1.2 hx
  have hg : grantS s p = (atS x.expr).map fun a => !waitT a.name p s.queues := by unfold grantS; rw [hx, hv]; rfl
  have h1 := rawP_eq s p (state_names hv) (atS x.expr) k [] []
  unfold nodeP
  rw [hx]
  dsimp only
  rw [hh]
  simp only [cond_false]
  rw [← hk]
  rw [hg, h1.1, h1.2, List.nil_append]
  have hve : veB x.expr = true := by
    unfold ndB at hnd
    simp only [Bool.and_eq_true] at hnd
    exact hnd.1.1.2
  rw [addAll_sort (vals_nodup s p _ (veB_names hve))]
theorem max_k {x : Nd} (h : ndB x = true) : max x.expr.k 1 = if x.expr.k = 0 then 1 else x.expr.k := by
  have hve : veB x.expr = true := by
    unfold ndB at h
    simp only [Bool.and_eq_true] at h
    exact h.1.1.2
  have h5 := (veB_sh hve).1
  obtain ⟨⟨a, b, c⟩, ⟨k, at_, l⟩, gen⟩ := x
  rw [shB_mk] at h5
  unfold headB at h5
  show max k 1 = if k = 0 then 1 else k
  cases hE : l.isEmpty with
  | true => rw [hE] at h5; simp at h5; rw [h5.1.1]; rfl
  | false =>
    rw [hE] at h5; simp at h5
    rw [if_neg (by omega)]
    omega
end Go.Proofs.YtogeihdfmnohnaaGreatDoor
namespace Go.Proofs.YtogeihdfmnohnaaGreatDoor
open Go.RowKit
def agB (r : Rs) (p : Pr) (a : Am) (h : Ho) : Bool := !decide (h.proc = p) && !(decide (r.kind = 1) && compB r [h.am, a])
def agL (r : Rs) (p : Pr) (a : Am) (l : List Ho) : List Pr := (l.filter (agB r p a)).map (·.proc)
def againstS (r : Rs) (l : List Ho) (p : Pr) (a : Am) : List Pr := bif propB r l p a && !roomB r l p a then agL r p a l else []
theorem agL_snoc (r : Rs) (p : Pr) (a : Am) (l : List Ho) (h : Ho) : agL r p a (l ++ [h]) = bif agB r p a h then agL r p a l ++ [h.proc] else agL r p a l := by
  unfold agL
  rw [List.filter_append, List.map_append]
  cases hd : agB r p a h <;> simp [hd]
theorem agL_len (r : Rs) (p : Pr) (a : Am) (l : List Ho) : (agL r p a l).length ≤ l.length := by
  unfold agL
  rw [List.length_map]
  exact List.length_filter_le _ _
theorem am_two (w : World) (a b c d : Int) : RowsAt amE (w.alloc (.cells #[.int .i64 a, .int .i64 b, .int .i64 c, .int .i64 d] 53)) (Lo (w.heap.size + 1)) (some ⟨w.heap.size, 0, none⟩) [⟨a, b⟩, ⟨c, d⟩] :=
  ⟨[.int .i64 a, .int .i64 b, .int .i64 c, .int .i64 d], ⟨[.int .i64 a, .int .i64 b], [.int .i64 c, .int .i64 d], rfl, rfl, ⟨[.int .i64 c, .int .i64 d], [], rfl, rfl, rfl⟩⟩, fun _ => ⟨w.heap.size, 0, rfl, Nat.lt_succ_self _, fun j u hu => cellOfNew w [.int .i64 a, .int .i64 b, .int .i64 c, .int .i64 d] 53 j u hu⟩⟩
set_option maxRecDepth 100000 in
set_option maxHeartbeats 6400000 in
theorem Against_any (r : Rs) (A : Option Addr) (B cap : Nat) (l : List Ho) (x y z m u : Int) (w : World) (hT : Tog w) (hm : l.length ≤ maxLen) (hB : B ≤ w.heap.size) (hr : RowsAt hoE w (Lo B) A l) :
    Calls Tryz.prog 54 #[r.val, .slice A l.length cap, .agg #[.int .i64 x, .int .i64 y, .int .i64 z], .agg #[.int .i64 m, .int .i64 u]] w (RetRow prE 51 w (againstS r l ⟨x, y, z⟩ ⟨m, u⟩)) := by
  obtain ⟨nm, kd, un, h⟩ := r
  have H1 := Lib.hid (fun W (hb : Below w.heap.size w W) => proper_any ⟨nm, kd, un, h⟩ A B cap l x y z m u W (hT.below hb) hm (Nat.le_trans hB hb.size) (hr.below hb hB (Nat.le_refl _)))
  have H2 := Lib.hid (fun W (hb : Below w.heap.size w W) => Room_any ⟨nm, kd, un, h⟩ A B cap l x y z m u W (hT.below hb) hm (Nat.le_trans hB hb.size) (hr.below hb hB (Nat.le_refl _)))
  have H3 := Lib.hid (fun A B cap l W (hb : Below w.heap.size w W) hm hB hr => Compatible_any ⟨nm, kd, un, h⟩ A B cap l W (hT.below hb) hm hB hr)
  have HL8 : Hid (propB ⟨nm, kd, un, h⟩ l ⟨x, y, z⟩ ⟨m, u⟩ = true → l.length ≤ 8) := Lib.hid (fun hp => by unfold propB at hp; simp only [Bool.and_eq_true] at hp; exact hvB_len hp.1.1)
  have HR := Lib.hid hr
  clear hT hr
  unfold Rs.val at *
  have HD : Hid (againstS ⟨nm, kd, un, h⟩ l ⟨x, y, z⟩ ⟨m, u⟩ = bif propB ⟨nm, kd, un, h⟩ l ⟨x, y, z⟩ ⟨m, u⟩ && !roomB ⟨nm, kd, un, h⟩ l ⟨x, y, z⟩ ⟨m, u⟩ then agL ⟨nm, kd, un, h⟩ ⟨x, y, z⟩ ⟨m, u⟩ l else []) := Lib.hid rfl
  obtain ⟨q1, hq1⟩ : ∃ q, propB ⟨nm, kd, un, h⟩ l ⟨x, y, z⟩ ⟨m, u⟩ = q := ⟨_, rfl⟩
  obtain ⟨q2, hq2⟩ : ∃ q, roomB ⟨nm, kd, un, h⟩ l ⟨x, y, z⟩ ⟨m, u⟩ = q := ⟨_, rfl⟩
  rw [hq1] at H1 HD HL8
  rw [hq2] at H2 HD
  clear hq1 hq2
  generalize againstS ⟨nm, kd, un, h⟩ l ⟨x, y, z⟩ ⟨m, u⟩ = R at *
  have HBX := Lib.hid (BoxR.made (w := w) (nm := nm) (kd := kd) (un := un) (h := h) (x := x) (y := y) (z := z) (m := m) (u := u))
  by_cases hgo : q1 = true ∧ q2 = false
  · obtain ⟨rfl, rfl⟩ := hgo
    have HR1 : Hid (R = agL ⟨nm, kd, un, h⟩ ⟨x, y, z⟩ ⟨m, u⟩ l) := Lib.hid HD.out
    have hl8 : l.length ≤ 8 := HL8.out rfl
    go_enter Tryz.func54, Tryz.ntmps54
    go_wp2_with fail
    refine (H1.out _ HBX.out.bel).mono ?_
    rintro e w1 ⟨rfl, hb1⟩
    have HX1 := Lib.hid (HBX.out.next hb1)
    obtain ⟨c0, c1, c2, c3, p0, p1, p2, a0, a1, l0, l1, l2⟩ := HX1.out.cel
    clear hb1
    go_wp2_with fail
    refine (H2.out _ HX1.out.bel).mono ?_
    rintro e w2 ⟨rfl, hb2⟩
    have HX2 := Lib.hid (HX1.out.next hb2)
    clear hb2 c0 c1 c2 c3 p0 p1 p2 a0 a1 l0 l1 l2
    go_wp2_with fail
    go_loopg [9, 27] l.length (fun m0 v9 v27 wq => ∃ k : Nat, v27 = .int .i64 (k : Int) ∧ k ≤ l.length ∧ l.length ≤ k + m0 ∧ Hid (OwnRows prE 51 wq w2.heap.size v9 (agL ⟨nm, kd, un, h⟩ ⟨x, y, z⟩ ⟨m, u⟩ (l.take k))) ∧ Hid (Below w2.heap.size w2 wq))
    case atStart => exact ⟨0, rfl, Nat.zero_le _, by omega, Lib.hid (OwnRows.nil _ _ _ _ (Nat.le_refl _)), Lib.hid (Below.refl _ _)⟩
    case round =>
      obtain ⟨k, rfl, hk, hkm, HO, HBL⟩ := hrel
      have HXR := Lib.hid (HX2.out.next HBL.out)
      have HBW : Hid (Below w.heap.size w wr) := Lib.hid HXR.out.bel
      by_cases hlt : k < l.length
      · obtain ⟨⟨⟨a, b, c⟩, ⟨m', u'⟩⟩, hx⟩ : ∃ x, l[k] = x := ⟨_, rfl⟩
        obtain ⟨g, off, rfl, hbl, d0, d1, d2, d3, d4⟩ := ho_cells (HR.out.below (B'' := w.heap.size) HBW.out hB hB) hlt hx
        have hbl2 : g < wr.heap.size := Nat.lt_of_lt_of_le hbl HBW.out.size
        have hlti : (k : Int) < (l.length : Int) := by omega
        obtain ⟨_, k1, k2⟩ := cmpPr a b c x y z
        obtain ⟨q, hq⟩ : ∃ q, decide ((⟨a, b, c⟩ : Pr) = ⟨x, y, z⟩) = q := ⟨_, rfl⟩
        obtain ⟨q3, hq3⟩ : ∃ q, compB ⟨nm, kd, un, h⟩ [⟨m', u'⟩, ⟨m, u⟩] = q := ⟨_, rfl⟩
        have HE : Hid (agL ⟨nm, kd, un, h⟩ ⟨x, y, z⟩ ⟨m, u⟩ (l.take (k + 1)) = bif !q && !(decide (kd = 1) && q3) then agL ⟨nm, kd, un, h⟩ ⟨x, y, z⟩ ⟨m, u⟩ (l.take k) ++ [⟨a, b, c⟩] else agL ⟨nm, kd, un, h⟩ ⟨x, y, z⟩ ⟨m, u⟩ (l.take k)) := Lib.hid (by
          rw [List.take_add_one, List.getElem?_eq_getElem hlt, hx, ← hq, ← hq3]
          exact agL_snoc _ _ _ _ _)
        have HL : Hid ((agL ⟨nm, kd, un, h⟩ ⟨x, y, z⟩ ⟨m, u⟩ (l.take k)).length ≤ k) := Lib.hid (by have := agL_len ⟨nm, kd, un, h⟩ ⟨x, y, z⟩ ⟨m, u⟩ (l.take k); rw [List.length_take] at this; omega)
        have H3' := Lib.hid (fun A B cap W hb hB hr => H3.out A B cap [⟨m', u'⟩, ⟨m, u⟩] W hb (by simp [maxLen]) hB hr)
        rw [hq3] at H3'
        rw [hq] at k1
        clear hq hq3 hx hbl
        generalize agL ⟨nm, kd, un, h⟩ ⟨x, y, z⟩ ⟨m, u⟩ (l.take k) = f at *
        have hfl := HL.out
        obtain ⟨c0, c1, c2, c3, p0, p1, p2, a0, a1, l0, l1, l2⟩ := HXR.out.cel
        cases q with
        | true =>
          have HE2 : Hid (agL ⟨nm, kd, un, h⟩ ⟨x, y, z⟩ ⟨m, u⟩ (l.take (k + 1)) = f) := Lib.hid HE.out
          go_wp2_with fail
          go_roundg (gk - 1)
          case measure => omega
          case rel => exact ⟨k + 1, by go_num, by omega, by omega, Lib.hid (by rw [HE2.out]; exact HO.out.alloc _), Lib.hid (Below.al HBL.out _)⟩
        | false =>
          by_cases hk1 : kd = 1
          · have hkd : (kd == 1) = true := by simp [hk1]
            have HE2 : Hid (agL ⟨nm, kd, un, h⟩ ⟨x, y, z⟩ ⟨m, u⟩ (l.take (k + 1)) = bif !q3 then f ++ [⟨a, b, c⟩] else f) := Lib.hid (by have h1 := HE.out; rw [decide_eq_true hk1] at h1; exact h1)
            clear hk1
            have HTW := Lib.hid (am_two (wr.alloc (.cells #[.int .i64 a, .int .i64 b, .int .i64 c, .int .i64 m', .int .i64 u'] 126)) m' u' m u)
            have HBB : Hid (Below w.heap.size w ((wr.alloc (.cells #[.int .i64 a, .int .i64 b, .int .i64 c, .int .i64 m', .int .i64 u'] 126)).alloc (.cells #[.int .i64 m', .int .i64 u', .int .i64 m, .int .i64 u] 53))) := Lib.hid (Below.al (Below.al HBW.out _) _)
            go_wp2_with fail
            refine (H3'.out _ (wr.heap.size + 1 + 1) _ _ HBB.out (by simp) (by simpa using HTW.out)).mono ?_
            rintro e w3 ⟨rfl, hb3⟩
            have HBL3 : Hid (Below w2.heap.size w2 w3) := Lib.hid (Below.tr (Below.al (Below.al HBL.out _) _) hb3)
            have HO3 := Lib.hid (((HO.out.alloc (.cells #[.int .i64 a, .int .i64 b, .int .i64 c, .int .i64 m', .int .i64 u'] 126)).alloc (.cells #[.int .i64 m', .int .i64 u', .int .i64 m, .int .i64 u] 53)).below hb3 (Nat.le_refl _))
            have HBH : Hid (Blk w3 wr.heap.size 126 #[.int .i64 a, .int .i64 b, .int .i64 c, .int .i64 m', .int .i64 u']) := Lib.hid (((Blk.new wr 126 #[.int .i64 a, .int .i64 b, .int .i64 c, .int .i64 m', .int .i64 u']).alloc _).below hb3 (by simp; omega))
            have y0 := HBH.out.cellx 0 (v := .int .i64 a) rfl
            have y1 := HBH.out.cellx 1 (v := .int .i64 b) rfl
            have y2 := HBH.out.cellx 2 (v := .int .i64 c) rfl
            have yl := HBH.out.lt
            clear hb3 c0 c1 c2 c3 p0 p1 p2 a0 a1 l0 l1 l2 d0 d1 d2 d3 d4
            cases q3 with
            | true =>
              have HE3 : Hid (agL ⟨nm, kd, un, h⟩ ⟨x, y, z⟩ ⟨m, u⟩ (l.take (k + 1)) = f) := Lib.hid HE2.out
              go_wp2_with fail
              go_roundg (gk - 1)
              case measure => omega
              case rel => exact ⟨k + 1, by go_num, by omega, by omega, Lib.hid (by rw [HE3.out]; exact HO3.out), HBL3⟩
            | false =>
              have HE3 : Hid (f ++ [⟨a, b, c⟩] = agL ⟨nm, kd, un, h⟩ ⟨x, y, z⟩ ⟨m, u⟩ (l.take (k + 1))) := Lib.hid HE2.out.symm
              go_wp2_with (at_builtin; refine pushOneB prTB rfl (.tmp 46) (.tmp 49) rfl w3 w2.heap.size u9 f ⟨a, b, c⟩ [.int .i64 a, .int .i64 b, .int .i64 c] _ rfl rfl HO3.out w3.heap.size rfl rfl rfl (by unfold maxLen; omega) (by omega) ?_; intro v7 w7 hown7 hb7 hsp7; have HB7 : Hid (Below w2.heap.size w2 w7) := Lib.hid (HBL3.out.trans hb7); have HO7 := Lib.hid hown7; clear hown7 hb7 hsp7)
              rw [HE3.out] at HO7
              go_roundg (gk - 1)
              case measure => omega
              case rel => exact ⟨k + 1, by go_num, by omega, by omega, HO7, HB7⟩
          · have hkd : (kd == 1) = false := by simp [hk1]
            have HE3 : Hid (f ++ [⟨a, b, c⟩] = agL ⟨nm, kd, un, h⟩ ⟨x, y, z⟩ ⟨m, u⟩ (l.take (k + 1))) := Lib.hid (by have h1 := HE.out; rw [decide_eq_false hk1] at h1; exact h1.symm)
            have HO3 := Lib.hid (HO.out.alloc (.cells #[.int .i64 a, .int .i64 b, .int .i64 c, .int .i64 m', .int .i64 u'] 126))
            clear hk1
            go_wp2_with (at_builtin; refine pushOneB prTB rfl (.tmp 46) (.tmp 49) rfl (wr.alloc (.cells #[.int .i64 a, .int .i64 b, .int .i64 c, .int .i64 m', .int .i64 u'] 126)) w2.heap.size u9 f ⟨a, b, c⟩ [.int .i64 a, .int .i64 b, .int .i64 c] _ rfl rfl HO3.out (wr.heap.size + 1) rfl (by simp) rfl (by unfold maxLen; omega) (by omega) ?_; intro v7 w7 hown7 hb7 hsp7; have HB7 : Hid (Below w2.heap.size w2 w7) := Lib.hid ((Below.al HBL.out _).trans hb7); have HO7 := Lib.hid hown7; clear hown7 hb7 hsp7)
            rw [HE3.out] at HO7
            go_roundg (gk - 1)
            case measure => omega
            case rel => exact ⟨k + 1, by go_num, by omega, by omega, HO7, HB7⟩
      · have hlti : ¬ (k : Int) < (l.length : Int) := by omega
        have HE : Hid (agL ⟨nm, kd, un, h⟩ ⟨x, y, z⟩ ⟨m, u⟩ (l.take k) = R) := Lib.hid (by rw [List.take_of_length_le (by omega), HR1.out])
        rw [HE.out] at HO
        go_wp2_with fail
        go_ret
        exact ⟨_, rfl, HO.out.older HX2.out.bel.size, HBW.out⟩
  · have HR1 : Hid (R = []) := Lib.hid (by rw [HD.out]; cases q1 <;> cases q2 <;> first | rfl | exact absurd ⟨rfl, rfl⟩ hgo)
    have HN := Lib.hid hgo
    clear hgo
    go_enter Tryz.func54, Tryz.ntmps54
    go_wp2_with fail
    repeat' (first
      | (go_at_call 90; refine (H1.out _ (by (repeat (first | (with_reducible exact Below.refl _ _) | (with_reducible assumption) | (with_reducible refine below_drewN ?_ _) | (with_reducible refine Below.drew ?_) | (with_reducible refine Below.al ?_ _) | (with_reducible refine Below.st ?_ (by simp; try omega)) | (with_reducible refine Below.tr ?_ (Hid.out (by assumption))) | (with_reducible exact Hid.out (by assumption)))))).mono ?_; rintro e wa1 ⟨rfl, hb_wa1⟩; obtain ⟨hc_wa1, hf_wa1⟩ := bcell hb_wa1; have hs_wa1 := hb_wa1.size; (try simp at hs_wa1); have hz_wa1_w_0 : w.heap.size < wa1.heap.size := (by omega); have hz_wa1_w_1 : w.heap.size + 1 < wa1.heap.size := (by omega); have hz_wa1_w_2 : w.heap.size + 1 + 1 < wa1.heap.size := (by omega); clear hs_wa1; have HB_wa1 := Lib.hid hb_wa1; clear hb_wa1; go_wp2_with fail)
      | (go_at_call 91; refine (H2.out _ (by (repeat (first | (with_reducible exact Below.refl _ _) | (with_reducible assumption) | (with_reducible refine below_drewN ?_ _) | (with_reducible refine Below.drew ?_) | (with_reducible refine Below.al ?_ _) | (with_reducible refine Below.st ?_ (by simp; try omega)) | (with_reducible refine Below.tr ?_ (Hid.out (by assumption))) | (with_reducible exact Hid.out (by assumption)))))).mono ?_; rintro e wa2 ⟨rfl, hb_wa2⟩; obtain ⟨hc_wa2, hf_wa2⟩ := bcell hb_wa2; have hs_wa2 := hb_wa2.size; (try simp at hs_wa2); have hz_wa2_w_0 : w.heap.size < wa2.heap.size := (by omega); have hz_wa2_w_1 : w.heap.size + 1 < wa2.heap.size := (by omega); have hz_wa2_w_2 : w.heap.size + 1 + 1 < wa2.heap.size := (by omega); clear hs_wa2; have HB_wa2 := Lib.hid hb_wa2; clear hb_wa2; go_wp2_with fail)
      | (go_ret; exact ⟨_, rfl, by rw [HR1.out]; exact OwnRows.nil _ _ _ _ (Below.size (by (repeat (first | (with_reducible exact Below.refl _ _) | (with_reducible assumption) | (with_reducible refine below_drewN ?_ _) | (with_reducible refine Below.drew ?_) | (with_reducible refine Below.al ?_ _) | (with_reducible refine Below.st ?_ (by simp; try omega)) | (with_reducible refine Below.tr ?_ (Hid.out (by assumption))) | (with_reducible exact Hid.out (by assumption)))))), by (repeat (first | (with_reducible exact Below.refl _ _) | (with_reducible assumption) | (with_reducible refine below_drewN ?_ _) | (with_reducible refine Below.drew ?_) | (with_reducible refine Below.al ?_ _) | (with_reducible refine Below.st ?_ (by simp; try omega)) | (with_reducible refine Below.tr ?_ (Hid.out (by assumption))) | (with_reducible exact Hid.out (by assumption))))⟩)
      | (exact absurd (by simp_all) HN.out))
end Go.Proofs.YtogeihdfmnohnaaGreatDoor
