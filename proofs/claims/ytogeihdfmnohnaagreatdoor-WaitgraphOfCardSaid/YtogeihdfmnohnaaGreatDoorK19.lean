/- Part 19 of 49 of the proof of waitgraphOf_holds (no condition). -/
import Derived.Test.YtogeihdfmnohnaaGreatDoorK18
import Derived.Test.YtogeihdfmnohnaaGreatDoorK05
import Derived.Test.YtogeihdfmnohnaaGreatDoorK03
import Derived.Deep.MidRow
import Derived.Laws.CopyRow
set_option linter.unusedVariables false
set_option linter.unusedSimpArgs false
namespace Go.Proofs.YtogeihdfmnohnaaGreatDoor
open Go.RowKit
theorem settled_short {q : Qu} (h : settledB q = true) : shortQ q := by
  have h1 : soundB q = true := by
    unfold settledB at h
    simp only [Bool.and_eq_true] at h
    exact h.1
  have h2 := soundB_hold h1
  unfold soundB cvB wtB at h1
  simp only [Bool.and_eq_true, decide_eq_true_eq] at h1
  exact ⟨h2, h1.1.1.1.2.1, by have := h1.1.1.2.1.2; omega⟩
def ltP (p : Option ByteArray) (n : ByteArray) : Bool := match p with | none => true | some m => Op.bytesLess m.toList n.toList
def vqGo : Option ByteArray → List Qu → Bool
  | _, [] => true
  | p, q :: l => settledB q && ltP p q.res.name && vqGo (some q.res.name) l
theorem vqGo_cons (p : Option ByteArray) (q : Qu) (l : List Qu) : vqGo p (q :: l) = (settledB q && ltP p q.res.name && vqGo (some q.res.name) l) := rfl
def partsB (l : List Qu) : Bool := decide (l.length ≤ 8) && vqGo none l
def prevQ (l : List Qu) (k : Nat) : Option ByteArray := if k = 0 then none else (l[k - 1]?).map (·.res.name)
theorem prevQ_zero (l : List Qu) : prevQ l 0 = none := rfl
theorem prevQ_succ {l : List Qu} {k : Nat} {x : Qu} (h : k < l.length) (hx : l[k] = x) : prevQ l (k + 1) = some x.res.name := by
  unfold prevQ
  rw [if_neg (by omega), Nat.add_sub_cancel, List.getElem?_eq_getElem h, hx]
  rfl
theorem prevQ_pos {l : List Qu} {k : Nat} {x : Qu} (h0 : 0 < k) (h : k - 1 < l.length) (hx : l[k - 1] = x) : prevQ l k = some x.res.name := by
  unfold prevQ
  rw [if_neg (by omega), List.getElem?_eq_getElem h, hx]
  rfl
theorem vqGo_short : ∀ (l : List Qu) (p : Option ByteArray), vqGo p l = true → ∀ q ∈ l, shortQ q
  | [], _, _, q, hq => absurd hq (by simp)
  | x :: l, p, h, q, hq => by
    rw [vqGo_cons] at h
    simp only [Bool.and_eq_true] at h
    rcases List.mem_cons.1 hq with rfl | hq
    · exact settled_short h.1.1
    · exact vqGo_short l _ h.2 q hq
set_option maxHeartbeats 6400000 in
theorem Parts_any (A : Option Addr) (B cap : Nat) (l : List Qu) (w : World) (hm : l.length ≤ maxLen) (hB : B ≤ w.heap.size) (hr : RowsAt quE w (Lo B) A l) :
    Calls Tryz.prog 57 #[.slice A l.length cap] w (Ret w (.bool (partsB l))) := by
  have HV := Lib.hid (fun q A1 A2 A3 c1 c2 c3 W (hq : QF W B A1 A2 A3 q) => rQValid_any q A1 A2 A3 c1 c2 c3 W B hq)
  unfold maxLen at hm
  have HR := Lib.hid hr
  clear hr
  obtain ⟨v, hv⟩ : ∃ v, partsB l = v := ⟨_, rfl⟩
  rw [hv]
  by_cases h8 : l.length ≤ 8
  · have h8i : ¬ (8 : Int) < (l.length : Int) := by omega
    have HQ : Hid (vqGo (prevQ l 0) (l.drop 0) = v) := Lib.hid (by rw [← hv]; unfold partsB; rw [decide_eq_true h8]; rfl)
    clear hv
    go_enter Tryz.func57, Tryz.ntmps57
    go_wp2_with fail
    go_loopg [3] l.length (fun m0 v3 wq => ∃ k : Nat, v3 = .int .i64 (k : Int) ∧ k ≤ l.length ∧ l.length ≤ k + m0 ∧ Hid (vqGo (prevQ l k) (l.drop k) = v) ∧ Hid (Below w.heap.size w wq))
    case atStart => exact ⟨0, rfl, Nat.zero_le _, by omega, HQ, Lib.hid (Below.refl _ _)⟩
    case round =>
      obtain ⟨k, rfl, hk, hkm, HI, HB⟩ := hrel
      by_cases hlt : k < l.length
      · obtain ⟨q, hx⟩ : ∃ x, l[k] = x := ⟨_, rfl⟩
        have HRW : Hid (RowsAt quE wr (Lo B) A l) := Lib.hid (HR.out.below HB.out hB (Nat.le_refl _))
        have HBR : Hid (B ≤ wr.heap.size) := Lib.hid (Nat.le_trans hB HB.out.size)
        obtain ⟨g, off, A1, A2, A3, c1, c2, c3, rfl, hbl, d0, d1, d2, d3, d4, d5, d6, d7, hqf⟩ := qu_cells HRW.out HBR.out hlt hx
        have HC := Lib.hid (fun n : Ext wr => HV.out q A1 A2 A3 c1 c2 c3 n.w (hqf.below n.below))
        have HS : Hid ((settledB q && ltP (prevQ l k) q.res.name && vqGo (prevQ l (k + 1)) (l.drop (k + 1))) = v) := Lib.hid (by have h := HI.out; rw [drop_step hlt hx, vqGo_cons] at h; rw [prevQ_succ hlt hx]; exact h)
        obtain ⟨⟨nm, kd, un, h⟩, hs, cs, ws, gen⟩ := q
        unfold Qu.val at HC
        dsimp only at d0 d1 d2 d3 d4 d5 d6 d7 HC HS
        obtain ⟨p1, hp1⟩ : ∃ p, settledB ⟨⟨nm, kd, un, h⟩, hs, cs, ws, gen⟩ = p := ⟨_, rfl⟩
        rw [hp1] at HC HS
        have hlti : (k : Int) < (l.length : Int) := by omega
        have g0 := Ext.cell d0
        have g1 := Ext.cell d1
        have g2 := Ext.cell d2
        have g3 := Ext.cell d3
        have g4 := Ext.cell d4
        have g5 := Ext.cell d5
        have g6 := Ext.cell d6
        have g7 := Ext.cell d7
        clear hp1 hbl hqf d0 d1 d2 d3 d4 d5 d6 d7
        cases p1 with
        | false =>
          have HE : Hid (false = v) := Lib.hid (by have h := HS.out; simpa using h)
          clear hx
          go_wp2_with fail
          refine wp_region_grow (by kernel_rfl) (by kernel_rfl) ?_; (repeat (go_big_quiet_step ((go_at_call 95; exact Ext.call _ (HC.out _))))); refine wpQuiet_nil ?_; rintro w2 ⟨n2, rfl⟩; have hb2 := n2.below; generalize n2.w = w2 at hb2 ⊢; clear n2
          have HB3 := Lib.hid hb2
          clear hb2
          go_wp2_with fail
          go_ret
          exact ⟨ret_bool HE.out, by (repeat (first | (with_reducible exact Below.refl _ _) | (with_reducible assumption) | (with_reducible refine below_drewN ?_ _) | (with_reducible refine Below.drew ?_) | (with_reducible refine Below.al ?_ _) | (with_reducible refine Below.st ?_ (by simp; try omega)) | (with_reducible refine Below.tr ?_ (Hid.out (by assumption))) | (with_reducible exact Hid.out (by assumption))))⟩
        | true =>
          rcases Nat.eq_zero_or_pos k with hk0 | hk0
          · have hd : decide ((0 : Int) < (k : Int)) = false := decide_eq_false (by omega)
            have hd' : decide (0 < k) = false := decide_eq_false (by omega)
            have HE : Hid (vqGo (prevQ l (k + 1)) (l.drop (k + 1)) = v) := Lib.hid (by have h := HS.out; rw [hk0] at h ⊢; rw [prevQ_zero] at h; exact h)
            clear hk0 hx
            go_wp2_with fail
            refine wp_region_grow (by kernel_rfl) (by kernel_rfl) ?_; (repeat (go_big_quiet_step ((go_at_call 95; exact Ext.call _ (HC.out _))))); refine wpQuiet_nil ?_; rintro w2 ⟨n2, rfl⟩; have hb2 := n2.below; generalize n2.w = w2 at hb2 ⊢; clear n2
            have HB3 := Lib.hid hb2
            clear hb2
            go_wp2_with fail
            go_roundg (gk - 1)
            case measure => omega
            case rel => exact ⟨k + 1, by go_num, by omega, by omega, HE, Lib.hid (Below.tr HB.out HB3.out)⟩
          · have hd : decide ((0 : Int) < (k : Int)) = true := decide_eq_true (by omega)
            have hd' : decide (0 < k) = true := decide_eq_true (by omega)
            have hki : IntKind.i64.wrap ((k : Int) - 1) = ((k - 1 : Nat) : Int) := by rw [IntWalk.i64_in _ (by omega)]; omega
            obtain ⟨q', hx'⟩ : ∃ x, l[k - 1]'(by omega) = x := ⟨_, rfl⟩
            obtain ⟨_, _, _, _, _, _, _, _, hA, _, e0, _, _, _, _, _, _, _, _⟩ := qu_cells HRW.out HBR.out (show k - 1 < l.length by omega) hx'
            injection hA with hA
            injection hA with e1 e2
            subst e1
            subst e2
            have g8 := Ext.cell e0
            have hkl : ((k - 1 : Nat) : Int) < (l.length : Int) := by omega
            obtain ⟨lt, hlt2⟩ : ∃ lt, Op.bytesLess q'.res.name.toList nm.toList = lt := ⟨_, rfl⟩
            have HE : Hid ((lt && vqGo (prevQ l (k + 1)) (l.drop (k + 1))) = v) := Lib.hid (by
              have h := HS.out
              rw [prevQ_pos hk0 (by omega) hx'] at h
              rw [← hlt2]
              simpa [ltP] using h)
            clear e0 hx hx'
            generalize q'.res.name = nm' at *
            go_wp2_with fail
            refine wp_region_grow (by kernel_rfl) (by kernel_rfl) ?_; (repeat (go_big_quiet_step ((go_at_call 95; exact Ext.call _ (HC.out _))))); refine wpQuiet_nil ?_; rintro w2 ⟨n2, rfl⟩; have hb2 := n2.below; generalize n2.w = w2 at hb2 ⊢; clear n2
            have HB3 := Lib.hid hb2
            clear hb2
            cases lt with
            | false =>
              have HE2 : Hid (false = v) := HE
              go_wp2_with fail
              go_ret
              exact ⟨ret_bool HE2.out, by (repeat (first | (with_reducible exact Below.refl _ _) | (with_reducible assumption) | (with_reducible refine below_drewN ?_ _) | (with_reducible refine Below.drew ?_) | (with_reducible refine Below.al ?_ _) | (with_reducible refine Below.st ?_ (by simp; try omega)) | (with_reducible refine Below.tr ?_ (Hid.out (by assumption))) | (with_reducible exact Hid.out (by assumption))))⟩
            | true =>
              have HE2 : Hid (vqGo (prevQ l (k + 1)) (l.drop (k + 1)) = v) := HE
              go_wp2_with fail
              go_roundg (gk - 1)
              case measure => omega
              case rel => exact ⟨k + 1, by go_num, by omega, by omega, HE2, Lib.hid (Below.tr HB.out HB3.out)⟩
      · have HE : Hid (true = v) := Lib.hid (by have h := HI.out; rw [drop_end hlt] at h; exact h)
        have hlti : ¬ (k : Int) < (l.length : Int) := by omega
        go_wp2_with fail
        go_ret
        exact ⟨ret_bool HE.out, by (repeat (first | (with_reducible exact Below.refl _ _) | (with_reducible assumption) | (with_reducible refine below_drewN ?_ _) | (with_reducible refine Below.drew ?_) | (with_reducible refine Below.al ?_ _) | (with_reducible refine Below.st ?_ (by simp; try omega)) | (with_reducible refine Below.tr ?_ (Hid.out (by assumption))) | (with_reducible exact Hid.out (by assumption))))⟩
  · have h8i : (8 : Int) < (l.length : Int) := by omega
    have HQ : Hid (false = v) := Lib.hid (by rw [← hv]; unfold partsB; rw [decide_eq_false h8]; rfl)
    clear hv
    go_enter Tryz.func57, Tryz.ntmps57
    go_wp2_with fail
    go_ret
    exact ⟨ret_bool HQ.out, by (repeat (first | (with_reducible exact Below.refl _ _) | (with_reducible assumption) | (with_reducible refine below_drewN ?_ _) | (with_reducible refine Below.drew ?_) | (with_reducible refine Below.al ?_ _) | (with_reducible refine Below.st ?_ (by simp; try omega)) | (with_reducible refine Below.tr ?_ (Hid.out (by assumption))) | (with_reducible exact Hid.out (by assumption))))⟩
end Go.Proofs.YtogeihdfmnohnaaGreatDoor
namespace Go.Proofs.YtogeihdfmnohnaaGreatDoor
open Go.RowKit
inductive Ex where
  | mk (k : Int) (atom : Tm) (kids : List Ex)
namespace Ex
def k : Ex → Int | .mk k _ _ => k
def atom : Ex → Tm | .mk _ a _ => a
def kids : Ex → List Ex | .mk _ _ l => l
theorem ind {P : Ex → Prop} (h : ∀ k a l, (∀ x ∈ l, P x) → P (.mk k a l)) : ∀ x, P x := by
  intro x
  refine Ex.rec (motive_1 := P) (motive_2 := fun l => ∀ x ∈ l, P x) h (fun x hx => absurd hx (by simp)) (fun x l h1 h2 y hy => ?_) x
  rcases List.mem_cons.1 hy with rfl | hy
  · exact h1
  · exact h2 _ hy
end Ex
def Ex.val (x : Ex) (A : Option Addr) (cap : Nat) : Value := .agg #[.int .i64 x.k, .string x.atom.name, .int .i64 x.atom.am.mode, .int .i64 x.atom.am.units, .slice A x.kids.length cap]
def Ex.zero : Ex := .mk 0 ⟨⟨#[]⟩, Am.zero⟩ []
def exE : Nat → El Ex
  | 0 => { n := 5, pos := by decide, rep := fun _ _ _ _ => False, len := fun h => h.elim, one := fun h => h.elim, same := fun h _ _ => h.elim }
  | d + 1 => {
    n := 5
    pos := by decide
    rep := fun w S x cs => ∃ A cap, cs = [.int .i64 x.k, .string x.atom.name, .int .i64 x.atom.am.mode, .int .i64 x.atom.am.units, .slice A x.kids.length cap] ∧ x.kids.length ≤ cap ∧ cap ≤ maxLen ∧ RowsAt (exE d) w S A x.kids
    len := fun h => by obtain ⟨A, cap, rfl, _⟩ := h; rfl
    one := fun h => by obtain ⟨A, cap, rfl, _⟩ := h; intro u hu; simp at hu; rcases hu with rfl | rfl | rfl | rfl | rfl <;> rfl
    same := fun h hk hS => by
      obtain ⟨A, cap, e, h1, h2, h3⟩ := h
      exact ⟨A, cap, e, h1, h2, h3.same hk hS⟩ }
theorem exE_n (d : Nat) : (exE d).n = 5 := by cases d <;> rfl
section
variable {w : World} {S : Nat → Prop} {A : Option Addr} {i d : Nat}
theorem ex_cells {l : List Ex} {k : Int} {n : ByteArray} {m u : Int} {ks : List Ex} (h : RowsAt (exE d) w S A l) (hi : i < l.length) (hx : l[i] = .mk k ⟨n, ⟨m, u⟩⟩ ks) :
    ∃ g off A' cap, A = some ⟨g, off, none⟩ ∧ S g ∧ w.cell? ⟨g, off + i * 5, none⟩ = some (.int .i64 k) ∧ w.cell? ⟨g, off + i * 5 + 1, none⟩ = some (.string n) ∧ w.cell? ⟨g, off + i * 5 + 2, none⟩ = some (.int .i64 m) ∧ w.cell? ⟨g, off + i * 5 + 3, none⟩ = some (.int .i64 u) ∧ w.cell? ⟨g, off + i * 5 + 4, none⟩ = some (.slice A' ks.length cap) ∧ ks.length ≤ cap ∧ cap ≤ maxLen ∧ ∃ d', d = d' + 1 ∧ RowsAt (exE d') w S A' ks := by
  cases d with
  | zero =>
    obtain ⟨g, off, cs, _, _, hc, _⟩ := h.getx hi hx
    exact hc.elim
  | succ d' =>
    obtain ⟨g, off, cs, hA, hS, hc, hd⟩ := h.getx hi hx
    obtain ⟨A', cap, rfl, h1, h2, h3⟩ := hc
    exact ⟨g, off, A', cap, hA, hS, hd 0 (show 0 < 5 by decide), hd 1 (show 1 < 5 by decide), hd 2 (show 2 < 5 by decide), hd 3 (show 3 < 5 by decide), hd 4 (show 4 < 5 by decide), h1, h2, d', rfl, h3⟩
end
mutual
def Ex.cnt : Ex → Nat
  | .mk _ _ l => 1 + cntL l
def cntL : List Ex → Nat
  | [] => 0
  | x :: l => x.cnt + cntL l
end
mutual
def Ex.dep : Ex → Nat
  | .mk _ _ l => 1 + depL l
def depL : List Ex → Nat
  | [] => 0
  | x :: l => max x.dep (depL l)
end
theorem Ex.dep_mk (k : Int) (a : Tm) (l : List Ex) : (Ex.mk k a l).dep = 1 + depL l := rfl
theorem Ex.cnt_mk (k : Int) (a : Tm) (l : List Ex) : (Ex.mk k a l).cnt = 1 + cntL l := rfl
theorem depL_cons (x : Ex) (l : List Ex) : depL (x :: l) = max x.dep (depL l) := rfl
theorem cntL_cons (x : Ex) (l : List Ex) : cntL (x :: l) = x.cnt + cntL l := rfl
theorem Ex.dep_pos (x : Ex) : 0 < x.dep := by cases x; rw [Ex.dep_mk]; omega
theorem Ex.cnt_pos (x : Ex) : 0 < x.cnt := by cases x; rw [Ex.cnt_mk]; omega
theorem length_cntL : ∀ l : List Ex, l.length ≤ cntL l
  | [] => Nat.zero_le _
  | x :: l => by have := length_cntL l; have := x.cnt_pos; rw [cntL_cons, List.length_cons]; omega
def okB (x : Ex) : Bool := decide (x.dep ≤ 4) && decide (x.cnt ≤ 24)
mutual
def meas : Ex → Nat → Nat → Nat × Nat
  | .mk _ _ l, lev, n => if 4 < lev ∨ 24 < n + 1 then (0, n + 1) else measL l lev (n + 1) 0
def measL : List Ex → Nat → Nat → Nat → Nat × Nat
  | [], _, n, d => (d + 1, n)
  | x :: l, lev, n, d => if (meas x (lev + 1) n).1 = 0 then (0, (meas x (lev + 1) n).2) else measL l lev (meas x (lev + 1) n).2 (max d (meas x (lev + 1) n).1)
end
theorem meas_mk (k : Int) (a : Tm) (l : List Ex) (lev n : Nat) : meas (.mk k a l) lev n = if 4 < lev ∨ 24 < n + 1 then (0, n + 1) else measL l lev (n + 1) 0 := rfl
theorem measL_nil (lev n d : Nat) : measL [] lev n d = (d + 1, n) := rfl
theorem measL_cons (x : Ex) (l : List Ex) (lev n d : Nat) : measL (x :: l) lev n d = if (meas x (lev + 1) n).1 = 0 then (0, (meas x (lev + 1) n).2) else measL l lev (meas x (lev + 1) n).2 (max d (meas x (lev + 1) n).1) := rfl
theorem meas_eq : ∀ (x : Ex) (lev n : Nat), (x.dep + lev ≤ 5 ∧ n + x.cnt ≤ 24 ∧ meas x lev n = (x.dep, n + x.cnt)) ∨ (¬ (x.dep + lev ≤ 5 ∧ n + x.cnt ≤ 24) ∧ (meas x lev n).1 = 0 ∧ ((meas x lev n).2 ≤ 25 ∨ (meas x lev n).2 ≤ n + 1)) := by
  refine Ex.ind (fun k a l ih => ?_)
  have hl : ∀ (m : List Ex) (lev n d : Nat), (∀ x ∈ m, x ∈ l) → lev ≤ 4 → n ≤ 24 → (depL m + lev ≤ 4 ∧ n + cntL m ≤ 24 ∧ measL m lev n d = (max d (depL m) + 1, n + cntL m)) ∨ (¬ (depL m + lev ≤ 4 ∧ n + cntL m ≤ 24) ∧ (measL m lev n d).1 = 0 ∧ (measL m lev n d).2 ≤ 25) := by
    intro m
    induction m with
    | nil => intro lev n d _ h1 h2; exact .inl ⟨by simpa [depL] using h1, by simpa [cntL] using h2, by rw [measL_nil]; simp [depL, cntL]⟩
    | cons x m ihm =>
      intro lev n d hm h1 h2
      rw [measL_cons, depL_cons, cntL_cons]
      have hx0 := x.dep_pos
      rcases ih x (hm x (by simp)) (lev + 1) n with ⟨a1, a2, a3⟩ | ⟨a1, a2, a3⟩
      · rw [a3]
        rw [if_neg (by show ¬ x.dep = 0; omega)]
        rcases ihm lev (n + x.cnt) (max d x.dep) (fun y hy => hm y (by simp [hy])) h1 a2 with ⟨b1, b2, b3⟩ | ⟨b1, b2, b3⟩
        · exact .inl ⟨by omega, by omega, by rw [b3]; congr 1 <;> omega⟩
        · exact .inr ⟨by omega, b2, b3⟩
      · rw [if_pos a2]
        exact .inr ⟨by omega, rfl, by show (meas x (lev + 1) n).2 ≤ 25; omega⟩
  intro lev n
  rw [meas_mk, Ex.dep_mk, Ex.cnt_mk]
  by_cases hc : 4 < lev ∨ 24 < n + 1
  · rw [if_pos hc]
    exact .inr ⟨by omega, rfl, .inr (Nat.le_refl _)⟩
  · rw [if_neg hc]
    rcases hl l lev (n + 1) 0 (fun _ h => h) (by omega) (by omega) with ⟨b1, b2, b3⟩ | ⟨b1, b2, b3⟩
    · exact .inl ⟨by omega, by omega, by rw [b3]; congr 1 <;> omega⟩
    · exact .inr ⟨by omega, b2, .inl b3⟩
theorem meas_ok (x : Ex) : (meas x 1 0).1 = if okB x then x.dep else 0 := by
  unfold okB
  rcases meas_eq x 1 0 with ⟨a1, a2, a3⟩ | ⟨a1, a2, _⟩
  · rw [a3]; simp; omega
  · rw [a2, if_neg]; simp; omega
mutual
def size7 : Ex → Nat → Nat × Nat
  | .mk _ _ l, dp => if 4 < dp ∨ 24 < l.length then (25, 0) else size7L l dp 1 0
def size7L : List Ex → Nat → Nat → Nat → Nat × Nat
  | [], _, n, d => (n, d + 1)
  | x :: l, dp, n, d => if 24 < n + (size7 x (dp + 1)).1 then (25, 0) else size7L l dp (n + (size7 x (dp + 1)).1) (if d < (size7 x (dp + 1)).2 then (size7 x (dp + 1)).2 else d)
end
theorem size7_mk (k : Int) (a : Tm) (l : List Ex) (dp : Nat) : size7 (.mk k a l) dp = if 4 < dp ∨ 24 < l.length then (25, 0) else size7L l dp 1 0 := rfl
theorem size7L_nil (dp n d : Nat) : size7L [] dp n d = (n, d + 1) := rfl
theorem size7L_cons (x : Ex) (l : List Ex) (dp n d : Nat) : size7L (x :: l) dp n d = if 24 < n + (size7 x (dp + 1)).1 then (25, 0) else size7L l dp (n + (size7 x (dp + 1)).1) (if d < (size7 x (dp + 1)).2 then (size7 x (dp + 1)).2 else d) := rfl
theorem size7_eq : ∀ (x : Ex) (dp : Nat), (x.dep + dp ≤ 5 ∧ x.cnt ≤ 24 ∧ size7 x dp = (x.cnt, x.dep)) ∨ (¬ (x.dep + dp ≤ 5 ∧ x.cnt ≤ 24) ∧ size7 x dp = (25, 0)) := by
  refine Ex.ind (fun k a l ih => ?_)
  have hl : ∀ (m : List Ex) (dp n d : Nat), (∀ x ∈ m, x ∈ l) → dp ≤ 4 → n ≤ 24 → (depL m + dp ≤ 4 ∧ n + cntL m ≤ 24 ∧ size7L m dp n d = (n + cntL m, max d (depL m) + 1)) ∨ (¬ (depL m + dp ≤ 4 ∧ n + cntL m ≤ 24) ∧ size7L m dp n d = (25, 0)) := by
    intro m
    induction m with
    | nil => intro dp n d _ h1 h2; exact .inl ⟨by simpa [depL] using h1, by simpa [cntL] using h2, by rw [size7L_nil]; simp [depL, cntL]⟩
    | cons x m ihm =>
      intro dp n d hm h1 h2
      rw [size7L_cons, depL_cons, cntL_cons]
      have hx0 := x.dep_pos
      rcases ih x (hm x (by simp)) (dp + 1) with ⟨a1, a2, a3⟩ | ⟨a1, a3⟩
      · rw [a3]
        by_cases hn : 24 < n + x.cnt
        · rw [if_pos hn]
          exact .inr ⟨by omega, rfl⟩
        · rw [if_neg hn]
          rcases ihm dp (n + x.cnt) (if d < x.dep then x.dep else d) (fun y hy => hm y (by simp [hy])) h1 (by omega) with ⟨b1, b2, b3⟩ | ⟨b1, b2⟩
          · refine .inl ⟨by omega, by omega, ?_⟩
            rw [b3]
            congr 1
            · omega
            · split <;> omega
          · exact .inr ⟨by omega, b2⟩
      · rw [a3, if_pos (by show 24 < n + 25; omega)]
        exact .inr ⟨by omega, rfl⟩
  intro dp
  rw [size7_mk, Ex.dep_mk, Ex.cnt_mk]
  have hlen := length_cntL l
  by_cases hc : 4 < dp ∨ 24 < l.length
  · rw [if_pos hc]
    exact .inr ⟨by omega, rfl⟩
  · rw [if_neg hc]
    rcases hl l dp 1 0 (fun _ h => h) (by omega) (by omega) with ⟨b1, b2, b3⟩ | ⟨b1, b3⟩
    · exact .inl ⟨by omega, by omega, by rw [b3]; congr 1; omega⟩
    · exact .inr ⟨by omega, b3⟩
end Go.Proofs.YtogeihdfmnohnaaGreatDoor
namespace Go.Proofs.YtogeihdfmnohnaaGreatDoor
open Go.RowKit
structure But (g : Nat) (w w' : World) : Prop where
  os : w'.os = w.os
  tape : w'.tape = w.tape
  output : w'.output = w.output
  size : w.heap.size ≤ w'.heap.size
  block : ∀ k, k < w.heap.size → k ≠ g → w'.heap[k]? = w.heap[k]?
section
variable {g : Nat} {a b c w w' : World}
theorem But.refl (g : Nat) (w : World) : But g w w := ⟨rfl, rfl, rfl, Nat.le_refl _, fun _ _ _ => rfl⟩
theorem But.trans (h : But g a b) (k : But g b c) : But g a c :=
  ⟨k.os.trans h.os, k.tape.trans h.tape, k.output.trans h.output, Nat.le_trans h.size k.size, fun i hi hg => (k.block i (Nat.lt_of_lt_of_le hi h.size) hg).trans (h.block i hi hg)⟩
theorem But.of (h : Below a.heap.size a b) : But g a b := ⟨h.os, h.tape, h.output, h.size, fun i hi _ => h.block i hi⟩
theorem But.grow (h : But g a b) (k : Below b.heap.size b c) : But g a c := h.trans (But.of k)
theorem But.al (h : But g a w) (o : Obj) : But g a (w.alloc o) := h.grow (Below.al (Below.refl _ _) o)
theorem But.drewN (h : But g a w) (n : Nat) : But g a (w.drewN n) := ⟨h.os, h.tape, h.output, h.size, h.block⟩
theorem But.drew (h : But g a w) : But g a w.drew := ⟨h.os, h.tape, h.output, h.size, h.block⟩
theorem But.st {p : Addr} {u : Value} (h : But g a w) (hp : p.block = g ∨ a.heap.size ≤ p.block) : But g a (w.setCell p u) :=
  ⟨h.os, h.tape, h.output, by simpa using h.size, fun i hi hg => (Below.heap_setCell w p u i (by omega)).trans (h.block i hi hg)⟩
theorem But.below {B : Nat} (h : But g a b) (hB : B ≤ g) (hB2 : B ≤ a.heap.size) : Below B a b := ⟨h.os, h.tape, h.output, h.size, fun i hi => h.block i (by omega) (by omega)⟩
theorem But.cell (h : But g a b) {k o : Nat} (hk : k < a.heap.size) (hg : k ≠ g) : b.cell? ⟨k, o, none⟩ = a.cell? ⟨k, o, none⟩ := World.cell?_of_block (a := ⟨k, o, none⟩) (h.block k hk hg)
theorem But.frozen (h : But g a b) {k o : Nat} (hk : k < a.heap.size) (hg : k ≠ g) : b.frozen? ⟨k, o, none⟩ = a.frozen? ⟨k, o, none⟩ := by
  unfold World.frozen?
  rw [show b.heap[k]? = a.heap[k]? from h.block k hk hg]
theorem But.cells (h : But g a b) : (∀ k o, k < a.heap.size → k ≠ g → b.cell? ⟨k, o, none⟩ = a.cell? ⟨k, o, none⟩) ∧ (∀ k o, k < a.heap.size → k ≠ g → b.frozen? ⟨k, o, none⟩ = a.frozen? ⟨k, o, none⟩) := ⟨fun _ _ hk hg => h.cell hk hg, fun _ _ hk hg => h.frozen hk hg⟩
theorem But.tot (h : Below a.heap.size a b) (hg : a.heap.size ≤ g) (k : But g b c) : Below a.heap.size a c :=
  h.trans (k.below hg h.size)
theorem RowsAt.but {α : Type} {E : El α} {A : Option Addr} {l : List α} {B B' : Nat} (h : RowsAt E w (Lo B) A l) (hb : But g w w') (hB : B ≤ w.heap.size) (hg : B ≤ g) (hB2 : B ≤ B') : RowsAt E w' (Lo B') A l :=
  h.below (hb.below hg hB) (Nat.le_refl _) hB2
theorem OwnRows.but {α : Type} {E : El α} {e : TypeId} {v : Value} {l : List α} {base : Nat} (h : OwnRows E e w base v l) (hb : But g w w') (hg : v.ownBlock ≠ some g) (hr : ∀ xs, Reps E w (Oth w v) l xs → Reps E w' (Oth w' v) l xs) : OwnRows E e w' base v l := by
  obtain ⟨h0, xs, ⟨h1, h2⟩, h3⟩ := h
  refine ⟨Nat.le_trans h0 hb.size, xs, ⟨h1, ?_⟩, hr xs h3⟩
  rcases h2 with hn | ⟨b, cap, cur, hv, hb2, hh, rest⟩
  · exact .inl hn
  · refine .inr ⟨b, cap, cur, hv, hb2, ?_, rest⟩
    rw [hb.block b (Array.getElem?_eq_some_iff.1 hh).1 (fun e => hg (by rw [hv, ← e]; rfl))]
    exact hh
end
def RetI (w : World) (g : Nat) (t : TypeId) (v : Value) (n : Int) (e : Ending) (w' : World) : Prop := e = .returned v ∧ But g w w' ∧ Blk w' g t #[.int .i64 n]
structure PS (X : Nat → Prop) (w w' : World) (v v' : Value) : Prop where
  os : w'.os = w.os
  tape : w'.tape = w.tape
  output : w'.output = w.output
  size : w.heap.size ≤ w'.heap.size
  block : ∀ k, k < w.heap.size → ¬ X k → v.ownBlock ≠ some k → w'.heap[k]? = w.heap[k]? ∧ v'.ownBlock ≠ some k
section
variable {X : Nat → Prop} {a b c w w' : World} {u v v' : Value} {base : Nat}
theorem PS.refl (X : Nat → Prop) (w : World) (v : Value) : PS X w w v v := ⟨rfl, rfl, rfl, Nat.le_refl _, fun _ _ _ h => ⟨rfl, h⟩⟩
theorem PS.trans (h : PS X a b u v) (k : PS X b c v v') : PS X a c u v' :=
  ⟨k.os.trans h.os, k.tape.trans h.tape, k.output.trans h.output, Nat.le_trans h.size k.size, fun i hi hx hu =>
    have h1 := h.block i hi hx hu
    have h2 := k.block i (Nat.lt_of_lt_of_le hi h.size) hx h1.2
    ⟨h2.1.trans h1.1, h2.2⟩⟩
theorem PS.of (v : Value) (h : Below w.heap.size w w') : PS X w w' v v := ⟨h.os, h.tape, h.output, h.size, fun i hi _ hu => ⟨h.block i hi, hu⟩⟩
theorem PS.grow (h : PS X a b u v) (k : Below b.heap.size b c) : PS X a c u v := h.trans (PS.of v k)
theorem PS.push (h : Below base w w') (hs : Spares w w' v v') : PS X w w' v v' := ⟨h.os, h.tape, h.output, h.size, fun i hi _ hu => hs i ⟨hi, hu⟩⟩
theorem PS.st {p : Addr} {z : Value} (h : PS X a b u v) (hp : X p.block) : PS X a (b.setCell p z) u v :=
  ⟨h.os, h.tape, h.output, by simpa using h.size, fun i hi hx hu => ⟨(Below.heap_setCell b p z i (fun e => hx (by rw [e]; exact hp))).trans (h.block i hi hx hu).1, (h.block i hi hx hu).2⟩⟩
theorem PS.below {B : Nat} (h : PS X a b u v) (hu : ∀ k, u.ownBlock = some k → B ≤ k) (hX : ∀ k, X k → B ≤ k) (hB : B ≤ a.heap.size) : Below B a b :=
  ⟨h.os, h.tape, h.output, h.size, fun k hk => (h.block k (Nat.lt_of_lt_of_le hk hB) (fun hx => Nat.not_le_of_lt hk (hX k hx)) (fun e => Nat.not_le_of_lt hk (hu k e))).1⟩
theorem PS.none (h : PS X a b (.slice none 0 0) v) (hX : ∀ k, k < a.heap.size → ¬ X k) : Below a.heap.size a b :=
  ⟨h.os, h.tape, h.output, h.size, fun k hk => (h.block k hk (hX k hk) (fun e => by cases e)).1⟩
theorem PS.stay (h : PS X a b u v) (k : PS X b c v v') : PS X a c u v :=
  ⟨k.os.trans h.os, k.tape.trans h.tape, k.output.trans h.output, Nat.le_trans h.size k.size, fun i hi hx hu =>
    have h1 := h.block i hi hx hu
    ⟨(k.block i (Nat.lt_of_lt_of_le hi h.size) hx h1.2).1.trans h1.1, h1.2⟩⟩
theorem PS.mono {Y : Nat → Prop} (h : PS X a b u v) (hXY : ∀ k, X k → Y k) : PS Y a b u v := ⟨h.os, h.tape, h.output, h.size, fun k hk hy hu => h.block k hk (fun hx => hy (hXY k hx)) hu⟩
end
theorem frz_set (w : World) (a p : Addr) (v : Value) : (w.setCell a v).frozen? p = w.frozen? p := World.frozen?_setCell _ _ _ _
theorem cell_set {w : World} {g o : Nat} {u v : Value} (h : w.cell? ⟨g, o, none⟩ = some u) : (w.setCell ⟨g, o, none⟩ v).cell? ⟨g, o, none⟩ = some v := by
  unfold World.cell? at h ⊢
  simp only [World.setCell, Array.getElem?_modify] at h ⊢
  cases hh : w.heap[g]? with
  | none => rw [hh] at h; cases h
  | some ob =>
    rw [hh] at h
    cases ob with
    | cells cs t fr =>
      have ho : o < cs.size := by
        simp at h
        exact (Array.getElem?_eq_some_iff.1 h).1
      simp [ho]
    | _ => simp at h
theorem OwnRows.far {α : Type} {E : El α} {e : TypeId} {w : World} {base p : Nat} {v u : Value} {l : List α} (h : OwnRows E e w base v l) (hp : v.ownBlock ≠ some p) (hr : ∀ xs, Reps E w (Oth w v) l xs → Reps E (w.setCell ⟨p, 0, none⟩ u) (Oth w v) l xs) : OwnRows E e (w.setCell ⟨p, 0, none⟩ u) base v l := by
  refine OwnRows.but (g := p) h (But.st (But.refl _ _) (.inl rfl)) hp fun xs hx => ?_
  have := hr xs hx
  exact this.same (fun _ _ => rfl) fun b hb => ⟨by simpa using hb.1, hb.2⟩
structure AtP {α : Type} (E : El α) (e : TypeId) (w : World) (p base : Nat) (v : Value) (l : List α) : Prop where
  cell : w.cell? ⟨p, 0, none⟩ = some v
  froz : w.frozen? ⟨p, 0, none⟩ = false
  own : OwnRows E e w base v l
  ne : v.ownBlock ≠ some p
section
variable {α : Type} {e : TypeId} {n : Nat} {pos : 0 < n} {f : α → List Value} {len : ∀ x, (f x).length = n} {one : ∀ x, ∀ u ∈ f x, u.oneCell' = true}
theorem repsP {w w' : World} {S S' : Nat → Prop} : ∀ {l : List α} {xs : List Value}, Reps (El.plain n pos f len one) w S l xs → Reps (El.plain n pos f len one) w' S' l xs
  | [], _, h => h
  | _ :: _, _, h => by
    obtain ⟨cs, rest, rfl, h1, h2⟩ := h
    exact ⟨cs, rest, rfl, h1, repsP h2⟩
theorem OwnRows.ps {X : Nat → Prop} {w w' : World} {base : Nat} {v u u' : Value} {l : List α} (h : OwnRows (El.plain n pos f len one) e w base v l) (hp : PS X w w' u u') (hv : ∀ k, v.ownBlock = some k → ¬ X k ∧ u.ownBlock ≠ some k) : OwnRows (El.plain n pos f len one) e w' base v l := by
  obtain ⟨h0, xs, ⟨h1, h2⟩, h3⟩ := h
  refine ⟨Nat.le_trans h0 hp.size, xs, ⟨h1, ?_⟩, repsP h3⟩
  rcases h2 with hn | ⟨b, cap, cur, hv2, hb2, hh, rest⟩
  · exact .inl hn
  · refine .inr ⟨b, cap, cur, hv2, hb2, ?_, rest⟩
    have hq := hv b (by rw [hv2]; rfl)
    rw [(hp.block b (Array.getElem?_eq_some_iff.1 hh).1 hq.1 hq.2).1]
    exact hh
theorem AtP.store {w : World} {p base : Nat} {v u : Value} {l : List α} (h : OwnRows (El.plain n pos f len one) e w base v l) (ne : v.ownBlock ≠ some p) (hc : w.cell? ⟨p, 0, none⟩ = some u) (hf : w.frozen? ⟨p, 0, none⟩ = false) : AtP (El.plain n pos f len one) e (w.setCell ⟨p, 0, none⟩ v) p base v l :=
  ⟨cell_set hc, (frz_set _ _ _ _).trans hf, h.far ne fun _ hx => repsP hx, ne⟩
theorem AtP.below {w w' : World} {p base : Nat} {v : Value} {l : List α} (h : AtP (El.plain n pos f len one) e w p base v l) (hb : Below w.heap.size w w') (hp : p < w.heap.size) : AtP (El.plain n pos f len one) e w' p base v l :=
  ⟨(hb.cell (p := ⟨p, 0, none⟩) hp).trans h.cell, (hb.frozen (p := ⟨p, 0, none⟩) hp).trans h.froz, h.own.below hb (Nat.le_refl _), h.ne⟩
end
theorem storeBox {P : Program} {ops : Array Oper} {rest : List Oper} {o : Oper} {a : Act} {w : World} {Q : Exit → Act → World → Prop} (hgd : o.guard = none) (ty : TypeId) (x y : Operand) (ho : o.op = .store ty x y) (g off : Nat) (t : TypeId) (old vs new : Array Value)
    (hx : a.eval x = .pointer (some ⟨g, off, none⟩)) (hy : a.eval y = .agg vs) (hb : Blk w g t old) (hi : (P.info? ty).map (·.size) = some vs.size) (hl : off + vs.size ≤ old.size) (h1 : vs.all (·.oneCell') = true)
    (hn : (old.toList.take off ++ vs.toList ++ old.toList.drop (off + vs.size)).toArray = new) (h : ∀ w', Blk w' g t new → But g w w' → wpList P ops Q rest (a.put o.dst undef) w') : wpList P ops Q (o :: rest) a w := by
  refine wpList_plain hgd fun K hK => ?_
  have h2 := run_storeCells_at (P := P) g off t vs.toList 0 old w hb (by simpa using hl) (fun v hv => (Array.all_eq_true_iff_forall_mem.1 h1) v (by simpa using hv))
  simp only [Nat.add_zero, Array.length_toList] at h2
  rw [hn] at h2
  unfold Oper.wp execOp
  cases hq : P.info? ty with
  | none => simp [hq] at hi
  | some i =>
    have hs : vs.size = i.size := by simp [hq] at hi; omega
    simp only [ho, hx, hy, Instr.storeAt, Instr.sureAddr, Sem.run_bind, Sem.run_pure, Result.andThen_ok]
    have h3 : (storeVar ty ⟨g, off, none⟩ (.agg vs)).run P w = .ok () (w.setRow g new) := by
      simp [storeVar, sizeOf, typeInfo, hq, Value.cells, hs, h2]
    rw [h3]
    exact hK _ _ (h _ (setRow_heap w g old new t (0, 0) hb) ⟨rfl, rfl, rfl, by simp, fun k hk hg => setRow_other w g k new hg⟩)
theorem loadBox {P : Program} {ops : Array Oper} {rest : List Oper} {o : Oper} {a : Act} {w : World} {Q : Exit → Act → World → Prop} (hgd : o.guard = none) (ty : TypeId) (x : Operand) (ho : o.op = .load ty x) (g off : Nat) (t : TypeId) (cs : Array Value) (vs : List Value) (d : TypeDesc)
    (hx : a.eval x = .pointer (some ⟨g, off, none⟩)) (hb : Blk w g t cs) (hv : (cs.extract off (off + vs.length)).toList = vs) (hu : P.underlying ty = some d) (hd : d.isRow = true) (hi : (P.info? ty).map (·.size) = some vs.length)
    (h : wpList P ops Q rest (a.put o.dst (.agg vs.toArray)) w) : wpList P ops Q (o :: rest) a w := by
  have hr : w.rangeAt g off vs := by
    have := World.rangeAt_of_block hb off vs.length
    rwa [hv] at this
  exact wpList_load_mid hgd ty x ho g off hx vs d hr hu hd hi h
end Go.Proofs.YtogeihdfmnohnaaGreatDoor
