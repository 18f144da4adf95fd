/- Part 21 of 49 of the proof of waitgraphOf_holds (no condition). -/
import Derived.Test.YtogeihdfmnohnaaGreatDoorK17
import Derived.Test.YtogeihdfmnohnaaGreatDoorK20
import Derived.Deep.RegionLaw
set_option linter.unusedVariables false
set_option linter.unusedSimpArgs false
namespace Go.Proofs.YtogeihdfmnohnaaGreatDoor
open Go.RowKit
theorem equalTm (a b : Tm) (w : World) : (Op.equalIn 10000 55 a.val b.val).run Tryz.prog w = .ok (decide (a = b)) w := by
  have hS : Tryz.prog.underlying 55 = some (.struct (Tryz.prog.fieldsOf 55)) := by kernel_rfl
  have hp : Tryz.prog.stoodInHeld 55 = false := by kernel_rfl
  unfold Tm.val
  rw [show (10000 : Nat) = 9999 + 1 from rfl, run_equalIn_agg w 9999 55 _ _ hS hp]
  have u3 := Tryz.underlying3
  simp only [Program.fieldsOf, Tryz.underlying55]
  go_simp
  obtain ⟨an, a1, a2⟩ := a
  obtain ⟨bn, b1, b2⟩ := b
  have hn : an.toList = bn.toList ↔ an = bn := ⟨toList_inj, fun e => by rw [e]⟩
  simp only [hn]
  by_cases h0 : an = bn <;> by_cases h1 : a1 = b1 <;> by_cases h2 : a2 = b2 <;> simp [h0, h1, h2]
theorem cmpTm (n : ByteArray) (a b : Int) (n' : ByteArray) (x y : Int) : Cmps 55 #[.string n, .int .i64 a, .int .i64 b] #[.string n', .int .i64 x, .int .i64 y] (decide ((⟨n, ⟨a, b⟩⟩ : Tm) = ⟨n', ⟨x, y⟩⟩)) :=
  Cmps.mk' (equalTm ⟨n, ⟨a, b⟩⟩ ⟨n', ⟨x, y⟩⟩) (fun op a b xs ys w => run_eqGuard_agg w op 55 a b xs ys (by kernel_rfl))
def RetN (w : World) (p base : Nat) (v : Value) (r : Option (List Tm)) (w' : World) : Prop := ∃ v', PS (· = p) w w' v v' ∧ ∀ l', r = some l' → AtP tmE 55 w' p base v' l'
set_option maxHeartbeats 3200000 in
theorem note_any (p base : Nat) (nm : ByteArray) (m u : Int) (v : Value) (l : List Tm) (w : World) (hp : p < w.heap.size) (h8 : l.length ≤ 8) (hv : AtP tmE 55 w p base v l) :
    Calls Tryz.prog 115 #[.pointer (some ⟨p, 0, none⟩), .agg #[.string nm, .int .i64 m, .int .i64 u]] w fun e w' => ∃ c : Int, e = .returned (.int .i64 c) ∧ (c = 0 ↔ (noteO l l ⟨nm, ⟨m, u⟩⟩).isSome = true) ∧ RetN w p base v (noteO l l ⟨nm, ⟨m, u⟩⟩) w' := by
  obtain ⟨A, cap, rfl, hr, hlc, hcm⟩ := hv.own.form
  have p0 := hv.cell
  have f0 := hv.froz
  have HV := Lib.hid hv
  have HR := Lib.hid hr
  clear hv hr
  obtain ⟨r, hr⟩ : ∃ r, noteO l l ⟨nm, ⟨m, u⟩⟩ = r := ⟨_, rfl⟩
  rw [hr]
  have HS : Hid (noteO (l.drop 0) l ⟨nm, ⟨m, u⟩⟩ = r) := Lib.hid hr
  clear hr
  unfold maxLen at hcm
  go_enter Tryz.func115, Tryz.ntmps115
  go_wp2_with fail
  go_loopg [11] l.length (fun m0 v11 wq => ∃ k : Nat, v11 = .int .i64 (k : Int) ∧ k ≤ l.length ∧ l.length ≤ k + m0 ∧ Hid (noteO (l.drop k) l ⟨nm, ⟨m, u⟩⟩ = r) ∧ Hid (Below (w.alloc (.cells #[.string nm, .int .i64 m, .int .i64 u] 55)).heap.size (w.alloc (.cells #[.string nm, .int .i64 m, .int .i64 u] 55)) wq))
  case atStart => exact ⟨0, rfl, Nat.zero_le _, by omega, HS, Lib.hid (Below.refl _ _)⟩
  case round =>
    obtain ⟨k, rfl, hk, hkm, HI, HB⟩ := hrel
    have hb := HB.out
    have HBW : Hid (Below w.heap.size w wr) := Lib.hid (by (repeat (first | (with_reducible exact Below.refl _ _) | (with_reducible assumption) | (with_reducible refine below_drewN ?_ _) | (with_reducible refine Below.drew ?_) | (with_reducible refine Below.al ?_ _) | (with_reducible refine Below.st ?_ (by simp; try omega)) | (with_reducible refine Below.tr ?_ (Hid.out (by assumption))) | (with_reducible exact Hid.out (by assumption)))))
    obtain ⟨hc_wr, hf_wr⟩ := bcell hb
    have hs_wr := hb.size
    (try simp at hs_wr)
    have hz_wr_0 : w.heap.size < wr.heap.size := (by omega)
    clear hs_wr
    clear hb
    by_cases hlt : k < l.length
    · obtain ⟨⟨n1, ⟨m1, u1⟩⟩, hx⟩ : ∃ x, l[k] = x := ⟨_, rfl⟩
      obtain ⟨g1, off, rfl, hbl, c0, c1, c2⟩ := tm_cells (HR.out.below HBW.out (Nat.le_refl _) (Nat.le_refl _)) hlt hx
      have hbl2 : g1 < wr.heap.size := Nat.lt_of_lt_of_le hbl HBW.out.size
      have hlti : (k : Int) < (l.length : Int) := by omega
      have HS : Hid (noteO (⟨n1, ⟨m1, u1⟩⟩ :: l.drop (k + 1)) l ⟨nm, ⟨m, u⟩⟩ = r) := Lib.hid (by have h := HI.out; rw [drop_step hlt hx] at h; exact h)
      obtain ⟨_, k1, k2⟩ := cmpTm nm m u n1 m1 u1
      rw [noteO_cons] at HS
      obtain ⟨q1, hq1⟩ : ∃ q, decide ((⟨nm, ⟨m, u⟩⟩ : Tm) = ⟨n1, ⟨m1, u1⟩⟩) = q := ⟨_, rfl⟩
      rw [hq1] at HS k1
      have HS : Hid ((bif q1 then some l else bif decide (nm = n1) then none else noteO (l.drop (k + 1)) l ⟨nm, ⟨m, u⟩⟩) = r) := HS
      clear hq1 hx hbl
      cases q1 with
      | true =>
        go_wp2_with fail
        go_ret
        refine ⟨0, rfl, by rw [← HS.out]; simp, _, PS.of _ (Below.al HBW.out _), fun l' hl' => ?_⟩
        obtain rfl : l = l' := by have h := HS.out.trans hl'; simpa using h
        exact ⟨(Below.cell (p := ⟨p, 0, none⟩) (Below.al HBW.out _) hp).trans p0, (Below.frozen (p := ⟨p, 0, none⟩) (Below.al HBW.out _) hp).trans f0, HV.out.own.below (Below.al HBW.out _) (Nat.le_refl _), HV.out.ne⟩
      | false =>
        by_cases hn : nm = n1
        · have hn2 : nm.toList = n1.toList := by rw [hn]
          have HS2 : Hid (none = r) := Lib.hid (by have h := HS.out; rw [decide_eq_true hn] at h; exact h)
          clear hn
          go_wp2_with fail
          go_ret
          exact ⟨13, rfl, by rw [← HS2.out]; simp, _, PS.of _ (Below.al HBW.out _), fun l' hl' => by rw [← HS2.out] at hl'; cases hl'⟩
        · have hn2 : (nm.toList == n1.toList) = false := by rw [beq_eq_false_iff_ne]; exact fun e => hn (toList_inj e)
          have HS2 : Hid (noteO (l.drop (k + 1)) l ⟨nm, ⟨m, u⟩⟩ = r) := Lib.hid (by have h := HS.out; rw [decide_eq_false hn] at h; exact h)
          clear hn
          go_wp2_with fail
          go_roundg (gk - 1)
          case measure => omega
          case rel => exact ⟨k + 1, by go_num, by omega, by omega, HS2, Lib.hid (Below.al HB.out _)⟩
    · have HS : Hid ((if l.length = 8 then none else some (l ++ [⟨nm, ⟨m, u⟩⟩])) = r) := Lib.hid (by have h := HI.out; rw [drop_end hlt] at h; exact h)
      have hlti : ¬ (k : Int) < (l.length : Int) := by omega
      have HPW := Lib.hid (HV.out.own.below HBW.out (Nat.le_refl _))
      by_cases h9 : l.length = 8
      · have h9i : (l.length : Int) = 8 := by omega
        have HS2 : Hid (none = r) := Lib.hid (by have h := HS.out; rwa [if_pos h9] at h)
        go_wp2_with fail
        go_ret
        exact ⟨4, rfl, by rw [← HS2.out]; simp, _, PS.of _ HBW.out, fun l' hl' => by rw [← HS2.out] at hl'; cases hl'⟩
      · have h9i : ¬ (l.length : Int) = 8 := by omega
        have HS2 : Hid (some (l ++ [⟨nm, ⟨m, u⟩⟩]) = r) := Lib.hid (by have h := HS.out; rwa [if_neg h9] at h)
        have d0 : wr.cell? ⟨p, 0, none⟩ = some (.slice A l.length cap) := (HBW.out.cell (p := ⟨p, 0, none⟩) hp).trans p0
        have b0 : wr.cell? ⟨w.heap.size, 0, none⟩ = some (.string nm) := (hc_wr _ _ (by simp)).trans (cellNewA w _ _ 0)
        have b1 : wr.cell? ⟨w.heap.size, 1, none⟩ = some (.int .i64 m) := (hc_wr _ _ (by simp)).trans (cellNewA w _ _ 1)
        have b2 : wr.cell? ⟨w.heap.size, 2, none⟩ = some (.int .i64 u) := (hc_wr _ _ (by simp)).trans (cellNewA w _ _ 2)
        have hpr : p < wr.heap.size := Nat.lt_of_lt_of_le hp HBW.out.size
        have HFR : Hid (wr.frozen? ⟨p, 0, none⟩ = false) := Lib.hid ((HBW.out.frozen (p := ⟨p, 0, none⟩) hp).trans f0)
        have hS0 : Hid (wr.drew.cell? ⟨p, 0, none⟩ = some (.slice A l.length cap) ∧ wr.drew.frozen? ⟨p, 0, none⟩ = false ∧ wr.drew.cell? ⟨w.heap.size, 0, none⟩ = some (.string nm) ∧ wr.drew.cell? ⟨w.heap.size, 1, none⟩ = some (.int .i64 m) ∧ wr.drew.cell? ⟨w.heap.size, 2, none⟩ = some (.int .i64 u)) := Lib.hid ⟨d0, HFR.out, b0, b1, b2⟩
        have HAL : Hid (Below wr.heap.size wr (wr.drew.alloc (.cells #[.string nm, .int .i64 m, .int .i64 u] 55))) := Lib.hid (Below.al (below_drewN (Below.refl _ _) 1) _)
        have hS1 : Hid ((wr.drew.alloc (.cells #[.string nm, .int .i64 m, .int .i64 u] 55)).cell? ⟨p, 0, none⟩ = some (.slice A l.length cap) ∧ (wr.drew.alloc (.cells #[.string nm, .int .i64 m, .int .i64 u] 55)).frozen? ⟨p, 0, none⟩ = false ∧ (wr.drew.alloc (.cells #[.string nm, .int .i64 m, .int .i64 u] 55)).cell? ⟨w.heap.size, 0, none⟩ = some (.string nm) ∧ (wr.drew.alloc (.cells #[.string nm, .int .i64 m, .int .i64 u] 55)).cell? ⟨w.heap.size, 1, none⟩ = some (.int .i64 m) ∧ (wr.drew.alloc (.cells #[.string nm, .int .i64 m, .int .i64 u] 55)).cell? ⟨w.heap.size, 2, none⟩ = some (.int .i64 u)) :=
          Lib.hid ⟨(HAL.out.cell (p := ⟨p, 0, none⟩) hpr).trans d0, (HAL.out.frozen (p := ⟨p, 0, none⟩) hpr).trans HFR.out, (HAL.out.cell (p := ⟨w.heap.size, 0, none⟩) hz_wr_0).trans b0, (HAL.out.cell (p := ⟨w.heap.size, 1, none⟩) hz_wr_0).trans b1, (HAL.out.cell (p := ⟨w.heap.size, 2, none⟩) hz_wr_0).trans b2⟩
        have HPD : Hid (OwnRows tmE 55 (wr.drew.alloc (.cells #[.string nm, .int .i64 m, .int .i64 u] 55)) base (.slice A l.length cap) l) := Lib.hid ((HPW.out.drewN 1).alloc _)
        have HRL : Hid (RowsAt tmE (wr.drew.alloc (.cells #[.string nm, .int .i64 m, .int .i64 u] 55)) (Oth (wr.drew.alloc (.cells #[.string nm, .int .i64 m, .int .i64 u] 55)) (.slice A l.length cap)) (some ⟨wr.heap.size, 0, none⟩) [⟨nm, ⟨m, u⟩⟩]) :=
          Lib.hid ⟨[.string nm, .int .i64 m, .int .i64 u], Reps.single rfl, fun _ => ⟨wr.heap.size, 0, rfl, ⟨by simp, fun e => by have := (HPW.out.block _ e).2; omega⟩, fun j z hz => cellOfNew wr.drew [.string nm, .int .i64 m, .int .i64 u] 55 j z hz⟩⟩
        have HOT : Hid (Oth (wr.drew.alloc (.cells #[.string nm, .int .i64 m, .int .i64 u] 55)) (.slice A l.length cap) p ∧ Oth (wr.drew.alloc (.cells #[.string nm, .int .i64 m, .int .i64 u] 55)) (.slice A l.length cap) w.heap.size) := Lib.hid ⟨⟨by simp; omega, HV.out.ne⟩, ⟨by simp; omega, fun e => by have := (HV.out.own.block _ e).2; omega⟩⟩
        clear hc_wr hf_wr p0 f0
        go_wp2_with fail
        go_region_law (refine stepPushRB tmTB rfl (.tmp 32) (.tmp 34) rfl base (.slice A l.length cap) l [⟨nm, ⟨m, u⟩⟩] 1 rfl (some ⟨wr.heap.size, 0, none⟩) 1 rfl HPD.out rfl HRL.out (by unfold maxLen; omega) (by omega) ?_; intro v2 w2 hown2 hb2 hsp2; have HO2 := Lib.hid hown2; have HB2 := Lib.hid hb2; have HSP := Lib.hid hsp2; clear hown2 hb2 hsp2; obtain ⟨A2, cap2, rfl, _, _, _⟩ := HO2.out.form; have hpo := HSP.out p HOT.out.1; have HPN := Lib.hid hpo.2; have cp2 := (World.cell?_of_block (a := ⟨p, 0, none⟩) hpo.1).trans hS1.out.1; have fp2 := (World.frozen?_of_block (a := ⟨p, 0, none⟩) hpo.1).trans hS1.out.2.1; clear hpo)
        all_goals (
          go_wp2_with fail
          go_ret
          refine ⟨0, rfl, by rw [← HS2.out]; simp, _, PS.st ((PS.of _ HBW.out).trans ((PS.of _ HAL.out).trans (PS.push HB2.out HSP.out))) rfl, fun l' hl' => ?_⟩
          obtain rfl : l ++ [⟨nm, ⟨m, u⟩⟩] = l' := by have h := HS2.out.trans hl'; simpa using h
          have h : AtP tmE 55 (w2.setCell ⟨p, 0, none⟩ (.slice A2 (l ++ [(⟨nm, ⟨m, u⟩⟩ : Tm)]).length cap2)) p base (.slice A2 (l ++ [(⟨nm, ⟨m, u⟩⟩ : Tm)]).length cap2) (l ++ [⟨nm, ⟨m, u⟩⟩]) := AtP.store HO2.out HPN.out cp2 fp2
          simpa using h)
set_option maxHeartbeats 3200000 in
theorem validAtom_any (nm : ByteArray) (m u : Int) (w : World) : Calls Tryz.prog 114 #[.agg #[.string nm, .int .i64 m, .int .i64 u]] w (Ret w (.bool (atomB ⟨nm, ⟨m, u⟩⟩))) := by
  have HV := Lib.hid (fun W => ValidName_any nm W)
  have HF := Lib.hid (fun nm kd un h W => Fits_any ⟨nm, kd, un, h⟩ m u W)
  unfold Rs.val at HF
  have HU := Lib.hid (usable_fits m u)
  go_enter Tryz.func114, Tryz.ntmps114
  go_wp2_with fail
  repeat' (first
    | (go_at_call 152; refine (HV.out _).mono ?_; rintro e wa1 ⟨rfl, hwa1⟩; obtain rfl := hwa1.symm; clear hwa1; go_wp2_with fail)
    | (go_at_call 137; refine (HF.out _ _ _ _ _).mono ?_; rintro e wa2 ⟨rfl, hb_wa2⟩; obtain ⟨hc_wa2, hf_wa2⟩ := bcell hb_wa2; have hs_wa2 := hb_wa2.size; (try simp at hs_wa2); have hz_wa2_w_0 : w.heap.size < wa2.heap.size := (by omega); have hz_wa2_w_1 : w.heap.size + 1 < wa2.heap.size := (by omega); have hz_wa2_w_2 : w.heap.size + 1 + 1 < wa2.heap.size := (by omega); clear hs_wa2; have HB_wa2 := Lib.hid hb_wa2; clear hb_wa2; go_wp2_with fail)
    | (go_ret; refine ⟨ret_bool ?_, by (repeat (first | (with_reducible exact Below.refl _ _) | (with_reducible assumption) | (with_reducible refine below_drewN ?_ _) | (with_reducible refine Below.drew ?_) | (with_reducible refine Below.al ?_ _) | (with_reducible refine Below.st ?_ (by simp; try omega)) | (with_reducible refine Below.tr ?_ (Hid.out (by assumption))) | (with_reducible exact Hid.out (by assumption))))⟩; unfold atomB; have hu := HU.out; (first | (simp_all []; done) | (simp_all []; omega) | (rw [Bool.eq_iff_iff]; simp_all []; done) | (rw [Bool.eq_iff_iff]; simp_all []; omega))))
theorem cmpA0 (n : ByteArray) (a b : Int) : Cmps 55 #[.string n, .int .i64 a, .int .i64 b] #[.string { data := #[] }, .int .i64 0, .int .i64 0] (decide ((⟨n, ⟨a, b⟩⟩ : Tm) = atom0)) := cmpTm n a b _ 0 0
set_option maxHeartbeats 3200000 in
theorem properE_any : ∀ (d : Nat) (x : Ex) (A : Option Addr) (cap B p base : Nat) (v : Value) (acc : List Tm) (w : World) (hx : ExF w B d A x) (hB : B ≤ base) (hpb : base ≤ p) (hp : p < w.heap.size) (h8 : acc.length ≤ 8) (hv : AtP tmE 55 w p base v acc),
    Calls Tryz.prog 76 #[x.val A cap, .pointer (some ⟨p, 0, none⟩)] w fun e w' => e = .returned (.bool (prS x acc).isSome) ∧ RetN w p base v (prS x acc) w' := by
  intro d
  induction d using Nat.strongRecOn with
  | ind d ih =>
    intro x A cap B p base v acc w hx hB hpb hp h8 hv
    obtain ⟨k, ⟨nm, ⟨m, u⟩⟩, l⟩ := x
    obtain ⟨hm, hBw, hr⟩ := hx
    unfold Ex.val
    rw [prS_mk]
    dsimp only [Ex.k, Ex.atom, Ex.kids] at hm hr ⊢
    have IH := Lib.hid ih
    have HR := Lib.hid hr
    have HV := Lib.hid hv
    clear hr ih hv
    cases hE : l.isEmpty with
    | true =>
      obtain rfl := List.isEmpty_iff.1 hE
      have HA := Lib.hid (fun W => validAtom_any nm m u W)
      have HN := Lib.hid (fun W (hb : Below w.heap.size w W) => note_any p base nm m u v acc W (Nat.lt_of_lt_of_le hp hb.size) h8 (AtP.below (HV.out : AtP tmE 55 w p base v acc) hb hp))
      have HS : Hid ((bif decide (k = 0) && atomB ⟨nm, ⟨m, u⟩⟩ then noteO acc acc ⟨nm, ⟨m, u⟩⟩ else none) = leafN k ⟨nm, ⟨m, u⟩⟩ acc) := Lib.hid rfl
      simp only [cond_true]
      generalize leafN k ⟨nm, ⟨m, u⟩⟩ acc = r at *
      generalize noteO acc acc ⟨nm, ⟨m, u⟩⟩ = r2 at *
      generalize atomB ⟨nm, ⟨m, u⟩⟩ = q2 at *
      by_cases hk : k = 0
      · subst hk
        have HS2 : Hid ((bif q2 then r2 else none) = r) := Lib.hid (by have h := HS.out; simpa using h)
        go_enter Tryz.func76, Tryz.ntmps76
        go_wp2_with fail
        refine (HA.out _).mono ?_
        rintro e w2 ⟨rfl, hb2⟩
        have HB2 : Hid (Below w.heap.size w w2) := Lib.hid (Below.tr (Below.al (Below.refl _ _) _) hb2)
        obtain ⟨hc_w2, hf_w2⟩ := bcell hb2
        have hs_w2 := hb2.size
        (try simp at hs_w2)
        have hz_w2_0 : w.heap.size < w2.heap.size := (by omega)
        clear hs_w2
        clear hb2
        cases q2 with
        | false =>
          have HS3 : Hid (none = r) := HS2
          go_wp2_with fail
          go_ret
          exact ⟨by rw [← HS3.out]; rfl, _, PS.of _ HB2.out, fun l' hl' => by rw [← HS3.out] at hl'; cases hl'⟩
        | true =>
          obtain rfl : r2 = r := HS2.out
          go_wp2_with fail
          refine (HN.out _ HB2.out).mono ?_
          rintro e w3 ⟨c, rfl, hc, hn⟩
          have HN3 := Lib.hid hn
          have HC := Lib.hid hc
          clear hn hc
          by_cases hc0 : c = 0
          · subst hc0
            go_wp2_with fail
            go_ret
            obtain ⟨v', h1, h2⟩ := HN3.out
            exact ⟨by rw [HC.out.1 trivial]; rfl, v', (PS.of _ HB2.out).trans h1, h2⟩
          · have hc1 : (c == 0) = false := by simpa using hc0
            go_wp2_with fail
            go_ret
            obtain ⟨v', h1, h2⟩ := HN3.out
            refine ⟨?_, v', (PS.of _ HB2.out).trans h1, h2⟩
            have : r2.isSome = false := by cases hr : r2.isSome with
              | false => rfl
              | true => exact absurd (HC.out.2 hr) hc0
            rw [this]; rfl
      · have HS2 : Hid (none = r) := Lib.hid (by have h := HS.out; rw [decide_eq_false hk] at h; exact h)
        have hk1 : (k == 0) = false := by simpa using hk
        go_enter Tryz.func76, Tryz.ntmps76
        go_wp2_with fail
        go_ret
        exact ⟨by rw [← HS2.out]; rfl, _, PS.of _ (by (repeat (first | (with_reducible exact Below.refl _ _) | (with_reducible assumption) | (with_reducible refine below_drewN ?_ _) | (with_reducible refine Below.drew ?_) | (with_reducible refine Below.al ?_ _) | (with_reducible refine Below.st ?_ (by simp; try omega)) | (with_reducible refine Below.tr ?_ (Hid.out (by assumption))) | (with_reducible exact Hid.out (by assumption))))), fun l' hl' => by rw [← HS2.out] at hl'; cases hl'⟩
    | false =>
      have hl0 : ¬ (l.length : Int) = 0 := by
        have : l ≠ [] := fun e => by rw [e] at hE; cases hE
        have := List.length_pos_iff.2 this
        omega
      simp only [cond_false]
      have hl0' : ((l.length : Int) == 0) = false := by simpa using hl0
      obtain ⟨q1, g1, g2⟩ := cmpA0 nm m u
      cases hG : grpB k ⟨nm, ⟨m, u⟩⟩ l with
      | false =>
        simp only [cond_false]
        have hfin : ∀ w', Below w.heap.size w w' → (Ending.returned (Value.bool false) = .returned (.bool (none : Option (List Tm)).isSome) ∧ RetN w p base v none w') := fun w' hb => ⟨rfl, _, PS.of _ hb, fun l' hl' => by cases hl'⟩
        have HFIN := Lib.hid hfin
        clear hfin
        unfold grpB at hG
        by_cases h1 : k < 1
        · clear q1 g1 g2 hG
          go_enter Tryz.func76, Tryz.ntmps76
          go_wp2_with fail
          go_ret
          exact HFIN.out _ (by (repeat (first | (with_reducible exact Below.refl _ _) | (with_reducible assumption) | (with_reducible refine below_drewN ?_ _) | (with_reducible refine Below.drew ?_) | (with_reducible refine Below.al ?_ _) | (with_reducible refine Below.st ?_ (by simp; try omega)) | (with_reducible refine Below.tr ?_ (Hid.out (by assumption))) | (with_reducible exact Hid.out (by assumption)))))
        · by_cases h2 : (l.length : Int) < k
          · clear q1 g1 g2 hG
            go_enter Tryz.func76, Tryz.ntmps76
            go_wp2_with fail
            go_ret
            exact HFIN.out _ (by (repeat (first | (with_reducible exact Below.refl _ _) | (with_reducible assumption) | (with_reducible refine below_drewN ?_ _) | (with_reducible refine Below.drew ?_) | (with_reducible refine Below.al ?_ _) | (with_reducible refine Below.st ?_ (by simp; try omega)) | (with_reducible refine Below.tr ?_ (Hid.out (by assumption))) | (with_reducible exact Hid.out (by assumption)))))
          · have h3 : decide ((⟨nm, ⟨m, u⟩⟩ : Tm) = atom0) = false := by
              rw [decide_eq_true (show 1 ≤ k by omega), decide_eq_true (show k ≤ (l.length : Int) by omega)] at hG
              exact hG
            rw [h3] at q1
            clear hG h3
            go_enter Tryz.func76, Tryz.ntmps76
            go_wp2_with fail
            go_ret
            exact HFIN.out _ (by (repeat (first | (with_reducible exact Below.refl _ _) | (with_reducible assumption) | (with_reducible refine below_drewN ?_ _) | (with_reducible refine Below.drew ?_) | (with_reducible refine Below.al ?_ _) | (with_reducible refine Below.st ?_ (by simp; try omega)) | (with_reducible refine Below.tr ?_ (Hid.out (by assumption))) | (with_reducible exact Hid.out (by assumption)))))
      | true =>
        simp only [cond_true]
        have hG2 : ¬ k < 1 ∧ ¬ (l.length : Int) < k ∧ decide ((⟨nm, ⟨m, u⟩⟩ : Tm) = atom0) = true := by
          unfold grpB at hG
          simp at hG
          exact ⟨by omega, by omega, decide_eq_true hG.2⟩
        obtain ⟨h1, h2, h3⟩ := hG2
        rw [h3] at q1
        clear hG h3
        obtain ⟨r, hr⟩ : ∃ r, prL l acc = r := ⟨_, rfl⟩
        rw [hr]
        have HS : Hid (prL (l.drop 0) acc = r) := Lib.hid hr
        clear hr
        have hm2 := hm
        unfold maxLen at hm2
        go_enter Tryz.func76, Tryz.ntmps76
        go_wp2_with fail
        go_loopg [46] l.length (fun m0 v46 wq => ∃ (kk : Nat) (vk : Value) (ak : List Tm), v46 = .int .i64 (kk : Int) ∧ kk ≤ l.length ∧ l.length ≤ kk + m0 ∧ ak.length ≤ 8 ∧ Hid (prL (l.drop kk) ak = r) ∧ Hid (PS (· = p) w wq v vk) ∧ Hid (AtP tmE 55 wq p base vk ak))
        case atStart => exact ⟨0, v, acc, rfl, Nat.zero_le _, by omega, h8, HS, Lib.hid (PS.of _ (by (repeat (first | (with_reducible exact Below.refl _ _) | (with_reducible assumption) | (with_reducible refine below_drewN ?_ _) | (with_reducible refine Below.drew ?_) | (with_reducible refine Below.al ?_ _) | (with_reducible refine Below.st ?_ (by simp; try omega)) | (with_reducible refine Below.tr ?_ (Hid.out (by assumption))) | (with_reducible exact Hid.out (by assumption)))))), Lib.hid (AtP.below (HV.out : AtP tmE 55 w p base v acc) (by (repeat (first | (with_reducible exact Below.refl _ _) | (with_reducible assumption) | (with_reducible refine below_drewN ?_ _) | (with_reducible refine Below.drew ?_) | (with_reducible refine Below.al ?_ _) | (with_reducible refine Below.st ?_ (by simp; try omega)) | (with_reducible refine Below.tr ?_ (Hid.out (by assumption))) | (with_reducible exact Hid.out (by assumption))))) hp)⟩
        case round =>
          obtain ⟨kk, vk, ak, rfl, hk, hkm, ha8, HI, HP, HAT⟩ := hrel
          have hsz := HP.out.size
          have HBB : Hid (Below B w wr) := Lib.hid (HP.out.below (fun k hk => Nat.le_trans hB (HV.out.own.block k hk).1) (fun k hk => by rw [hk]; omega) hBw)
          by_cases hlt : kk < l.length
          · obtain ⟨⟨k1, ⟨nm1, ⟨m1, u1⟩⟩, l1⟩, hx⟩ : ∃ x, l[kk] = x := ⟨_, rfl⟩
            obtain ⟨g1', off, A1, cap1, rfl, hbl, c0, c1, c2, c3, c4, hc1, hc2, d1, rfl, hr1⟩ := ex_cells (HR.out.below (B'' := B) HBB.out (Nat.le_refl _) (Nat.le_refl _)) hlt hx
            have hbl0 : g1' < B := hbl
            have hbl2 : g1' < wr.heap.size := by omega
            have hlti : (kk : Int) < (l.length : Int) := by omega
            have HX1 : Hid (ExF wr B d1 A1 (.mk k1 ⟨nm1, ⟨m1, u1⟩⟩ l1)) := Lib.hid ⟨Nat.le_trans hc1 hc2, by omega, hr1⟩
            have HS : Hid ((prS (.mk k1 ⟨nm1, ⟨m1, u1⟩⟩ l1) ak).bind (fun q => prL (l.drop (kk + 1)) q) = r) := Lib.hid (by have h := HI.out; rw [drop_step hlt hx] at h; exact h)
            have HC : Hid (∀ W, Below wr.heap.size wr W → Calls Tryz.prog 76 #[.agg #[.int .i64 k1, .string nm1, .int .i64 m1, .int .i64 u1, .slice A1 l1.length cap1], .pointer (some ⟨p, 0, none⟩)] W fun e w' => e = .returned (.bool (prS (.mk k1 ⟨nm1, ⟨m1, u1⟩⟩ l1) ak).isSome) ∧ RetN W p base vk (prS (.mk k1 ⟨nm1, ⟨m1, u1⟩⟩ l1) ak) w') := Lib.hid (fun W hb1 =>
              IH.out d1 (by omega) (.mk k1 ⟨nm1, ⟨m1, u1⟩⟩ l1) A1 cap1 B p base vk ak W (HX1.out.below hb1) hB hpb (by have := hb1.size; omega) ha8 (AtP.below (HAT.out : AtP tmE 55 wr p base vk ak) hb1 (by omega)))
            have HLEN := Lib.hid (fun q => prS_len (.mk k1 ⟨nm1, ⟨m1, u1⟩⟩ l1) ak q ha8)
            generalize prS (.mk k1 ⟨nm1, ⟨m1, u1⟩⟩ l1) ak = r1 at HS HC HLEN
            clear hx hbl hr1
            go_wp2_with fail
            refine (HC.out _ (by (repeat (first | (with_reducible exact Below.refl _ _) | (with_reducible assumption) | (with_reducible refine below_drewN ?_ _) | (with_reducible refine Below.drew ?_) | (with_reducible refine Below.al ?_ _) | (with_reducible refine Below.st ?_ (by simp; try omega)) | (with_reducible refine Below.tr ?_ (Hid.out (by assumption))) | (with_reducible exact Hid.out (by assumption)))))).mono ?_
            rintro e w2 ⟨rfl, hn⟩
            have HN := Lib.hid hn
            clear hn
            cases r1 with
            | none =>
              have HE : Hid (none = r) := HS
              go_wp2_with fail
              go_ret
              obtain ⟨v', h1, h2⟩ := HN.out
              exact ⟨by rw [← HE.out]; rfl, v', HP.out.trans ((PS.of _ (by (repeat (first | (with_reducible exact Below.refl _ _) | (with_reducible assumption) | (with_reducible refine below_drewN ?_ _) | (with_reducible refine Below.drew ?_) | (with_reducible refine Below.al ?_ _) | (with_reducible refine Below.st ?_ (by simp; try omega)) | (with_reducible refine Below.tr ?_ (Hid.out (by assumption))) | (with_reducible exact Hid.out (by assumption)))))).trans h1), fun l' hl' => by rw [← HE.out] at hl'; cases hl'⟩
            | some a1 =>
              have HE : Hid (prL (l.drop (kk + 1)) a1 = r) := HS
              go_wp2_with fail
              go_roundg (gk - 1)
              case measure => omega
              case rel =>
                obtain ⟨v', h1, h2⟩ := HN.out
                exact ⟨kk + 1, v', a1, by go_num, by omega, by omega, HLEN.out a1 rfl, HE, Lib.hid (HP.out.trans ((PS.of _ (by (repeat (first | (with_reducible exact Below.refl _ _) | (with_reducible assumption) | (with_reducible refine below_drewN ?_ _) | (with_reducible refine Below.drew ?_) | (with_reducible refine Below.al ?_ _) | (with_reducible refine Below.st ?_ (by simp; try omega)) | (with_reducible refine Below.tr ?_ (Hid.out (by assumption))) | (with_reducible exact Hid.out (by assumption)))))).trans h1)), Lib.hid (h2 a1 rfl)⟩
          · have HE : Hid (some ak = r) := Lib.hid (by have h := HI.out; rw [drop_end hlt] at h; exact h)
            have hlti : ¬ (kk : Int) < (l.length : Int) := by omega
            go_wp2_with fail
            go_ret
            exact ⟨by rw [← HE.out]; rfl, vk, HP.out, fun l' hl' => by have h := HE.out.trans hl'; injection h with h; rw [← h]; exact HAT.out⟩
set_option maxHeartbeats 3200000 in
theorem ValidExpr_any (d : Nat) (x : Ex) (A : Option Addr) (cap B : Nat) (w : World) (hx : ExF w B d A x) :
    Calls Tryz.prog 40 #[x.val A cap] w (Ret w (.bool (veB x))) := by
  have HD := Lib.hid (fun W (hb : Below w.heap.size w W) => Depth_any d x A cap B W (hx.below hb))
  have HP := Lib.hid (fun W (hb : Below w.heap.size w W) (p : Nat) (hp : p < W.heap.size) (hwp : w.heap.size ≤ p) hv => properE_any d x A cap B p w.heap.size (.slice none 0 0) [] W (hx.below hb) hx.hB hwp hp (by decide) hv)
  have HS : Hid (veB x = (decide (¬ ((if okB x then x.dep else 0 : Nat) : Int) = 0) && (prS x []).isSome)) := Lib.hid (by
    rw [veB_pr]
    congr 1
    have := x.dep_pos
    cases okB x with
    | false => simp
    | true => simp; omega)
  clear hx
  obtain ⟨k, ⟨nm, ⟨m, u⟩⟩, l⟩ := x
  unfold Ex.val at *
  dsimp only [Ex.k, Ex.atom, Ex.kids] at HD HP ⊢
  generalize (if okB (.mk k ⟨nm, ⟨m, u⟩⟩ l) then (Ex.mk k ⟨nm, ⟨m, u⟩⟩ l).dep else 0) = n at *
  generalize prS (.mk k ⟨nm, ⟨m, u⟩⟩ l) [] = r at *
  generalize veB (.mk k ⟨nm, ⟨m, u⟩⟩ l) = q at *
  have HAT : Hid (AtP tmE 55 ((w.alloc (.cells #[.int .i64 k, .string nm, .int .i64 m, .int .i64 u, .slice A l.length cap] 58)).alloc (.cells #[.slice none 0 0] 95)) (w.heap.size + 1) w.heap.size (.slice none 0 0) []) := Lib.hid ⟨by simp, by simp, OwnRows.nil _ _ _ _ (by simp; omega), by simp [Value.ownBlock]⟩
  go_enter Tryz.func40, Tryz.ntmps40
  go_wp2_with fail
  refine (HD.out _ (by (repeat (first | (with_reducible exact Below.refl _ _) | (with_reducible assumption) | (with_reducible refine below_drewN ?_ _) | (with_reducible refine Below.drew ?_) | (with_reducible refine Below.al ?_ _) | (with_reducible refine Below.st ?_ (by simp; try omega)) | (with_reducible refine Below.tr ?_ (Hid.out (by assumption))) | (with_reducible exact Hid.out (by assumption)))))).mono ?_
  rintro e w2 ⟨rfl, hb2⟩
  have HB2 : Hid (Below w.heap.size w w2) := Lib.hid (Below.tr (Below.al (Below.al (Below.refl _ _) _) _) hb2)
  have HAT2 : Hid (AtP tmE 55 w2 (w.heap.size + 1) w.heap.size (.slice none 0 0) []) := Lib.hid (AtP.below (HAT.out : AtP tmE 55 _ _ _ _ _) hb2 (by simp))
  obtain ⟨hc_w2, hf_w2⟩ := bcell hb2
  have hs_w2 := hb2.size
  (try simp at hs_w2)
  have hz_w2_0 : w.heap.size < w2.heap.size := (by omega)
  have hz_w2_1 : w.heap.size + 1 < w2.heap.size := (by omega)
  clear hs_w2
  clear hb2
  by_cases hn : n = 0
  · subst hn
    have HQ : Hid (q = false) := Lib.hid (by rw [HS.out]; rfl)
    go_wp2_with fail
    go_ret
    exact ⟨by rw [HQ.out]; rfl, HB2.out⟩
  · have hn2 : ((n : Int) == 0) = false := by simpa using hn
    have HQ : Hid (q = r.isSome) := Lib.hid (by rw [HS.out, decide_eq_true (by omega)]; rfl)
    go_wp2_with fail
    refine (HP.out _ HB2.out (w.heap.size + 1) (by omega) (by omega) HAT2.out).mono ?_
    rintro e w3 ⟨rfl, hn3⟩
    have HN := Lib.hid hn3
    clear hn3
    go_wp2_with fail
    go_ret
    refine ⟨by rw [HQ.out]; show Ending.returned (.bool ((n : Int) != 0 && r.isSome)) = _; unfold bne; rw [hn2]; rfl, ?_⟩
    obtain ⟨v', h1, _⟩ := HN.out
    exact HB2.out.trans (h1.below (fun k hk => by cases hk) (fun k hk => by rw [hk]; omega) HB2.out.size)
end Go.Proofs.YtogeihdfmnohnaaGreatDoor
