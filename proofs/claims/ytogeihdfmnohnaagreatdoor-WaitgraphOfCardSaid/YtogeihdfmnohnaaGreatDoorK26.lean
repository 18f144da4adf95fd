/- Part 26 of 49 of the proof of waitgraphOf_holds (no condition). -/
import Derived.Test.YtogeihdfmnohnaaGreatDoorK24
set_option linter.unusedVariables false
set_option linter.unusedSimpArgs false
namespace Go.Proofs.YtogeihdfmnohnaaGreatDoor
open Go.RowKit
set_option maxHeartbeats 3200000 in
theorem WProcs_any (s : Ws) (d : Nat) (A1 A2 : Option Addr) (c1 c2 B : Nat) (w : World) (hw : WF w B d A1 A2 s) (h1 : s.queues.length ≤ 12) (h2 : s.needs.length ≤ 12) (hs : ∀ q ∈ s.queues, shortQ q) :
    Calls Tryz.prog 17 #[s.val A1 A2 c1 c2] w (RetRow prE 51 w (procsW s)) := by
  have HT := Lib.hid (fun W (hb : Below w.heap.size w W) => TProcs_any A1 B c1 s.queues W h1 hs (Nat.le_trans hw.hB hb.size) (hw.r1.below hb hw.hB (Nat.le_refl _)))
  have HSP := Lib.hid (fun A cap l W hm hr => SortProcs_any A cap l W hm hr)
  have HR := Lib.hid hw.r2
  have HBw := Lib.hid hw.hB
  have HLT : Hid ((procsT s.queues).length ≤ 288) := Lib.hid (by have := procsT_len hs; omega)
  have HW : Hid (procsW s = sortS (procsT s.queues ++ prnL s.needs)) := Lib.hid rfl
  clear hw hs
  generalize procsW s = R at *
  obtain ⟨qs, ns⟩ := s
  unfold Ws.val
  dsimp only at HT HR HLT HW h1 h2 ⊢
  generalize procsT qs = pt at *
  go_enter Tryz.func17, Tryz.ntmps17
  go_wp2_with fail
  refine (HT.out _ (by (repeat (first | (with_reducible exact Below.refl _ _) | (with_reducible assumption) | (with_reducible refine below_drewN ?_ _) | (with_reducible refine Below.drew ?_) | (with_reducible refine Below.al ?_ _) | (with_reducible refine Below.st ?_ (by simp; try omega)) | (with_reducible refine Below.tr ?_ (Hid.out (by assumption))) | (with_reducible exact Hid.out (by assumption)))))).mono ?_
  rintro e w2 ⟨v2, rfl, hown2, hb2⟩
  have HB2 : Hid (Below w.heap.size w w2) := Lib.hid (Below.tr (Below.al (Below.refl _ _) _) hb2)
  have y1 : w2.cell? ⟨w.heap.size, 1, none⟩ = some (.slice A2 ns.length c2) := (hb2.cell (p := ⟨w.heap.size, 1, none⟩) (by simp)).trans (cellNewA w _ _ 1)
  have hz2 : w.heap.size < w2.heap.size := by have := hb2.size; simp at this; omega
  obtain ⟨A6, c6, rfl, hr6, hl6⟩ := hown2.oth_of (v0 := .slice none 0 0) (fun k hk => by cases hk)
  have HR6 := Lib.hid hr6
  clear hown2 hb2 hr6
  have HN2 : Hid (OwnRows prE 51 w2 w2.heap.size (.slice none 0 0) []) := Lib.hid (OwnRows.nil _ _ _ _ (Nat.le_refl _))
  go_wp2_with (at_builtin; refine pushRB prTB rfl (.const (.slice none 0 0)) (.tmp 8) rfl w2 w2.heap.size (.slice none 0 0) [] pt pt.length rfl A6 c6 rfl HN2.out rfl HR6.out (by have := HLT.out; simp [maxLen]; omega) (by have := HLT.out; simp; omega) ?_; intro v3 w3 hown3 hb3 _; rw [List.nil_append] at hown3; have HB3 := Lib.hid hb3; have HO3 := Lib.hid hown3; clear hown3 hb3; have y2 := (HB3.out.cell (p := ⟨w.heap.size, 1, none⟩) hz2).trans y1; have hz3 : w.heap.size < w3.heap.size := Nat.lt_of_lt_of_le hz2 HB3.out.size)
  have HB3W : Hid (Below w.heap.size w w3) := Lib.hid (Below.tr HB2.out HB3.out)
  go_loopg [3, 13] ns.length (fun m v3 v13 wq => ∃ k : Nat, v13 = .int .i64 (k : Int) ∧ k ≤ ns.length ∧ ns.length ≤ k + m ∧ Hid (OwnRows prE 51 wq w2.heap.size v3 (pt ++ prnL (ns.take k))) ∧ Hid (Below w2.heap.size w2 wq))
  case atStart => exact ⟨0, rfl, Nat.zero_le _, by omega, Lib.hid (by simpa [prnL] using HO3.out), HB3⟩
  case round =>
    obtain ⟨k, rfl, hk, hkm, HO, HP⟩ := hrel
    have HPW : Hid (Below w.heap.size w wr) := Lib.hid (Below.tr HB2.out HP.out)
    have hlk : (pt ++ prnL (ns.take k)).length ≤ 300 := by have := HLT.out; simp [prnL]; omega
    by_cases hlt : k < ns.length
    · obtain ⟨⟨⟨a, b, c⟩, ⟨kk, ⟨nm, ⟨m, u⟩⟩, ks⟩, gen⟩, hx⟩ : ∃ x, ns[k] = x := ⟨_, rfl⟩
      have HE : Hid ((pt ++ prnL (ns.take k)) ++ [⟨a, b, c⟩] = pt ++ prnL (ns.take (k + 1))) := Lib.hid (by unfold prnL; rw [List.take_add_one, List.map_append, List.getElem?_eq_getElem hlt, hx, List.append_assoc]; rfl)
      obtain ⟨g, off, A3, c3, rfl, hbl, d0, d1, d2, d3, d4, d5, d6, d7, d8, _⟩ := nd_cells (HR.out.below (B'' := B) HPW.out HBw.out (Nat.le_refl _)) (Nat.le_trans HBw.out HPW.out.size) hlt hx
      have hbl2 : g < wr.heap.size := Nat.lt_of_lt_of_le hbl (Nat.le_trans HBw.out HPW.out.size)
      have hlti : (k : Int) < (ns.length : Int) := by omega
      have HO' := Lib.hid (HO.out.alloc (.cells #[.int .i64 a, .int .i64 b, .int .i64 c, .int .i64 kk, .string nm, .int .i64 m, .int .i64 u, .slice A3 ks.length c3, .int .i64 gen] 60))
      clear hx hbl
      generalize pt ++ prnL (ns.take k) = L at *
      go_wp2_with (at_builtin; refine pushOneB prTB rfl (.tmp 17) (.tmp 20) rfl (wr.alloc (.cells #[.int .i64 a, .int .i64 b, .int .i64 c, .int .i64 kk, .string nm, .int .i64 m, .int .i64 u, .slice A3 ks.length c3, .int .i64 gen] 60)) w2.heap.size u3 L ⟨a, b, c⟩ [.int .i64 a, .int .i64 b, .int .i64 c] _ rfl rfl HO'.out _ rfl (by simp) rfl (by unfold maxLen; omega) (by omega) ?_; intro v7 w7 hown7 hb7 hsp7; have HB7 : Hid (Below w2.heap.size w2 w7) := Lib.hid ((Below.al HP.out _).trans hb7); have HO7 := Lib.hid hown7; clear hown7 hb7 hsp7)
      rw [HE.out] at HO7
      go_roundg (gk - 1)
      case measure => omega
      case rel => exact ⟨k + 1, by go_num, by omega, by omega, HO7, HB7⟩
    · have HE : Hid (prnL (ns.take k) = prnL ns) := Lib.hid (by rw [List.take_of_length_le (by omega)])
      rw [HE.out] at HO hlk
      have hlti : ¬ (k : Int) < (ns.length : Int) := by omega
      obtain ⟨A7, c7, rfl, hr7, _, _⟩ := HO.out.form
      have HR7 := Lib.hid hr7
      clear hr7
      generalize hL : pt ++ prnL ns = L at *
      go_wp2_with fail
      refine (HSP.out A7 c7 L wr (by omega) HR7.out).mono ?_
      rintro e w5 ⟨v5, rfl, hown5, hb5⟩
      have HO5 := Lib.hid hown5
      have HB5 : Hid (Below w.heap.size w w5) := Lib.hid (Below.tr HPW.out hb5)
      clear hown5 hb5
      go_wp2_with fail
      go_ret
      exact ⟨v5, rfl, by rw [HW.out]; exact HO5.out.older HPW.out.size, HB5.out⟩
def ltPr (p : Option Pr) (x : Pr) : Bool := match p with | none => true | some y => decide (cmpP y x < 0)
def ndB (x : Nd) : Bool := vpB x.proc && veB x.expr && decide (0 ≤ x.gen) && decide (x.gen ≤ 1073741824)
def vnGo : Option Pr → List Nd → Bool
  | _, [] => true
  | p, x :: l => ndB x && ltPr p x.proc && vnGo (some x.proc) l
theorem vnGo_cons (p : Option Pr) (x : Nd) (l : List Nd) : vnGo p (x :: l) = (ndB x && ltPr p x.proc && vnGo (some x.proc) l) := rfl
def prevN (l : List Nd) (k : Nat) : Option Pr := if k = 0 then none else (l[k - 1]?).map (·.proc)
theorem prevN_zero (l : List Nd) : prevN l 0 = none := rfl
theorem prevN_succ {l : List Nd} {k : Nat} {x : Nd} (h : k < l.length) (hx : l[k] = x) : prevN l (k + 1) = some x.proc := by
  unfold prevN
  rw [if_neg (by omega), Nat.add_sub_cancel, List.getElem?_eq_getElem h, hx]
  rfl
theorem prevN_pos {l : List Nd} {k : Nat} {x : Nd} (h0 : 0 < k) (h : k - 1 < l.length) (hx : l[k - 1] = x) : prevN l k = some x.proc := by
  unfold prevN
  rw [if_neg (by omega), List.getElem?_eq_getElem h, hx]
  rfl
def stateB (s : Ws) : Bool := partsB s.queues && decide (s.needs.length ≤ 8) && vnGo none s.needs && decide ((procsW s).length ≤ 8)
theorem partsB_short {l : List Qu} (h : partsB l = true) : l.length ≤ 8 ∧ ∀ q ∈ l, shortQ q := by
  unfold partsB at h
  simp only [Bool.and_eq_true, decide_eq_true_eq] at h
  exact ⟨h.1, vqGo_short l none h.2⟩
set_option maxHeartbeats 6400000 in
theorem rWValidS_any (s : Ws) (d : Nat) (A1 A2 : Option Addr) (c1 c2 B : Nat) (w : World) (hw : WF w B d A1 A2 s) :
    Calls Tryz.prog 20 #[s.val A1 A2 c1 c2] w (Ret w (.bool (stateB s))) := by
  have HPT := Lib.hid (fun W (hb : Below w.heap.size w W) => Parts_any A1 B c1 s.queues W hw.m1 (Nat.le_trans hw.hB hb.size) (hw.r1.below hb hw.hB (Nat.le_refl _)))
  have HPR := Lib.hid (fun (h : partsB s.queues = true) (h2 : s.needs.length ≤ 8) W (hb : Below w.heap.size w W) => rWProcs_any s d A1 A2 c1 c2 B W (hw.below hb) (by have := (partsB_short h).1; omega) (by omega) (partsB_short h).2)
  have HVP := Lib.hid (fun p W => rVProc_any p W)
  have HVE := Lib.hid (fun x A cap W (hx : ExF W B d A x) => rValidExpr_any d x A cap B W hx)
  have HCP := Lib.hid (fun p q W => rCProc_any p q W)
  have HR := Lib.hid hw.r2
  have HBw := Lib.hid hw.hB
  have HM := hw.m2
  unfold maxLen at HM
  have HS : Hid (stateB s = (partsB s.queues && decide (s.needs.length ≤ 8) && vnGo none s.needs && decide ((procsW s).length ≤ 8))) := Lib.hid rfl
  clear hw
  generalize stateB s = V at *
  generalize procsW s = PW at *
  obtain ⟨qs, ns⟩ := s
  unfold Ws.val at *
  dsimp only at HPT HPR HR HS HM ⊢
  generalize partsB qs = q1 at *
  cases q1 with
  | false =>
    have HE : Hid (false = V) := Lib.hid HS.out.symm
    go_enter Tryz.func20, Tryz.ntmps20
    go_wp2_with fail
    refine (HPT.out _ (by (repeat (first | (with_reducible exact Below.refl _ _) | (with_reducible assumption) | (with_reducible refine below_drewN ?_ _) | (with_reducible refine Below.drew ?_) | (with_reducible refine Below.al ?_ _) | (with_reducible refine Below.st ?_ (by simp; try omega)) | (with_reducible refine Below.tr ?_ (Hid.out (by assumption))) | (with_reducible exact Hid.out (by assumption)))))).mono ?_
    rintro e w2 ⟨rfl, hb2⟩
    have HB2 : Hid (Below w.heap.size w w2) := Lib.hid (Below.tr (Below.al (Below.refl _ _) _) hb2)
    clear hb2
    go_wp2_with fail
    go_ret
    exact ⟨ret_bool HE.out, HB2.out⟩
  | true =>
    by_cases h8 : ns.length ≤ 8
    · have h8i : ¬ (8 : Int) < (ns.length : Int) := by omega
      have HQ : Hid ((vnGo (prevN ns 0) (ns.drop 0) && decide (PW.length ≤ 8)) = V) := Lib.hid (by rw [HS.out, decide_eq_true h8]; rfl)
      go_enter Tryz.func20, Tryz.ntmps20
      go_wp2_with fail
      refine (HPT.out _ (by (repeat (first | (with_reducible exact Below.refl _ _) | (with_reducible assumption) | (with_reducible refine below_drewN ?_ _) | (with_reducible refine Below.drew ?_) | (with_reducible refine Below.al ?_ _) | (with_reducible refine Below.st ?_ (by simp; try omega)) | (with_reducible refine Below.tr ?_ (Hid.out (by assumption))) | (with_reducible exact Hid.out (by assumption)))))).mono ?_
      rintro e w2 ⟨rfl, hb2⟩
      have HB2 : Hid (Below w.heap.size w w2) := Lib.hid (Below.tr (Below.al (Below.refl _ _) _) hb2)
      have y0 : w2.cell? ⟨w.heap.size, 0, none⟩ = some (.slice A1 qs.length c1) := (hb2.cell (p := ⟨w.heap.size, 0, none⟩) (by simp)).trans (cellNewA w _ _ 0)
      have y1 : w2.cell? ⟨w.heap.size, 1, none⟩ = some (.slice A2 ns.length c2) := (hb2.cell (p := ⟨w.heap.size, 1, none⟩) (by simp)).trans (cellNewA w _ _ 1)
      have hz2 : w.heap.size < w2.heap.size := by have := hb2.size; simp at this; omega
      clear hb2
      go_wp2_with fail
      go_loopg [3] ns.length (fun m0 v3 wq => ∃ k : Nat, v3 = .int .i64 (k : Int) ∧ k ≤ ns.length ∧ ns.length ≤ k + m0 ∧ Hid ((vnGo (prevN ns k) (ns.drop k) && decide (PW.length ≤ 8)) = V) ∧ Hid (Below w2.heap.size w2 wq))
      case atStart => exact ⟨0, rfl, Nat.zero_le _, by omega, HQ, Lib.hid (Below.refl _ _)⟩
      case round =>
        obtain ⟨k, rfl, hk, hkm, HI, HB⟩ := hrel
        have HBW : Hid (Below w.heap.size w wr) := Lib.hid (Below.tr HB2.out HB.out)
        have z0 := (HB.out.cell (p := ⟨w.heap.size, 0, none⟩) hz2).trans y0
        have z1 := (HB.out.cell (p := ⟨w.heap.size, 1, none⟩) hz2).trans y1
        have hzr : w.heap.size < wr.heap.size := Nat.lt_of_lt_of_le hz2 HB.out.size
        by_cases hlt : k < ns.length
        · have HBR : Hid (B ≤ wr.heap.size) := Lib.hid (Nat.le_trans HBw.out HBW.out.size)
          have HRW : Hid (RowsAt (ndE d) wr (Lo B) A2 ns) := Lib.hid (HR.out.below HBW.out HBw.out (Nat.le_refl _))
          obtain ⟨⟨⟨a, b, c⟩, ⟨kk, ⟨nm, ⟨m, u⟩⟩, ks⟩, gen⟩, hx⟩ : ∃ x, ns[k] = x := ⟨_, rfl⟩
          obtain ⟨g, off, A3, c3, rfl, hbl, d0, d1, d2, d3, d4, d5, d6, d7, d8, hxf⟩ := nd_cells HRW.out HBR.out hlt hx
          have hbl2 : g < wr.heap.size := Nat.lt_of_lt_of_le hbl HBR.out
          have hlti : (k : Int) < (ns.length : Int) := by omega
          have HS2 : Hid ((vpB ⟨a, b, c⟩ && veB (.mk kk ⟨nm, ⟨m, u⟩⟩ ks) && decide (0 ≤ gen) && decide (gen ≤ 1073741824) && ltPr (prevN ns k) ⟨a, b, c⟩ && vnGo (prevN ns (k + 1)) (ns.drop (k + 1)) && decide (PW.length ≤ 8)) = V) := Lib.hid (by have h := HI.out; rw [drop_step hlt hx, vnGo_cons] at h; rw [prevN_succ hlt hx]; exact h)
          have HVE1 := Lib.hid (fun W (hb : Below wr.heap.size wr W) => HVE.out (.mk kk ⟨nm, ⟨m, u⟩⟩ ks) A3 c3 W (hxf.below hb))
          have HVP1 := Lib.hid (fun W => HVP.out ⟨a, b, c⟩ W)
          unfold Ex.val at HVE1
          dsimp only [Ex.k, Ex.atom, Ex.kids] at HVE1
          unfold Pr.val at HVP1
          obtain ⟨p1, hp1⟩ : ∃ p, vpB ⟨a, b, c⟩ = p := ⟨_, rfl⟩
          obtain ⟨p2, hp2⟩ : ∃ p, veB (.mk kk ⟨nm, ⟨m, u⟩⟩ ks) = p := ⟨_, rfl⟩
          rw [hp1] at HVP1 HS2
          rw [hp2] at HVE1 HS2
          clear hp1 hp2 hbl hxf
          have HBX : Hid (Blk (wr.alloc (.cells #[.int .i64 a, .int .i64 b, .int .i64 c, .int .i64 kk, .string nm, .int .i64 m, .int .i64 u, .slice A3 ks.length c3, .int .i64 gen] 60)) wr.heap.size 60 #[.int .i64 a, .int .i64 b, .int .i64 c, .int .i64 kk, .string nm, .int .i64 m, .int .i64 u, .slice A3 ks.length c3, .int .i64 gen]) := Lib.hid (Blk.new _ _ _)
          have g0 := Ext.cell (HBX.out.cellx 0 (v := .int .i64 a) rfl)
          have g1 := Ext.cell (HBX.out.cellx 1 (v := .int .i64 b) rfl)
          have g2 := Ext.cell (HBX.out.cellx 2 (v := .int .i64 c) rfl)
          have g3 := Ext.cell (HBX.out.cellx 3 (v := .int .i64 kk) rfl)
          have g4 := Ext.cell (HBX.out.cellx 4 (v := .string nm) rfl)
          have g5 := Ext.cell (HBX.out.cellx 5 (v := .int .i64 m) rfl)
          have g6 := Ext.cell (HBX.out.cellx 6 (v := .int .i64 u) rfl)
          have g7 := Ext.cell (HBX.out.cellx 7 (v := .slice A3 ks.length c3) rfl)
          have g8 := Ext.cell (HBX.out.cellx 8 (v := .int .i64 gen) rfl)
          have g9 := Ext.old (.cells #[.int .i64 a, .int .i64 b, .int .i64 c, .int .i64 kk, .string nm, .int .i64 m, .int .i64 u, .slice A3 ks.length c3, .int .i64 gen] 60) z1
          dsimp only at HVP1
          obtain ⟨b1, hb1⟩ : ∃ p, decide (gen < 0) = p := ⟨_, rfl⟩
          obtain ⟨b2, hb2⟩ : ∃ p, decide (1073741824 < gen) = p := ⟨_, rfl⟩
          have HB1 : Hid (decide (0 ≤ gen) = !b1) := Lib.hid (by rw [← hb1, Bool.eq_iff_iff]; simp)
          have HB2' : Hid (decide (gen ≤ 1073741824) = !b2) := Lib.hid (by rw [← hb2, Bool.eq_iff_iff]; simp)
          rw [HB1.out, HB2'.out] at HS2
          clear HB1 HB2'
          go_wp2_with fail
          clear hx d0 d1 d2 d3 d4 d5 d6 d7 d8 z0 z1
          have HAL : Hid (Below w2.heap.size w2 (wr.alloc (.cells #[.int .i64 a, .int .i64 b, .int .i64 c, .int .i64 kk, .string nm, .int .i64 m, .int .i64 u, .slice A3 ks.length c3, .int .i64 gen] 60))) := Lib.hid (Below.al HB.out _)
          have hno : (p1 && p2 && !b1 && !b2) = false ∨ (p1 && p2 && !b1 && !b2) = true := by cases (p1 && p2 && !b1 && !b2) <;> simp
          have HVE2 := Lib.hid (fun n : Ext (wr.alloc (.cells #[.int .i64 a, .int .i64 b, .int .i64 c, .int .i64 kk, .string nm, .int .i64 m, .int .i64 u, .slice A3 ks.length c3, .int .i64 gen] 60)) => HVE1.out n.w (Below.tr (Below.al (Below.refl _ _) _) n.below))
          clear HVE1
          rcases hno with hno | hno
          · have HE : Hid (false = V) := Lib.hid (by rw [← HS2.out, hno]; simp)
            clear HS2 HI
            have HFIN : Hid (∀ w', Below (wr.alloc (.cells #[.int .i64 a, .int .i64 b, .int .i64 c, .int .i64 kk, .string nm, .int .i64 m, .int .i64 u, .slice A3 ks.length c3, .int .i64 gen] 60)).heap.size (wr.alloc (.cells #[.int .i64 a, .int .i64 b, .int .i64 c, .int .i64 kk, .string nm, .int .i64 m, .int .i64 u, .slice A3 ks.length c3, .int .i64 gen] 60)) w' → Ret w (.bool V) (.returned (.bool false)) w') := Lib.hid fun w' hb => ⟨ret_bool HE.out, Below.tr HB2.out (Below.tr HAL.out hb)⟩
            cases p1 with
            | false =>
              clear hno
              refine wp_region_grow (by kernel_rfl) (by kernel_rfl) ?_; (repeat (go_big_quiet_step ((first | (go_at_call 58; exact Ext.call _ (HVP1.out _)) | (go_at_call 59; exact Ext.call _ (HVE2.out _)))))); refine wpQuiet_nil ?_; rintro w2 ⟨n2, rfl⟩; have hb2 := n2.below; generalize n2.w = w2 at hb2 ⊢; clear n2
              go_wp2_with fail
              go_ret
              exact HFIN.out _ hb2
            | true =>
              cases p2 with
              | false =>
                clear hno
                refine wp_region_grow (by kernel_rfl) (by kernel_rfl) ?_; (repeat (go_big_quiet_step ((first | (go_at_call 58; exact Ext.call _ (HVP1.out _)) | (go_at_call 59; exact Ext.call _ (HVE2.out _)))))); refine wpQuiet_nil ?_; rintro w2 ⟨n2, rfl⟩; have hb2 := n2.below; generalize n2.w = w2 at hb2 ⊢; clear n2
                go_wp2_with fail
                go_ret
                exact HFIN.out _ hb2
              | true =>
                cases b1 with
                | true =>
                  clear hno
                  refine wp_region_grow (by kernel_rfl) (by kernel_rfl) ?_; (repeat (go_big_quiet_step ((first | (go_at_call 58; exact Ext.call _ (HVP1.out _)) | (go_at_call 59; exact Ext.call _ (HVE2.out _)))))); refine wpQuiet_nil ?_; rintro w2 ⟨n2, rfl⟩; have hb2 := n2.below; generalize n2.w = w2 at hb2 ⊢; clear n2
                  go_wp2_with fail
                  go_ret
                  exact HFIN.out _ hb2
                | false =>
                  obtain rfl : b2 = true := by simpa using hno
                  clear hno
                  refine wp_region_grow (by kernel_rfl) (by kernel_rfl) ?_; (repeat (go_big_quiet_step ((first | (go_at_call 58; exact Ext.call _ (HVP1.out _)) | (go_at_call 59; exact Ext.call _ (HVE2.out _)))))); refine wpQuiet_nil ?_; rintro w2 ⟨n2, rfl⟩; have hb2 := n2.below; generalize n2.w = w2 at hb2 ⊢; clear n2
                  go_wp2_with fail
                  go_ret
                  exact HFIN.out _ hb2
          · simp only [Bool.and_eq_true, Bool.not_eq_true'] at hno
            obtain ⟨⟨⟨rfl, rfl⟩, rfl⟩, rfl⟩ := hno
            have HS3 : Hid ((ltPr (prevN ns k) ⟨a, b, c⟩ && vnGo (prevN ns (k + 1)) (ns.drop (k + 1)) && decide (PW.length ≤ 8)) = V) := Lib.hid (by have h := HS2.out; simpa using h)
            clear HS2 HI
            rcases Nat.eq_zero_or_pos k with hk0 | hk0
            · have hd : decide ((0 : Int) < (k : Int)) = false := decide_eq_false (by omega)
              have hd' : decide (0 < k) = false := decide_eq_false (by omega)
              have HE : Hid ((vnGo (prevN ns (k + 1)) (ns.drop (k + 1)) && decide (PW.length ≤ 8)) = V) := Lib.hid (by have h := HS3.out; rw [hk0] at h ⊢; rw [prevN_zero] at h; exact h)
              clear hk0
              refine wp_region_grow (by kernel_rfl) (by kernel_rfl) ?_; (repeat (go_big_quiet_step ((first | (go_at_call 58; exact Ext.call _ (HVP1.out _)) | (go_at_call 59; exact Ext.call _ (HVE2.out _)))))); refine wpQuiet_nil ?_; rintro w2 ⟨n2, rfl⟩; have hb2 := n2.below; generalize n2.w = w2 at hb2 ⊢; clear n2
              have HB3 := Lib.hid hb2
              clear hb2
              go_wp2_with fail
              go_roundg (gk - 1)
              case measure => omega
              case rel => exact ⟨k + 1, by go_num, by omega, by omega, HE, Lib.hid (Below.tr HAL.out HB3.out)⟩
            · have hd : decide ((0 : Int) < (k : Int)) = true := decide_eq_true (by omega)
              have hd' : decide (0 < k) = true := decide_eq_true (by omega)
              have hki : IntKind.i64.wrap ((k : Int) - 1) = ((k - 1 : Nat) : Int) := by rw [IntWalk.i64_in _ (by omega)]; omega
              obtain ⟨⟨⟨a', b', c'⟩, ⟨kk', ⟨nm', ⟨m', u'⟩⟩, ks'⟩, gen'⟩, hx'⟩ : ∃ x, ns[k - 1]'(by omega) = x := ⟨_, rfl⟩
              obtain ⟨_, _, _, _, hA, _, e0, e1, e2, _⟩ := nd_cells HRW.out HBR.out (show k - 1 < ns.length by omega) hx'
              injection hA with hA
              injection hA with h1 h2
              subst h1
              subst h2
              have g10 := Ext.old (.cells #[.int .i64 a, .int .i64 b, .int .i64 c, .int .i64 kk, .string nm, .int .i64 m, .int .i64 u, .slice A3 ks.length c3, .int .i64 gen] 60) e0
              have g11 := Ext.old (.cells #[.int .i64 a, .int .i64 b, .int .i64 c, .int .i64 kk, .string nm, .int .i64 m, .int .i64 u, .slice A3 ks.length c3, .int .i64 gen] 60) e1
              have g12 := Ext.old (.cells #[.int .i64 a, .int .i64 b, .int .i64 c, .int .i64 kk, .string nm, .int .i64 m, .int .i64 u, .slice A3 ks.length c3, .int .i64 gen] 60) e2
              have hkl : ((k - 1 : Nat) : Int) < (ns.length : Int) := by omega
              obtain ⟨n, hn⟩ : ∃ n, cmpP ⟨a', b', c'⟩ ⟨a, b, c⟩ = n := ⟨_, rfl⟩
              have HC1 : Hid (∀ W, Calls Tryz.prog 60 #[.agg #[.int .i64 a', .int .i64 b', .int .i64 c'], .agg #[.int .i64 a, .int .i64 b, .int .i64 c]] W (Ret W (.int .i64 n))) := Lib.hid (fun W => hn ▸ HCP.out ⟨a', b', c'⟩ ⟨a, b, c⟩ W)
              have HE : Hid ((decide (n < 0) && vnGo (prevN ns (k + 1)) (ns.drop (k + 1)) && decide (PW.length ≤ 8)) = V) := Lib.hid (by
                have h := HS3.out
                rw [prevN_pos hk0 (by omega) hx'] at h
                rw [← hn]
                exact h)
              clear e0 e1 e2 hx' hn hk0
              by_cases hnn : n < 0
              · have hge : ¬ (0 : Int) ≤ n := by omega
                have hdd : decide ((0 : Int) ≤ n) = false := decide_eq_false (by omega)
                have HE2 : Hid ((vnGo (prevN ns (k + 1)) (ns.drop (k + 1)) && decide (PW.length ≤ 8)) = V) := Lib.hid (by have h := HE.out; rw [decide_eq_true hnn] at h; exact h)
                clear hnn
                refine wp_region_grow (by kernel_rfl) (by kernel_rfl) ?_; (repeat (go_big_quiet_step ((first | (go_at_call 58; exact Ext.call _ (HVP1.out _)) | (go_at_call 59; exact Ext.call _ (HVE2.out _)) | (go_at_call 60; exact Ext.call _ (HC1.out _)))))); refine wpQuiet_nil ?_; rintro w2 ⟨n2, rfl⟩; have hb2 := n2.below; generalize n2.w = w2 at hb2 ⊢; clear n2
                have HB3 := Lib.hid hb2
                clear hb2
                go_wp2_with fail
                go_roundg (gk - 1)
                case measure => omega
                case rel => exact ⟨k + 1, by go_num, by omega, by omega, HE2, Lib.hid (Below.tr HAL.out HB3.out)⟩
              · have hge : (0 : Int) ≤ n := by omega
                have hdd : decide ((0 : Int) ≤ n) = true := decide_eq_true (by omega)
                have HE2 : Hid (false = V) := Lib.hid (by have h := HE.out; rw [decide_eq_false hnn] at h; exact h)
                clear hnn
                refine wp_region_grow (by kernel_rfl) (by kernel_rfl) ?_; (repeat (go_big_quiet_step ((first | (go_at_call 58; exact Ext.call _ (HVP1.out _)) | (go_at_call 59; exact Ext.call _ (HVE2.out _)) | (go_at_call 60; exact Ext.call _ (HC1.out _)))))); refine wpQuiet_nil ?_; rintro w2 ⟨n2, rfl⟩; have hb2 := n2.below; generalize n2.w = w2 at hb2 ⊢; clear n2
                have HB3 := Lib.hid hb2
                clear hb2
                go_wp2_with fail
                go_ret
                exact ⟨ret_bool HE2.out, Below.tr HB2.out (Below.tr HAL.out HB3.out)⟩
        · have HE : Hid (decide (PW.length ≤ 8) = V) := Lib.hid (by have h := HI.out; rw [drop_end hlt] at h; simpa [vnGo] using h)
          have hlti : ¬ (k : Int) < (ns.length : Int) := by omega
          go_wp2_with fail
          refine (HPR.out (by trivial) h8 _ (by (repeat (first | (with_reducible exact Below.refl _ _) | (with_reducible assumption) | (with_reducible refine below_drewN ?_ _) | (with_reducible refine Below.drew ?_) | (with_reducible refine Below.al ?_ _) | (with_reducible refine Below.st ?_ (by simp; try omega)) | (with_reducible refine Below.tr ?_ (Hid.out (by assumption))) | (with_reducible exact Hid.out (by assumption)))))).mono ?_
          rintro e w5 ⟨v5, rfl, hown5, hb5⟩
          have HB5 : Hid (Below w.heap.size w w5) := Lib.hid (Below.tr HBW.out hb5)
          obtain ⟨A7, c7, rfl, _, _, _⟩ := hown5.form
          clear hown5 hb5
          go_wp2_with fail
          go_ret
          exact ⟨ret_bool (by rw [← HE.out]; simp; omega), HB5.out⟩
    · have h8i : (8 : Int) < (ns.length : Int) := by omega
      have HE : Hid (false = V) := Lib.hid (by rw [HS.out, decide_eq_false h8]; rfl)
      go_enter Tryz.func20, Tryz.ntmps20
      go_wp2_with fail
      refine (HPT.out _ (by (repeat (first | (with_reducible exact Below.refl _ _) | (with_reducible assumption) | (with_reducible refine below_drewN ?_ _) | (with_reducible refine Below.drew ?_) | (with_reducible refine Below.al ?_ _) | (with_reducible refine Below.st ?_ (by simp; try omega)) | (with_reducible refine Below.tr ?_ (Hid.out (by assumption))) | (with_reducible exact Hid.out (by assumption)))))).mono ?_
      rintro e w2 ⟨rfl, hb2⟩
      have HB2 : Hid (Below w.heap.size w w2) := Lib.hid (Below.tr (Below.al (Below.refl _ _) _) hb2)
      have y1 : w2.cell? ⟨w.heap.size, 1, none⟩ = some (.slice A2 ns.length c2) := (hb2.cell (p := ⟨w.heap.size, 1, none⟩) (by simp)).trans (cellNewA w _ _ 1)
      have hz2 : w.heap.size < w2.heap.size := by have := hb2.size; simp at this; omega
      clear hb2
      go_wp2_with fail
      go_ret
      exact ⟨ret_bool HE.out, HB2.out⟩
end Go.Proofs.YtogeihdfmnohnaaGreatDoor
