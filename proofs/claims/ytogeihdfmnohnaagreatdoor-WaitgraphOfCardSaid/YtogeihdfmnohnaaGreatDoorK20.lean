/- Part 20 of 49 of the proof of waitgraphOf_holds (no condition). -/
import Derived.Test.YtogeihdfmnohnaaGreatDoorK19
import Derived.Test.YtogeihdfmnohnaaGreatDoorK02
import Derived.Test.YtogeihdfmnohnaaGreatDoorK05
set_option linter.unusedVariables false
set_option linter.unusedSimpArgs false
namespace Go.Proofs.YtogeihdfmnohnaaGreatDoor
open Go.RowKit
set_option maxHeartbeats 3200000 in
theorem measure_any : ∀ (d : Nat) (x : Ex) (A : Option Addr) (cap B g lev n : Nat) (w : World) (hm : x.kids.length ≤ maxLen) (hB : B ≤ w.heap.size) (hg : B ≤ g) (hr : RowsAt (exE d) w (Lo B) A x.kids) (hl : lev ≤ 5) (hn : n ≤ 24) (hb : Blk w g 3 #[.int .i64 (n : Int)]),
    Calls Tryz.prog 113 #[x.val A cap, .int .i64 (lev : Int), .pointer (some ⟨g, 0, none⟩)] w (RetI w g 3 (.int .i64 ((meas x lev n).1 : Int)) ((meas x lev n).2 : Int)) := by
  intro d
  induction d using Nat.strongRecOn with
  | ind d ih =>
    intro x A cap B g lev n w hm hB hg hr hl hn hb
    obtain ⟨k, ⟨nm, ⟨m, u⟩⟩, l⟩ := x
    unfold Ex.val
    rw [meas_mk]
    dsimp only [Ex.k, Ex.atom, Ex.kids] at hm hr ⊢
    have IH := Lib.hid ih
    have HR := Lib.hid hr
    have HBK := Lib.hid hb
    have p0 := hb.cellx 0 (v := .int .i64 n) rfl
    have f0 := hb.frozen 0
    have hgl := hb.lt
    clear hr ih hb
    obtain ⟨r, hr⟩ : ∃ r, (if 4 < lev ∨ 24 < n + 1 then (0, n + 1) else measL l lev (n + 1) 0) = r := ⟨_, rfl⟩
    rw [hr]
    by_cases h1 : 4 < lev ∨ 24 < n + 1
    · rw [if_pos h1] at hr
      subst hr
      dsimp only
      by_cases h2 : 4 < lev
      · have h3 : (4 : Int) < (lev : Int) := by omega
        go_enter Tryz.func113, Tryz.ntmps113
        go_wp2_with fail
        go_ret
        exact ⟨rfl, by (repeat (first | (with_reducible exact But.refl _ _) | (with_reducible assumption) | (with_reducible exact Hid.out (by assumption)) | (with_reducible refine But.drewN ?_ _) | (with_reducible refine But.drew ?_) | (with_reducible refine But.al ?_ _) | (with_reducible refine But.st ?_ (by first | exact Or.inl rfl | (right; simp; try omega))) | (with_reducible refine But.grow ?_ (Hid.out (by assumption))) | (with_reducible refine But.trans ?_ (Hid.out (by assumption))))), (HBK.out.set_ 0 _).alloc _⟩
      · have h3 : ¬ (4 : Int) < (lev : Int) := by omega
        have h4 : (24 : Int) < (n : Int) + 1 := by omega
        go_enter Tryz.func113, Tryz.ntmps113
        go_wp2_with fail
        go_ret
        exact ⟨rfl, by (repeat (first | (with_reducible exact But.refl _ _) | (with_reducible assumption) | (with_reducible exact Hid.out (by assumption)) | (with_reducible refine But.drewN ?_ _) | (with_reducible refine But.drew ?_) | (with_reducible refine But.al ?_ _) | (with_reducible refine But.st ?_ (by first | exact Or.inl rfl | (right; simp; try omega))) | (with_reducible refine But.grow ?_ (Hid.out (by assumption))) | (with_reducible refine But.trans ?_ (Hid.out (by assumption))))), (HBK.out.set_ 0 _).alloc _⟩
    · rw [if_neg h1] at hr
      have h2 : ¬ (4 : Int) < (lev : Int) := by omega
      have h3 : ¬ (24 : Int) < (n : Int) + 1 := by omega
      have HS : Hid (measL (l.drop 0) lev (n + 1) 0 = r) := Lib.hid hr
      clear hr h1
      go_enter Tryz.func113, Tryz.ntmps113
      go_wp2_with fail
      go_loopg [7, 27] l.length (fun m0 v7 v27 wq => ∃ kk dd nn : Nat, v27 = .int .i64 (kk : Int) ∧ v7 = .int .i64 (dd : Int) ∧ kk ≤ l.length ∧ l.length ≤ kk + m0 ∧ dd ≤ 5 ∧ nn ≤ 24 ∧ Hid (measL (l.drop kk) lev nn dd = r) ∧ Hid (But g w wq) ∧ Hid (Blk wq g 3 #[.int .i64 (nn : Int)]))
      case atStart =>
        refine ⟨0, 0, n + 1, rfl, rfl, Nat.zero_le _, by omega, by omega, by omega, HS, Lib.hid ?_, Lib.hid ?_⟩
        · (repeat (first | (with_reducible exact But.refl _ _) | (with_reducible assumption) | (with_reducible exact Hid.out (by assumption)) | (with_reducible refine But.drewN ?_ _) | (with_reducible refine But.drew ?_) | (with_reducible refine But.al ?_ _) | (with_reducible refine But.st ?_ (by first | exact Or.inl rfl | (right; simp; try omega))) | (with_reducible refine But.grow ?_ (Hid.out (by assumption))) | (with_reducible refine But.trans ?_ (Hid.out (by assumption)))))
        · exact (HBK.out.set_ 0 _).alloc _
      case round =>
        obtain ⟨kk, dd, nn, rfl, rfl, hk, hkm, hdd, hnn, HI, HB, HK⟩ := hrel
        have q0 := HK.out.cellx 0 (v := .int .i64 nn) rfl
        have hgr := HK.out.lt
        have hsz := HB.out.size
        by_cases hlt : kk < l.length
        · obtain ⟨⟨k1, ⟨nm1, ⟨m1, u1⟩⟩, l1⟩, hx⟩ : ∃ x, l[kk] = x := ⟨_, rfl⟩
          obtain ⟨g1, off, A1, cap1, rfl, hbl, c0, c1, c2, c3, c4, hc1, hc2, d1, rfl, hr1⟩ := ex_cells (HR.out.but (B' := B) HB.out hB hg (Nat.le_refl _)) hlt hx
          have hbl0 : g1 < B := hbl
          have hbl2 : g1 < wr.heap.size := by omega
          have hlti : (kk : Int) < (l.length : Int) := by omega
          have HR1 := Lib.hid hr1
          have HS : Hid (measL (.mk k1 ⟨nm1, ⟨m1, u1⟩⟩ l1 :: l.drop (kk + 1)) lev nn dd = r) := Lib.hid (by have h := HI.out; rw [drop_step hlt hx] at h; exact h)
          have HBR := Lib.hid (show B ≤ wr.heap.size by omega)
          have hm1 : l1.length ≤ maxLen := Nat.le_trans hc1 hc2
          clear hx hbl hr1
          rw [measL_cons] at HS
          obtain ⟨⟨a, n2⟩, hp⟩ : ∃ p, meas (.mk k1 ⟨nm1, ⟨m1, u1⟩⟩ l1) (lev + 1) nn = p := ⟨_, rfl⟩
          have hp5 : a ≤ 5 ∧ (a ≠ 0 → n2 ≤ 24) := by
            rcases meas_eq (.mk k1 ⟨nm1, ⟨m1, u1⟩⟩ l1) (lev + 1) nn with ⟨b1, b2, b3⟩ | ⟨b1, b2, b3⟩
            · rw [hp] at b3
              injection b3 with b3 b4
              exact ⟨by omega, fun _ => by omega⟩
            · rw [hp] at b2
              exact ⟨by omega, fun h => absurd b2 h⟩
          have HC : Hid (∀ W, But g wr W → Blk W g 3 #[.int .i64 (nn : Int)] → Calls Tryz.prog 113 #[.agg #[.int .i64 k1, .string nm1, .int .i64 m1, .int .i64 u1, .slice A1 l1.length cap1], .int .i64 ((lev : Int) + 1), .pointer (some ⟨g, 0, none⟩)] W (RetI W g 3 (.int .i64 (a : Int)) (n2 : Int))) := Lib.hid (fun W hb1 hb2 => by
            have h := IH.out d1 (by omega) (.mk k1 ⟨nm1, ⟨m1, u1⟩⟩ l1) A1 cap1 B g (lev + 1) nn W hm1 (Nat.le_trans HBR.out hb1.size) hg (HR1.out.but hb1 HBR.out hg (Nat.le_refl _)) (by omega) hnn hb2
            rw [hp] at h
            exact h)
          rw [hp] at HS
          dsimp only at HS
          clear hp
          go_wp2_with fail
          refine (HC.out _ (by (repeat (first | (with_reducible exact But.refl _ _) | (with_reducible assumption) | (with_reducible exact Hid.out (by assumption)) | (with_reducible refine But.drewN ?_ _) | (with_reducible refine But.drew ?_) | (with_reducible refine But.al ?_ _) | (with_reducible refine But.st ?_ (by first | exact Or.inl rfl | (right; simp; try omega))) | (with_reducible refine But.grow ?_ (Hid.out (by assumption))) | (with_reducible refine But.trans ?_ (Hid.out (by assumption)))))) (HK.out.alloc _)).mono ?_
          rintro e w2 ⟨rfl, hb2, hk2⟩
          have HB2 : Hid (But g w w2) := Lib.hid ((But.al HB.out _).trans hb2)
          have HK2 := Lib.hid hk2
          clear hb2 hk2
          by_cases ha : a = 0
          · subst ha
            have HE : Hid ((0, n2) = r) := HS
            go_wp2_with fail
            go_ret
            rw [← HE.out]
            exact ⟨rfl, HB2.out, HK2.out⟩
          · have ha2 : ¬ (a : Int) = 0 := by omega
            have HE : Hid (measL (l.drop (kk + 1)) lev n2 (max dd a) = r) := Lib.hid (by have h := HS.out; rwa [if_neg ha] at h)
            have hm2 := hm
            unfold maxLen at hm2
            go_wp2_with fail
            go_roundg (gk - 1)
            case measure => omega
            case rel => exact ⟨kk + 1, max dd a, n2, by go_num, by go_num, by omega, by omega, by omega, hp5.2 ha, HE, HB2, HK2⟩
        · have HS : Hid ((dd + 1, nn) = r) := Lib.hid (by have h := HI.out; rw [drop_end hlt] at h; exact h)
          have hlti : ¬ (kk : Int) < (l.length : Int) := by omega
          go_wp2_with fail
          go_ret
          rw [← HS.out]
          exact ⟨rfl, HB.out, HK.out⟩
structure ExF (w : World) (B d : Nat) (A : Option Addr) (x : Ex) : Prop where
  hm : x.kids.length ≤ maxLen
  hB : B ≤ w.heap.size
  hr : RowsAt (exE d) w (Lo B) A x.kids
theorem ExF.below {w w' : World} {B d : Nat} {A : Option Addr} {x : Ex} (h : ExF w B d A x) (hb : Below w.heap.size w w') : ExF w' B d A x := ⟨h.hm, Nat.le_trans h.hB hb.size, h.hr.below hb h.hB (Nat.le_refl _)⟩
theorem ExF.but {w w' : World} {B d g : Nat} {A : Option Addr} {x : Ex} (h : ExF w B d A x) (hb : But g w w') (hg : B ≤ g) : ExF w' B d A x := ⟨h.hm, Nat.le_trans h.hB hb.size, h.hr.but hb h.hB hg (Nat.le_refl _)⟩
set_option maxHeartbeats 1600000 in
theorem Depth_any (d : Nat) (x : Ex) (A : Option Addr) (cap B : Nat) (w : World) (hx : ExF w B d A x) :
    Calls Tryz.prog 75 #[x.val A cap] w (Ret w (.int .i64 ((if okB x then x.dep else 0 : Nat) : Int))) := by
  have HX := Lib.hid (fun W (hb : Below w.heap.size w W) (g : Nat) (hg : w.heap.size ≤ g) hk => by
    have := measure_any d x A cap B g 1 0 W hx.hm (Nat.le_trans hx.hB hb.size) (Nat.le_trans hx.hB hg) (hx.below hb).hr (by decide) (by decide) hk
    rwa [meas_ok] at this)
  clear hx
  obtain ⟨k, ⟨nm, ⟨m, u⟩⟩, l⟩ := x
  unfold Ex.val at *
  dsimp only [Ex.k, Ex.atom, Ex.kids] at HX ⊢
  generalize (if okB (.mk k ⟨nm, ⟨m, u⟩⟩ l) then (Ex.mk k ⟨nm, ⟨m, u⟩⟩ l).dep else 0) = r at *
  generalize (meas (.mk k ⟨nm, ⟨m, u⟩⟩ l) 1 0).2 = n2 at *
  go_enter Tryz.func75, Tryz.ntmps75
  go_wp2_with fail
  refine (HX.out _ (by (repeat (first | (with_reducible exact Below.refl _ _) | (with_reducible assumption) | (with_reducible refine below_drewN ?_ _) | (with_reducible refine Below.drew ?_) | (with_reducible refine Below.al ?_ _) | (with_reducible refine Below.st ?_ (by simp; try omega)) | (with_reducible refine Below.tr ?_ (Hid.out (by assumption))) | (with_reducible exact Hid.out (by assumption))))) (w.heap.size + 1) (by omega) (by have := Blk.new (w.alloc (.cells #[.int .i64 k, .string nm, .int .i64 m, .int .i64 u, .slice A l.length cap] 58)) 3 #[.int .i64 0]; simpa using this)).mono ?_
  rintro e w2 ⟨rfl, hb2, _⟩
  have HB2 : Hid (Below w.heap.size w w2) := Lib.hid (But.tot (by (repeat (first | (with_reducible exact Below.refl _ _) | (with_reducible assumption) | (with_reducible refine below_drewN ?_ _) | (with_reducible refine Below.drew ?_) | (with_reducible refine Below.al ?_ _) | (with_reducible refine Below.st ?_ (by simp; try omega)) | (with_reducible refine Below.tr ?_ (Hid.out (by assumption))) | (with_reducible exact Hid.out (by assumption))))) (by omega) hb2)
  clear hb2
  go_wp2_with fail
  go_ret
  exact ⟨rfl, HB2.out⟩
set_option maxHeartbeats 3200000 in
theorem Size_any : ∀ (d : Nat) (x : Ex) (A : Option Addr) (cap B dp : Nat) (w : World) (hx : ExF w B d A x) (hl : dp ≤ 5),
    Calls Tryz.prog 173 #[x.val A cap, .int .i64 (dp : Int)] w (Ret w (.tuple #[.int .i64 ((size7 x dp).1 : Int), .int .i64 ((size7 x dp).2 : Int)])) := by
  intro d
  induction d using Nat.strongRecOn with
  | ind d ih =>
    intro x A cap B dp w hx hl
    obtain ⟨k, ⟨nm, ⟨m, u⟩⟩, l⟩ := x
    obtain ⟨hm, hB, hr⟩ := hx
    unfold Ex.val
    rw [size7_mk]
    dsimp only [Ex.k, Ex.atom, Ex.kids] at hm hr ⊢
    have IH := Lib.hid ih
    have HR := Lib.hid hr
    clear hr ih
    obtain ⟨r, hr⟩ : ∃ r, (if 4 < dp ∨ 24 < l.length then (25, 0) else size7L l dp 1 0) = r := ⟨_, rfl⟩
    rw [hr]
    by_cases h1 : 4 < dp ∨ 24 < l.length
    · rw [if_pos h1] at hr
      subst hr
      dsimp only
      by_cases h2 : 4 < dp
      · have h3 : (4 : Int) < (dp : Int) := by omega
        go_enter Tryz.func173, Tryz.ntmps173
        go_wp2_with fail
        go_ret2
        exact ⟨rfl, by (repeat (first | (with_reducible exact Below.refl _ _) | (with_reducible assumption) | (with_reducible refine below_drewN ?_ _) | (with_reducible refine Below.drew ?_) | (with_reducible refine Below.al ?_ _) | (with_reducible refine Below.st ?_ (by simp; try omega)) | (with_reducible refine Below.tr ?_ (Hid.out (by assumption))) | (with_reducible exact Hid.out (by assumption))))⟩
      · have h3 : ¬ (4 : Int) < (dp : Int) := by omega
        have h4 : (24 : Int) < (l.length : Int) := by omega
        go_enter Tryz.func173, Tryz.ntmps173
        go_wp2_with fail
        go_ret2
        exact ⟨rfl, by (repeat (first | (with_reducible exact Below.refl _ _) | (with_reducible assumption) | (with_reducible refine below_drewN ?_ _) | (with_reducible refine Below.drew ?_) | (with_reducible refine Below.al ?_ _) | (with_reducible refine Below.st ?_ (by simp; try omega)) | (with_reducible refine Below.tr ?_ (Hid.out (by assumption))) | (with_reducible exact Hid.out (by assumption))))⟩
    · rw [if_neg h1] at hr
      have h2 : ¬ (4 : Int) < (dp : Int) := by omega
      have h3 : ¬ (24 : Int) < (l.length : Int) := by omega
      have h4 : l.length ≤ 24 := by omega
      have HS : Hid (size7L (l.drop 0) dp 1 0 = r) := Lib.hid hr
      clear hr h1
      go_enter Tryz.func173, Tryz.ntmps173
      go_wp2_with fail
      go_loopg [6, 7, 8] l.length (fun m0 v6 v7 v8 wq => ∃ kk dd nn : Nat, v8 = .int .i64 (kk : Int) ∧ v7 = .int .i64 (dd : Int) ∧ v6 = .int .i64 (nn : Int) ∧ kk ≤ l.length ∧ l.length ≤ kk + m0 ∧ dd ≤ 5 ∧ nn ≤ 24 ∧ Hid (size7L (l.drop kk) dp nn dd = r) ∧ Hid (Below (w.alloc (.cells #[.int .i64 k, .string nm, .int .i64 m, .int .i64 u, .slice A l.length cap] 58)).heap.size (w.alloc (.cells #[.int .i64 k, .string nm, .int .i64 m, .int .i64 u, .slice A l.length cap] 58)) wq))
      case atStart => exact ⟨0, 0, 1, rfl, rfl, rfl, Nat.zero_le _, by omega, by omega, by omega, HS, Lib.hid (Below.refl _ _)⟩
      case round =>
        obtain ⟨kk, dd, nn, rfl, rfl, rfl, hk, hkm, hdd, hnn, HI, HB⟩ := hrel
        have hb := HB.out
        have HBW : Hid (Below w.heap.size w wr) := Lib.hid (by (repeat (first | (with_reducible exact Below.refl _ _) | (with_reducible assumption) | (with_reducible refine below_drewN ?_ _) | (with_reducible refine Below.drew ?_) | (with_reducible refine Below.al ?_ _) | (with_reducible refine Below.st ?_ (by simp; try omega)) | (with_reducible refine Below.tr ?_ (Hid.out (by assumption))) | (with_reducible exact Hid.out (by assumption)))))
        obtain ⟨hc_wr, hf_wr⟩ := bcell hb
        have hs_wr := hb.size
        (try simp at hs_wr)
        have hz_wr_0 : w.heap.size < wr.heap.size := (by omega)
        clear hs_wr
        clear hb
        by_cases hlt : kk < l.length
        · obtain ⟨⟨k1, ⟨nm1, ⟨m1, u1⟩⟩, l1⟩, hx⟩ : ∃ x, l[kk] = x := ⟨_, rfl⟩
          obtain ⟨g1, off, A1, cap1, rfl, hbl, c0, c1, c2, c3, c4, hc1, hc2, d1, rfl, hr1⟩ := ex_cells (HR.out.below (B'' := B) HBW.out hB (Nat.le_refl _)) hlt hx
          have hbl0 : g1 < w.heap.size := Nat.lt_of_lt_of_le hbl hB
          have hbl2 : g1 < wr.heap.size := Nat.lt_of_lt_of_le hbl0 HBW.out.size
          have hlti : (kk : Int) < (l.length : Int) := by omega
          have HX1 : Hid (ExF wr B d1 A1 (.mk k1 ⟨nm1, ⟨m1, u1⟩⟩ l1)) := Lib.hid ⟨Nat.le_trans hc1 hc2, Nat.le_trans hB HBW.out.size, hr1⟩
          have HS : Hid (size7L (.mk k1 ⟨nm1, ⟨m1, u1⟩⟩ l1 :: l.drop (kk + 1)) dp nn dd = r) := Lib.hid (by have h := HI.out; rw [drop_step hlt hx] at h; exact h)
          clear hx hbl hr1
          rw [size7L_cons] at HS
          obtain ⟨⟨n2, a⟩, hp⟩ : ∃ p, size7 (.mk k1 ⟨nm1, ⟨m1, u1⟩⟩ l1) (dp + 1) = p := ⟨_, rfl⟩
          have hp5 : a ≤ 5 ∧ n2 ≤ 25 := by
            rcases size7_eq (.mk k1 ⟨nm1, ⟨m1, u1⟩⟩ l1) (dp + 1) with ⟨b1, b2, b3⟩ | ⟨b1, b3⟩ <;> (rw [hp] at b3; injection b3 with b3 b4; omega)
          have HC : Hid (∀ W, Below wr.heap.size wr W → Calls Tryz.prog 173 #[.agg #[.int .i64 k1, .string nm1, .int .i64 m1, .int .i64 u1, .slice A1 l1.length cap1], .int .i64 ((dp : Int) + 1)] W (Ret W (.tuple #[.int .i64 (n2 : Int), .int .i64 (a : Int)]))) := Lib.hid (fun W hb1 => by
            have h := IH.out d1 (by omega) (.mk k1 ⟨nm1, ⟨m1, u1⟩⟩ l1) A1 cap1 B (dp + 1) W (HX1.out.below hb1) (by omega)
            rw [hp] at h
            exact h)
          rw [hp] at HS
          dsimp only at HS
          obtain ⟨ha5, hn25⟩ := hp5
          clear hp
          clear hbl0
          go_wp2_with fail
          refine (HC.out _ (by (repeat (first | (with_reducible exact Below.refl _ _) | (with_reducible assumption) | (with_reducible refine below_drewN ?_ _) | (with_reducible refine Below.drew ?_) | (with_reducible refine Below.al ?_ _) | (with_reducible refine Below.st ?_ (by simp; try omega)) | (with_reducible refine Below.tr ?_ (Hid.out (by assumption))) | (with_reducible exact Hid.out (by assumption)))))).mono ?_
          rintro e w2 ⟨rfl, hb2⟩
          have HB2 : Hid (Below wr.heap.size wr w2) := Lib.hid hb2
          clear hb2
          by_cases hn2 : 24 < nn + n2
          · have hn3 : (24 : Int) < (nn : Int) + (n2 : Int) := by omega
            have HE : Hid ((25, 0) = r) := Lib.hid (by have h := HS.out; rwa [if_pos hn2] at h)
            go_wp2_with fail
            all_goals (go_ret2; exact ⟨by rw [← HE.out]; rfl, by (repeat (first | (with_reducible exact Below.refl _ _) | (with_reducible assumption) | (with_reducible refine below_drewN ?_ _) | (with_reducible refine Below.drew ?_) | (with_reducible refine Below.al ?_ _) | (with_reducible refine Below.st ?_ (by simp; try omega)) | (with_reducible refine Below.tr ?_ (Hid.out (by assumption))) | (with_reducible exact Hid.out (by assumption))))⟩)
          · have hn3 : ¬ (24 : Int) < (nn : Int) + (n2 : Int) := by omega
            by_cases hd2 : dd < a
            · have hd3 : (dd : Int) < (a : Int) := by omega
              have HE : Hid (size7L (l.drop (kk + 1)) dp (nn + n2) a = r) := Lib.hid (by have h := HS.out; rwa [if_neg hn2, if_pos hd2] at h)
              go_wp2_with fail
              go_roundg (gk - 1)
              case measure => omega
              case rel => exact ⟨kk + 1, a, nn + n2, by go_num, by go_num, by go_num, by omega, by omega, by omega, by omega, HE, Lib.hid (by (repeat (first | (with_reducible exact Below.refl _ _) | (with_reducible assumption) | (with_reducible refine below_drewN ?_ _) | (with_reducible refine Below.drew ?_) | (with_reducible refine Below.al ?_ _) | (with_reducible refine Below.st ?_ (by simp; try omega)) | (with_reducible refine Below.tr ?_ (Hid.out (by assumption))) | (with_reducible exact Hid.out (by assumption)))))⟩
            · have hd3 : ¬ (dd : Int) < (a : Int) := by omega
              have HE : Hid (size7L (l.drop (kk + 1)) dp (nn + n2) dd = r) := Lib.hid (by have h := HS.out; rwa [if_neg hn2, if_neg hd2] at h)
              go_wp2_with fail
              go_roundg (gk - 1)
              case measure => omega
              case rel => exact ⟨kk + 1, dd, nn + n2, by go_num, by go_num, by go_num, by omega, by omega, by omega, by omega, HE, Lib.hid (by (repeat (first | (with_reducible exact Below.refl _ _) | (with_reducible assumption) | (with_reducible refine below_drewN ?_ _) | (with_reducible refine Below.drew ?_) | (with_reducible refine Below.al ?_ _) | (with_reducible refine Below.st ?_ (by simp; try omega)) | (with_reducible refine Below.tr ?_ (Hid.out (by assumption))) | (with_reducible exact Hid.out (by assumption)))))⟩
        · have HS : Hid ((nn, dd + 1) = r) := Lib.hid (by have h := HI.out; rw [drop_end hlt] at h; exact h)
          have hlti : ¬ (kk : Int) < (l.length : Int) := by omega
          go_wp2_with fail
          go_ret2
          exact ⟨by rw [← HS.out]; rfl, HBW.out⟩
end Go.Proofs.YtogeihdfmnohnaaGreatDoor
namespace Go.Proofs.YtogeihdfmnohnaaGreatDoor
open Go.RowKit
def atom0 : Tm := ⟨⟨#[]⟩, Am.zero⟩
def atomB (a : Tm) : Bool := nameB a.name.toList && usableB a.am
def hasA (a : Tm) : List Tm → Bool
  | [] => false
  | b :: l => bif decide (b = a) then true else hasA a l
theorem hasA_cons (a b : Tm) (l : List Tm) : hasA a (b :: l) = bif decide (b = a) then true else hasA a l := rfl
theorem hasA_iff (a : Tm) (l : List Tm) : hasA a l = true ↔ a ∈ l := by
  induction l with
  | nil => simp [hasA]
  | cons b l ih =>
    rw [hasA_cons, List.mem_cons]
    by_cases h : b = a
    · simp [h]
    · simp [h, ih, Ne.symm h]
def addA (l : List Tm) (a : Tm) : List Tm := bif hasA a l then l else l ++ [a]
def headB (k : Int) (a : Tm) (l : List Ex) : Bool := bif l.isEmpty then decide (k = 0) && atomB a else decide (1 ≤ k) && decide (k ≤ (l.length : Int)) && decide (a = atom0)
mutual
def shB : Ex → Bool
  | .mk k a l => headB k a l && shL l
def shL : List Ex → Bool
  | [] => true
  | x :: l => shB x && shL l
end
mutual
def coll : Ex → List Tm → List Tm
  | .mk _ a l, acc => bif l.isEmpty then addA acc a else collL l acc
def collL : List Ex → List Tm → List Tm
  | [], acc => acc
  | x :: l, acc => collL l (coll x acc)
end
theorem shB_mk (k : Int) (a : Tm) (l : List Ex) : shB (.mk k a l) = (headB k a l && shL l) := rfl
theorem shL_cons (x : Ex) (l : List Ex) : shL (x :: l) = (shB x && shL l) := rfl
theorem coll_mk (k : Int) (a : Tm) (l : List Ex) (acc : List Tm) : coll (.mk k a l) acc = bif l.isEmpty then addA acc a else collL l acc := rfl
theorem collL_cons (x : Ex) (l : List Ex) (acc : List Tm) : collL (x :: l) acc = collL l (coll x acc) := rfl
def leafA (k : Int) (a : Tm) (acc : List Tm) : Option (List Tm) := bif decide (k = 0) && atomB a then some (addA acc a) else none
def grpB (k : Int) (a : Tm) (l : List Ex) : Bool := decide (1 ≤ k) && decide (k ≤ (l.length : Int)) && decide (a = atom0)
mutual
def addS : Ex → List Tm → Option (List Tm)
  | .mk k a l, acc => bif l.isEmpty then leafA k a acc else bif grpB k a l then addL l acc else none
def addL : List Ex → List Tm → Option (List Tm)
  | [], acc => some acc
  | x :: l, acc => (addS x acc).bind fun r => addL l r
end
theorem addS_mk (k : Int) (a : Tm) (l : List Ex) (acc : List Tm) : addS (.mk k a l) acc = bif l.isEmpty then leafA k a acc else bif grpB k a l then addL l acc else none := rfl
theorem addL_cons (x : Ex) (l : List Ex) (acc : List Tm) : addL (x :: l) acc = (addS x acc).bind fun r => addL l r := rfl
theorem addS_eq : ∀ (x : Ex) (acc : List Tm), addS x acc = if shB x then some (coll x acc) else none := by
  refine Ex.ind (fun k a l ih => ?_)
  have hl : ∀ (m : List Ex) (acc : List Tm), (∀ x ∈ m, x ∈ l) → addL m acc = if shL m then some (collL m acc) else none := by
    intro m
    induction m with
    | nil => intro acc _; rfl
    | cons x m ihm =>
      intro acc hm
      rw [addL_cons, shL_cons, collL_cons, ih x (hm x (by simp))]
      cases h : shB x with
      | false => simp
      | true => simpa using ihm (coll x acc) fun y hy => hm y (by simp [hy])
  intro acc
  rw [addS_mk, shB_mk, coll_mk, hl l acc fun _ h => h]
  unfold headB leafA grpB
  cases hE : l.isEmpty with
  | true =>
    obtain rfl := List.isEmpty_iff.1 hE
    simp [shL, Bool.cond_eq_ite]
  | false =>
    simp only [cond_false]
    cases decide (1 ≤ k) && decide (k ≤ (l.length : Int)) && decide (a = atom0) <;> simp
theorem addA_len (l : List Tm) (a : Tm) : (addA l a).length ≤ l.length + 1 := by
  unfold addA
  cases hasA a l <;> simp
theorem coll_len : ∀ (x : Ex) (acc : List Tm), (coll x acc).length ≤ acc.length + x.cnt := by
  refine Ex.ind (fun k a l ih => ?_)
  have hl : ∀ (m : List Ex) (acc : List Tm), (∀ x ∈ m, x ∈ l) → (collL m acc).length ≤ acc.length + cntL m := by
    intro m
    induction m with
    | nil => intro acc _; exact Nat.le_refl _
    | cons x m ihm =>
      intro acc hm
      rw [collL_cons, cntL_cons]
      have h1 := ihm (coll x acc) fun y hy => hm y (by simp [hy])
      have h2 := ih x (hm x (by simp)) acc
      omega
  intro acc
  rw [coll_mk, Ex.cnt_mk]
  cases l.isEmpty with
  | true => have := addA_len acc a; simp only [cond_true]; omega
  | false => have := hl l acc (fun _ h => h); simp only [cond_false]; omega
theorem addS_len (x : Ex) (acc r : List Tm) (h : addS x acc = some r) : r.length ≤ acc.length + x.cnt := by
  rw [addS_eq] at h
  split at h
  · injection h with h
    rw [← h]
    exact coll_len x acc
  · cases h
def noteO : List Tm → List Tm → Tm → Option (List Tm)
  | [], acc, a => if acc.length = 8 then none else some (acc ++ [a])
  | b :: l, acc, a => bif decide (a = b) then some acc else bif decide (a.name = b.name) then none else noteO l acc a
theorem noteO_cons (b : Tm) (l acc : List Tm) (a : Tm) : noteO (b :: l) acc a = bif decide (a = b) then some acc else bif decide (a.name = b.name) then none else noteO l acc a := rfl
def leafN (k : Int) (a : Tm) (acc : List Tm) : Option (List Tm) := bif decide (k = 0) && atomB a then noteO acc acc a else none
mutual
def prS : Ex → List Tm → Option (List Tm)
  | .mk k a l, acc => bif l.isEmpty then leafN k a acc else bif grpB k a l then prL l acc else none
def prL : List Ex → List Tm → Option (List Tm)
  | [], acc => some acc
  | x :: l, acc => (prS x acc).bind fun r => prL l r
end
theorem prS_mk (k : Int) (a : Tm) (l : List Ex) (acc : List Tm) : prS (.mk k a l) acc = bif l.isEmpty then leafN k a acc else bif grpB k a l then prL l acc else none := rfl
theorem prL_cons (x : Ex) (l : List Ex) (acc : List Tm) : prL (x :: l) acc = (prS x acc).bind fun r => prL l r := rfl
def okL (l : List Tm) : Prop := l.length ≤ 8 ∧ l.Pairwise fun a b => a.name ≠ b.name
theorem noteO_eq (acc : List Tm) (a : Tm) (hacc : okL acc) : (okL (addA acc a) → noteO acc acc a = some (addA acc a)) ∧ (¬ okL (addA acc a) → noteO acc acc a = none) := by
  have h : ∀ (l p : List Tm), acc = p ++ l → (∀ b ∈ p, a ≠ b ∧ a.name ≠ b.name) → (okL (addA acc a) → noteO l acc a = some (addA acc a)) ∧ (¬ okL (addA acc a) → noteO l acc a = none) := by
    intro l
    induction l with
    | nil =>
      intro p hp hn
      have hno : hasA a acc = false := by
        rw [Bool.eq_false_iff]
        intro h
        rw [hasA_iff, hp, List.append_nil] at h
        exact (hn a h).1 rfl
      have he : addA acc a = acc ++ [a] := by unfold addA; rw [hno]; rfl
      rw [he]
      unfold okL noteO
      rw [List.length_append, List.pairwise_append]
      have hp2 : ∀ b ∈ acc, ∀ c ∈ [a], b.name ≠ c.name := by
        intro b hb c hc
        rw [List.mem_singleton.1 hc]
        rw [hp, List.append_nil] at hb
        exact fun e => (hn b hb).2 e.symm
      constructor
      · intro h
        rw [if_neg]
        have := h.1
        simp at this
        omega
      · intro h
        rw [if_pos]
        have h8 := hacc.1
        refine Classical.byContradiction fun h9 => h ⟨by simp; omega, hacc.2, by simp, hp2⟩
    | cons b l ih =>
      intro p hp hn
      rw [noteO_cons]
      by_cases h1 : a = b
      · have hi : hasA a acc = true := by rw [hasA_iff, hp, h1]; simp
        have he : addA acc a = acc := by unfold addA; rw [hi]; rfl
        rw [he]
        simp [h1, hacc]
      · by_cases h2 : a.name = b.name
        · have hb : b ∈ acc := by rw [hp]; simp
          have hno : hasA a acc = false := by
            rw [Bool.eq_false_iff]
            intro h
            rw [hasA_iff] at h
            have hpw := hacc.2
            rcases List.mem_iff_getElem.1 h with ⟨i, hi, ei⟩
            rcases List.mem_iff_getElem.1 hb with ⟨j, hj, ej⟩
            rw [List.pairwise_iff_getElem] at hpw
            rcases Nat.lt_trichotomy i j with hij | hij | hij
            · exact hpw i j hi hj hij (by rw [ei, ej]; exact h2)
            · subst hij; exact h1 (ei.symm.trans ej)
            · exact hpw j i hj hi hij (by rw [ei, ej]; exact h2.symm)
          have he : addA acc a = acc ++ [a] := by unfold addA; rw [hno]; rfl
          have hbad : ¬ okL (addA acc a) := by
            rw [he]
            intro h
            have := (List.pairwise_append.1 h.2).2.2 b hb a (by simp)
            exact this h2.symm
          simp [h1, h2, hbad]
        · simp only [h1, h2, decide_false, cond_false]
          exact ih (p ++ [b]) (by rw [hp]; simp) (by
            intro c hc
            rcases List.mem_append.1 hc with hc | hc
            · exact hn c hc
            · rw [List.mem_singleton.1 hc]
              exact ⟨h1, h2⟩)
  exact h acc [] rfl (by simp)
theorem coll_pre : ∀ (x : Ex) (acc : List Tm), ∃ t, coll x acc = acc ++ t := by
  refine Ex.ind (fun k a l ih => ?_)
  have hl : ∀ (m : List Ex) (acc : List Tm), (∀ x ∈ m, x ∈ l) → ∃ t, collL m acc = acc ++ t := by
    intro m
    induction m with
    | nil => intro acc _; exact ⟨[], by simp [collL]⟩
    | cons x m ihm =>
      intro acc hm
      obtain ⟨t, ht⟩ := ih x (hm x (by simp)) acc
      obtain ⟨t', ht'⟩ := ihm (coll x acc) fun y hy => hm y (by simp [hy])
      exact ⟨t ++ t', by rw [collL_cons, ht', ht, List.append_assoc]⟩
  intro acc
  rw [coll_mk]
  cases l.isEmpty with
  | true =>
    unfold addA
    cases hasA a acc with
    | true => exact ⟨[], by simp⟩
    | false => exact ⟨[a], rfl⟩
  | false => exact hl l acc fun _ h => h
theorem collL_pre : ∀ (m : List Ex) (acc : List Tm), ∃ t, collL m acc = acc ++ t
  | [], acc => ⟨[], by simp [collL]⟩
  | x :: m, acc => by
    obtain ⟨t, ht⟩ := coll_pre x acc
    obtain ⟨t', ht'⟩ := collL_pre m (coll x acc)
    exact ⟨t ++ t', by rw [collL_cons, ht', ht, List.append_assoc]⟩
theorem okL_pre {l t : List Tm} (h : okL (l ++ t)) : okL l := ⟨by have := h.1; simp at this; omega, (List.pairwise_append.1 h.2).1⟩
theorem prS_eq : ∀ (x : Ex) (acc : List Tm), okL acc → (shB x = true ∧ okL (coll x acc) → prS x acc = some (coll x acc)) ∧ (¬ (shB x = true ∧ okL (coll x acc)) → prS x acc = none) := by
  refine Ex.ind (fun k a l ih => ?_)
  have hl : ∀ (m : List Ex) (acc : List Tm), (∀ x ∈ m, x ∈ l) → okL acc → (shL m = true ∧ okL (collL m acc) → prL m acc = some (collL m acc)) ∧ (¬ (shL m = true ∧ okL (collL m acc)) → prL m acc = none) := by
    intro m
    induction m with
    | nil => intro acc _ h; exact ⟨fun _ => rfl, fun h2 => absurd ⟨rfl, h⟩ h2⟩
    | cons x m ihm =>
      intro acc hm h
      rw [prL_cons, shL_cons, collL_cons]
      have hx := ih x (hm x (by simp)) acc h
      by_cases h1 : shB x = true ∧ okL (coll x acc)
      · rw [hx.1 h1, Option.bind_some]
        have h2 := ihm (coll x acc) (fun y hy => hm y (by simp [hy])) h1.2
        rw [h1.1, Bool.true_and]
        exact h2
      · rw [hx.2 h1, Option.bind_none]
        refine ⟨fun h2 => absurd ⟨?_, ?_⟩ h1, fun _ => rfl⟩
        · have := h2.1
          simp at this
          exact this.1
        · obtain ⟨t, ht⟩ := collL_pre m (coll x acc)
          have := h2.2
          rw [ht] at this
          exact okL_pre this
  intro acc h
  rw [prS_mk, shB_mk, coll_mk]
  unfold leafN headB
  cases hE : l.isEmpty with
  | true =>
    obtain rfl := List.isEmpty_iff.1 hE
    simp only [cond_true, shL, Bool.and_true]
    have hn := noteO_eq acc a h
    cases hk : decide (k = 0) && atomB a with
    | true => simpa using hn
    | false => simp
  | false =>
    simp only [cond_false]
    have h2 := hl l acc (fun _ h => h) h
    unfold grpB
    cases decide (1 ≤ k) && decide (k ≤ (l.length : Int)) && decide (a = atom0) with
    | true => simpa using h2
    | false => simp
theorem noteO_len : ∀ (l acc : List Tm) (a : Tm) (r : List Tm), acc.length ≤ 8 → noteO l acc a = some r → r.length ≤ 8
  | [], acc, a, r, h, e => by
    unfold noteO at e
    split at e
    · cases e
    · injection e with e
      rw [← e, List.length_append]
      simp
      omega
  | b :: l, acc, a, r, h, e => by
    rw [noteO_cons] at e
    cases h1 : decide (a = b) with
    | true => rw [h1] at e; injection e with e; rw [← e]; exact h
    | false =>
      cases h2 : decide (a.name = b.name) with
      | true => rw [h1, h2] at e; cases e
      | false => rw [h1, h2] at e; exact noteO_len l acc a r h e
theorem prS_len : ∀ (x : Ex) (acc r : List Tm), acc.length ≤ 8 → prS x acc = some r → r.length ≤ 8 := by
  refine Ex.ind (fun k a l ih => ?_)
  have hl : ∀ (m : List Ex) (acc r : List Tm), (∀ x ∈ m, x ∈ l) → acc.length ≤ 8 → prL m acc = some r → r.length ≤ 8 := by
    intro m
    induction m with
    | nil => intro acc r _ h e; injection e with e; rw [← e]; exact h
    | cons x m ihm =>
      intro acc r hm h e
      rw [prL_cons] at e
      cases h1 : prS x acc with
      | none => rw [h1] at e; cases e
      | some r1 =>
        rw [h1] at e
        exact ihm r1 r (fun y hy => hm y (by simp [hy])) (ih x (hm x (by simp)) acc r1 h h1) e
  intro acc r h e
  rw [prS_mk] at e
  unfold leafN at e
  cases hE : l.isEmpty with
  | true =>
    rw [hE] at e
    cases hk : decide (k = 0) && atomB a with
    | true => rw [hk] at e; exact noteO_len acc acc a r h e
    | false => rw [hk] at e; cases e
  | false =>
    rw [hE] at e
    cases hg : grpB k a l with
    | true => rw [hg] at e; exact hl l acc r (fun _ h => h) h e
    | false => rw [hg] at e; cases e
instance (l : List Tm) : Decidable (okL l) := by unfold okL; infer_instance
def veB (x : Ex) : Bool := okB x && (shB x && decide (okL (coll x [])))
def atS (x : Ex) : List Tm := bif veB x then coll x [] else []
theorem okL_nil : okL [] := ⟨by simp, List.Pairwise.nil⟩
theorem veB_pr (x : Ex) : veB x = (okB x && (prS x []).isSome) := by
  have h := prS_eq x [] okL_nil
  unfold veB
  congr 1
  by_cases h1 : shB x = true ∧ okL (coll x [])
  · rw [h.1 h1, h1.1]; simp [h1.2]
  · rw [h.2 h1]
    cases hs : shB x with
    | false => simp
    | true => simp only [hs, true_and] at h1; simp [h1]
end Go.Proofs.YtogeihdfmnohnaaGreatDoor
