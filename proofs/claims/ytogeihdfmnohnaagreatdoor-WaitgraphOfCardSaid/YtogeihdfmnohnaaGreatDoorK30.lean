/- Part 30 of 49 of the proof of waitgraphOf_holds (no condition). -/
import Derived.Test.YtogeihdfmnohnaaGreatDoorK29
import Derived.Test.YtogeihdfmnohnaaGreatDoorK27
set_option linter.unusedVariables false
set_option linter.unusedSimpArgs false
namespace Go.Proofs.YtogeihdfmnohnaaGreatDoor
open Go.RowKit
theorem stateB_short {s : Ws} (h : stateB s = true) : s.queues.length ≤ 8 ∧ (∀ q ∈ s.queues, shortQ q) ∧ s.needs.length ≤ 8 := by
  unfold stateB at h
  simp only [Bool.and_eq_true, decide_eq_true_eq] at h
  have h2 := partsB_short h.1.1.1
  exact ⟨h2.1, h2.2, h.1.1.2⟩
theorem boTB : ElTB Tryz.prog boolE 74 4 1 := ElTB.mk' Tryz.underlying74 (.bool false) 1 1 (by kernel_rfl) rfl rfl
theorem waitT_find (n : ByteArray) (p : Pr) (l : List Qu) : (findT n 0 l = -1 ∧ waitT n p l = false) ∨ ∃ i, ∃ h : i < l.length, findT n 0 l = (i : Int) ∧ waitT n p l = (wantedS l[i] p).isSome := by
  rcases findT_spec n p l 0 with h | ⟨i, hi, h1, h2, _⟩
  · exact .inl h
  · exact .inr ⟨i, hi, by rw [h1, Nat.zero_add], h2⟩
set_option maxRecDepth 100000 in
set_option maxHeartbeats 6400000 in
theorem Granted_any (s : Ws) (d : Nat) (A1 A2 : Option Addr) (c1 c2 B : Nat) (x y z : Int) (w : World) (hT : Tog w) (hw : WF w B d A1 A2 s) :
    Calls Tryz.prog 48 #[s.val A1 A2 c1 c2, .agg #[.int .i64 x, .int .i64 y, .int .i64 z]] w (RetRow boolE 4 w (grantS s ⟨x, y, z⟩)) := by
  have HN := Lib.hid (fun W (hb : Below w.heap.size w W) => place_any d A2 B c2 s.needs x y z W hw.m2 (Nat.le_trans hw.hB hb.size) (hw.r2.below hb hw.hB (Nat.le_refl _)))
  have HV := Lib.hid (fun W (hb : Below w.heap.size w W) => WValidS_any s d A1 A2 c1 c2 B W (hT.below hb) (hw.below hb))
  have HF := Lib.hid (fun n W (hb : Below w.heap.size w W) => TFind_any A1 B c1 s.queues n W hw.m1 (Nat.le_trans hw.hB hb.size) (hw.r1.below hb hw.hB (Nat.le_refl _)))
  have HW := Lib.hid (fun q A1 A2 A3 c1 c2 c3 W (hq : QF W B A1 A2 A3 q) (h : shortQ q) => QWanted_any q A1 A2 A3 c1 c2 c3 x y z W B hq h.2.1 h.2.2)
  have HA := Lib.hid (fun x A cap B W (hx : ExF W B d A x) => Atoms_any d x A cap B W hx)
  have HG : Hid (grantS s ⟨x, y, z⟩ = match needS s.needs ⟨x, y, z⟩ with | none => [] | some x' => bif stateB s then (atS x'.expr).map (fun a => !waitT a.name ⟨x, y, z⟩ s.queues) else []) := Lib.hid rfl
  have HFS := Lib.hid (findN_spec ⟨x, y, z⟩ s.needs 0)
  have HSH := Lib.hid (stateB_short (s := s))
  have HAL := Lib.hid (fun x => (by
    have h := @veB_sh x
    have h2 := @atS_no x
    cases hv : veB x with
    | true => exact (h hv).2.2.1
    | false => rw [h2 hv]; simp : (atS x).length ≤ 8))
  have HRQ := Lib.hid hw.r1
  have HRN := Lib.hid hw.r2
  have HBw := Lib.hid hw.hB
  have HM2 := hw.m2
  have HM1 := hw.m1
  unfold maxLen at HM1 HM2
  clear hw hT
  obtain ⟨R, hR⟩ : ∃ r, grantS s ⟨x, y, z⟩ = r := ⟨_, rfl⟩
  rw [hR] at HG ⊢
  clear hR
  generalize stateB s = V at *
  obtain ⟨qs, ns⟩ := s
  unfold Ws.val at *
  dsimp only at HN HV HF HW HG HFS HSH HRQ HRN HM1 HM2 ⊢
  have HS : Hid (Blk ((w.alloc (.cells #[.slice A1 qs.length c1, .slice A2 ns.length c2] 25)).alloc (.cells #[.int .i64 x, .int .i64 y, .int .i64 z] 51)) w.heap.size 25 #[.slice A1 qs.length c1, .slice A2 ns.length c2]) := Lib.hid ((Blk.new w _ _).alloc _)
  have HP : Hid (Blk ((w.alloc (.cells #[.slice A1 qs.length c1, .slice A2 ns.length c2] 25)).alloc (.cells #[.int .i64 x, .int .i64 y, .int .i64 z] 51)) (w.heap.size + 1) 51 #[.int .i64 x, .int .i64 y, .int .i64 z]) := Lib.hid (by
    have := Blk.new (w.alloc (.cells #[.slice A1 qs.length c1, .slice A2 ns.length c2] 25)) 51 #[.int .i64 x, .int .i64 y, .int .i64 z]
    rwa [size_alloc_1] at this)
  have HW3 : Hid (Below w.heap.size w ((w.alloc (.cells #[.slice A1 qs.length c1, .slice A2 ns.length c2] 25)).alloc (.cells #[.int .i64 x, .int .i64 y, .int .i64 z] 51))) := Lib.hid (Below.al (Below.al (Below.refl _ _) _) _)
  have HK : Hid (∀ b W, Sem.run Tryz.prog (callFunc 53 b) W = .ok (.enter 53 b) W) := Lib.hid (fun b W => by kernel_rfl)
  go_enter Tryz.func48, Tryz.ntmps48
  go_wp2_with fail
  generalize (w.alloc (.cells #[.slice A1 qs.length c1, .slice A2 ns.length c2] 25)).alloc (.cells #[.int .i64 x, .int .i64 y, .int .i64 z] 51) = w3 at *
  refine (HN.out _ HW3.out).mono ?_
  rintro e w4 ⟨rfl, hb4⟩
  have HB4 : Hid (Below w.heap.size w w4) := Lib.hid (Below.tr HW3.out hb4)
  have HS4 := Lib.hid (HS.out.below hb4 HS.out.lt)
  have HP4 := Lib.hid (HP.out.below hb4 HP.out.lt)
  have s0 := HS4.out.cellx 0 (v := .slice A1 qs.length c1) rfl
  have s1 := HS4.out.cellx 1 (v := .slice A2 ns.length c2) rfl
  have hz4' := HS4.out.lt
  clear hb4
  rcases HFS.out with ⟨h1, h2⟩ | ⟨i, hi, h1, h2⟩
  · have HE : Hid (R = []) := Lib.hid (by rw [HG.out, h2])
    rw [h1]
    clear HFS h1 h2
    go_wp2_with fail
    go_ret
    exact ⟨_, rfl, by rw [HE.out]; exact OwnRows.nil _ _ _ _ HB4.out.size, HB4.out⟩
  · have hi0 : ((0 + i : Nat) : Int) = (i : Int) := by omega
    rw [h1, hi0]
    have hge : ¬ (i : Int) < 0 := by omega
    have hiti : (i : Int) < (ns.length : Int) := by omega
    have HG2 : Hid (R = bif V then (atS ns[i].expr).map (fun a => !waitT a.name ⟨x, y, z⟩ qs) else []) := Lib.hid (by rw [HG.out, h2])
    clear HFS h1 h2 HG hi0
    go_wp2_with fail
    refine (HV.out _ HB4.out).mono ?_
    rintro e w6 ⟨rfl, hb6⟩
    have HB6 : Hid (Below w.heap.size w w6) := Lib.hid (Below.tr HB4.out hb6)
    have HS6 := Lib.hid (HS4.out.below hb6 HS4.out.lt)
    have HP6 := Lib.hid (HP4.out.below hb6 HP4.out.lt)
    clear hb6 s0 s1 hz4'
    have s1 := HS6.out.cellx 1 (v := .slice A2 ns.length c2) rfl
    have hz6' := HS6.out.lt
    cases V with
    | false =>
      have HE : Hid (R = []) := HG2
      go_wp2_with fail
      go_ret
      exact ⟨_, rfl, by rw [HE.out]; exact OwnRows.nil _ _ _ _ HB6.out.size, HB6.out⟩
    | true =>
      have HSQ := Lib.hid ((HSH.out (by trivial)).2.1)
      have HBR : Hid (B ≤ w6.heap.size) := Lib.hid (Nat.le_trans HBw.out HB6.out.size)
      obtain ⟨⟨⟨a, b, c⟩, ⟨k, ⟨nm, ⟨m, u⟩⟩, l⟩, gen⟩, hx⟩ : ∃ x, ns[i] = x := ⟨_, rfl⟩
      rw [hx] at HG2
      obtain ⟨g, off, A3, c3, rfl, hbl, d0, d1, d2, d3, d4, d5, d6, d7, d8, hxf⟩ := nd_cells (HRN.out.below (B'' := B) HB6.out HBw.out (Nat.le_refl _)) HBR.out hi hx
      have hbl2 : g < w6.heap.size := Nat.lt_of_lt_of_le hbl HBR.out
      have HAC := Lib.hid (HA.out (.mk k ⟨nm, ⟨m, u⟩⟩ l) A3 c3 B w6 hxf)
      have hL8 := HAL.out (.mk k ⟨nm, ⟨m, u⟩⟩ l)
      unfold Ex.val at HAC
      dsimp only [Ex.k, Ex.atom, Ex.kids] at HAC HG2
      have HG3 : Hid (R = (atS (.mk k ⟨nm, ⟨m, u⟩⟩ l)).map (fun a => !waitT a.name ⟨x, y, z⟩ qs)) := HG2
      generalize atS (.mk k ⟨nm, ⟨m, u⟩⟩ l) = L at *
      clear HG2 hx hbl hxf
      go_wp2_with fail
      refine HAC.out.mono ?_
      rintro e w7 ⟨v7, rfl, ho7, hb7⟩
      obtain ⟨A7, c7, rfl, hr7, hl7, hm7⟩ := ho7.form
      have HR7 := Lib.hid hr7
      have HB7 : Hid (Below w.heap.size w w7) := Lib.hid (Below.tr HB6.out hb7)
      have HS7 := Lib.hid (HS6.out.below hb7 HS6.out.lt)
      have HP7 := Lib.hid (HP6.out.below hb7 HP6.out.lt)
      clear hb7 ho7 hr7 d0 d1 d2 d3 d4 d5 d6 d7 d8 s1 hz6'
      have HQ0 : Hid (R = [] ++ (L.drop 0).map (fun a => !waitT a.name ⟨x, y, z⟩ qs)) := Lib.hid (by rw [HG3.out]; simp)
      clear HG3
      go_wp2_with fail
      go_loopg [6, 30] L.length (fun m0 v6 v30 wq => ∃ (j : Nat) (bs : List Bool), v30 = .int .i64 (j : Int) ∧ j ≤ L.length ∧ L.length ≤ j + m0 ∧ bs.length = j ∧ Hid (R = bs ++ (L.drop j).map (fun a => !waitT a.name ⟨x, y, z⟩ qs)) ∧ Hid (OwnRows boolE 4 wq w7.heap.size v6 bs) ∧ Hid (Below w7.heap.size w7 wq))
      case atStart => exact ⟨0, [], rfl, Nat.zero_le _, by omega, rfl, HQ0, Lib.hid (OwnRows.nil _ _ _ _ (Nat.le_refl _)), Lib.hid (Below.refl _ _)⟩
      case round =>
        obtain ⟨j, bs, rfl, hj, hjm, hbl, HI, HO, HB⟩ := hrel
        have HBW : Hid (Below w.heap.size w wr) := Lib.hid (Below.tr HB7.out HB.out)
        by_cases hlt : j < L.length
        · have hlti : (j : Int) < (L.length : Int) := by omega
          obtain ⟨⟨n1, ⟨m1, u1⟩⟩, hx⟩ : ∃ x, L[j] = x := ⟨_, rfl⟩
          have HS9 := Lib.hid (HS7.out.below HB.out HS7.out.lt)
          have HP9 := Lib.hid (HP7.out.below HB.out HP7.out.lt)
          have s0 := HS9.out.cellx 0 (v := .slice A1 qs.length c1) rfl
          have hz9' := HS9.out.lt
          obtain ⟨g1, off1, rfl, hgl, e0, e1, e2⟩ := tm_cells (HR7.out.below (B'' := w7.heap.size) HB.out (Nat.le_refl _) (Nat.le_refl _)) hlt hx
          have hgl2 : g1 < wr.heap.size := Nat.lt_of_lt_of_le hgl HB.out.size
          have HE : Hid (R = (bs ++ [!waitT n1 ⟨x, y, z⟩ qs]) ++ (L.drop (j + 1)).map (fun a => !waitT a.name ⟨x, y, z⟩ qs)) := Lib.hid (by have h := HI.out; rw [drop_step hlt hx] at h; rw [h, List.append_assoc]; rfl)
          have HTF := Lib.hid (waitT_find n1 ⟨x, y, z⟩ qs)
          generalize waitT n1 ⟨x, y, z⟩ qs = q at *
          have HFC := Lib.hid (fun W hb => HF.out n1 W hb)
          generalize findT n1 0 qs = fi at *
          clear hx hgl
          go_wp2_with fail
          refine (HFC.out _ (by (repeat (first | (with_reducible exact Below.refl _ _) | (with_reducible assumption) | (with_reducible refine below_drewN ?_ _) | (with_reducible refine Below.drew ?_) | (with_reducible refine Below.al ?_ _) | (with_reducible refine Below.st ?_ (by simp; try omega)) | (with_reducible refine Below.tr ?_ (Hid.out (by assumption))) | (with_reducible exact Hid.out (by assumption)))))).mono ?_
          rintro e w9 ⟨rfl, hb9⟩
          have HB9 : Hid (Below wr.heap.size wr w9) := Lib.hid (Below.tr (Below.al (Below.refl _ _) _) hb9)
          have HB9W : Hid (Below w.heap.size w w9) := Lib.hid (Below.tr HBW.out HB9.out)
          have HS10 := Lib.hid (HS9.out.below HB9.out HS9.out.lt)
          have HP10 := Lib.hid (HP9.out.below HB9.out HP9.out.lt)
          have HO10 := Lib.hid (HO.out.below HB9.out (Nat.le_refl _))
          clear hb9 s0 hz9' e0 e1 e2
          have s0 := HS10.out.cellx 0 (v := .slice A1 qs.length c1) rfl
          have hz10' := HS10.out.lt
          rcases HTF.out with ⟨h1, h2⟩ | ⟨i2, hi2, h1, h2⟩
          · subst h1 h2
            go_wp2_with (at_builtin; refine pushOneB boTB rfl (.tmp 51) (.tmp 54) rfl w9 w7.heap.size u6 bs true [.bool true] _ rfl rfl HO10.out w9.heap.size rfl rfl rfl (by unfold maxLen; omega) (by omega) ?_; intro v11 w11 hown hb hsp; have HB11 : Hid (Below w7.heap.size w7 w11) := Lib.hid ((HB.out.trans (HB9.out.mono HB.out.size)).trans hb); have HO11 := Lib.hid hown; clear hown hb hsp)
            go_roundg (gk - 1)
            case measure => omega
            case rel => exact ⟨j + 1, bs ++ [true], by go_num, by omega, by omega, by rw [List.length_append]; simp; omega, HE, HO11, HB11⟩
          · subst h1
            have hge2 : ¬ (i2 : Int) < 0 := by omega
            have hge3 : (0 : Int) ≤ (i2 : Int) := by omega
            have hi2i : (i2 : Int) < (qs.length : Int) := by omega
            have HBR2 : Hid (B ≤ w9.heap.size) := Lib.hid (Nat.le_trans HBw.out HB9W.out.size)
            obtain ⟨qu, hx⟩ : ∃ x, qs[i2] = x := ⟨_, rfl⟩
            have HSQ1 : Hid (shortQ qu) := Lib.hid (hx ▸ HSQ.out _ (List.getElem_mem hi2))
            obtain ⟨g2, off2, B1, B2, B3, e1, e2, e3, rfl, hgl3, d0, d1, d2, d3, d4, d5, d6, d7, hqf⟩ := qu_cells (HRQ.out.below (B'' := B) HB9W.out HBw.out (Nat.le_refl _)) HBR2.out hi2 hx
            have hgl4 : g2 < w9.heap.size := Nat.lt_of_lt_of_le hgl3 HBR2.out
            have HQ := Lib.hid (fun W (hb : Below w9.heap.size w9 W) => HW.out qu B1 B2 B3 e1 e2 e3 W (hqf.below hb) HSQ1.out)
            rw [hx] at h2
            have HQE := Lib.hid h2
            clear h2 hx hgl3 hqf HTF HFC
            have p0 := HP10.out.cellx 0 (v := .int .i64 x) rfl
            have p1 := HP10.out.cellx 1 (v := .int .i64 y) rfl
            have p2 := HP10.out.cellx 2 (v := .int .i64 z) rfl
            have hz11 := HP10.out.lt
            obtain ⟨⟨qnm, kd, un, h⟩, hs, cs, ws, qgen⟩ := qu
            unfold Qu.val at HQ
            dsimp only at d0 d1 d2 d3 d4 d5 d6 d7 HQ
            generalize wantedS ⟨⟨qnm, kd, un, h⟩, hs, cs, ws, qgen⟩ ⟨x, y, z⟩ = o at *
            obtain ⟨qb, hqb⟩ : ∃ b, o.isSome = b := ⟨_, rfl⟩
            have HW1 : Hid (∃ t, wantV o = .tuple #[t, .bool qb]) := Lib.hid (by subst hqb; cases o with
              | none => exact ⟨_, rfl⟩
              | some a => exact ⟨_, rfl⟩)
            obtain ⟨tv, htv⟩ := HW1.out
            rw [htv] at HQ
            have HQ2 : Hid (q = qb) := Lib.hid (HQE.out.trans hqb)
            clear htv hqb HQE HW1
            go_wp2_with fail
            go_region_law (refine stepCall rfl 53 #[.tmp 46, .tmp 47] _ rfl #[.agg #[.string qnm, .int .i64 kd, .int .i64 un, .int .i64 h, .slice B1 hs.length e1, .slice B2 cs.length e2, .slice B3 ws.length e3, .int .i64 qgen], .agg #[.int .i64 x, .int .i64 y, .int .i64 z]] rfl HK.out (HQ.out _ (by (repeat (first | (with_reducible exact Below.refl _ _) | (with_reducible assumption) | (with_reducible refine below_drewN ?_ _) | (with_reducible refine Below.drew ?_) | (with_reducible refine Below.al ?_ _) | (with_reducible refine Below.st ?_ (by simp; try omega)) | (with_reducible refine Below.tr ?_ (Hid.out (by assumption))) | (with_reducible exact Hid.out (by assumption)))))) ?_; rintro e w10 ⟨rfl, hb10⟩; refine ⟨_, rfl, ?_⟩; have HB10 : Hid (Below w9.heap.size w9 w10) := Lib.hid (Below.tr (by (repeat (first | (with_reducible exact Below.refl _ _) | (with_reducible assumption) | (with_reducible refine below_drewN ?_ _) | (with_reducible refine Below.drew ?_) | (with_reducible refine Below.al ?_ _) | (with_reducible refine Below.st ?_ (by simp; try omega)) | (with_reducible refine Below.tr ?_ (Hid.out (by assumption))) | (with_reducible exact Hid.out (by assumption))))) hb10); clear hb10)
            all_goals (
              have HO12 := Lib.hid (HO10.out.below HB10.out (Nat.le_refl _))
              go_wp2_with (at_builtin; refine pushOneB boTB rfl (.tmp 51) (.tmp 54) rfl w10 w7.heap.size u6 bs (!qb) [.bool (!qb)] _ rfl rfl HO12.out w10.heap.size rfl rfl rfl (by unfold maxLen; omega) (by omega) ?_; intro v11 w11 hown hb hsp; have HB11 : Hid (Below w7.heap.size w7 w11) := Lib.hid (((HB.out.trans (HB9.out.mono HB.out.size)).trans (HB10.out.mono (Nat.le_trans HB.out.size HB9.out.size))).trans hb); have HO11 := Lib.hid hown; clear hown hb hsp)
              go_roundg (gk - 1)
              case measure => omega
              case rel => exact ⟨j + 1, bs ++ [!qb], by go_num, by omega, by omega, by rw [List.length_append]; simp; omega, Lib.hid (by rw [← HQ2.out]; exact HE.out), HO11, HB11⟩)
        · have hlti : ¬ (j : Int) < (L.length : Int) := by omega
          have HE : Hid (R = bs) := Lib.hid (by have h := HI.out; rw [drop_end hlt] at h; simpa using h)
          go_wp2_with fail
          go_ret
          exact ⟨_, rfl, by rw [HE.out]; exact HO.out.older HB7.out.size, HBW.out⟩
end Go.Proofs.YtogeihdfmnohnaaGreatDoor
namespace Go.Proofs.YtogeihdfmnohnaaGreatDoor
open Go.RowKit
theorem in_cell {w : World} {S : Nat → Prop} {A : Option Addr} {l : List Int} {i : Nat} {x : Int} (h : RowsAt intE w S A l) (hi : i < l.length) (hx : l[i] = x) :
    ∃ b off, A = some ⟨b, off, none⟩ ∧ S b ∧ w.cell? ⟨b, off + i, none⟩ = some (.int .i64 x) := by
  obtain ⟨b, off, cs, hA, hS, hc, hd⟩ := h.getx hi hx
  have hc' : cs = [.int .i64 x] := hc
  subst hc'
  have := hd 0 (show 0 < 1 by decide)
  exact ⟨b, off, hA, hS, by simpa [show intE.n = 1 from rfl] using this⟩
theorem inTB : ElTB Tryz.prog intE 35 3 8 := ElTB.mk' Tryz.underlying35 (.int .i64 0) 1 8 (by kernel_rfl) rfl rfl
def putGo (n : Int) : List Int → Bool → Option (List Int)
  | [], done => some (bif done then [] else [n])
  | x :: l, done => bif decide (x = n) then none else bif !done && decide (n < x) then (putGo n l true).map (fun r => n :: x :: r) else (putGo n l done).map (fun r => x :: r)
theorem putGo_cons (n x : Int) (l : List Int) (done : Bool) : putGo n (x :: l) done = bif decide (x = n) then none else bif !done && decide (n < x) then (putGo n l true).map (fun r => n :: x :: r) else (putGo n l done).map (fun r => x :: r) := rfl
def addI (l : List Int) (n : Int) : List Int := (putGo n l false).getD l
def RowIn {α : Type} (E : El α) (base : Nat) (w : World) (v : Value) (l : List α) : Prop := ∃ A cap, v = .slice A l.length cap ∧ RowsAt E w (New base w) A l
theorem addI_len (l : List Int) (n : Int) : (addI l n).length ≤ l.length + 1 := by
  have h : ∀ (m : List Int) (dn : Bool) (r : List Int), putGo n m dn = some r → r.length ≤ m.length + (if dn then 0 else 1) := by
    intro m
    induction m with
    | nil => intro dn r h; cases dn <;> simp [putGo] at h <;> rw [← h] <;> simp
    | cons x m ih =>
      intro dn r h
      rw [putGo_cons] at h
      cases h1 : decide (x = n) with
      | true => rw [h1] at h; cases h
      | false =>
        rw [h1] at h
        simp only [cond_false] at h
        cases h2 : !dn && decide (n < x) with
        | true =>
          rw [h2] at h
          simp only [cond_true, Option.map_eq_some_iff] at h
          obtain ⟨r', h3, rfl⟩ := h
          have := ih true r' h3
          cases dn <;> simp at h2 this ⊢
          omega
        | false =>
          rw [h2] at h
          simp only [cond_false, Option.map_eq_some_iff] at h
          obtain ⟨r', h3, rfl⟩ := h
          have := ih dn r' h3
          simp only [List.length_cons]
          omega
  unfold addI
  cases h1 : putGo n l false with
  | none => simp
  | some r => have := h l false r h1; simpa using this
set_option maxHeartbeats 3200000 in
theorem put_any (A : Option Addr) (cap base : Nat) (l : List Int) (n : Int) (w : World) (hm : l.length ≤ 100000) (hbase : base ≤ w.heap.size) (hr : RowsAt intE w (New base w) A l) :
    Calls Tryz.prog 26 #[.slice A l.length cap, .int .i64 n] w (fun e w' => ∃ v, e = .returned v ∧ RowIn intE base w' v (addI l n) ∧ Below w.heap.size w w') := by
  have HRN := Lib.hid hr
  have HR := Lib.hid (New.lo hr)
  clear hr
  obtain ⟨R, hR⟩ : ∃ r, addI l n = r := ⟨_, rfl⟩
  rw [hR]
  have HQ : Hid (((putGo n (l.drop 0) false).map (fun r => [] ++ r)).getD l = R) := Lib.hid (by rw [← hR]; unfold addI; simp)
  clear hR
  go_enter Tryz.func26, Tryz.ntmps26
  go_wp2_with fail
  go_loopg [5, 6, 7] l.length (fun m0 v5 v6 v7 wq => ∃ (k : Nat) (acc : List Int) (dn : Bool), v7 = .int .i64 (k : Int) ∧ v6 = .bool dn ∧ k ≤ l.length ∧ l.length ≤ k + m0 ∧ acc.length ≤ 2 * k ∧ Hid (((putGo n (l.drop k) dn).map (fun r => acc ++ r)).getD l = R) ∧ Hid (OwnRows intE 3 wq w.heap.size v5 acc) ∧ Hid (Below w.heap.size w wq))
  case atStart => exact ⟨0, [], false, rfl, rfl, Nat.zero_le _, by omega, by simp, HQ, Lib.hid (OwnRows.nil _ _ _ _ (Nat.le_refl _)), Lib.hid (Below.refl _ _)⟩
  case round =>
    obtain ⟨k, acc, dn, rfl, rfl, hk, hkm, hac, HI, HO, HB⟩ := hrel
    by_cases hlt : k < l.length
    · have hlti : (k : Int) < (l.length : Int) := by omega
      obtain ⟨x, hx⟩ : ∃ x, l[k] = x := ⟨_, rfl⟩
      obtain ⟨g, off, rfl, hgl, d0⟩ := in_cell (HR.out.below (B'' := w.heap.size) HB.out (Nat.le_refl _) (Nat.le_refl _)) hlt hx
      have hgl2 : g < wr.heap.size := Nat.lt_of_lt_of_le hgl HB.out.size
      have HGL : Hid (g < w.heap.size) := Lib.hid hgl
      have HS : Hid (((bif decide (x = n) then none else bif !dn && decide (n < x) then (putGo n (l.drop (k + 1)) true).map (fun r => n :: x :: r) else (putGo n (l.drop (k + 1)) dn).map (fun r => x :: r)).map (fun r => acc ++ r)).getD l = R) := Lib.hid (by have h := HI.out; rw [drop_step hlt hx, putGo_cons] at h; exact h)
      clear hx hgl
      by_cases h1 : x = n
      · have h1' : (x == n) = true := by simpa using h1
        have HE : Hid (l = R) := Lib.hid (by have h := HS.out; rw [decide_eq_true h1] at h; exact h)
        clear h1
        go_wp2_with fail
        go_ret
        exact ⟨_, rfl, by rw [← HE.out]; exact ⟨_, _, rfl, New.grow HB.out (Nat.le_refl _) HRN.out⟩, HB.out⟩
      · have h1' : (x == n) = false := by simpa using h1
        have HS2 : Hid (((bif !dn && decide (n < x) then (putGo n (l.drop (k + 1)) true).map (fun r => n :: x :: r) else (putGo n (l.drop (k + 1)) dn).map (fun r => x :: r)).map (fun r => acc ++ r)).getD l = R) := Lib.hid (by have h := HS.out; rw [decide_eq_false h1] at h; exact h)
        clear h1 HS
        obtain ⟨b, hb⟩ : ∃ b, decide (n < x) = b := ⟨_, rfl⟩
        rw [hb] at HS2
        have step : ∀ (dn2 : Bool), Hid (((bif dn2 && b then (putGo n (l.drop (k + 1)) true).map (fun r => n :: x :: r) else (putGo n (l.drop (k + 1)) (!dn2)).map (fun r => x :: r)).map (fun r => acc ++ r)).getD l = R) → (dn2 && b) = false → Hid (((putGo n (l.drop (k + 1)) (!dn2)).map (fun r => (acc ++ [x]) ++ r)).getD l = R) := fun dn2 h hh => Lib.hid (by have h := h.out; rw [hh] at h; simpa [Function.comp_def] using h)
        have HST := Lib.hid step
        clear step
        cases dn with
        | true =>
          have HE : Hid (((putGo n (l.drop (k + 1)) true).map (fun r => (acc ++ [x]) ++ r)).getD l = R) := HST.out false HS2 rfl
          go_wp2_with (at_builtin; refine pushOneB inTB rfl (.tmp 35) (.tmp 40) rfl wr w.heap.size u5 acc x [.int .i64 x] _ rfl rfl HO.out wr.heap.size rfl rfl rfl (by unfold maxLen; omega) (by omega) ?_; intro v7 w7 hown7 hb7 hsp7; have HB7 : Hid (Below w.heap.size w w7) := Lib.hid (HB.out.trans hb7); have HO7 := Lib.hid hown7; clear hown7 hb7 hsp7)
          go_roundg (gk - 1)
          case measure => omega
          case rel => exact ⟨k + 1, acc ++ [x], true, by go_num, rfl, by omega, by omega, by rw [List.length_append]; simp; omega, HE, HO7, HB7⟩
        | false =>
          cases b with
          | false =>
            have HE : Hid (((putGo n (l.drop (k + 1)) false).map (fun r => (acc ++ [x]) ++ r)).getD l = R) := HST.out true HS2 rfl
            go_wp2_with (at_builtin; refine pushOneB inTB rfl (.tmp 35) (.tmp 40) rfl wr w.heap.size u5 acc x [.int .i64 x] _ rfl rfl HO.out wr.heap.size rfl rfl rfl (by unfold maxLen; omega) (by omega) ?_; intro v7 w7 hown7 hb7 hsp7; have HB7 : Hid (Below w.heap.size w w7) := Lib.hid (HB.out.trans hb7); have HO7 := Lib.hid hown7; clear hown7 hb7 hsp7)
            go_roundg (gk - 1)
            case measure => omega
            case rel => exact ⟨k + 1, acc ++ [x], false, by go_num, rfl, by omega, by omega, by rw [List.length_append]; simp; omega, HE, HO7, HB7⟩
          | true =>
            have HE : Hid (((putGo n (l.drop (k + 1)) true).map (fun r => ((acc ++ [n]) ++ [x]) ++ r)).getD l = R) := Lib.hid (by have h := HS2.out; simpa [Function.comp_def] using h)
            go_wp2_with (first
              | (at_builtin; refine pushOneB inTB rfl (.tmp 31) (.tmp 33) rfl wr w.heap.size u5 acc n [.int .i64 n] _ rfl rfl HO.out wr.heap.size rfl rfl rfl (by unfold maxLen; omega) (by omega) ?_; intro v6 w6 hown6 hb6 hsp6; have HB6 : Hid (Below w.heap.size w w6) := Lib.hid (HB.out.trans hb6); have HO6 := Lib.hid hown6; have e0 : w6.cell? ⟨g, off + k, none⟩ = some (.int .i64 x) := (World.cell?_of_block (a := ⟨g, off + k, none⟩) (hb6.block g HGL.out)).trans d0; have hgl6 : g < w6.heap.size := Nat.lt_of_lt_of_le hgl2 hb6.size; clear hown6 hb6 hsp6)
              | (at_builtin; refine pushOneB inTB rfl (.tmp 35) (.tmp 40) rfl w6 w.heap.size v6 (acc ++ [n]) x [.int .i64 x] _ rfl rfl HO6.out w6.heap.size rfl rfl rfl (by unfold maxLen; simp; omega) (by simp; omega) ?_; intro v7 w7 hown7 hb7 hsp7; have HB7 : Hid (Below w.heap.size w w7) := Lib.hid (HB6.out.trans hb7); have HO7 := Lib.hid hown7; clear hown7 hb7 hsp7))
            go_roundg (gk - 1)
            case measure => omega
            case rel => exact ⟨k + 1, (acc ++ [n]) ++ [x], true, by go_num, rfl, by omega, by omega, by simp; omega, HE, HO7, HB7⟩
    · have hlti : ¬ (k : Int) < (l.length : Int) := by omega
      cases dn with
      | true =>
        have HE : Hid (acc = R) := Lib.hid (by have h := HI.out; rw [drop_end hlt] at h; simpa [putGo] using h)
        obtain ⟨A7, c7, rfl, hr7, _⟩ := OwnRows.newP HO.out
        have HR7 := Lib.hid (New.older hr7 hbase)
        clear hr7
        go_wp2_with fail
        go_ret
        exact ⟨_, rfl, by rw [← HE.out]; exact ⟨_, _, rfl, HR7.out⟩, HB.out⟩
      | false =>
        have HE : Hid (acc ++ [n] = R) := Lib.hid (by have h := HI.out; rw [drop_end hlt] at h; simpa [putGo] using h)
        go_wp2_with (at_builtin; refine pushOneB inTB rfl (.tmp 44) (.tmp 46) rfl wr w.heap.size u5 acc n [.int .i64 n] _ rfl rfl HO.out wr.heap.size rfl rfl rfl (by unfold maxLen; omega) (by omega) ?_; intro v7 w7 hown7 hb7 hsp7; have HB7 : Hid (Below w.heap.size w w7) := Lib.hid (HB.out.trans hb7); have HO7 := Lib.hid hown7; clear hown7 hb7 hsp7)
        go_ret
        obtain ⟨A7, c7, rfl, hr7, _⟩ := OwnRows.newP HO7.out
        exact ⟨_, rfl, by rw [← HE.out]; exact ⟨_, _, rfl, New.older hr7 hbase⟩, HB7.out⟩
end Go.Proofs.YtogeihdfmnohnaaGreatDoor
