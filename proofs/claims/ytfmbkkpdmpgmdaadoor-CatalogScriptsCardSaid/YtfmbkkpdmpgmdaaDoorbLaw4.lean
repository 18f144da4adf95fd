/- The law CatalogScripts: the walk. -/
import Derived.Test.YtfmbkkpdmpgmdaaDoorbLaw2
import Derived.Test.YtfmbkkpdmpgmdaaDoorbPlainV
namespace Go.Proofs.YtfmbkkpdmpgmdaaDoor
open Go.RowKit

theorem bool_cell {w : World} {S : Nat → Prop} {A : Option Addr} {l : List Bool} (h : RowsAt boolE w S A l) {i : Nat} (hi : i < l.length) {x : Bool} (e : l[i] = x) : ∃ b off, A = some ⟨b, off, none⟩ ∧ S b ∧ w.cell? ⟨b, off + i, none⟩ = some (.bool x) := by
  obtain ⟨b, off, cs, hA, hb, hr, hc⟩ := h.getx hi e
  have hr' : cs = [.bool x] := hr
  subst hr'
  have h1 : w.cell? ⟨b, off + i * 1 + 0, none⟩ = some (.bool x) := hc 0 (by decide)
  rw [Nat.mul_one, Nat.add_zero] at h1
  exact ⟨b, off, hA, hb, h1⟩

set_option maxHeartbeats 16000000 in
set_option maxRecDepth 100000 in
theorem CScripts_any (A D : Option Addr) (cap dcap : Nat) (l : Ct) (dl : List Bool) (w : World) (hm : l.length ≤ maxLen) (_ : dl.length ≤ maxLen) (hr : RowsAt resE w (Lo w.heap.size) A l) (hd : RowsAt boolE w (Lo w.heap.size) D dl) :
    Calls Tryd.prog 7 #[.slice A l.length cap, .slice D dl.length dcap] w (Ret w (.bool true)) := by
  unfold maxLen at hm
  have HR := Lib.hid hr
  have HD := Lib.hid hd
  clear hr hd
  by_cases h40 : l.length ≤ 40
  · go_enter Tryd.func7, Tryd.ntmps7
    go_wp2_with fail
    go_loopg [5, 6, 7] l.length (fun m v5 v6 v7 wq => ∃ (k : Nat) (xs : Ct) (A5 : Option Addr) (c5 : Nat) (A6 : Option Addr) (c6 : Nat), v7 = .int .i64 (k : Int) ∧ v5 = .slice A5 xs.length c5 ∧ v6 = .slice A6 xs.length c6 ∧ k ≤ l.length ∧ l.length ≤ k + m ∧
      Hid (RowsAt resE wq (Lo wq.heap.size) A5 xs ∧ RowsAt resE wq (Lo wq.heap.size) A6 xs ∧ VCat xs ∧ xs.length ≤ c5 ∧ c5 ≤ maxLen ∧ xs.length ≤ c6 ∧ c6 ≤ maxLen) ∧ Below w.heap.size w wq)
    case atStart => exact ⟨0, [], none, 0, none, 0, rfl, rfl, rfl, Nat.zero_le _, by omega, Lib.hid ⟨RowsAt.nil _ _ _ _, RowsAt.nil _ _ _ _, VCat.nil, by simp, by simp [maxLen], by simp, by simp [maxLen]⟩, Below.refl _ _⟩
    case round =>
      obtain ⟨k, xs, A5, c5, A6, c6, rfl, rfl, rfl, hk, hkm, HINV, hbw⟩ := hrel
      have HBW := Lib.hid hbw
      clear hbw
      by_cases hlt : k < l.length
      · have hrw := HR.out.below (B'' := wr.heap.size) HBW.out (Nat.le_refl _) HBW.out.size
        obtain ⟨⟨nm, kd, u, h⟩, hx⟩ : ∃ x, l[k] = x := ⟨_, rfl⟩
        obtain ⟨b, off, rfl, hbl, hc0, hc1, hc2, hc3⟩ := res_cells hrw hlt hx
        have hcell : ∀ W, Below wr.heap.size wr W → W.cell? ⟨b, off + k * 4, none⟩ = some (.string nm) ∧ W.cell? ⟨b, off + k * 4 + 1, none⟩ = some (.int .i64 kd) ∧ W.cell? ⟨b, off + k * 4 + 2, none⟩ = some (.int .i64 u) ∧ W.cell? ⟨b, off + k * 4 + 3, none⟩ = some (.int .i64 h) :=
          fun W hW => ⟨(hW.cell (p := ⟨b, _, none⟩) hbl).trans hc0, (hW.cell (p := ⟨b, _, none⟩) hbl).trans hc1, (hW.cell (p := ⟨b, _, none⟩) hbl).trans hc2, (hW.cell (p := ⟨b, _, none⟩) hbl).trans hc3⟩
        have HCELL := Lib.hid hcell
        have hlti : (k : Int) < (l.length : Int) := by omega
        clear hx hrw hcell hbl
        have hdrop : (k < dl.length ∧ ∃ h : k < dl.length, dl[k] = true) ∨ (k < dl.length ∧ ∃ h : k < dl.length, dl[k] = false) ∨ dl.length ≤ k := by
          by_cases hk2 : k < dl.length
          · cases hv : dl[k] with
            | true => exact .inl ⟨hk2, hk2, hv⟩
            | false => exact .inr (.inl ⟨hk2, hk2, hv⟩)
          · exact .inr (.inr (by omega))
        rcases hdrop with ⟨hk2, hk3, hv⟩ | ⟨hk2, hk3, hv⟩ | hk2
        · have hdw := HD.out.below (B'' := wr.heap.size) HBW.out (Nat.le_refl _) HBW.out.size
          obtain ⟨db, doff, rfl, hdbl, hdc⟩ := bool_cell hdw hk2 hv
          have hdlti : (k : Int) < (dl.length : Int) := by omega
          clear hdw hdbl hv
          obtain ⟨p, hp⟩ : ∃ p, remS xs nm = p := ⟨_, rfl⟩
          obtain ⟨er, x2⟩ := p
          have HPP := Lib.hid hp
          clear hp
          have ee : (er != er) = false := by simp
          go_wp2_with fail
          refine (Remove_any A5 wr.heap.size c5 xs nm wr HINV.out.2.2.2.1 HINV.out.2.2.2.2.1 (Nat.le_refl _) HINV.out.1).mono ?_
          rw [HPP.out]
          rintro e wa ⟨va, rfl, howna, hba⟩
          obtain ⟨Aa, ca, rfl, hra, hla, hla'⟩ := howna.form
          have HAa := Lib.hid hra
          have HLa := Lib.hid hla
          have HLa' := Lib.hid hla'
          have HX5 := Lib.hid (HINV.out.1.below (B'' := wa.heap.size) hba (Nat.le_refl _) hba.size)
          have HX6 := Lib.hid (HINV.out.2.1.below (B'' := wa.heap.size) hba (Nat.le_refl _) hba.size)
          have HBa := Lib.hid (HBW.out.trans (hba.mono HBW.out.size))
          obtain ⟨hp0, hp1, hp2, hp3⟩ := HCELL.out wa hba
          clear hba hra hla hla' howna hc0 hc1 hc2 hc3
          go_wp2_with fail
          refine (rRemove_any A6 wa.heap.size c6 xs nm wa (by have := HINV.out.2.2.1.1; unfold maxLen; omega) (Nat.le_refl _) HX6.out).mono ?_
          rw [HPP.out]
          rintro e wb ⟨vb, rfl, hownb, hbb⟩
          obtain ⟨Ab, cb, rfl, hrb, hlb, hlb'⟩ := hownb.form
          have HAb := Lib.hid hrb
          have HLb := Lib.hid hlb
          have HLb' := Lib.hid hlb'
          have HAa2 := Lib.hid (HAa.out.below (B'' := wb.heap.size) hbb (Nat.le_refl _) hbb.size)
          have HX52 := Lib.hid (HX5.out.below (B'' := wb.heap.size) hbb (Nat.le_refl _) hbb.size)
          have HX62 := Lib.hid (HX6.out.below (B'' := wb.heap.size) hbb (Nat.le_refl _) hbb.size)
          have HBb := Lib.hid (HBa.out.trans (hbb.mono HBa.out.size))
          clear hbb hrb hlb hlb' hownb hp0 hp1 hp2 hp3
          by_cases he : er = 0
          · have hen : (er == 0) = true := by simp [he]
            have hv2 : Hid (VCat x2) := Lib.hid (rem_props (l := xs) (n := nm) (by rw [HPP.out, he]))
            have hl2 : Hid (x2.length ≤ 8) := Lib.hid hv2.out.1
            clear he
            go_wp2_with fail
            refine (Same_any Aa Ab wb.heap.size wb.heap.size ca cb x2 x2 wb (by have := hl2.out; unfold maxLen; omega) (by have := hl2.out; unfold maxLen; omega) (Nat.le_refl _) (Nat.le_refl _) HAa2.out HAb.out).mono ?_
            rintro e wt ⟨bt, rfl, hbq, hbt⟩
            obtain rfl : bt = true := hbq.2 rfl
            have HT5 := Lib.hid (RowsAt.below (B'' := wt.heap.size) HAa2.out hbt (Nat.le_refl _) hbt.size)
            have HT6 := Lib.hid (RowsAt.below (B'' := wt.heap.size) HAb.out hbt (Nat.le_refl _) hbt.size)
            have HBT := Lib.hid (Below.trans HBb.out (hbt.mono (Below.size HBb.out)))
            clear hbt hbq
            go_wp2_with fail
            refine (CatValid_any Aa wt.heap.size ca x2 wt (by have := hl2.out; unfold maxLen; omega) (Nat.le_refl _) HT5.out).mono ?_
            rintro e wu ⟨bu, rfl, hbq, hbu⟩
            obtain rfl : bu = true := hbq.2 hv2.out
            have HU5 := Lib.hid (HT5.out.below (B'' := wu.heap.size) hbu (Nat.le_refl _) hbu.size)
            have HU6 := Lib.hid (HT6.out.below (B'' := wu.heap.size) hbu (Nat.le_refl _) hbu.size)
            have HBU := Lib.hid (HBT.out.trans (hbu.mono HBT.out.size))
            clear hbu hbq
            go_wp2_with fail
            go_roundg (gk - 1)
            case measure => omega
            case rel => exact ⟨k + 1, x2, Aa, ca, Ab, cb, by go_num, rfl, rfl, by omega, by omega, Lib.hid ⟨HU5.out, HU6.out, hv2.out, HLa.out, HLa'.out, HLb.out, HLb'.out⟩, HBU.out⟩
          · have hen : (er == 0) = false := by simp [he]
            clear he
            go_wp2_with fail
            refine (Same_any A5 A6 wb.heap.size wb.heap.size c5 c6 xs xs wb (by have := HINV.out.2.2.1.1; unfold maxLen; omega) (by have := HINV.out.2.2.1.1; unfold maxLen; omega) (Nat.le_refl _) (Nat.le_refl _) HX52.out HX62.out).mono ?_
            rintro e wt ⟨bt, rfl, hbq, hbt⟩
            obtain rfl : bt = true := hbq.2 rfl
            have HT5 := Lib.hid (RowsAt.below (B'' := wt.heap.size) HX52.out hbt (Nat.le_refl _) hbt.size)
            have HT6 := Lib.hid (RowsAt.below (B'' := wt.heap.size) HX62.out hbt (Nat.le_refl _) hbt.size)
            have HBT := Lib.hid (Below.trans HBb.out (hbt.mono (Below.size HBb.out)))
            clear hbt hbq
            go_wp2_with fail
            refine (CatValid_any A5 wt.heap.size c5 xs wt (by have := HINV.out.2.2.1.1; unfold maxLen; omega) (Nat.le_refl _) HT5.out).mono ?_
            rintro e wu ⟨bu, rfl, hbq, hbu⟩
            obtain rfl : bu = true := hbq.2 HINV.out.2.2.1
            have HU5 := Lib.hid (HT5.out.below (B'' := wu.heap.size) hbu (Nat.le_refl _) hbu.size)
            have HU6 := Lib.hid (HT6.out.below (B'' := wu.heap.size) hbu (Nat.le_refl _) hbu.size)
            have HBU := Lib.hid (HBT.out.trans (hbu.mono HBT.out.size))
            clear hbu hbq
            go_wp2_with fail
            go_roundg (gk - 1)
            case measure => omega
            case rel => exact ⟨k + 1, xs, A5, c5, A6, c6, by go_num, rfl, rfl, by omega, by omega, Lib.hid ⟨HU5.out, HU6.out, HINV.out.2.2.1, HINV.out.2.2.2.1, HINV.out.2.2.2.2.1, HINV.out.2.2.2.2.2.1, HINV.out.2.2.2.2.2.2⟩, HBU.out⟩
        · have hdw := HD.out.below (B'' := wr.heap.size) HBW.out (Nat.le_refl _) HBW.out.size
          obtain ⟨db, doff, rfl, hdbl, hdc⟩ := bool_cell hdw hk2 hv
          have hdlti : (k : Int) < (dl.length : Int) := by omega
          clear hdw hdbl hv
          obtain ⟨p, hp⟩ : ∃ p, insS xs ⟨nm, kd, u, h⟩ = p := ⟨_, rfl⟩
          obtain ⟨er, x2⟩ := p
          have HPP := Lib.hid hp
          clear hp
          have ee : (er != er) = false := by simp
          go_wp2_with fail
          refine (Insert_any A5 wr.heap.size c5 xs ⟨nm, kd, u, h⟩ wr HINV.out.2.2.2.1 HINV.out.2.2.2.2.1 (Nat.le_refl _) HINV.out.1).mono ?_
          rw [HPP.out]
          rintro e wa ⟨va, rfl, howna, hba⟩
          obtain ⟨Aa, ca, rfl, hra, hla, hla'⟩ := howna.form
          have HAa := Lib.hid hra
          have HLa := Lib.hid hla
          have HLa' := Lib.hid hla'
          have HX5 := Lib.hid (HINV.out.1.below (B'' := wa.heap.size) hba (Nat.le_refl _) hba.size)
          have HX6 := Lib.hid (HINV.out.2.1.below (B'' := wa.heap.size) hba (Nat.le_refl _) hba.size)
          have HBa := Lib.hid (HBW.out.trans (hba.mono HBW.out.size))
          obtain ⟨hp0, hp1, hp2, hp3⟩ := HCELL.out wa hba
          clear hba hra hla hla' howna hc0 hc1 hc2 hc3
          go_wp2_with fail
          refine (rInsert_any A6 wa.heap.size c6 xs ⟨nm, kd, u, h⟩ wa HINV.out.2.2.2.2.2.1 HINV.out.2.2.2.2.2.2 (Nat.le_refl _) HX6.out).mono ?_
          rw [HPP.out]
          rintro e wb ⟨vb, rfl, hownb, hbb⟩
          obtain ⟨Ab, cb, rfl, hrb, hlb, hlb'⟩ := hownb.form
          have HAb := Lib.hid hrb
          have HLb := Lib.hid hlb
          have HLb' := Lib.hid hlb'
          have HAa2 := Lib.hid (HAa.out.below (B'' := wb.heap.size) hbb (Nat.le_refl _) hbb.size)
          have HX52 := Lib.hid (HX5.out.below (B'' := wb.heap.size) hbb (Nat.le_refl _) hbb.size)
          have HX62 := Lib.hid (HX6.out.below (B'' := wb.heap.size) hbb (Nat.le_refl _) hbb.size)
          have HBb := Lib.hid (HBa.out.trans (hbb.mono HBa.out.size))
          clear hbb hrb hlb hlb' hownb hp0 hp1 hp2 hp3
          by_cases he : er = 0
          · have hen : (er == 0) = true := by simp [he]
            have hv2 : Hid (VCat x2) := Lib.hid ((ins_props (l := xs) (r := ⟨nm, kd, u, h⟩) (by rw [HPP.out, he])).2.1)
            have hl2 : Hid (x2.length ≤ 8) := Lib.hid hv2.out.1
            clear he
            go_wp2_with fail
            refine (Same_any Aa Ab wb.heap.size wb.heap.size ca cb x2 x2 wb (by have := hl2.out; unfold maxLen; omega) (by have := hl2.out; unfold maxLen; omega) (Nat.le_refl _) (Nat.le_refl _) HAa2.out HAb.out).mono ?_
            rintro e wt ⟨bt, rfl, hbq, hbt⟩
            obtain rfl : bt = true := hbq.2 rfl
            have HT5 := Lib.hid (RowsAt.below (B'' := wt.heap.size) HAa2.out hbt (Nat.le_refl _) hbt.size)
            have HT6 := Lib.hid (RowsAt.below (B'' := wt.heap.size) HAb.out hbt (Nat.le_refl _) hbt.size)
            have HBT := Lib.hid (Below.trans HBb.out (hbt.mono (Below.size HBb.out)))
            clear hbt hbq
            go_wp2_with fail
            refine (CatValid_any Aa wt.heap.size ca x2 wt (by have := hl2.out; unfold maxLen; omega) (Nat.le_refl _) HT5.out).mono ?_
            rintro e wu ⟨bu, rfl, hbq, hbu⟩
            obtain rfl : bu = true := hbq.2 hv2.out
            have HU5 := Lib.hid (HT5.out.below (B'' := wu.heap.size) hbu (Nat.le_refl _) hbu.size)
            have HU6 := Lib.hid (HT6.out.below (B'' := wu.heap.size) hbu (Nat.le_refl _) hbu.size)
            have HBU := Lib.hid (HBT.out.trans (hbu.mono HBT.out.size))
            clear hbu hbq
            go_wp2_with fail
            go_roundg (gk - 1)
            case measure => omega
            case rel => exact ⟨k + 1, x2, Aa, ca, Ab, cb, by go_num, rfl, rfl, by omega, by omega, Lib.hid ⟨HU5.out, HU6.out, hv2.out, HLa.out, HLa'.out, HLb.out, HLb'.out⟩, HBU.out⟩
          · have hen : (er == 0) = false := by simp [he]
            clear he
            go_wp2_with fail
            refine (Same_any A5 A6 wb.heap.size wb.heap.size c5 c6 xs xs wb (by have := HINV.out.2.2.1.1; unfold maxLen; omega) (by have := HINV.out.2.2.1.1; unfold maxLen; omega) (Nat.le_refl _) (Nat.le_refl _) HX52.out HX62.out).mono ?_
            rintro e wt ⟨bt, rfl, hbq, hbt⟩
            obtain rfl : bt = true := hbq.2 rfl
            have HT5 := Lib.hid (RowsAt.below (B'' := wt.heap.size) HX52.out hbt (Nat.le_refl _) hbt.size)
            have HT6 := Lib.hid (RowsAt.below (B'' := wt.heap.size) HX62.out hbt (Nat.le_refl _) hbt.size)
            have HBT := Lib.hid (Below.trans HBb.out (hbt.mono (Below.size HBb.out)))
            clear hbt hbq
            go_wp2_with fail
            refine (CatValid_any A5 wt.heap.size c5 xs wt (by have := HINV.out.2.2.1.1; unfold maxLen; omega) (Nat.le_refl _) HT5.out).mono ?_
            rintro e wu ⟨bu, rfl, hbq, hbu⟩
            obtain rfl : bu = true := hbq.2 HINV.out.2.2.1
            have HU5 := Lib.hid (HT5.out.below (B'' := wu.heap.size) hbu (Nat.le_refl _) hbu.size)
            have HU6 := Lib.hid (HT6.out.below (B'' := wu.heap.size) hbu (Nat.le_refl _) hbu.size)
            have HBU := Lib.hid (HBT.out.trans (hbu.mono HBT.out.size))
            clear hbu hbq
            go_wp2_with fail
            go_roundg (gk - 1)
            case measure => omega
            case rel => exact ⟨k + 1, xs, A5, c5, A6, c6, by go_num, rfl, rfl, by omega, by omega, Lib.hid ⟨HU5.out, HU6.out, HINV.out.2.2.1, HINV.out.2.2.2.1, HINV.out.2.2.2.2.1, HINV.out.2.2.2.2.2.1, HINV.out.2.2.2.2.2.2⟩, HBU.out⟩
        · have hdf : decide (k < dl.length) = false := decide_eq_false (by omega)
          have hdf2 : decide ((k : Int) < (dl.length : Int)) = false := decide_eq_false (by omega)
          obtain ⟨p, hp⟩ : ∃ p, insS xs ⟨nm, kd, u, h⟩ = p := ⟨_, rfl⟩
          obtain ⟨er, x2⟩ := p
          have HPP := Lib.hid hp
          clear hp
          have ee : (er != er) = false := by simp
          go_wp2_with fail
          refine (Insert_any A5 wr.heap.size c5 xs ⟨nm, kd, u, h⟩ wr HINV.out.2.2.2.1 HINV.out.2.2.2.2.1 (Nat.le_refl _) HINV.out.1).mono ?_
          rw [HPP.out]
          rintro e wa ⟨va, rfl, howna, hba⟩
          obtain ⟨Aa, ca, rfl, hra, hla, hla'⟩ := howna.form
          have HAa := Lib.hid hra
          have HLa := Lib.hid hla
          have HLa' := Lib.hid hla'
          have HX5 := Lib.hid (HINV.out.1.below (B'' := wa.heap.size) hba (Nat.le_refl _) hba.size)
          have HX6 := Lib.hid (HINV.out.2.1.below (B'' := wa.heap.size) hba (Nat.le_refl _) hba.size)
          have HBa := Lib.hid (HBW.out.trans (hba.mono HBW.out.size))
          obtain ⟨hp0, hp1, hp2, hp3⟩ := HCELL.out wa hba
          clear hba hra hla hla' howna hc0 hc1 hc2 hc3
          go_wp2_with fail
          refine (rInsert_any A6 wa.heap.size c6 xs ⟨nm, kd, u, h⟩ wa HINV.out.2.2.2.2.2.1 HINV.out.2.2.2.2.2.2 (Nat.le_refl _) HX6.out).mono ?_
          rw [HPP.out]
          rintro e wb ⟨vb, rfl, hownb, hbb⟩
          obtain ⟨Ab, cb, rfl, hrb, hlb, hlb'⟩ := hownb.form
          have HAb := Lib.hid hrb
          have HLb := Lib.hid hlb
          have HLb' := Lib.hid hlb'
          have HAa2 := Lib.hid (HAa.out.below (B'' := wb.heap.size) hbb (Nat.le_refl _) hbb.size)
          have HX52 := Lib.hid (HX5.out.below (B'' := wb.heap.size) hbb (Nat.le_refl _) hbb.size)
          have HX62 := Lib.hid (HX6.out.below (B'' := wb.heap.size) hbb (Nat.le_refl _) hbb.size)
          have HBb := Lib.hid (HBa.out.trans (hbb.mono HBa.out.size))
          clear hbb hrb hlb hlb' hownb hp0 hp1 hp2 hp3
          by_cases he : er = 0
          · have hen : (er == 0) = true := by simp [he]
            have hv2 : Hid (VCat x2) := Lib.hid ((ins_props (l := xs) (r := ⟨nm, kd, u, h⟩) (by rw [HPP.out, he])).2.1)
            have hl2 : Hid (x2.length ≤ 8) := Lib.hid hv2.out.1
            clear he
            go_wp2_with fail
            refine (Same_any Aa Ab wb.heap.size wb.heap.size ca cb x2 x2 wb (by have := hl2.out; unfold maxLen; omega) (by have := hl2.out; unfold maxLen; omega) (Nat.le_refl _) (Nat.le_refl _) HAa2.out HAb.out).mono ?_
            rintro e wt ⟨bt, rfl, hbq, hbt⟩
            obtain rfl : bt = true := hbq.2 rfl
            have HT5 := Lib.hid (RowsAt.below (B'' := wt.heap.size) HAa2.out hbt (Nat.le_refl _) hbt.size)
            have HT6 := Lib.hid (RowsAt.below (B'' := wt.heap.size) HAb.out hbt (Nat.le_refl _) hbt.size)
            have HBT := Lib.hid (Below.trans HBb.out (hbt.mono (Below.size HBb.out)))
            clear hbt hbq
            go_wp2_with fail
            refine (CatValid_any Aa wt.heap.size ca x2 wt (by have := hl2.out; unfold maxLen; omega) (Nat.le_refl _) HT5.out).mono ?_
            rintro e wu ⟨bu, rfl, hbq, hbu⟩
            obtain rfl : bu = true := hbq.2 hv2.out
            have HU5 := Lib.hid (HT5.out.below (B'' := wu.heap.size) hbu (Nat.le_refl _) hbu.size)
            have HU6 := Lib.hid (HT6.out.below (B'' := wu.heap.size) hbu (Nat.le_refl _) hbu.size)
            have HBU := Lib.hid (HBT.out.trans (hbu.mono HBT.out.size))
            clear hbu hbq
            go_wp2_with fail
            go_roundg (gk - 1)
            case measure => omega
            case rel => exact ⟨k + 1, x2, Aa, ca, Ab, cb, by go_num, rfl, rfl, by omega, by omega, Lib.hid ⟨HU5.out, HU6.out, hv2.out, HLa.out, HLa'.out, HLb.out, HLb'.out⟩, HBU.out⟩
          · have hen : (er == 0) = false := by simp [he]
            clear he
            go_wp2_with fail
            refine (Same_any A5 A6 wb.heap.size wb.heap.size c5 c6 xs xs wb (by have := HINV.out.2.2.1.1; unfold maxLen; omega) (by have := HINV.out.2.2.1.1; unfold maxLen; omega) (Nat.le_refl _) (Nat.le_refl _) HX52.out HX62.out).mono ?_
            rintro e wt ⟨bt, rfl, hbq, hbt⟩
            obtain rfl : bt = true := hbq.2 rfl
            have HT5 := Lib.hid (RowsAt.below (B'' := wt.heap.size) HX52.out hbt (Nat.le_refl _) hbt.size)
            have HT6 := Lib.hid (RowsAt.below (B'' := wt.heap.size) HX62.out hbt (Nat.le_refl _) hbt.size)
            have HBT := Lib.hid (Below.trans HBb.out (hbt.mono (Below.size HBb.out)))
            clear hbt hbq
            go_wp2_with fail
            refine (CatValid_any A5 wt.heap.size c5 xs wt (by have := HINV.out.2.2.1.1; unfold maxLen; omega) (Nat.le_refl _) HT5.out).mono ?_
            rintro e wu ⟨bu, rfl, hbq, hbu⟩
            obtain rfl : bu = true := hbq.2 HINV.out.2.2.1
            have HU5 := Lib.hid (HT5.out.below (B'' := wu.heap.size) hbu (Nat.le_refl _) hbu.size)
            have HU6 := Lib.hid (HT6.out.below (B'' := wu.heap.size) hbu (Nat.le_refl _) hbu.size)
            have HBU := Lib.hid (HBT.out.trans (hbu.mono HBT.out.size))
            clear hbu hbq
            go_wp2_with fail
            go_roundg (gk - 1)
            case measure => omega
            case rel => exact ⟨k + 1, xs, A5, c5, A6, c6, by go_num, rfl, rfl, by omega, by omega, Lib.hid ⟨HU5.out, HU6.out, HINV.out.2.2.1, HINV.out.2.2.2.1, HINV.out.2.2.2.2.1, HINV.out.2.2.2.2.2.1, HINV.out.2.2.2.2.2.2⟩, HBU.out⟩
      · go_wp2_with fail
        refine (awake_any _).mono ?_
        rintro e wz ⟨rfl, hbz⟩
        go_wp2
        go_ret
        exact ⟨rfl, HBW.out.trans (hbz.mono HBW.out.size)⟩
  · go_enter Tryd.func7, Tryd.ntmps7
    go_wp2_with fail
    refine (awake_any _).mono ?_
    rintro e wz ⟨rfl, hbz⟩
    go_wp2
    go_ret
    exact ⟨rfl, hbz⟩
end Go.Proofs.YtfmbkkpdmpgmdaaDoor
