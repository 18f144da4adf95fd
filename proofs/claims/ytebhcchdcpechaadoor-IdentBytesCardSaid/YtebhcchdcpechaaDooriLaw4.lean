/- The law IdentBytes: the walk. -/
import Derived.Test.YtebhcchdcpechaaDooriLaw3
namespace Go.Proofs.YtebhcchdcpechaaDoor
open Go.RowKit

theorem Equal_rows (v v' : Value) (l l' : List UInt8) (base base' : Nat) (w w1 : World) (hr : OwnRows byteE 5 w base v l) (hr' : OwnRows byteE 5 w base' v' l') :
    Calls Tryd.prog 34 #[v, v'] w (Same w (.bool (l == l'))) := by
  obtain ⟨A, cap, rfl, _, h, _, _⟩ := hr.form2
  obtain ⟨A', cap', rfl, _, h', _, _⟩ := hr'.form2
  exact Equal_any A A' cap cap' l l' _ _ rfl rfl _ _ w h h'

set_option maxHeartbeats 1600000 in
set_option maxRecDepth 100000 in
theorem IBytes_bad (p : Pr) (hp : vpB p = false) (A A' : Option Addr) (cap cap' : Nat) (l l' : List UInt8) (w : World) (hm : l.length ≤ 140737488351232) (hr : RowsAt byteE w (Lo w.heap.size) A l) (hL : Lay w) :
    Calls Tryd.prog 12 #[p.val, .slice A l.length cap, .slice A' l'.length cap'] w (Ret w (.bool true)) := by
  have H0 : Hid (∀ W, Below w.heap.size w W → Calls Tryd.prog 33 #[.slice A l.length cap, p.val] W (RetRow byteE 5 W l)) := Lib.hid (fun W hb => by
    have := PutProc_any A cap l p W (by omega) (hr.below hb (Nat.le_refl _) hb.size)
    unfold putS at this
    rwa [if_neg (by rw [hp]; simp), List.append_nil] at this)
  have H1 := Lib.hid (fun W h => awake_any W h)
  have H2 : Hid (∀ W, Calls Tryd.prog 16 #[p.val] W (Ret W (.bool false))) := Lib.hid (fun W => by have := rVProc_any p W; rwa [hp] at this)
  have HR := Lib.hid hr
  have LH := Lib.hid hL
  clear hr hp hL
  obtain ⟨a, b, c⟩ := p
  unfold Pr.val at *
  go_enter Tryd.func12, Tryd.ntmps12
  go_wp2_with fail
  refine (H0.out _ (by ((repeat (first | (with_reducible exact Below.refl _ _) | (with_reducible assumption) | (with_reducible refine below_drewN ?_ _) | (with_reducible refine Below.drew ?_) | (with_reducible refine Below.al ?_ _) | (with_reducible refine Below.st ?_ (by simp; try omega)) | (with_reducible refine Below.tr ?_ (by assumption))))))).mono ?_
  rintro e w1 ⟨v1, rfl, hown1, hb1⟩
  have HOWN1 := Lib.hid hown1
  obtain ⟨hc_w1, hf_w1⟩ := bcell hb1
  have hs_w1 := hb1.size
  (try simp at hs_w1)
  have hz_w1_0 : w.heap.size < w1.heap.size := by omega
  clear hs_w1
  have HB1 : Hid (Below w.heap.size w w1) := Lib.hid (Below.tr (Below.al (Below.refl _ _) _) hb1)
  clear hown1 hb1
  go_wp2_with fail
  refine (H2.out _).mono ?_
  rintro e w2 ⟨rfl, hb2⟩
  have HOWN2 := Lib.hid (HOWN1.out.below (B := w1.heap.size) hb2 (Nat.le_refl _))
  have HB2 : Hid (Below w.heap.size w w2) := Lib.hid (Below.tr HB1.out hb2)
  clear hb2
  go_wp2_with fail
  refine (H1.out _ (LH.out.below HB2.out)).mono ?_
  rintro e w3 ⟨rfl, hb3⟩
  have HOWN3 := Lib.hid (HOWN2.out.below (B := w2.heap.size) hb3 (Nat.le_refl _))
  have HB3 : Hid (Below w.heap.size w w3) := Lib.hid (Below.tr HB2.out hb3)
  clear hb3
  obtain ⟨A1, cap1, rfl, _, h1, _, _⟩ := HOWN3.out.form2
  have HEQ := Lib.hid (Equal_any A1 A cap1 cap l l l.length l.length rfl rfl _ _ w3 h1 (HR.out.below HB3.out (Nat.le_refl _) HB3.out.size))
  rw [show (l == l) = true by simp] at HEQ
  clear h1
  go_wp2_with fail
  refine HEQ.out.mono ?_
  rintro e w4 ⟨rfl, hb4⟩
  subst hb4
  go_wp2_with fail
  go_ret
  exact ⟨rfl, HB3.out⟩

set_option maxHeartbeats 3200000 in
set_option maxRecDepth 100000 in
theorem IBytes_good (p : Pr) (hp : vpB p = true) (A A' : Option Addr) (cap cap' : Nat) (l l' : List UInt8) (w : World) (hm : l.length ≤ 140737488351232) (hm' : l'.length ≤ 140737488351232) (hr : RowsAt byteE w (Lo w.heap.size) A l) (hr' : RowsAt byteE w (Lo w.heap.size) A' l') (hL : Lay w) :
    Calls Tryd.prog 12 #[p.val, .slice A l.length cap, .slice A' l'.length cap'] w (Ret w (.bool true)) := by
  have H0 : Hid (∀ W, Below w.heap.size w W → Calls Tryd.prog 33 #[.slice A l.length cap, p.val] W (RetRow byteE 5 W (l ++ putS p))) := Lib.hid (fun W hb => PutProc_any A cap l p W (by omega) (hr.below hb (Nat.le_refl _) hb.size))
  have H1 := Lib.hid (fun W h => awake_any W h)
  have H2 : Hid (∀ W, Calls Tryd.prog 16 #[p.val] W (Ret W (.bool true))) := Lib.hid (fun W => by have := rVProc_any p W; rwa [hp] at this)
  have H3 : Hid (∀ W, Below w.heap.size w W → Calls Tryd.prog 35 #[.slice A l.length cap, p.val] W (RetRow byteE 5 W (l ++ putS p))) := Lib.hid (fun W hb => rPutProc_any A cap l p W hp (by omega) (hr.below hb (Nat.le_refl _) hb.size))
  have HPP := Lib.hid (procS_put hp l')
  have e1 : putS p = putP p := by unfold putS; rw [if_pos hp]
  rw [e1] at H0 H3
  obtain ⟨hlo, hhi⟩ : 1 ≤ (putP p).length ∧ (putP p).length ≤ 30 := by
    obtain ⟨a0, a1, b0, b1, c0, c1⟩ := vpB_iff.1 hp
    have e70 : (2 : Nat) ^ (7 * (9 + 1)) = 1180591620717411303424 := by decide
    have x1 := encS_len 9 p.site.toNat (by omega)
    have x2 := encS_len 9 p.inc.toNat (by omega)
    have x3 := encS_len 9 p.num.toNat (by omega)
    have := encS_ne p.site.toNat
    unfold putP
    simp only [List.length_append]
    omega
  obtain ⟨P, hP⟩ : ∃ P, putP p = P := ⟨_, rfl⟩
  rw [hP] at H0 H3 HPP hlo hhi
  have HR := Lib.hid hr
  have HR' := Lib.hid hr'
  have LH := Lib.hid hL
  have HM := Lib.hid hm
  have HM' := Lib.hid hm'
  have HLO := Lib.hid hlo
  have HHI := Lib.hid hhi
  clear hr hr' hp hL hm hm' hP e1 hlo hhi
  obtain ⟨a, b, c⟩ := p
  obtain ⟨k1, k2, k3⟩ := cmpPr a b c a b c
  unfold Pr.val at *
  go_enter Tryd.func12, Tryd.ntmps12
  go_wp2_with fail
  refine (H0.out _ (by ((repeat (first | (with_reducible exact Below.refl _ _) | (with_reducible assumption) | (with_reducible refine below_drewN ?_ _) | (with_reducible refine Below.drew ?_) | (with_reducible refine Below.al ?_ _) | (with_reducible refine Below.st ?_ (by simp; try omega)) | (with_reducible refine Below.tr ?_ (by assumption))))))).mono ?_
  rintro e w1 ⟨v1, rfl, hown1, hb1⟩
  have HOWN1 := Lib.hid hown1
  obtain ⟨hc_w1, hf_w1⟩ := bcell hb1
  have hs_w1 := hb1.size
  (try simp at hs_w1)
  have hz_w1_0 : w.heap.size < w1.heap.size := by omega
  clear hs_w1
  have HB1 : Hid (Below w.heap.size w w1) := Lib.hid (Below.tr (Below.al (Below.refl _ _) _) hb1)
  clear hown1 hb1
  go_wp2_with fail
  refine (H2.out _).mono ?_
  rintro e w2 ⟨rfl, hb2⟩
  have HOWN2 := Lib.hid (HOWN1.out.below (B := w1.heap.size) hb2 (Nat.le_refl _))
  obtain ⟨hc_w2, hf_w2⟩ := bcell hb2
  have hs_w2 := hb2.size
  (try simp at hs_w2)
  have hz_w2_0 : w.heap.size < w2.heap.size := by omega
  clear hs_w2
  have HB2 : Hid (Below w.heap.size w w2) := Lib.hid (Below.tr HB1.out hb2)
  clear hb2
  go_wp2_with fail
  refine (H1.out _ (LH.out.below HB2.out)).mono ?_
  rintro e w3 ⟨rfl, hb3⟩
  have HOWN3 := Lib.hid (HOWN2.out.below (B := w2.heap.size) hb3 (Nat.le_refl _))
  have HB3 : Hid (Below w.heap.size w w3) := Lib.hid (Below.tr HB2.out hb3)
  obtain ⟨hc_w3, hf_w3⟩ := bcell hb3
  have hs_w3 := hb3.size
  (try simp at hs_w3)
  have hz_w3_0 : w.heap.size < w3.heap.size := by omega
  clear hs_w3
  clear hb3
  obtain ⟨A1, cap1, rfl, _, _, _, _⟩ := HOWN3.out.form2
  have hle : decide ((l.length : Int) + (P.length : Int) ≤ (l.length : Int)) = false := by have := HLO.out; simp; omega
  go_wp2_with fail
  refine (H3.out _ HB3.out).mono ?_
  rintro e w4 ⟨v4, rfl, hown4, hb4⟩
  have HOWN4 := Lib.hid (HOWN3.out.below (B := w3.heap.size) hb4 (Nat.le_refl _))
  have HB4 : Hid (Below w.heap.size w w4) := Lib.hid (Below.tr HB3.out hb4)
  obtain ⟨hc_w4, hf_w4⟩ := bcell hb4
  have hs_w4 := hb4.size
  (try simp at hs_w4)
  have hz_w4_0 : w.heap.size < w4.heap.size := by omega
  clear hs_w4
  obtain ⟨A4, cap4, rfl, _, hr4, _, _⟩ := hown4.form2
  obtain ⟨A1', cap1', e1', _, hr1, hc1, hcm1⟩ := HOWN4.out.form2
  injection e1' with e1 e2 e3
  subst e1
  subst e3
  have HEQ := Lib.hid (Equal_any A1 A4 cap1 cap4 (l ++ P) (l ++ P) _ _ rfl rfl _ _ w4 hr1 hr4)
  rw [show (l ++ P == l ++ P) = true by simp, List.length_append] at HEQ
  have hk : l.length ≤ (l ++ P).length := by simp
  have hct := (cuts Tryd.underlying45 (e := 5) (z := .int .u8 0) (sz := 1) (by_ := 1) (by kernel_rfl) A1 (l ++ P).length cap1 l.length hk hc1).2
  have HCT := Lib.hid hct
  have hcut := hr1.cut hk hc1
  rw [List.drop_left] at hcut
  have HCUT := Lib.hid hcut
  rw [List.length_append, Nat.add_sub_cancel_left] at hct
  clear hown4 hb4 hr4 hr1 hcut hk
  go_wp2_with fail
  refine HEQ.out.mono ?_
  rintro e w5 ⟨rfl, hb5⟩
  subst hb5
  clear HEQ
  have HMD : Hid (OwnRows byteE 5 (w5.alloc (.cells #[] 5)) w5.heap.size (.slice (some ⟨w5.heap.size, 0, none⟩) 0 0) []) := Lib.hid (OwnRows.made byteE 5 w5 w5.heap.size #[] 0 (Nat.le_refl _) (by simp [maxLen]) rfl)
  have HCU : Hid (RowsAt byteE (w5.alloc (.cells #[] 5)) (Oth (w5.alloc (.cells #[] 5)) (.slice (some ⟨w5.heap.size, 0, none⟩) 0 0)) (cutA A1 cap1 l.length 1) P) := Lib.hid (HCUT.out.same (fun b hb => Below.heap_alloc w5 _ b hb) fun b hb => ⟨Nat.lt_of_lt_of_le hb (by simp), fun e => by injection e with e; have : b < w5.heap.size := hb; dsimp only at e; omega⟩)
  have hsub : IntKind.i64.wrap ((l.length : Int) + (P.length : Int) - (l.length : Int)) = (P.length : Int) := by
    have := HHI.out
    rw [show (l.length : Int) + (P.length : Int) - (l.length : Int) = (P.length : Int) by omega]
    exact IntWalk.i64_in _ (by omega)
  have heq : ((P.length : Int) == (P.length : Int)) = true := by simp
  go_wp2_with (first
    | (at_builtin; refine pushRB byteTB rfl (.tmp 41) (.tmp 45) rfl _ w5.heap.size _ [] P P.length rfl _ _ rfl HMD.out rfl HCU.out (by have := HHI.out; simp [maxLen]; omega) (by have := HHI.out; simp; omega) ?_; intro v6 w6 hown6 hb6 _; rw [List.nil_append] at hown6; have HOWN6 := Lib.hid hown6; have HB6 : Hid (Below w5.heap.size w5 w6) := Lib.hid ((Below.al (Below.refl _ _) _).trans hb6); have HBW6 : Hid (Below w.heap.size w w6) := Lib.hid (Below.tr HB4.out HB6.out); have HT6 : Hid (RowsAt byteE w6 (Oth w6 v6) A' l') := Lib.hid (HR'.out.same (fun b hb => HBW6.out.block b hb) (fun b hb => ⟨Nat.lt_of_lt_of_le hb HBW6.out.size, fun e => by have h1 := (hown6.block b e).1; have h2 := HB4.out.size; have h3 : b < w.heap.size := hb; omega⟩)); clear hown6 hb6)
    | (at_builtin; refine pushRB byteTB rfl (.tmp 46) (.tmp 47) rfl _ w5.heap.size _ P l' l'.length rfl _ _ rfl HOWN6.out rfl HT6.out (by have := HHI.out; have := HM'.out; simp [maxLen]; omega) (by have := HHI.out; have := HM'.out; simp; omega) ?_; intro v7 w7 hown7 hb7 _; have HB7 : Hid (Below w5.heap.size w5 w7) := Lib.hid (HB6.out.trans hb7); have HBW7 : Hid (Below w.heap.size w w7) := Lib.hid (Below.tr HB4.out HB7.out); obtain ⟨A7, cap7, rfl, _, hr7, hc7, hcm7⟩ := hown7.form2; have HPR := Lib.hid (Proc_any A7 cap7 (P ++ l') w7 hc7 hcm7 (by have := HHI.out; have := HM'.out; simp; omega) hr7); rw [HPP.out, List.length_append] at HPR; unfold procV Pr.val at HPR; dsimp only at HPR; clear hown7 hb7 hr7))
  refine HPR.out.mono ?_
  rintro e w8 ⟨rfl, hb8⟩
  have HB8 : Hid (Below w.heap.size w w8) := Lib.hid (Below.tr HBW7.out hb8)
  obtain ⟨hc_w7, hf_w7⟩ := bcell HB7.out
  have hz7 : w.heap.size < w7.heap.size := by have := HB7.out.size; omega
  obtain ⟨hc_w8, hf_w8⟩ := bcell hb8
  have hs_w8 := hb8.size
  (try simp at hs_w8)
  have hz_w8_0 : w.heap.size < w8.heap.size := by omega
  clear hs_w8
  go_wp2_with fail
  go_ret
  exact ⟨rfl, by ((repeat (first | (with_reducible exact Below.refl _ _) | (with_reducible assumption) | (with_reducible refine below_drewN ?_ _) | (with_reducible refine Below.drew ?_) | (with_reducible refine Below.al ?_ _) | (with_reducible refine Below.st ?_ (by simp; try omega)) | (with_reducible refine Below.tr ?_ (by assumption))))); exact HBW7.out⟩
theorem IBytes_any (p : Pr) (A A' : Option Addr) (cap cap' : Nat) (l l' : List UInt8) (w : World) (hm : l.length ≤ 140737488351232) (hm' : l'.length ≤ 140737488351232) (hr : RowsAt byteE w (Lo w.heap.size) A l) (hr' : RowsAt byteE w (Lo w.heap.size) A' l') (hL : Lay w) :
    Calls Tryd.prog 12 #[p.val, .slice A l.length cap, .slice A' l'.length cap'] w (Ret w (.bool true)) := by
  cases hp : vpB p with
  | false => exact IBytes_bad p hp A A' cap cap' l l' w hm hr hL
  | true => exact IBytes_good p hp A A' cap cap' l l' w hm hm' hr hr' hL
end Go.Proofs.YtebhcchdcpechaaDoor
