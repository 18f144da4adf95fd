/- Format, the program's and the document's. -/
import Derived.Test.YtbjbolpmbdllnaaDoorbBuild
namespace Go.Proofs.YtbjbolpmbdllnaaDoor
open Go.RowKit

/-- A number's digits. -/
def dgt (n : Int) : List UInt8 := Lib.decDigits n.toNat
/-- The line of a resource. -/
def lineL (r : Rs) : List UInt8 :=
  if r.kind = 1 then [108, 111, 99, 107, 32] ++ r.key ++ [32, 97, 116, 32] ++ dgt r.home ++ [10]
  else [112, 111, 111, 108, 32] ++ r.key ++ [32] ++ dgt r.units ++ [32, 97, 116, 32] ++ dgt r.home ++ [10]
def linesL (l : Ct) : List UInt8 := l.flatMap lineL
open Classical in
noncomputable def fmtL (l : Ct) : List UInt8 := if VCat l then linesL l else []

theorem dgt_small {n : Int} (h0 : 0 ≤ n) (h : n < 10) : dgt n = [UInt8.ofNat (48 + n.toNat)] := Lib.decDigits_one (by omega)
theorem lineL_len {r : Rs} (hr : resB r = true) : (lineL r).length ≤ 64 := by
  unfold resB at hr
  simp only [Bool.and_eq_true, decide_eq_true_eq] at hr
  obtain ⟨⟨⟨h1, h2⟩, h3⟩, h4⟩ := hr
  have hn : r.key.length ≤ 12 := by
    unfold nameB at h1
    simp only [Bool.and_eq_true, decide_eq_true_eq] at h1
    exact h1.1.1.1.2
  have hu : 0 ≤ r.units ∧ r.units < 10 := by
    unfold shapedB at h2
    simp only [Bool.or_eq_true, Bool.and_eq_true, decide_eq_true_eq] at h2
    omega
  unfold lineL
  rw [dgt_small h3 (by omega), dgt_small hu.1 hu.2]
  split <;> simp <;> omega
theorem resB_bounds {r : Rs} (hr : resB r = true) : 0 ≤ r.units ∧ r.units < 10 ∧ 0 ≤ r.home ∧ r.home < 4 ∧ r.name.size ≤ 12 ∧ (r.kind = 1 ∨ r.kind = 2) := by
  unfold resB at hr
  simp only [Bool.and_eq_true, decide_eq_true_eq] at hr
  obtain ⟨⟨⟨h1, h2⟩, h3⟩, h4⟩ := hr
  have hn : r.key.length ≤ 12 := by
    unfold nameB at h1
    simp only [Bool.and_eq_true, decide_eq_true_eq] at h1
    exact h1.1.1.1.2
  unfold Rs.key at hn
  rw [size_toList] at hn
  unfold shapedB at h2
  simp only [Bool.or_eq_true, Bool.and_eq_true, decide_eq_true_eq] at h2
  omega
theorem linesL_take {l : Ct} {k : Nat} (h : k < l.length) : linesL (l.take (k + 1)) = linesL (l.take k) ++ lineL l[k] := by
  unfold linesL
  rw [List.take_succ_eq_append_getElem h, List.flatMap_append]
  simp
theorem linesL_len {l : Ct} (hv : ∀ i (h : i < l.length), resB l[i] = true) : ∀ k, k ≤ l.length → (linesL (l.take k)).length ≤ 64 * k := by
  intro k
  induction k with
  | zero => intro _; simp [linesL]
  | succ k ih =>
    intro h
    rw [linesL_take (show k < l.length by omega), List.length_append]
    have h1 := ih (by omega)
    have h2 := lineL_len (hv k (by omega))
    omega

/-- The call returns the string of bytes l and leaves alone what was there. -/
def RetS (w : World) (l : List UInt8) (e : Ending) (w' : World) : Prop := e = .returned (.string ⟨l.toArray⟩) ∧ Below w.heap.size w w'

theorem Itoa_any (n : Int) (h0 : 0 ≤ n) (h : n < 100) (w : World) : Calls Tryd.prog 14 #[.int .i64 n] w fun e w' => e = .returned (.string ⟨(dgt n).toArray⟩) ∧ w' = w := by
  have := Tryd.strconv_Itoa_small n.toNat (by omega) w
  rw [show ((n.toNat : Nat) : Int) = n by omega] at this
  exact this

set_option maxHeartbeats 2000000 in
set_option maxRecDepth 100000 in
theorem Decimal_small (n : Int) (h0 : 0 ≤ n) (h : n < 10) (w : World) : Calls Tryd.prog 29 #[.int .i64 n] w (RetS w (dgt n)) := by
  have hb1 : (48 + n).toNat < 256 := by omega
  have hu8 : ((UInt8.ofNat (48 + n.toNat)).toNat : Int) = 48 + n := by
    rw [UInt8.toNat_ofNat']
    have : (48 + n.toNat) % 2 ^ 8 = 48 + n.toNat := Nat.mod_eq_of_lt (by omega)
    rw [this]
    omega
  have hcv : (convert 32 9 (.slice (some ⟨w.heap.size, 0, none⟩) 1 1)).run Tryd.prog (w.alloc (.cells #[.int .u8 (48 + n)] 5)) = .ok (.string ⟨(dgt n).toArray⟩) (w.alloc (.cells #[.int .u8 (48 + n)] 5)) := by
    have h1 := run_convert_bytes_back (P := Tryd.prog) (w.alloc (.cells #[.int .u8 (48 + n)] 5)) 32 9 5 ⟨w.heap.size, 0, none⟩ 1 (dgt n) Tryd.underlying32 Tryd.underlying5 Tryd.underlying9 (by
      rw [dgt_small h0 h]
      intro j hj
      have : j = 0 := by simpa using hj
      subst this
      rw [addr_add, cellNewA]
      simp only [List.getElem_cons_zero]
      rw [hu8]
      rfl)
    rw [show (dgt n).length = 1 by rw [dgt_small h0 h]; rfl] at h1
    exact h1
  clear hu8 hb1
  go_enter Tryd.func29, Tryd.ntmps29
  go_wp2_with fail
  go_ret
  exact ⟨rfl, (Below.refl _ _).alloc (Nat.le_refl _) _⟩

/-- Strings put together, as bytes. -/
theorem str_eq {s : ByteArray} {l : List UInt8} (h : s.toList = l) : Value.string s = .string ⟨l.toArray⟩ := by rw [← h]; exact congrArg Value.string (str_of s)

/-- A sum of strings, for the walk. -/
theorem add_ex (a b : ByteArray) (h : a.size + b.size ≤ 1099511627776) : ∃ s : ByteArray, (∀ W, (Op.stringOp .add a b).run Tryd.prog W = .ok (.string s) W) ∧ s.toList = a.toList ++ b.toList ∧ s.size = a.size + b.size :=
  ⟨a ++ b, fun W => run_string_add_sum W a b (by omega), toList_app a b, ByteArray.size_append⟩

set_option maxHeartbeats 2000000 in
set_option maxRecDepth 100000 in
theorem Line_any (r : Rs) (hr : resB r = true) (w : World) : Calls Tryd.prog 18 #[r.val] w (RetS w (lineL r)) := by
  obtain ⟨hu0, hu1, hh0, hh1, hn, hk⟩ := resB_bounds hr
  have HU : Hid (∀ W : World, Calls Tryd.prog 29 #[.int .i64 r.units] W fun e w' => e = .returned (.string ⟨(dgt r.units).toArray⟩) ∧ Below W.heap.size W w') := Lib.hid (fun W => Decimal_small r.units hu0 hu1 W)
  have HH : Hid (∀ W : World, Calls Tryd.prog 29 #[.int .i64 r.home] W fun e w' => e = .returned (.string ⟨(dgt r.home).toArray⟩) ∧ Below W.heap.size W w') := Lib.hid (fun W => Decimal_small r.home hh0 (by omega) W)
  obtain ⟨nm, kd, u, h⟩ := r
  simp only at hk HU HH
  have hlit : ∀ l : List UInt8, (⟨l.toArray⟩ : ByteArray).size = l.length := fun l => by simp [ByteArray.size]
  have hdul : (dgt u).length = 1 := by rw [dgt_small hu0 hu1]; rfl
  have hdhl : (dgt h).length = 1 := by rw [dgt_small hh0 (by omega)]; rfl
  have e1 := hlit (dgt u)
  have e2 := hlit (dgt h)
  have e3 := hlit [108, 111, 99, 107, 32]
  have e4 := hlit [32, 97, 116, 32]
  have e5 := hlit [10]
  have e6 := hlit [112, 111, 111, 108, 32]
  have e7 := hlit [32]
  simp only [List.length_cons, List.length_nil] at e3 e4 e5 e6 e7
  simp only at hn
  unfold Rs.val
  have g0 := Ext.new (w0 := w) #[.string nm, .int .i64 kd, .int .i64 u, .int .i64 h] 36 (j := 0) rfl
  have g1 := Ext.new (w0 := w) #[.string nm, .int .i64 kd, .int .i64 u, .int .i64 h] 36 (j := 1) rfl
  have g2 := Ext.new (w0 := w) #[.string nm, .int .i64 kd, .int .i64 u, .int .i64 h] 36 (j := 2) rfl
  have g3 := Ext.new (w0 := w) #[.string nm, .int .i64 kd, .int .i64 u, .int .i64 h] 36 (j := 3) rfl
  by_cases hk1 : kd = 1
  · obtain ⟨s1, a1, b1, c1⟩ := add_ex ⟨#[108, 111, 99, 107, 32]⟩ nm (by omega)
    obtain ⟨s2, a2, b2, c2⟩ := add_ex s1 ⟨#[32, 97, 116, 32]⟩ (by omega)
    obtain ⟨s3, a3, b3, c3⟩ := add_ex s2 ⟨(dgt h).toArray⟩ (by omega)
    obtain ⟨s4, a4, b4, c4⟩ := add_ex s3 ⟨#[10]⟩ (by omega)
    have HS : Hid (s4.toList = lineL ⟨nm, kd, u, h⟩) := Lib.hid (by
      unfold lineL
      rw [if_pos hk1, b4, b3, b2, b1]
      simp only [toList_lit, Rs.key])
    have hkd : (kd == 1) = true := by simp [hk1]
    clear hk1 hk b1 b2 b3 b4 c1 c2 c3 c4 e1 e2 e3 e4 e5 e6 e7 hlit hdul hdhl
    generalize dgt u = du at *
    generalize dgt h = dh at *
    go_enter Tryd.func18, Tryd.ntmps18
    go_wp2_with fail
    refine wp_region_grow (by kernel_rfl) (by kernel_rfl) ?_; (repeat (go_big_quiet_step ((go_at_call 29; with_reducible exact Ext.call _ (HH.out _))))); refine wpQuiet_nil ?_; rintro w2 ⟨n2, rfl⟩; obtain ⟨w2, hb2⟩ := n2
    go_wp2
    go_ret
    exact ⟨congrArg Ending.returned (str_eq HS.out), (((Below.refl _ _).alloc (Nat.le_refl _) _).trans (hb2.mono (by simp)))⟩
  · obtain ⟨s1, a1, b1, c1⟩ := add_ex ⟨#[112, 111, 111, 108, 32]⟩ nm (by omega)
    obtain ⟨s2, a2, b2, c2⟩ := add_ex s1 ⟨#[32]⟩ (by omega)
    obtain ⟨s3, a3, b3, c3⟩ := add_ex s2 ⟨(dgt u).toArray⟩ (by omega)
    obtain ⟨s4, a4, b4, c4⟩ := add_ex s3 ⟨#[32, 97, 116, 32]⟩ (by omega)
    obtain ⟨s5, a5, b5, c5⟩ := add_ex s4 ⟨(dgt h).toArray⟩ (by omega)
    obtain ⟨s6, a6, b6, c6⟩ := add_ex s5 ⟨#[10]⟩ (by omega)
    have HS : Hid (s6.toList = lineL ⟨nm, kd, u, h⟩) := Lib.hid (by
      unfold lineL
      rw [if_neg hk1, b6, b5, b4, b3, b2, b1]
      simp only [toList_lit, Rs.key])
    have hkd : (kd == 1) = false := by simp [hk1]
    clear hk1 hk b1 b2 b3 b4 b5 b6 c1 c2 c3 c4 c5 c6 e1 e2 e3 e4 e5 e6 e7 hlit hdul hdhl
    generalize dgt u = du at *
    generalize dgt h = dh at *
    go_enter Tryd.func18, Tryd.ntmps18
    go_wp2_with fail
    refine wp_region_grow (by kernel_rfl) (by kernel_rfl) ?_; (repeat (go_big_quiet_step ((go_at_call 29; first | (with_reducible exact Ext.call _ (HU.out _)) | (with_reducible exact Ext.call _ (HH.out _)))))); refine wpQuiet_nil ?_; rintro w2 ⟨n2, rfl⟩; obtain ⟨w2, hb2⟩ := n2
    go_wp2
    go_ret
    exact ⟨congrArg Ending.returned (str_eq HS.out), (((Below.refl _ _).alloc (Nat.le_refl _) _).trans (hb2.mono (by simp)))⟩

set_option maxHeartbeats 4000000 in
set_option maxRecDepth 100000 in
theorem rFormat_any (A : Option Addr) (B cap : Nat) (l : Ct) (w : World) (hm : l.length ≤ maxLen) (hB : B ≤ w.heap.size) (hr : RowsAt resE w (Lo B) A l) :
    Calls Tryd.prog 7 #[.slice A l.length cap] w (RetS w (fmtL l)) := by
  have HR := Lib.hid hr
  have HVC := Lib.hid (fun W (h : Below w.heap.size w W) => rCatValid_any A B cap l W hm (Nat.le_trans hB h.size) (hr.below h hB (Nat.le_refl _)))
  unfold maxLen at hm
  clear hr
  go_enter Tryd.func7, Tryd.ntmps7
  go_wp2_with fail
  refine (HVC.out _ (Below.refl _ _)).mono ?_
  rintro e w2 ⟨bv, rfl, hv, hb2⟩
  have HV := Lib.hid hv
  have HBEL2 := Lib.hid hb2
  clear hb2 hv
  cases bv with
  | false =>
    go_wp2
    go_ret
    exact ⟨by unfold fmtL; rw [if_neg (fun h => by have := HV.out.2 h; cases this)]; rfl, HBEL2.out⟩
  | true =>
    have hvc := Lib.hid (HV.out.1 rfl)
    have h8 := hvc.out.1
    have HFM : Hid (fmtL l = linesL l) := Lib.hid (by unfold fmtL; rw [if_pos hvc.out])
    go_wp2_with fail
    go_loopg [3, 4] l.length (fun m v3 v4 wq => ∃ (k : Nat) (s : ByteArray), v4 = .int .i64 (k : Int) ∧ v3 = .string s ∧ k ≤ l.length ∧ l.length ≤ k + m ∧ Hid (s.toList = linesL (l.take k)) ∧ Below w.heap.size w wq)
    case atStart => exact ⟨0, _, rfl, rfl, Nat.zero_le _, by omega, Lib.hid (by simp [linesL, ByteArray.toList_eq]), HBEL2.out⟩
    case round =>
      obtain ⟨k, s, rfl, rfl, hk, hkm, hS, hbw⟩ := hrel
      by_cases hlt : k < l.length
      · have hrw := HR.out.below (B'' := B) hbw hB (Nat.le_refl _)
        have hvr := hvc.out.2.1 k hlt
        have HLN := Lib.hid (fun W => Line_any l[k] hvr W)
        have hsz : s.size ≤ 64 * k := by
          rw [← size_toList, hS.out]
          exact linesL_len hvc.out.2.1 k hk
        have hlen := lineL_len hvr
        have hlsz : (⟨(lineL l[k]).toArray⟩ : ByteArray).size = (lineL l[k]).length := by simp [ByteArray.size]
        obtain ⟨s2, a2, b2, c2⟩ := add_ex s ⟨(lineL l[k]).toArray⟩ (by omega)
        clear hlsz
        have HS2 : Hid (s2.toList = linesL (l.take (k + 1))) := Lib.hid (by rw [b2, hS.out, linesL_take hlt, toList_lit])
        obtain ⟨⟨nm, kd, u, h⟩, hx⟩ : ∃ x, l[k] = x := ⟨_, rfl⟩
        obtain ⟨b, off, rfl, hbl, hc0, hc1, hc2, hc3⟩ := res_cells hrw hlt hx
        rw [hx] at HLN a2
        unfold Rs.val at HLN
        generalize lineL ⟨nm, kd, u, h⟩ = ln at *
        clear hx hrw hvr hlen b2 c2 hsz
        go_wp2_with fail
        refine (HLN.out _).mono ?_
        rintro e w3 ⟨rfl, hb3⟩
        have HB3 := Lib.hid (hbw.trans (hb3.mono hbw.size))
        clear hb3 hbw
        go_wp2_with fail
        go_roundg (gk - 1)
        case measure => omega
        case rel => exact ⟨k + 1, s2, by go_num, rfl, by omega, by omega, HS2.out, HB3.out⟩
      · obtain rfl : k = l.length := by omega
        go_wp2
        go_ret
        refine ⟨?_, hbw⟩
        rw [HFM.out]
        have := hS.out
        rw [List.take_length] at this
        exact congrArg Ending.returned (str_eq this)

set_option maxHeartbeats 4000000 in
set_option maxRecDepth 100000 in
theorem Format_any (A : Option Addr) (B cap : Nat) (l : Ct) (w : World) (hm : l.length ≤ maxLen) (hB : B ≤ w.heap.size) (hr : RowsAt resE w (Lo B) A l) :
    Calls Tryd.prog 5 #[.slice A l.length cap] w (RetS w (fmtL l)) := by
  have HR := Lib.hid hr
  have HVC := Lib.hid (fun W (h : Below w.heap.size w W) => CatValid_any A B cap l W hm (Nat.le_trans hB h.size) (hr.below h hB (Nat.le_refl _)))
  unfold maxLen at hm
  clear hr
  go_enter Tryd.func5, Tryd.ntmps5
  go_wp2_with fail
  refine (HVC.out _ (Below.refl _ _)).mono ?_
  rintro e w2 ⟨bv, rfl, hv, hb2⟩
  have HV := Lib.hid hv
  have HBEL2 := Lib.hid hb2
  clear hb2 hv
  cases bv with
  | false =>
    go_wp2
    go_ret
    exact ⟨by unfold fmtL; rw [if_neg (fun h => by have := HV.out.2 h; cases this)]; rfl, HBEL2.out⟩
  | true =>
    have hvc := Lib.hid (HV.out.1 rfl)
    have h8 := hvc.out.1
    have HFM : Hid (fmtL l = linesL l) := Lib.hid (by unfold fmtL; rw [if_pos hvc.out])
    go_wp2_with fail
    go_loopg [11] l.length (fun m v11 wq => ∃ (k : Nat), v11 = .int .i64 (k : Int) ∧ k ≤ l.length ∧ l.length ≤ k + m ∧ Hid (Lib.IsBuilder 34 5 w2.heap.size w2.heap.size (Lib.byteCells (linesL (l.take k))) wq) ∧ Below w2.heap.size w2 wq)
    case atStart => exact ⟨0, rfl, Nat.zero_le _, by omega, Lib.hid (Lib.fresh_isBuilder _ _ w2), (Below.refl _ _).alloc (Nat.le_refl _) _⟩
    case round =>
      obtain ⟨k, rfl, hk, hkm, hI, hbw⟩ := hrel
      have HBW := Lib.hid hbw
      have HBWW := Lib.hid (HBEL2.out.trans (hbw.mono HBEL2.out.size))
      have hszr : w2.heap.size < wr.heap.size := (isBuilder_lt hI.out).2
      clear hbw
      by_cases hlt : k < l.length
      · have hrw := HR.out.below (B'' := B) HBWW.out hB (Nat.le_refl _)
        have hvr := hvc.out.2.1 k hlt
        obtain ⟨hu0, hu1, hh0, hh1, hn, hkk⟩ := resB_bounds hvr
        have hlen0 := linesL_len hvc.out.2.1 k hk
        have hlt2 := linesL_take hlt
        obtain ⟨⟨nm, kd, u, h⟩, hx⟩ : ∃ x, l[k] = x := ⟨_, rfl⟩
        obtain ⟨b, off, rfl, hbl, hc0, hc1, hc2, hc3⟩ := res_cells hrw hlt hx
        rw [hx] at hu0 hu1 hh0 hh1 hn hkk hlt2
        simp only at hu0 hu1 hh0 hh1 hn hkk
        have HIH := Lib.hid (fun W => Itoa_any h hh0 (by omega) W)
        have HIU := Lib.hid (fun W => Itoa_any u hu0 (by omega) W)
        have hlit : ∀ l : List UInt8, (⟨l.toArray⟩ : ByteArray).size = l.length := fun l => by simp [ByteArray.size]
        have hdul : (dgt u).length = 1 := by rw [dgt_small hu0 hu1]; rfl
        have hdhl : (dgt h).length = 1 := by rw [dgt_small hh0 (by omega)]; rfl
        have e1 := hlit (dgt u)
        have e2 := hlit (dgt h)
        have e3 := hlit [108, 111, 99, 107, 32]
        have e4 := hlit [32, 97, 116, 32]
        have e5 := hlit [10]
        have e6 := hlit [112, 111, 111, 108, 32]
        have e7 := hlit [32]
        simp only [List.length_cons, List.length_nil] at e3 e4 e5 e6 e7
        obtain ⟨t1, x1, y1, z1⟩ := add_ex ⟨#[32, 97, 116, 32]⟩ ⟨(dgt h).toArray⟩ (by omega)
        obtain ⟨t2, x2, y2, z2⟩ := add_ex t1 ⟨#[10]⟩ (by omega)
        have hbl2 : b < wr.heap.size := Nat.lt_of_lt_of_le hbl (Nat.le_trans hB HBWW.out.size)
        have HLN2 : Hid (t2.size ≤ 1000) := Lib.hid (by omega)
        by_cases hk1 : kd = 1
        · obtain ⟨s1, a1, b1, c1⟩ := add_ex ⟨#[108, 111, 99, 107, 32]⟩ nm (by omega)
          have HS : Hid (linesL (l.take (k + 1)) = linesL (l.take k) ++ s1.toList ++ t2.toList) := Lib.hid (by
            rw [hlt2, y2, y1, b1]
            unfold lineL
            rw [if_pos hk1]
            simp only [toList_lit, Rs.key, List.append_assoc])
          have HLN1 : Hid (s1.size ≤ 1000) := Lib.hid (by omega)
          have HL0 : Hid ((linesL (l.take k)).length ≤ 64 * k) := Lib.hid hlen0
          have hkd : (kd == 1) = true := by simp [hk1]
          clear hk1 hkk b1 c1 y1 z1 y2 z2 e1 e2 e3 e4 e5 e6 e7 hlit hdul hdhl hx hrw hvr hlen0 hlt2 hu0 hu1 hh0 hh1 hn
          generalize dgt u = du at *
          generalize dgt h = dh at *
          have HI1 := Lib.hid (isBuilder_keep (w' := wr.alloc (.cells #[.string nm, .int .i64 kd, .int .i64 u, .int .i64 h] 36)) hI.out fun k hk => Below.heap_alloc wr _ k hk)
          go_wp2_with fail
          refine (WriteString_any w2.heap.size w2.heap.size _ s1 _ HI1.out (by rw [byteCells_len]; have := HL0.out; have := HLN1.out; omega) (by simp; omega)).mono ?_
          rintro e w3 ⟨rfl, hI3, hb3, hk3⟩
          have hbox3 := (Blk.new wr 36 #[.string nm, .int .i64 kd, .int .i64 u, .int .i64 h]).keptBut hk3 (by omega) (by decide)
          have hz0 := hbox3.cellx 0 (v := .string nm) rfl
          have hz1 := hbox3.cellx 1 (v := .int .i64 kd) rfl
          have hz2 := hbox3.cellx 2 (v := .int .i64 u) rfl
          have hz3 := hbox3.cellx 3 (v := .int .i64 h) rfl
          have HI3 := Lib.hid hI3
          have HB3 := Lib.hid ((HBW.out.alloc (Nat.le_of_lt hszr) (.cells #[.string nm, .int .i64 kd, .int .i64 u, .int .i64 h] 36)).trans hb3)
          clear hI3 hb3 hk3 hbox3
          go_wp2_with fail
          refine (HIH.out _).mono ?_
          rintro e w4 ⟨rfl, hw4⟩
          obtain rfl := hw4.symm
          go_wp2_with fail
          refine (WriteString_any w2.heap.size w2.heap.size _ t2 _ HI3.out (by rw [List.length_append, byteCells_len, Lib.strCells_length]; have := HL0.out; have := HLN1.out; have := HLN2.out; omega) HB3.out.size).mono ?_
          rintro e w5 ⟨rfl, hI5, hb5, _⟩
          have HI5 := Lib.hid hI5
          have HB5 := Lib.hid (HB3.out.trans hb5)
          clear hI5 hb5
          have HN : Hid (Lib.IsBuilder 34 5 w2.heap.size w2.heap.size (Lib.byteCells (linesL (l.take (k + 1)))) w5) := Lib.hid (by
            rw [HS.out, byteCells_app, byteCells_app, ← strCells_eq, ← strCells_eq]
            exact HI5.out)
          clear HI5
          go_wp2_with fail
          go_roundg (gk - 1)
          case measure => omega
          case rel => exact ⟨k + 1, by go_num, by omega, by omega, HN.out, HB5.out⟩
        · obtain ⟨s1, a1, b1, c1⟩ := add_ex ⟨#[112, 111, 111, 108, 32]⟩ nm (by omega)
          obtain ⟨s2, a2, b2, c2⟩ := add_ex s1 ⟨#[32]⟩ (by omega)
          obtain ⟨s3, a3, b3, c3⟩ := add_ex s2 ⟨(dgt u).toArray⟩ (by omega)
          have HS : Hid (linesL (l.take (k + 1)) = linesL (l.take k) ++ s3.toList ++ t2.toList) := Lib.hid (by
            rw [hlt2, y2, y1, b3, b2, b1]
            unfold lineL
            rw [if_neg hk1]
            simp only [toList_lit, Rs.key, List.append_assoc])
          have HLN1 : Hid (s3.size ≤ 1000) := Lib.hid (by omega)
          have HL0 : Hid ((linesL (l.take k)).length ≤ 64 * k) := Lib.hid hlen0
          have hkd : (kd == 1) = false := by simp [hk1]
          clear hk1 hkk b1 c1 b2 c2 b3 c3 y1 z1 y2 z2 e1 e2 e3 e4 e5 e6 e7 hlit hdul hdhl hx hrw hvr hlen0 hlt2 hu0 hu1 hh0 hh1 hn
          generalize dgt u = du at *
          generalize dgt h = dh at *
          have HI1 := Lib.hid (isBuilder_keep (w' := wr.alloc (.cells #[.string nm, .int .i64 kd, .int .i64 u, .int .i64 h] 36)) hI.out fun k hk => Below.heap_alloc wr _ k hk)
          go_wp2_with fail
          have g0 := Just.new (w0 := wr) #[.string nm, .int .i64 kd, .int .i64 u, .int .i64 h] 36 (j := 0) rfl
          have g1 := Just.new (w0 := wr) #[.string nm, .int .i64 kd, .int .i64 u, .int .i64 h] 36 (j := 1) rfl
          have g2 := Just.new (w0 := wr) #[.string nm, .int .i64 kd, .int .i64 u, .int .i64 h] 36 (j := 2) rfl
          have g3 := Just.new (w0 := wr) #[.string nm, .int .i64 kd, .int .i64 u, .int .i64 h] 36 (j := 3) rfl
          refine wp_region_tail 8 (by kernel_rfl) (by kernel_rfl) ?_; simp only [List.take_succ_cons, List.take_zero, List.drop_succ_cons, List.drop_zero]
          (repeat (go_big_quiet_step ((go_at_call 14; exact Just.call _ (HIU.out _))))); refine wpQuiet_nil ?_
          go_wp2_with fail
          refine (WriteString_any w2.heap.size w2.heap.size _ s3 (World.drew (wr.alloc (.cells #[.string nm, .int .i64 kd, .int .i64 u, .int .i64 h] 36))) (isBuilder_keep HI1.out (fun _ _ => rfl)) (by rw [byteCells_len]; have := HL0.out; have := HLN1.out; omega) (by simp; omega)).mono ?_
          rintro e w3 ⟨rfl, hI3, hb3, hk3⟩
          have hbox3 := Blk.keptBut (g := wr.heap.size) (t := 36) (cs := #[.string nm, .int .i64 kd, .int .i64 u, .int .i64 h]) (w := World.drew (wr.alloc (.cells #[.string nm, .int .i64 kd, .int .i64 u, .int .i64 h] 36))) (Blk.new wr 36 #[.string nm, .int .i64 kd, .int .i64 u, .int .i64 h]) hk3 (by omega) (by decide)
          have hz0 := hbox3.cellx 0 (v := .string nm) rfl
          have hz1 := hbox3.cellx 1 (v := .int .i64 kd) rfl
          have hz2 := hbox3.cellx 2 (v := .int .i64 u) rfl
          have hz3 := hbox3.cellx 3 (v := .int .i64 h) rfl
          have HI3 := Lib.hid hI3
          have HB3 := Lib.hid ((HBW.out.alloc (Nat.le_of_lt hszr) (.cells #[.string nm, .int .i64 kd, .int .i64 u, .int .i64 h] 36)).drew.trans hb3)
          clear hI3 hb3 hk3 hbox3
          go_wp2_with fail
          refine (HIH.out _).mono ?_
          rintro e w4 ⟨rfl, hw4⟩
          obtain rfl := hw4.symm
          go_wp2_with fail
          refine (WriteString_any w2.heap.size w2.heap.size _ t2 _ HI3.out (by rw [List.length_append, byteCells_len, Lib.strCells_length]; have := HL0.out; have := HLN1.out; have := HLN2.out; omega) HB3.out.size).mono ?_
          rintro e w5 ⟨rfl, hI5, hb5, _⟩
          have HI5 := Lib.hid hI5
          have HB5 := Lib.hid (HB3.out.trans hb5)
          clear hI5 hb5
          have HN : Hid (Lib.IsBuilder 34 5 w2.heap.size w2.heap.size (Lib.byteCells (linesL (l.take (k + 1)))) w5) := Lib.hid (by
            rw [HS.out, byteCells_app, byteCells_app, ← strCells_eq, ← strCells_eq]
            exact HI5.out)
          clear HI5
          go_wp2_with fail
          go_roundg (gk - 1)
          case measure => omega
          case rel => exact ⟨k + 1, by go_num, by omega, by omega, HN.out, HB5.out⟩
      · obtain rfl : k = l.length := by omega
        have hfin := hI.out
        rw [List.take_length] at hfin
        have HFIN := Lib.hid hfin
        clear hfin
        go_wp2_with fail
        refine (Tryd.Builder_String_any w2.heap.size w2.heap.size (linesL l) _ HFIN.out (by omega)).mono ?_
        rintro e w3 ⟨rfl, hb3⟩
        go_wp2
        go_ret
        exact ⟨by rw [HFM.out]; rfl, HBWW.out.trans (hb3.mono HBEL2.out.size)⟩
end Go.Proofs.YtbjbolpmbdllnaaDoor
