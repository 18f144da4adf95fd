/- PutProc, the document's. -/
import Derived.Test.YtebhcchdcpechaaDooriPutP
import Derived.Test.YtebhcchdcpechaaDoorirPut
import Derived.Deep.RegionHeld3
import Derived.Deep.RegionWith
namespace Go.Proofs.YtebhcchdcpechaaDoor
open Go.RowKit

/-- PutUint onto a row of the call's own. -/
theorem rPutUint_own {w0 : World} {base : Nat} {v : Value} {l : List UInt8} (n : Int) (w : World) (hown : OwnRows byteE 5 w base v l) (hb : Below base w0 w) (h0 : 0 ≤ n) (h1 : n ≤ 999) (hm : l.length ≤ 140737488355300) :
    Calls Tryd.prog 51 #[v, .int .u64 n] w fun e w' => ∃ v', e = .returned v' ∧ OwnRows byteE 5 w' w.heap.size v' (l ++ encS n.toNat) ∧ Below base w0 w' ∧ Below w.heap.size w w' := by
  obtain ⟨A, cap, rfl, hA, hr, hc, hcm⟩ := hown.form2
  have := rPutUint_any A cap l n.toNat w (by omega) hm hr
  rw [show ((n.toNat : Nat) : Int) = n by omega] at this
  refine this.mono ?_
  rintro e w' ⟨v', rfl, ho, hbl⟩
  exact ⟨v', rfl, ho, hb.trans (hbl.mono hown.1), hbl⟩

set_option maxHeartbeats 3200000 in
set_option maxRecDepth 100000 in
theorem rPutProc_any (A : Option Addr) (cap : Nat) (l : List UInt8) (p : Pr) (w : World) (hp : vpB p = true) (hm : l.length ≤ 140737488355200) (hr : RowsAt byteE w (Lo w.heap.size) A l) :
    Calls Tryd.prog 35 #[.slice A l.length cap, p.val] w (RetRow byteE 5 w (l ++ putS p)) := by
  have HV := Lib.hid (fun W => rVProc_any p W)
  rw [hp] at HV
  have HL : Hid (l ++ putS p = l ++ encS p.site.toNat ++ encS p.inc.toNat ++ encS p.num.toNat) := Lib.hid (by
    unfold putS putP
    rw [if_pos hp]
    simp)
  rw [HL.out]
  obtain ⟨a0, a1, b0, b1, c0, c1⟩ := vpB_iff.1 hp
  have H1 : Hid (∀ W, Below w.heap.size w W → Calls Tryd.prog 51 #[.slice A l.length cap, .int .u64 p.site] W fun e w' => ∃ v', e = .returned v' ∧ OwnRows byteE 5 w' W.heap.size v' (l ++ encS p.site.toNat) ∧ Below W.heap.size W w') := Lib.hid (fun W hb => by
    have := rPutUint_any A cap l p.site.toNat W (by omega) (by omega) (hr.below hb (Nat.le_refl _) hb.size)
    rw [show ((p.site.toNat : Nat) : Int) = p.site by omega] at this
    exact this)
  obtain ⟨a, b, c⟩ := p
  unfold Pr.val at *
  dsimp only at *
  have wa : IntKind.u64.wrap a = a := IntWalk.u64_in _ (by omega)
  have wb : IntKind.u64.wrap b = b := IntWalk.u64_in _ (by omega)
  have wc : IntKind.u64.wrap c = c := IntWalk.u64_in _ (by omega)
  have HLa : Hid ((encS a.toNat).length ≤ 10 ∧ (encS b.toNat).length ≤ 10) := Lib.hid ⟨encS_len 9 _ (by
      have e70 : (2 : Nat) ^ (7 * (9 + 1)) = 1180591620717411303424 := by decide
      omega), encS_len 9 _ (by
      have e70 : (2 : Nat) ^ (7 * (9 + 1)) = 1180591620717411303424 := by decide
      omega)⟩
  have HM := Lib.hid hm
  have HRG := Lib.hid (And.intro (And.intro a0 a1) (And.intro (And.intro b0 b1) (And.intro c0 c1)))
  have l2 : Hid ((l ++ encS a.toNat).length ≤ 140737488355300) := Lib.hid (by have := HLa.out.1; rw [List.length_append]; omega)
  have l3 : Hid ((l ++ encS a.toNat ++ encS b.toNat).length ≤ 140737488355300) := Lib.hid (by have := HLa.out; rw [List.length_append, List.length_append]; omega)
  clear a0 a1 b0 b1 c0 c1 hp hr
  go_enter Tryd.func35, Tryd.ntmps35
  go_wp2_with fail
  refine (HV.out _).mono ?_
  rintro e w1 ⟨rfl, hb1⟩
  have HK1 : Hid (Blk w1.drew w.heap.size 23 #[.int .i64 a, .int .i64 b, .int .i64 c]) := Lib.hid (((Blk.new w 23 #[.int .i64 a, .int .i64 b, .int .i64 c]).below hb1 (by simp)).drewN 1)
  have HB1 : Hid (Below w.heap.size w w1.drew) := Lib.hid (Below.drew (Below.tr (Below.al (Below.refl _ _) _) hb1))
  clear hb1
  go_wp2_with fail
  go_region_held3 (fun w' => w'.cell? ⟨w.heap.size, 0, none⟩ = some (.int .i64 a) ∧ w'.cell? ⟨w.heap.size, 1, none⟩ = some (.int .i64 b) ∧ w'.cell? ⟨w.heap.size, 2, none⟩ = some (.int .i64 c))
    (first
      | exact ⟨HK1.out.cellx 0 rfl, HK1.out.cellx 1 rfl, HK1.out.cellx 2 rfl⟩
      | exact hC4 | exact hC3 | exact hC2)
    ((first
      | (go_at_call_of 51 (Value.int .u64 a); refine (H1.out _ HB1.out).mono ?_; rintro e w2 ⟨v2, rfl, hown2, hb2⟩; have HOWN2 := Lib.hid hown2; have HB2 : Hid (Below w.heap.size w w2) := Lib.hid (Below.tr HB1.out hb2); have hK2 : Hid (Blk w2 w.heap.size 23 #[.int .i64 a, .int .i64 b, .int .i64 c]) := Lib.hid (HK1.out.below hb2 HK1.out.lt); have hC2 := And.intro (hK2.out.cellx 0 (v := .int .i64 a) rfl) (And.intro (hK2.out.cellx 1 (v := .int .i64 b) rfl) (hK2.out.cellx 2 (v := .int .i64 c) rfl)); clear hown2 hb2)
      | (go_at_call_of 51 (Value.int .u64 b); refine (rPutUint_own b _ HOWN2.out (Below.refl _ _) (by have := HRG.out.2.1; omega) (by have := HRG.out.2.1; omega) l2.out).mono ?_; rintro e w3 ⟨v3, rfl, hown3, _, hb3⟩; have HOWN3 := Lib.hid hown3; have HB3 : Hid (Below w.heap.size w w3) := Lib.hid (Below.tr HB2.out hb3); have hK3 : Hid (Blk w3 w.heap.size 23 #[.int .i64 a, .int .i64 b, .int .i64 c]) := Lib.hid (hK2.out.below hb3 hK2.out.lt); have hC3 := And.intro (hK3.out.cellx 0 (v := .int .i64 a) rfl) (And.intro (hK3.out.cellx 1 (v := .int .i64 b) rfl) (hK3.out.cellx 2 (v := .int .i64 c) rfl)); clear hown3 hb3 hC2)
      | (go_at_call_of 51 (Value.int .u64 c); refine (rPutUint_own c _ HOWN3.out (Below.refl _ _) (by have := HRG.out.2.2; omega) (by have := HRG.out.2.2; omega) l3.out).mono ?_; rintro e w4 ⟨v4, rfl, hown4, _, hb4⟩; have HOWN4 := Lib.hid hown4; have HB4 : Hid (Below w.heap.size w w4) := Lib.hid (Below.tr HB3.out hb4); have hK4 : Hid (Blk w4 w.heap.size 23 #[.int .i64 a, .int .i64 b, .int .i64 c]) := Lib.hid (hK3.out.below hb4 hK3.out.lt); have hC4 := And.intro (hK4.out.cellx 0 (v := .int .i64 a) rfl) (And.intro (hK4.out.cellx 1 (v := .int .i64 b) rfl) (hK4.out.cellx 2 (v := .int .i64 c) rfl)); clear hown4 hb4 hC3)))
  all_goals
    go_wp2
    go_ret
    exact ⟨_, rfl, HOWN4.out.older HB3.out.size, HB4.out⟩
end Go.Proofs.YtebhcchdcpechaaDoor
