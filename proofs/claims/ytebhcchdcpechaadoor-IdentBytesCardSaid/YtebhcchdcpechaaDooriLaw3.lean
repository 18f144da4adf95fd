/- bytes.Equal; the laws IdentReads, IdentBytes: the walks. -/
import Derived.Test.YtebhcchdcpechaaDooriAwake
import Derived.Test.YtebhcchdcpechaaDoorirProc
import Derived.Test.YtebhcchdcpechaaDoorirPutP
namespace Go.Proofs.YtebhcchdcpechaaDoor
open Go.RowKit

theorem conv_bytes (A : Option Addr) (cap : Nat) (l : List UInt8) (W : World) (S : Nat → Prop) (hr : RowsAt byteE W S A l) : (convert 45 9 (.slice A l.length cap)).run Tryd.prog W = .ok (.string ⟨l.toArray⟩) W := by
  cases A with
  | none =>
    have hl : l = [] := by
      rcases Nat.eq_zero_or_pos l.length with h | h
      · exact List.eq_nil_of_length_eq_zero h
      · obtain ⟨_, _, hA, _⟩ := byte_cell hr h
        cases hA
    subst hl
    exact run_convert_bytes_nil W 45 5 Tryd.underlying45 Tryd.underlying5 0 cap 9 Tryd.underlying9
  | some a =>
    refine run_convert_bytes_back (P := Tryd.prog) W 45 9 5 a cap l Tryd.underlying45 Tryd.underlying5 Tryd.underlying9 fun j hj => ?_
    obtain ⟨b, off, hA, _, hc⟩ := byte_cell hr hj
    injection hA with hA
    subst hA
    rw [addr_add]
    exact hc
theorem Equal_any (A A' : Option Addr) (cap cap' : Nat) (l l' : List UInt8) (n n' : Nat) (hn : n = l.length) (hn' : n' = l'.length) (S S' : Nat → Prop) (w : World) (hr : RowsAt byteE w S A l) (hr' : RowsAt byteE w S' A' l') :
    Calls Tryd.prog 34 #[.slice A n cap, .slice A' n' cap'] w (Same w (.bool (l == l'))) := by
  subst hn
  subst hn'
  have c1 := conv_bytes A cap l w S hr
  have c2 := conv_bytes A' cap' l' w S' hr'
  have e : ((⟨l.toArray⟩ : ByteArray).toList == (⟨l'.toArray⟩ : ByteArray).toList) = (l == l') := by rw [ByteArray.toList_eq, ByteArray.toList_eq]
  generalize (⟨l.toArray⟩ : ByteArray) = s at *
  generalize (⟨l'.toArray⟩ : ByteArray) = s' at *
  clear hr hr'
  go_enter Tryd.func34, Tryd.ntmps34
  go_wp2
  go_ret
  exact ⟨rfl, rfl⟩

set_option maxHeartbeats 1600000 in
set_option maxRecDepth 100000 in
theorem IReads_any (A : Option Addr) (cap : Nat) (l : List UInt8) (w : World) (hc : l.length ≤ cap) (hcm : cap ≤ maxLen) (hm : l.length ≤ 281474976710656) (hr : RowsAt byteE w (Lo w.heap.size) A l) (hL : Lay w) : Calls Tryd.prog 11 #[.slice A l.length cap] w (Ret w (.bool true)) := by
  have H1 := Lib.hid (fun W h => awake_any W h)
  have H2 := Lib.hid (Proc_any A cap l w hc hcm hm hr)
  have H3 := Lib.hid (fun W (hb : Below w.heap.size w W) => rProc_any A cap l W hc hcm hm (hr.below hb (Nat.le_refl _) hb.size))
  obtain ⟨⟨⟨a, b, c⟩, n, er⟩, hx⟩ : ∃ x, procS l = x := ⟨_, rfl⟩
  rw [hx] at H2 H3
  unfold procV Pr.val at H2 H3
  dsimp only at H2 H3
  obtain ⟨k1, k2, k3⟩ := cmpPr a b c a b c
  have hn : ((n : Int) == (n : Int)) = true := by simp
  have he : ((er : Int) == er) = true := by simp
  have LH := Lib.hid hL
  clear hL hx hr hc hcm hm
  go_enter Tryd.func11, Tryd.ntmps11
  go_wp2_with fail
  refine H2.out.mono ?_
  rintro e w1 ⟨rfl, hb1⟩
  have HB1 := Lib.hid hb1
  clear hb1
  go_wp2_with fail
  refine (H3.out _ (Below.al HB1.out _)).mono ?_
  rintro e w2 ⟨rfl, hb2⟩
  obtain ⟨hc_w2, hf_w2⟩ := bcell hb2
  have hs_w2 := hb2.size
  (try simp at hs_w2)
  have hz_w2_0 : w1.heap.size < w2.heap.size := by omega
  clear hs_w2
  have HB2 : Hid (Below w.heap.size w w2) := Lib.hid (Below.tr (Below.al HB1.out _) hb2)
  clear hb2
  go_wp2_with fail
  refine (H1.out _ (LH.out.below (Below.al HB2.out _))).mono ?_
  rintro e w3 ⟨rfl, hb3⟩
  obtain ⟨hc_w3, hf_w3⟩ := bcell hb3
  have hs_w3 := hb3.size
  (try simp at hs_w3)
  have hz_w3_0 : w2.heap.size < w3.heap.size := by omega
  clear hs_w3
  have hz : w1.heap.size < w3.heap.size := by omega
  have HB3 : Hid (Below w.heap.size w w3) := Lib.hid (Below.tr (Below.al HB2.out _) hb3)
  clear hb3
  go_wp2_with fail
  go_ret
  exact ⟨rfl, HB3.out⟩
end Go.Proofs.YtebhcchdcpechaaDoor
