/- sort.Search with a function value that only reads; where a name stands in a sorted catalog. -/
import Derived.Test.YtbjbolpmbdllnaaDoorbValid
namespace Go.Proofs.YtbjbolpmbdllnaaDoor
open Go.RowKit

/-- The call returns the first place at which p is true, n if there is none. -/
def RetIx (w : World) (n : Nat) (p : Nat → Bool) (e : Ending) (w' : World) : Prop :=
  ∃ k : Nat, e = .returned (.int .i64 (k : Int)) ∧ k ≤ n ∧ (∀ t, t < k → p t = false) ∧ (∀ t, k ≤ t → t < n → p t = true) ∧ Below w.heap.size w w'

set_option maxHeartbeats 1600000 in
theorem Search_any (g : FuncId) (cb : Array Value) (n : Nat) (p : Nat → Bool) (w : World) (eg : ∀ args w, (callFunc g args).run Tryd.prog w = .ok (.enter g args) w) (hn : n < 4611686018427387904)
    (hf : ∀ (i : Nat) W, i < n → Below w.heap.size w W → Calls Tryd.prog g (#[.int .i64 (i : Int)] ++ cb) W (Ret W (.bool (p i)))) (hmono : ∀ a b, a ≤ b → b < n → p a = true → p b = true) :
    Calls Tryd.prog 38 #[.int .i64 (n : Int), .func (.func g) #[] cb] w (RetIx w n p) := by
  have HF := Lib.hid hf
  have HM := Lib.hid hmono
  clear hf hmono
  go_enter Tryd.func38, Tryd.ntmps38
  go_wp2_with fail
  go_loopg [5, 6] n (fun m v5 v6 wq => ∃ lo hi : Nat, v5 = .int .i64 (lo : Int) ∧ v6 = .int .i64 (hi : Int) ∧ lo ≤ hi ∧ hi ≤ n ∧ hi ≤ lo + m ∧ Hid ((∀ t, t < lo → p t = false) ∧ (∀ t, hi ≤ t → t < n → p t = true)) ∧ Below w.heap.size w wq)
  case atStart => exact ⟨0, n, rfl, rfl, Nat.zero_le _, Nat.le_refl _, by omega, Lib.hid ⟨fun _ h => absurd h (by omega), fun _ h1 h2 => absurd h1 (by omega)⟩, Below.refl _ _⟩
  case round =>
    obtain ⟨lo, hi, rfl, rfl, hlh, hin, hg, hI, hbw⟩ := hrel
    by_cases hlt : lo < hi
    · have hc := HF.out ((lo + hi) / 2) wr (by omega) hbw
      rw [show (((lo + hi) / 2 : Nat) : Int) = ((lo : Int) + (hi : Int)) / 2 by omega] at hc
      obtain ⟨q, hq⟩ : ∃ q, p ((lo + hi) / 2) = q := ⟨_, rfl⟩
      have HQ := Lib.hid hq
      rw [hq] at hc
      have HC := Lib.hid hc
      clear hq hc
      cases q with
      | false =>
        go_wp2_with fail
        refine HC.out.mono ?_
        rintro e w2 ⟨rfl, hb2⟩
        go_wp2_with fail
        go_roundg (hi - ((lo + hi) / 2 + 1))
        case measure => omega
        case rel =>
          refine ⟨(lo + hi) / 2 + 1, hi, by go_num, rfl, by omega, hin, by omega, Lib.hid ⟨fun t ht => ?_, hI.out.2⟩, hbw.trans (hb2.mono hbw.size)⟩
          cases hpt : p t with
          | false => rfl
          | true =>
            have := HM.out t ((lo + hi) / 2) (by omega) (by omega) hpt
            rw [HQ.out] at this
            cases this
      | true =>
        go_wp2_with fail
        refine HC.out.mono ?_
        rintro e w2 ⟨rfl, hb2⟩
        go_wp2_with fail
        go_roundg ((lo + hi) / 2 - lo)
        case measure => omega
        case rel =>
          exact ⟨lo, (lo + hi) / 2, rfl, by go_num, by omega, by omega, by omega, Lib.hid ⟨hI.out.1, fun t h1 h2 => HM.out ((lo + hi) / 2) t h1 h2 HQ.out⟩, hbw.trans (hb2.mono hbw.size)⟩
    · obtain rfl : hi = lo := by omega
      go_wp2
      go_ret
      exact ⟨hi, rfl, hin, hI.out.1, hI.out.2, hbw⟩

/-- How many resources of l have a name below n. -/
def plc (l : Ct) (n : Bs) : Nat := l.countP fun r => decide (r.key < n)

set_option maxHeartbeats 800000 in
theorem placeF_any (A : Option Addr) (B cap : Nat) (l : Ct) (n : ByteArray) (w : World) (hr : RowsAt resE w (Lo B) A l) (g1 g2 : Nat)
    (h1 : w.cell? ⟨g1, 0, none⟩ = some (.slice A l.length cap)) (h2 : w.cell? ⟨g2, 0, none⟩ = some (.string n)) (k : Nat) (hlt : k < l.length) :
    Calls Tryd.prog 39 #[.int .i64 (k : Int), .pointer (some ⟨g1, 0, none⟩), .pointer (some ⟨g2, 0, none⟩)] w (Ret w (.bool (!Op.bytesLess l[k].key n.toList))) := by
  obtain ⟨⟨nm, kd, u, h⟩, hx⟩ : ∃ x, l[k] = x := ⟨_, rfl⟩
  obtain ⟨b, off, rfl, hbl, hc0, hc1, hc2, hc3⟩ := res_cells hr hlt hx
  rw [hx]
  unfold Rs.key
  clear hx
  have hlti : (k : Int) < (l.length : Int) := by omega
  go_enter Tryd.func39, Tryd.ntmps39
  go_wp2
  go_quiet (fail)
  go_wp2
  go_ret
  exact ⟨rfl, below_drewN (Below.refl _ _) _⟩

/-- The call returns the place k at which the name n stands or would stand, and whether it is there. -/
def RetPl (w : World) (l : Ct) (n : Bs) (e : Ending) (w' : World) : Prop :=
  ∃ (k : Nat) (b : Bool), e = .returned (.tuple #[.int .i64 (k : Int), .bool b]) ∧ k ≤ l.length ∧ (∀ t (h : t < l.length), t < k → l[t].key < n) ∧ (∀ t (h : t < l.length), k ≤ t → ¬ l[t].key < n) ∧ (b = true ↔ ∃ h : k < l.length, l[k].key = n) ∧ Below w.heap.size w w'

set_option maxHeartbeats 1600000 in
theorem place_any (A : Option Addr) (B cap : Nat) (l : Ct) (n : ByteArray) (w : World) (hs : Sorted l) (hm : l.length ≤ 1000) (hB : B ≤ w.heap.size) (hr : RowsAt resE w (Lo B) A l) :
    Calls Tryd.prog 27 #[.slice A l.length cap, .string n] w (RetPl w l n.toList) := by
  obtain ⟨p, hp⟩ : ∃ p : Nat → Bool, p = fun i => if h : i < l.length then !Op.bytesLess l[i].key n.toList else true := ⟨_, rfl⟩
  have HS := Lib.hid hs
  have HSr : ∀ (i : Nat) W, i < l.length → Below (w.heap.size + 2) ((w.alloc (.cells #[.slice A l.length cap] 22)).alloc (.cells #[.string n] 9)) W →
      Calls Tryd.prog 39 (#[.int .i64 (i : Int)] ++ #[.pointer (some ⟨w.heap.size, 0, none⟩), .pointer (some ⟨w.heap.size + 1, 0, none⟩)]) W (Ret W (.bool (p i))) := by
    intro i W hi hW
    have hb := ((Below.refl w.heap.size w).alloc (Nat.le_refl _) (.cells #[.slice A l.length cap] 22)).alloc (by simp) (.cells #[.string n] 9)
    have h := placeF_any A B cap l n W (hr.below (B'' := B) (hb.trans (hW.mono (by omega))) hB (Nat.le_refl _)) w.heap.size (w.heap.size + 1) ?_ ?_ i hi
    · rw [hp]
      simp only [dif_pos hi]
      exact h
    · rw [hW.cell (p := ⟨w.heap.size, 0, none⟩) (by show w.heap.size < _; omega), World.cell?_alloc_lt _ _ _ (by simp)]
      exact cellNewA w _ _ 0
    · rw [hW.cell (p := ⟨w.heap.size + 1, 0, none⟩) (by show w.heap.size + 1 < _; omega)]
      simp
  have hmono : ∀ a b, a ≤ b → b < l.length → p a = true → p b = true := by
    intro a b hab hb
    rw [hp]
    simp only [dif_pos hb, dif_pos (show a < l.length by omega), bytesLess_eq]
    simp only [Bool.not_eq_true', decide_eq_false_iff_not]
    intro h1 h2
    rcases Nat.eq_or_lt_of_le hab with rfl | hlt
    · exact h1 h2
    · exact h1 (List.lt_trans (hs.lt b a hb hlt) h2)
  have HM := Lib.hid hmono
  have HSR := Lib.hid HSr
  have HP := Lib.hid hp
  have HR := Lib.hid hr
  clear hs HSr hmono hp hr
  have hmf : ∀ (fn : Fn) (first cap : Array Value) (w : World), (Instr.makeFunc fn first cap).run Tryd.prog w = .ok (.func fn first cap) w := fun _ _ _ _ => rfl
  go_enter Tryd.func27, Tryd.ntmps27
  go_wp2_with fail
  refine (Search_any 39 _ l.length p _ (fun _ _ => by kernel_rfl) (by omega) (fun i W hi hW => HSR.out i W hi (by simpa using hW)) HM.out).mono ?_
  rintro e w2 ⟨k, rfl, hk, hlo, hhi, hb2⟩
  have hb2' : Below (w.heap.size + 2) ((w.alloc (.cells #[.slice A l.length cap] 22)).alloc (.cells #[.string n] 9)) w2 := by simpa using hb2
  have hbel : Below w.heap.size w w2 := (((Below.refl w.heap.size w).alloc (Nat.le_refl _) _).alloc (by simp) _).trans (hb2'.mono (by omega))
  have hz0 : w2.cell? ⟨w.heap.size, 0, none⟩ = some (.slice A l.length cap) := by
    rw [hb2'.cell (p := ⟨w.heap.size, 0, none⟩) (by show w.heap.size < _; omega), World.cell?_alloc_lt _ _ _ (by simp)]
    exact cellNewA w _ _ 0
  have hz1 : w2.cell? ⟨w.heap.size + 1, 0, none⟩ = some (.string n) := by
    rw [hb2'.cell (p := ⟨w.heap.size + 1, 0, none⟩) (by show w.heap.size + 1 < _; omega)]
    simp
  have hr2 := HR.out.below (B'' := w2.heap.size) hbel hB (Nat.le_trans hB hbel.size)
  have h1 : ∀ t (h : t < l.length), t < k → l[t].key < n.toList := by
    intro t ht hlt
    have := hlo t hlt
    rw [HP.out] at this
    simpa [dif_pos ht, bytesLess_eq] using this
  have h2 : ∀ t (h : t < l.length), k ≤ t → ¬ l[t].key < n.toList := by
    intro t ht hle
    have := hhi t hle ht
    rw [HP.out] at this
    simpa [dif_pos ht, bytesLess_eq] using this
  have H1 := Lib.hid h1
  have H2 := Lib.hid h2
  have HBel := Lib.hid hbel
  clear h1 h2 hlo hhi hb2 hb2' hbel
  by_cases hlt : k < l.length
  · obtain ⟨⟨nm, kd, u, h⟩, hx⟩ : ∃ x, l[k] = x := ⟨_, rfl⟩
    obtain ⟨b, off, rfl, hbl, hc0, hc1, hc2, hc3⟩ := res_cells hr2 hlt hx
    have HX := Lib.hid hx
    clear hx hr2
    have hlti : (k : Int) < (l.length : Int) := by omega
    go_wp2
    go_quiet (fail)
    go_wp2
    go_ret2
    refine ⟨k, _, rfl, hk, H1.out, H2.out, ?_, below_drewN HBel.out _⟩
    constructor
    · intro h
      exact ⟨hlt, by rw [HX.out]; exact beq_iff_eq.1 h⟩
    · rintro ⟨_, h⟩
      rw [HX.out] at h
      exact beq_iff_eq.2 h
  · have hd : decide (k < l.length) = false := decide_eq_false hlt
    have hd2 : decide ((k : Int) < (l.length : Int)) = false := decide_eq_false (by omega)
    go_wp2
    go_quiet (fail)
    go_wp2
    go_ret2
    exact ⟨k, false, rfl, hk, H1.out, H2.out, by simp [hlt], below_drewN HBel.out _⟩
end Go.Proofs.YtbjbolpmbdllnaaDoor
