/- The law IdentSorts: the walk. -/
import Derived.Test.YtambinjjfapcgaaDooriSortL
import Derived.Test.YtambinjjfapcgaaDooriHas2
import Derived.Test.YtambinjjfapcgaaDoorirCmp
import Derived.Test.YtambinjjfapcgaaDooriAwake
namespace Go.Proofs.YtambinjjfapcgaaDoor
open Go.RowKit

theorem cmpP_of_lt {p q : Pr} (h : LtP p q) : cmpP p q = -1 := by
  rcases cmpP_cases p q with ⟨_, e⟩ | ⟨h2, _⟩ | ⟨h2, _⟩
  · exact e
  · exact absurd h (by subst h2; exact LtP_irrefl _)
  · exact absurd h (LtP_asymm h2)

set_option maxHeartbeats 6400000 in
set_option maxRecDepth 100000 in
theorem ISorts_any (A : Option Addr) (cap : Nat) (l : List Pr) (p : Pr) (w : World) (hm : l.length ≤ maxLen) (hr : RowsAt prE w (Lo w.heap.size) A l) (hL : Lay w) :
    Calls Tryd.prog 3 #[.slice A l.length cap, p.val] w (Ret w (.bool true)) := by
  have H1 := Lib.hid (fun W h => awake_any W h)
  have LH := Lib.hid hL
  have HR := Lib.hid hr
  obtain ⟨x, y, z⟩ := p
  rcases Nat.lt_or_ge 100 l.length with hbig | hsm
  · have hbi : (100 : Int) < (l.length : Int) := by omega
    unfold Pr.val
    clear hr hL
    go_enter Tryd.func3, Tryd.ntmps3
    go_wp2_with fail
    refine (H1.out _ (LH.out.below (by ((repeat (first | (with_reducible exact Below.refl _ _) | (with_reducible assumption) | (with_reducible refine below_drewN ?_ _) | (with_reducible refine Below.drew ?_) | (with_reducible refine Below.al ?_ _) | (with_reducible refine Below.st ?_ (by simp; try omega)) | (with_reducible refine Below.tr ?_ (by assumption)))))))).mono ?_
    rintro e w1 ⟨rfl, hb1⟩
    have HB1 : Hid (Below w.heap.size w w1) := Lib.hid (Below.tr (Below.al (Below.refl _ _) _) hb1)
    clear hb1
    go_wp2_with fail
    go_ret
    exact ⟨rfl, HB1.out⟩
  · have hbi : ¬ (100 : Int) < (l.length : Int) := by omega
    have HS : Hid (∀ W, Below w.heap.size w W → Calls Tryd.prog 5 #[.slice A l.length cap] W (RetRow prE 24 W (sortS l))) := Lib.hid (fun W hb => SortProcs_any A cap l W (by omega) (hr.below hb (Nat.le_refl _) hb.size))
    have HRH : Hid (∀ (W : World) (q : Pr), Below w.heap.size w W → Calls Tryd.prog 6 #[.slice A l.length cap, q.val] W (Ret W (.bool (decide (q ∈ l))))) := Lib.hid (fun W q hb => rHas_any A w.heap.size cap l q W hm hb.size (hr.below hb (Nat.le_refl _) (Nat.le_refl _)))
    have HPH : Hid (∀ (W : World) (q : Pr), Below w.heap.size w W → Calls Tryd.prog 8 #[.slice A l.length cap, q.val] W (Ret W (.bool (decide (q ∈ l))))) := Lib.hid (fun W q hb => Has_any A cap l q W hm (hr.below hb (Nat.le_refl _) hb.size))
    have hmem := sortS_mem l
    have hasc := sortS_asc l
    have hlen := sortS_len l
    obtain ⟨out, hout⟩ : ∃ o, sortS l = o := ⟨_, rfl⟩
    rw [hout] at HS hmem hasc hlen
    have HM := Lib.hid hmem
    have HAsc := Lib.hid hasc
    clear hr hL hmem hasc hout hm
    unfold Pr.val
    go_enter Tryd.func3, Tryd.ntmps3
    go_wp2_with fail
    refine (HS.out _ (by ((repeat (first | (with_reducible exact Below.refl _ _) | (with_reducible assumption) | (with_reducible refine below_drewN ?_ _) | (with_reducible refine Below.drew ?_) | (with_reducible refine Below.al ?_ _) | (with_reducible refine Below.st ?_ (by simp; try omega)) | (with_reducible refine Below.tr ?_ (by assumption))))))).mono ?_
    rintro e w1 ⟨v1, rfl, hown1, hb1⟩
    have HB1 : Hid (Below w.heap.size w w1) := Lib.hid (Below.tr (Below.al (Below.refl _ _) _) hb1)
    have HK1 : Hid (Blk w1 w.heap.size 24 #[.int .i64 x, .int .i64 y, .int .i64 z]) := Lib.hid ((Blk.new w 24 #[.int .i64 x, .int .i64 y, .int .i64 z]).below hb1 (by simp))
    obtain ⟨A1, cap1, rfl, _, hr1, hc1, hcm1⟩ := hown1.form2
    have HR1 := Lib.hid hr1
    clear hown1 hb1 hr1
    have HCP : Hid (∀ W, Below w1.heap.size w1 W → ∀ q : Pr, Calls Tryd.prog 8 #[.slice A1 out.length cap1, q.val] W (Ret W (.bool (decide (q ∈ out))))) := Lib.hid (fun W hb q => Has_any A1 cap1 out q W (by omega) (HR1.out.below hb (Nat.le_refl _) hb.size))
    go_wp2_with fail
    go_loopg [6] out.length (fun m v wq => ∃ k : Nat, v = .int .i64 (k : Int) ∧ k ≤ out.length ∧ out.length ≤ k + m ∧ Hid (Below w1.heap.size w1 wq))
    case atStart => exact ⟨0, rfl, Nat.zero_le _, by omega, Lib.hid (Below.refl _ _)⟩
    case round =>
      obtain ⟨k, rfl, hk, hkm, HBW⟩ := hrel
      by_cases hlt : k < out.length
      · have hrw := HR1.out.below (B'' := w1.heap.size) HBW.out (Nat.le_refl _) (Nat.le_refl _)
        obtain ⟨⟨a, b, c⟩, hx⟩ : ∃ x, out[k] = x := ⟨_, rfl⟩
        obtain ⟨g, off, rfl, hgl, hc0, hc1, hc2⟩ := pr_cells hrw hlt hx
        have e0 := Ext.cell hc0
        have e1 := Ext.cell hc1
        have e2 := Ext.cell hc2
        have HE : Hid (∀ n : Ext wr, Below w.heap.size w n.w) := Lib.hid fun n => Below.tr (Below.tr HB1.out HBW.out) n.below
        have HHas : Hid (∀ n : Ext wr, Calls Tryd.prog 6 #[.slice A l.length cap, .agg #[.int .i64 a, .int .i64 b, .int .i64 c]] n.w (Ret n.w (.bool true))) := Lib.hid fun n => by
          have := HRH.out n.w ⟨a, b, c⟩ (HE.out n)
          rwa [decide_eq_true ((HM.out _).1 (mem_of_get hlt hx))] at this
        rcases Nat.eq_zero_or_pos k with hk0 | hk0
        · subst hk0
          simp only [Nat.zero_mul, Nat.add_zero] at e0 e1 e2
          have hlti : (0 : Int) < (out.length : Int) := by omega
          clear hc0 hc1 hc2 hrw hx
          go_wp2_with fail
          refine wp_region_grow (by kernel_rfl) (by kernel_rfl) ?_; (repeat (go_big_quiet_step ((go_at_call 6; with_reducible exact Ext.call _ (HHas.out _))))); refine wpQuiet_nil ?_; rintro w2 ⟨n2, rfl⟩; obtain ⟨w2, hb2⟩ := n2
          dsimp only
          go_wp2_with fail
          go_roundg (gk - 1)
          case measure => omega
          case rel => exact ⟨1, by go_num, by omega, by omega, Lib.hid (Below.tr HBW.out hb2)⟩
        · have hki : (0 : Int) < (k : Int) := by omega
          have hlti : (k : Int) < (out.length : Int) := by omega
          obtain ⟨⟨a', b', c'⟩, hy⟩ : ∃ x, out[k - 1] = x := ⟨_, rfl⟩
          obtain ⟨_, _, hA, _, hd0, hd1, hd2⟩ := pr_cells hrw (by omega) hy
          injection hA with hA
          injection hA with e1 e2
          subst e1
          subst e2
          have d0 := Ext.cell hd0
          have d1 := Ext.cell hd1
          have d2 := Ext.cell hd2
          have hw1 : IntKind.i64.wrap ((k : Int) - 1) = ((k - 1 : Nat) : Int) := by rw [IntWalk.i64_in _ (by unfold maxLen at hcm1; omega)]; omega
          have HCmp : Hid (∀ W : World, Calls Tryd.prog 7 #[.agg #[.int .i64 a', .int .i64 b', .int .i64 c'], .agg #[.int .i64 a, .int .i64 b, .int .i64 c]] W (Ret W (.int .i64 (-1)))) := Lib.hid fun W => by
            have := rCProc_any ⟨a', b', c'⟩ ⟨a, b, c⟩ W
            rwa [cmpP_of_lt (by
              have := List.pairwise_iff_getElem.1 HAsc.out (k - 1) k (by omega) hlt (by omega)
              rwa [hx, hy] at this)] at this
          clear hc0 hc1 hc2 hd0 hd1 hd2 hrw hx hy
          go_wp2_with fail
          refine wp_region_grow (by kernel_rfl) (by kernel_rfl) ?_; (repeat (go_big_quiet_step ((first | (go_at_call 6; with_reducible exact Ext.call _ (HHas.out _)) | (go_at_call 7; with_reducible exact Ext.call _ (HCmp.out _)))))); refine wpQuiet_nil ?_; rintro w2 ⟨n2, rfl⟩; obtain ⟨w2, hb2⟩ := n2
          dsimp only
          go_wp2_with fail
          go_roundg (gk - 1)
          case measure => omega
          case rel => exact ⟨k + 1, by go_num, by omega, by omega, Lib.hid (Below.tr HBW.out hb2)⟩
      · have hlti : ¬ (k : Int) < (out.length : Int) := by omega
        have HB0 := HBW
        clear HBW
        go_wp2_with fail
        go_loopg [7] l.length (fun m v wq => ∃ k : Nat, v = .int .i64 (k : Int) ∧ k ≤ l.length ∧ l.length ≤ k + m ∧ Hid (Below w1.heap.size w1 wq))
        case atStart => exact ⟨0, rfl, Nat.zero_le _, by omega, HB0⟩
        case round =>
          obtain ⟨k, rfl, hk, hkm, HBW⟩ := hrel
          have HBw : Hid (Below w.heap.size w wr) := Lib.hid (Below.tr HB1.out HBW.out)
          by_cases hlt2 : k < l.length
          · have hrw := HR.out.below (B'' := w.heap.size) HBw.out (Nat.le_refl _) (Nat.le_refl _)
            obtain ⟨⟨a, b, c⟩, hx⟩ : ∃ x, l[k] = x := ⟨_, rfl⟩
            obtain ⟨g, off, rfl, hgl, hc0, hc1, hc2⟩ := pr_cells hrw hlt2 hx
            have hgl2 : g < wr.heap.size := Nat.lt_of_lt_of_le hgl HBw.out.size
            have HHas : Hid (Calls Tryd.prog 8 #[.slice A1 out.length cap1, .agg #[.int .i64 a, .int .i64 b, .int .i64 c]] wr (Ret wr (.bool true))) := Lib.hid (by
              have := HCP.out wr HBW.out ⟨a, b, c⟩
              rwa [decide_eq_true ((HM.out _).2 (mem_of_get hlt2 hx))] at this)
            have hlti : (k : Int) < (l.length : Int) := by omega
            clear hrw hx
            go_wp2_with fail
            refine HHas.out.mono ?_
            rintro e w2 ⟨rfl, hb2⟩
            have HB2 : Hid (Below w1.heap.size w1 w2) := Lib.hid (Below.tr HBW.out hb2)
            clear hb2
            go_wp2_with fail
            go_roundg (gk - 1)
            case measure => omega
            case rel => exact ⟨k + 1, by go_num, by omega, by omega, HB2⟩
          · have hlti : ¬ (k : Int) < (l.length : Int) := by omega
            have HK : Hid (Blk wr w.heap.size 24 #[.int .i64 x, .int .i64 y, .int .i64 z]) := Lib.hid (HK1.out.below HBW.out HK1.out.lt)
            have e0 := Ext.cell (HK.out.cellx 0 (v := .int .i64 x) rfl)
            have e1 := Ext.cell (HK.out.cellx 1 (v := .int .i64 y) rfl)
            have e2 := Ext.cell (HK.out.cellx 2 (v := .int .i64 z) rfl)
            have HE : Hid (∀ n : Ext wr, Below w.heap.size w n.w) := Lib.hid fun n => Below.tr HBw.out n.below
            have HLL : Hid (∀ n : Ext wr, Lay n.w) := Lib.hid fun n => LH.out.below (HE.out n)
            obtain ⟨r, hr⟩ : ∃ r, decide ((⟨x, y, z⟩ : Pr) ∈ l) = r := ⟨_, rfl⟩
            have hro : decide ((⟨x, y, z⟩ : Pr) ∈ out) = r := by rw [← hr]; exact decide_eq_decide.2 (HM.out _)
            have P1 : Hid (∀ n : Ext wr, Calls Tryd.prog 6 #[.slice A l.length cap, .agg #[.int .i64 x, .int .i64 y, .int .i64 z]] n.w (Ret n.w (.bool r))) := Lib.hid fun n => by
              have := HRH.out n.w ⟨x, y, z⟩ (HE.out n)
              rwa [hr] at this
            have P2 : Hid (∀ n : Ext wr, Calls Tryd.prog 8 #[.slice A l.length cap, .agg #[.int .i64 x, .int .i64 y, .int .i64 z]] n.w (Ret n.w (.bool r))) := Lib.hid fun n => by
              have := HPH.out n.w ⟨x, y, z⟩ (HE.out n)
              rwa [hr] at this
            have P3 : Hid (∀ n : Ext wr, Calls Tryd.prog 8 #[.slice A1 out.length cap1, .agg #[.int .i64 x, .int .i64 y, .int .i64 z]] n.w (Ret n.w (.bool r))) := Lib.hid fun n => by
              have := HCP.out n.w (Below.tr HBW.out n.below) ⟨x, y, z⟩
              rwa [hro] at this
            have hrr : ((r : Bool) == r) = true := by cases r <;> rfl
            clear hr hro
            go_wp2_with fail
            refine wp_region_grow (by kernel_rfl) (by kernel_rfl) ?_; (repeat (go_big_quiet_step ((first | (go_at_call 4; with_reducible exact Ext.call _ (H1.out _ (HLL.out _))) | (go_at_call 6; with_reducible exact Ext.call _ (P1.out _)) | (go_at_call 8; first | with_reducible exact Ext.call _ (P2.out _) | with_reducible exact Ext.call _ (P3.out _)))))); refine wpQuiet_nil ?_; rintro w2 ⟨n2, rfl⟩; obtain ⟨w2, hb2⟩ := n2
            dsimp only
            have HB2 : Hid (Below w.heap.size w w2) := Lib.hid (Below.tr HBw.out hb2)
            clear hb2
            go_wp2_with fail
            go_ret
            exact ⟨rfl, HB2.out⟩
end Go.Proofs.YtambinjjfapcgaaDoor
