/- The laws IdentValid, IdentCompares, IdentOrders, IdentNext: the walks. -/
import Derived.Test.YtebhcchdcpechaaDooriAwake
import Derived.Test.YtebhcchdcpechaaDoorirCmp
namespace Go.Proofs.YtebhcchdcpechaaDoor
open Go.RowKit

set_option maxHeartbeats 1600000 in
set_option maxRecDepth 100000 in
theorem IValid_any (p : Pr) (s : St) (w : World) (hL : Lay w) : Calls Tryd.prog 3 #[p.val, s.val] w (Ret w (.bool true)) := by
  have H1 : Hid (∀ W : World, Lay W → Calls Tryd.prog 14 #[] W fun e w' => e = .returned (.bool true) ∧ Below W.heap.size W w') := Lib.hid (fun W h => awake_any W h)
  have H2 : Hid (∀ W : World, Calls Tryd.prog 15 #[p.val] W fun e w' => e = .returned (.bool (vpB p)) ∧ Below W.heap.size W w') := Lib.hid (fun W => VProc_any p W)
  have H3 : Hid (∀ W : World, Calls Tryd.prog 16 #[p.val] W fun e w' => e = .returned (.bool (vpB p)) ∧ Below W.heap.size W w') := Lib.hid (fun W => rVProc_any p W)
  have H4 : Hid (∀ W : World, Calls Tryd.prog 17 #[s.val] W fun e w' => e = .returned (.bool (vsB s)) ∧ Below W.heap.size W w') := Lib.hid (fun W => VStamp_any s W)
  have H5 : Hid (∀ W : World, Calls Tryd.prog 18 #[s.val] W fun e w' => e = .returned (.bool (vsB s)) ∧ Below W.heap.size W w') := Lib.hid (fun W => rVStamp_any s W)
  generalize vpB p = b1 at *
  generalize vsB s = b2 at *
  obtain ⟨a, b, c⟩ := p
  obtain ⟨x, y⟩ := s
  unfold Pr.val at H2 H3 ⊢
  unfold St.val at H4 H5 ⊢
  have e1 : (b1 == b1) = true := by simp
  have e2 : (b2 == b2) = true := by simp
  have LH := Lib.hid hL
  have HE : Hid (∀ n : Ext ((w.alloc (.cells #[.int .i64 a, .int .i64 b, .int .i64 c] 23)).alloc (.cells #[.int .i64 x, .int .i64 y] 25)), Below w.heap.size w n.w) := Lib.hid fun n => Below.tr (Below.al (Below.al (Below.refl _ _) _) _) n.below
  have HLL : Hid (∀ n : Ext ((w.alloc (.cells #[.int .i64 a, .int .i64 b, .int .i64 c] 23)).alloc (.cells #[.int .i64 x, .int .i64 y] 25)), Lay n.w) := Lib.hid fun n => LH.out.below (HE.out n)
  have g00 := Ext.cell (show ((w.alloc (.cells #[.int .i64 a, .int .i64 b, .int .i64 c] 23)).alloc (.cells #[.int .i64 x, .int .i64 y] 25)).cell? ⟨w.heap.size, 0, none⟩ = some (.int .i64 a) by go_simp)
  have g01 := Ext.cell (show ((w.alloc (.cells #[.int .i64 a, .int .i64 b, .int .i64 c] 23)).alloc (.cells #[.int .i64 x, .int .i64 y] 25)).cell? ⟨w.heap.size, 1, none⟩ = some (.int .i64 b) by go_simp)
  have g02 := Ext.cell (show ((w.alloc (.cells #[.int .i64 a, .int .i64 b, .int .i64 c] 23)).alloc (.cells #[.int .i64 x, .int .i64 y] 25)).cell? ⟨w.heap.size, 2, none⟩ = some (.int .i64 c) by go_simp)
  have g10 := Ext.cell (show ((w.alloc (.cells #[.int .i64 a, .int .i64 b, .int .i64 c] 23)).alloc (.cells #[.int .i64 x, .int .i64 y] 25)).cell? ⟨w.heap.size + 1, 0, none⟩ = some (.int .i64 x) by go_simp)
  have g11 := Ext.cell (show ((w.alloc (.cells #[.int .i64 a, .int .i64 b, .int .i64 c] 23)).alloc (.cells #[.int .i64 x, .int .i64 y] 25)).cell? ⟨w.heap.size + 1, 1, none⟩ = some (.int .i64 y) by go_simp)
  clear hL
  go_enter Tryd.func3, Tryd.ntmps3
  go_wp2_with fail
  refine wp_region_grow (by kernel_rfl) (by kernel_rfl) ?_; (repeat (go_big_quiet_step ((first | (go_at_call 14; with_reducible exact Ext.call _ (H1.out _ (HLL.out _))) | (go_at_call 15; with_reducible exact Ext.call _ (H2.out _)) | (go_at_call 16; with_reducible exact Ext.call _ (H3.out _)) | (go_at_call 17; with_reducible exact Ext.call _ (H4.out _)) | (go_at_call 18; with_reducible exact Ext.call _ (H5.out _)))))); refine wpQuiet_nil ?_; rintro w2 ⟨n2, rfl⟩; obtain ⟨w2, hb2⟩ := n2
  go_wp2
  go_ret
  exact ⟨rfl, Below.tr (Below.al (Below.al (Below.refl _ _) _) _) hb2⟩

set_option maxHeartbeats 1600000 in
theorem INext_any (n : Int) (w : World) (hL : Lay w) : Calls Tryd.prog 7 #[.int .i64 n] w (Ret w (.bool true)) := by
  have H1 := Lib.hid (fun W h => awake_any W h)
  have H2 := Lib.hid (fun W => Next_any n W)
  have H3 := Lib.hid (fun W => rNext_any n W)
  obtain ⟨h1, h2, h3⟩ := nextS_ok n
  generalize nextS n = m at *
  have e1 : (m == m) = true := by simp
  have e2 : (m != n) = true := by rw [bne_iff_ne]; exact h3
  have LH := Lib.hid hL
  clear hL h3
  go_enter Tryd.func7, Tryd.ntmps7
  go_wp2_with fail
  refine (H2.out _).mono ?_
  rintro e w' ⟨rfl, hw⟩
  obtain rfl := hw.symm
  clear hw
  go_wp2_with fail
  refine (H1.out _ LH.out).mono ?_
  rintro e w1 ⟨rfl, hb1⟩
  have HB := Lib.hid hb1
  clear hb1
  go_wp2_with fail
  refine (H3.out _).mono ?_
  rintro e w' ⟨rfl, hw⟩
  obtain rfl := hw.symm
  clear hw
  go_wp2
  go_ret
  exact ⟨rfl, HB.out⟩

set_option maxHeartbeats 1600000 in
set_option maxRecDepth 100000 in
theorem ICompares_any (p q : Pr) (s t : St) (w : World) (hL : Lay w) : Calls Tryd.prog 9 #[p.val, q.val, s.val, t.val] w (Ret w (.bool true)) := by
  have H1 : Hid (∀ W : World, Lay W → Calls Tryd.prog 14 #[] W fun e w' => e = .returned (.bool true) ∧ Below W.heap.size W w') := Lib.hid (fun W h => awake_any W h)
  have H2 : Hid (∀ W : World, Calls Tryd.prog 19 #[p.val, q.val] W fun e w' => e = .returned (.int .i64 (cmpP p q)) ∧ Below W.heap.size W w') := Lib.hid (fun W => CProc_any p q W)
  have H3 : Hid (∀ W : World, Calls Tryd.prog 26 #[p.val, q.val] W fun e w' => e = .returned (.int .i64 (cmpP p q)) ∧ Below W.heap.size W w') := Lib.hid (fun W => rCProc_any p q W)
  have H4 : Hid (∀ W : World, Calls Tryd.prog 27 #[s.val, t.val] W fun e w' => e = .returned (.int .i64 (cmpT s t)) ∧ Below W.heap.size W w') := Lib.hid (fun W => CStamp_any s t W)
  have H5 : Hid (∀ W : World, Calls Tryd.prog 28 #[s.val, t.val] W fun e w' => e = .returned (.int .i64 (cmpT s t)) ∧ Below W.heap.size W w') := Lib.hid (fun W => rCStamp_any s t W)
  generalize cmpP p q = r1 at *
  generalize cmpT s t = r2 at *
  obtain ⟨a, b, c⟩ := p
  obtain ⟨x, y, z⟩ := q
  obtain ⟨s1, s2⟩ := s
  obtain ⟨t1, t2⟩ := t
  unfold Pr.val at H2 H3 ⊢
  unfold St.val at H4 H5 ⊢
  have e1 : (r1 == r1) = true := by simp
  have e2 : (r2 == r2) = true := by simp
  have LH := Lib.hid hL
  have HE : Hid (∀ n : Ext ((((w.alloc (.cells #[.int .i64 a, .int .i64 b, .int .i64 c] 23)).alloc (.cells #[.int .i64 x, .int .i64 y, .int .i64 z] 23)).alloc (.cells #[.int .i64 s1, .int .i64 s2] 25)).alloc (.cells #[.int .i64 t1, .int .i64 t2] 25)), Below w.heap.size w n.w) := Lib.hid fun n => Below.tr (Below.al (Below.al (Below.al (Below.al (Below.refl _ _) _) _) _) _) n.below
  have HLL : Hid (∀ n : Ext ((((w.alloc (.cells #[.int .i64 a, .int .i64 b, .int .i64 c] 23)).alloc (.cells #[.int .i64 x, .int .i64 y, .int .i64 z] 23)).alloc (.cells #[.int .i64 s1, .int .i64 s2] 25)).alloc (.cells #[.int .i64 t1, .int .i64 t2] 25)), Lay n.w) := Lib.hid fun n => LH.out.below (HE.out n)
  have g00 := Ext.cell (show ((((w.alloc (.cells #[.int .i64 a, .int .i64 b, .int .i64 c] 23)).alloc (.cells #[.int .i64 x, .int .i64 y, .int .i64 z] 23)).alloc (.cells #[.int .i64 s1, .int .i64 s2] 25)).alloc (.cells #[.int .i64 t1, .int .i64 t2] 25)).cell? ⟨w.heap.size, 0, none⟩ = some (.int .i64 a) by go_simp)
  have g01 := Ext.cell (show ((((w.alloc (.cells #[.int .i64 a, .int .i64 b, .int .i64 c] 23)).alloc (.cells #[.int .i64 x, .int .i64 y, .int .i64 z] 23)).alloc (.cells #[.int .i64 s1, .int .i64 s2] 25)).alloc (.cells #[.int .i64 t1, .int .i64 t2] 25)).cell? ⟨w.heap.size, 1, none⟩ = some (.int .i64 b) by go_simp)
  have g02 := Ext.cell (show ((((w.alloc (.cells #[.int .i64 a, .int .i64 b, .int .i64 c] 23)).alloc (.cells #[.int .i64 x, .int .i64 y, .int .i64 z] 23)).alloc (.cells #[.int .i64 s1, .int .i64 s2] 25)).alloc (.cells #[.int .i64 t1, .int .i64 t2] 25)).cell? ⟨w.heap.size, 2, none⟩ = some (.int .i64 c) by go_simp)
  have g10 := Ext.cell (show ((((w.alloc (.cells #[.int .i64 a, .int .i64 b, .int .i64 c] 23)).alloc (.cells #[.int .i64 x, .int .i64 y, .int .i64 z] 23)).alloc (.cells #[.int .i64 s1, .int .i64 s2] 25)).alloc (.cells #[.int .i64 t1, .int .i64 t2] 25)).cell? ⟨w.heap.size + 1, 0, none⟩ = some (.int .i64 x) by go_simp)
  have g11 := Ext.cell (show ((((w.alloc (.cells #[.int .i64 a, .int .i64 b, .int .i64 c] 23)).alloc (.cells #[.int .i64 x, .int .i64 y, .int .i64 z] 23)).alloc (.cells #[.int .i64 s1, .int .i64 s2] 25)).alloc (.cells #[.int .i64 t1, .int .i64 t2] 25)).cell? ⟨w.heap.size + 1, 1, none⟩ = some (.int .i64 y) by go_simp)
  have g12 := Ext.cell (show ((((w.alloc (.cells #[.int .i64 a, .int .i64 b, .int .i64 c] 23)).alloc (.cells #[.int .i64 x, .int .i64 y, .int .i64 z] 23)).alloc (.cells #[.int .i64 s1, .int .i64 s2] 25)).alloc (.cells #[.int .i64 t1, .int .i64 t2] 25)).cell? ⟨w.heap.size + 1, 2, none⟩ = some (.int .i64 z) by go_simp)
  have g20 := Ext.cell (show ((((w.alloc (.cells #[.int .i64 a, .int .i64 b, .int .i64 c] 23)).alloc (.cells #[.int .i64 x, .int .i64 y, .int .i64 z] 23)).alloc (.cells #[.int .i64 s1, .int .i64 s2] 25)).alloc (.cells #[.int .i64 t1, .int .i64 t2] 25)).cell? ⟨w.heap.size + 1 + 1, 0, none⟩ = some (.int .i64 s1) by go_simp)
  have g21 := Ext.cell (show ((((w.alloc (.cells #[.int .i64 a, .int .i64 b, .int .i64 c] 23)).alloc (.cells #[.int .i64 x, .int .i64 y, .int .i64 z] 23)).alloc (.cells #[.int .i64 s1, .int .i64 s2] 25)).alloc (.cells #[.int .i64 t1, .int .i64 t2] 25)).cell? ⟨w.heap.size + 1 + 1, 1, none⟩ = some (.int .i64 s2) by go_simp)
  have g30 := Ext.cell (show ((((w.alloc (.cells #[.int .i64 a, .int .i64 b, .int .i64 c] 23)).alloc (.cells #[.int .i64 x, .int .i64 y, .int .i64 z] 23)).alloc (.cells #[.int .i64 s1, .int .i64 s2] 25)).alloc (.cells #[.int .i64 t1, .int .i64 t2] 25)).cell? ⟨w.heap.size + 1 + 1 + 1, 0, none⟩ = some (.int .i64 t1) by go_simp)
  have g31 := Ext.cell (show ((((w.alloc (.cells #[.int .i64 a, .int .i64 b, .int .i64 c] 23)).alloc (.cells #[.int .i64 x, .int .i64 y, .int .i64 z] 23)).alloc (.cells #[.int .i64 s1, .int .i64 s2] 25)).alloc (.cells #[.int .i64 t1, .int .i64 t2] 25)).cell? ⟨w.heap.size + 1 + 1 + 1, 1, none⟩ = some (.int .i64 t2) by go_simp)
  clear hL
  go_enter Tryd.func9, Tryd.ntmps9
  go_wp2_with fail
  refine wp_region_grow (by kernel_rfl) (by kernel_rfl) ?_; (repeat (go_big_quiet_step ((first | (go_at_call 14; with_reducible exact Ext.call _ (H1.out _ (HLL.out _))) | (go_at_call 19; with_reducible exact Ext.call _ (H2.out _)) | (go_at_call 26; with_reducible exact Ext.call _ (H3.out _)) | (go_at_call 27; with_reducible exact Ext.call _ (H4.out _)) | (go_at_call 28; with_reducible exact Ext.call _ (H5.out _)))))); refine wpQuiet_nil ?_; rintro w2 ⟨n2, rfl⟩; obtain ⟨w2, hb2⟩ := n2
  go_wp2
  go_ret
  exact ⟨rfl, Below.tr (Below.al (Below.al (Below.al (Below.al (Below.refl _ _) _) _) _) _) hb2⟩

set_option maxHeartbeats 1600000 in
set_option maxRecDepth 100000 in
theorem IOrders_any (p q r : Pr) (w : World) (hL : Lay w) : Calls Tryd.prog 4 #[p.val, q.val, r.val] w (Ret w (.bool true)) := by
  have H1 := Lib.hid (fun W h => awake_any W h)
  have H2 : Hid (∀ W : World, Calls Tryd.prog 19 #[p.val, q.val] W fun e w' => e = .returned (.int .i64 (cmpP p q)) ∧ Below W.heap.size W w') := Lib.hid (fun W => CProc_any p q W)
  have H3 : Hid (∀ W : World, Calls Tryd.prog 19 #[q.val, r.val] W fun e w' => e = .returned (.int .i64 (cmpP q r)) ∧ Below W.heap.size W w') := Lib.hid (fun W => CProc_any q r W)
  have H4 : Hid (∀ W : World, Calls Tryd.prog 19 #[p.val, r.val] W fun e w' => e = .returned (.int .i64 (cmpP p r)) ∧ Below W.heap.size W w') := Lib.hid (fun W => CProc_any p r W)
  have H5 : Hid (∀ W : World, Calls Tryd.prog 19 #[q.val, p.val] W fun e w' => e = .returned (.int .i64 (cmpP q p)) ∧ Below W.heap.size W w') := Lib.hid (fun W => CProc_any q p W)
  have f1 := cmpP_neg p q
  have f2 := cmpP_zero p q
  have f3 := cmpP_le (p := p) (q := q) (r := r)
  have f4 := cmpP_ge (p := p) (q := q) (r := r)
  have f5 : cmpP q p = -1 ∨ cmpP q p = 0 ∨ cmpP q p = 1 := by rcases cmpP_cases q p with ⟨_, e⟩ | ⟨_, e⟩ | ⟨_, e⟩ <;> omega
  generalize cmpP p q = r1 at *
  generalize cmpP q r = r2 at *
  generalize cmpP p r = r3 at *
  generalize cmpP q p = r4 at *
  obtain ⟨a, b, c⟩ := p
  obtain ⟨x, y, z⟩ := q
  obtain ⟨s, t, u⟩ := r
  unfold Pr.val at H2 H3 H4 H5 ⊢
  obtain ⟨k1, k2, k3⟩ := cmpPr a b c x y z
  have f2' : (((r1 == 0) : Bool) == decide ((⟨a, b, c⟩ : Pr) = ⟨x, y, z⟩)) = true := by
    rw [beq_iff_eq, Bool.eq_iff_iff, beq_iff_eq, f2]
    simp
  generalize decide ((⟨a, b, c⟩ : Pr) = ⟨x, y, z⟩) = bb at *
  have e1 : ((r1 : Int) == -r4) = true := beq_iff_eq.2 f1
  have LH := Lib.hid hL
  have HE : Hid (∀ n : Ext (((w.alloc (.cells #[.int .i64 a, .int .i64 b, .int .i64 c] 23)).alloc (.cells #[.int .i64 x, .int .i64 y, .int .i64 z] 23)).alloc (.cells #[.int .i64 s, .int .i64 t, .int .i64 u] 23)), Below w.heap.size w n.w) := Lib.hid fun n => Below.tr (Below.al (Below.al (Below.al (Below.refl _ _) _) _) _) n.below
  have HLL : Hid (∀ n : Ext (((w.alloc (.cells #[.int .i64 a, .int .i64 b, .int .i64 c] 23)).alloc (.cells #[.int .i64 x, .int .i64 y, .int .i64 z] 23)).alloc (.cells #[.int .i64 s, .int .i64 t, .int .i64 u] 23)), Lay n.w) := Lib.hid fun n => LH.out.below (HE.out n)
  have g00 := Ext.cell (show (((w.alloc (.cells #[.int .i64 a, .int .i64 b, .int .i64 c] 23)).alloc (.cells #[.int .i64 x, .int .i64 y, .int .i64 z] 23)).alloc (.cells #[.int .i64 s, .int .i64 t, .int .i64 u] 23)).cell? ⟨w.heap.size, 0, none⟩ = some (.int .i64 a) by go_simp)
  have g01 := Ext.cell (show (((w.alloc (.cells #[.int .i64 a, .int .i64 b, .int .i64 c] 23)).alloc (.cells #[.int .i64 x, .int .i64 y, .int .i64 z] 23)).alloc (.cells #[.int .i64 s, .int .i64 t, .int .i64 u] 23)).cell? ⟨w.heap.size, 1, none⟩ = some (.int .i64 b) by go_simp)
  have g02 := Ext.cell (show (((w.alloc (.cells #[.int .i64 a, .int .i64 b, .int .i64 c] 23)).alloc (.cells #[.int .i64 x, .int .i64 y, .int .i64 z] 23)).alloc (.cells #[.int .i64 s, .int .i64 t, .int .i64 u] 23)).cell? ⟨w.heap.size, 2, none⟩ = some (.int .i64 c) by go_simp)
  have g10 := Ext.cell (show (((w.alloc (.cells #[.int .i64 a, .int .i64 b, .int .i64 c] 23)).alloc (.cells #[.int .i64 x, .int .i64 y, .int .i64 z] 23)).alloc (.cells #[.int .i64 s, .int .i64 t, .int .i64 u] 23)).cell? ⟨w.heap.size + 1, 0, none⟩ = some (.int .i64 x) by go_simp)
  have g11 := Ext.cell (show (((w.alloc (.cells #[.int .i64 a, .int .i64 b, .int .i64 c] 23)).alloc (.cells #[.int .i64 x, .int .i64 y, .int .i64 z] 23)).alloc (.cells #[.int .i64 s, .int .i64 t, .int .i64 u] 23)).cell? ⟨w.heap.size + 1, 1, none⟩ = some (.int .i64 y) by go_simp)
  have g12 := Ext.cell (show (((w.alloc (.cells #[.int .i64 a, .int .i64 b, .int .i64 c] 23)).alloc (.cells #[.int .i64 x, .int .i64 y, .int .i64 z] 23)).alloc (.cells #[.int .i64 s, .int .i64 t, .int .i64 u] 23)).cell? ⟨w.heap.size + 1, 2, none⟩ = some (.int .i64 z) by go_simp)
  have g20 := Ext.cell (show (((w.alloc (.cells #[.int .i64 a, .int .i64 b, .int .i64 c] 23)).alloc (.cells #[.int .i64 x, .int .i64 y, .int .i64 z] 23)).alloc (.cells #[.int .i64 s, .int .i64 t, .int .i64 u] 23)).cell? ⟨w.heap.size + 1 + 1, 0, none⟩ = some (.int .i64 s) by go_simp)
  have g21 := Ext.cell (show (((w.alloc (.cells #[.int .i64 a, .int .i64 b, .int .i64 c] 23)).alloc (.cells #[.int .i64 x, .int .i64 y, .int .i64 z] 23)).alloc (.cells #[.int .i64 s, .int .i64 t, .int .i64 u] 23)).cell? ⟨w.heap.size + 1 + 1, 1, none⟩ = some (.int .i64 t) by go_simp)
  have g22 := Ext.cell (show (((w.alloc (.cells #[.int .i64 a, .int .i64 b, .int .i64 c] 23)).alloc (.cells #[.int .i64 x, .int .i64 y, .int .i64 z] 23)).alloc (.cells #[.int .i64 s, .int .i64 t, .int .i64 u] 23)).cell? ⟨w.heap.size + 1 + 1, 2, none⟩ = some (.int .i64 u) by go_simp)
  have FF := Lib.hid (And.intro f1 (And.intro f3 (And.intro f4 f5)))
  clear hL f1 f2 f3 f4
  go_enter Tryd.func4, Tryd.ntmps4
  go_wp2_with fail
  refine wp_region_grow (by kernel_rfl) (by kernel_rfl) ?_; (repeat (go_big_quiet_step ((first | (go_at_call 19; with_reducible exact Ext.call _ (H2.out _)) | (go_at_call 19; with_reducible exact Ext.call _ (H3.out _)) | (go_at_call 19; with_reducible exact Ext.call _ (H4.out _)))))); refine wpQuiet_nil ?_; rintro w2 ⟨n2, rfl⟩; obtain ⟨w2, hb2⟩ := n2
  dsimp only
  have HB2 := Lib.hid (Below.tr (Below.al (Below.al (Below.al (Below.refl _ _) _) _) _) hb2)
  obtain ⟨hc_w2, hf_w2⟩ := bcell hb2
  have hs_w2 := hb2.size
  (try simp at hs_w2)
  have hz_w2_0 : w.heap.size < w2.heap.size := by omega
  have hz_w2_1 : w.heap.size + 1 < w2.heap.size := by omega
  have hz_w2_2 : w.heap.size + 1 + 1 < w2.heap.size := by omega
  clear hs_w2
  clear hb2 g00 g01 g02 g10 g11 g12 g20 g21 g22
  go_wp2_with fail
  refine (H1.out _ (LH.out.below HB2.out)).mono ?_
  rintro e w3 ⟨rfl, hb3⟩
  obtain ⟨hc_w3, hf_w3⟩ := bcell hb3
  have hs_w3 := hb3.size
  (try simp at hs_w3)
  have hz_w3_0 : w.heap.size < w3.heap.size := by omega
  have hz_w3_1 : w.heap.size + 1 < w3.heap.size := by omega
  have hz_w3_2 : w.heap.size + 1 + 1 < w3.heap.size := by omega
  clear hs_w3
  have HB3 : Hid (Below w.heap.size w w3) := Lib.hid (Below.tr HB2.out hb3)
  clear hb3
  go_wp2_with fail
  refine (H5.out _).mono ?_
  rintro e w4 ⟨rfl, hb4⟩
  obtain ⟨hc_w4, hf_w4⟩ := bcell hb4
  have hs_w4 := hb4.size
  (try simp at hs_w4)
  have hz_w4_0 : w.heap.size < w4.heap.size := by omega
  have hz_w4_1 : w.heap.size + 1 < w4.heap.size := by omega
  have hz_w4_2 : w.heap.size + 1 + 1 < w4.heap.size := by omega
  clear hs_w4
  have HB4 : Hid (Below w.heap.size w w4) := Lib.hid (Below.tr HB3.out hb4)
  clear hb4
  go_wp2_with fail
  all_goals first
    | (exfalso; have := FF.out; omega)
    | (go_ret
       refine ⟨ret_bool ?_, HB4.out⟩
       have := FF.out
       clear HB4
       first
         | rfl
         | (simp only [Bool.or_eq_true, Bool.and_eq_true, decide_eq_true_eq]; omega)
         | (simp only [Bool.or_eq_true, Bool.and_eq_true, decide_eq_true_eq] at *; omega)
         | (exfalso; clear H1 H2 H3 H4 H5 k1 k2 k3 HE HLL LH HB2 HB3 FF; simp_all; done))
end Go.Proofs.YtebhcchdcpechaaDoor
