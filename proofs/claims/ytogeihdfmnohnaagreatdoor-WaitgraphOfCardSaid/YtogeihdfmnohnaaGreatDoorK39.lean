/- Part 39 of 49 of the proof of waitgraphOf_holds (no condition). -/
import Derived.Test.YtogeihdfmnohnaaGreatDoorK19
import Derived.Test.YtogeihdfmnohnaaGreatDoorK35
import Derived.Test.YtogeihdfmnohnaaGreatDoorK36
import Derived.Test.YtogeihdfmnohnaaGreatDoorK38
import Derived.Deep.DeepCutAuto
set_option linter.unusedVariables false
set_option linter.unusedSimpArgs false
namespace Go.Proofs.YtogeihdfmnohnaaGreatDoor
open Go.RowKit
structure PB (w v : World) (gb : Nat) (pc bc : Array Value) : Prop where
  bel : Below w.heap.size w v
  pb : Blk v w.heap.size 51 pc
  nb : Blk v (w.heap.size + 1) 37 #[.int .i64 0, .slice none 0 0]
  bb : Blk v gb 65 bc
theorem PB.made {w : World} {gb : Nat} {bc : Array Value} (pc : Array Value) (h : Blk w gb 65 bc) : PB w ((w.alloc (.cells pc 51)).alloc (.cells #[.int .i64 0, .slice none 0 0] 37)) gb pc bc where
  bel := Below.al (Below.al (Below.refl _ _) _) _
  pb := (Blk.new w _ _).alloc _
  nb := by
    have := Blk.new (w.alloc (.cells pc 51)) 37 #[.int .i64 0, .slice none 0 0]
    rwa [size_alloc_1] at this
  bb := (h.alloc _).alloc _
theorem PB.next {w v v' : World} {gb : Nat} {pc bc : Array Value} (h : PB w v gb pc bc) (hb : Below v.heap.size v v') : PB w v' gb pc bc := ⟨Below.tr h.bel hb, h.pb.below hb h.pb.lt, h.nb.below hb h.nb.lt, h.bb.below hb h.bb.lt⟩
theorem PB.but {w v v' : World} {gb g : Nat} {pc bc : Array Value} (h : PB w v gb pc bc) (hb : But g v v') (hg : w.heap.size + 1 < g) (hg2 : gb < w.heap.size) : PB w v' gb pc bc :=
  ⟨h.bel.trans (hb.below (by omega) h.bel.size), (hb.block _ h.pb.lt (by omega)).trans h.pb, (hb.block _ h.nb.lt (by omega)).trans h.nb, (hb.block _ h.bb.lt (by omega)).trans h.bb⟩
theorem proc_raw (s : Ws) (p : Pr) (hv : stateB s = true) : nodeP s p = match needS s.needs p with
    | none => ⟨0, []⟩
    | some x => bif holdsS x.expr (grantS s p) then ⟨0, []⟩ else ⟨(rawP s p (atS x.expr) (grantS s p) (max x.expr.k 1) []).1, sortI (rawP s p (atS x.expr) (grantS s p) (max x.expr.k 1) []).2⟩ := by
  cases hx : needS s.needs p with
  | none => unfold nodeP; rw [hx]
  | some x =>
    dsimp only
    cases hh : holdsS x.expr (grantS s p) with
    | true => unfold nodeP; rw [hx]; dsimp only; rw [hh]; rfl
    | false =>
      have hnd : ndB x = true := by
        unfold stateB at hv
        simp only [Bool.and_eq_true] at hv
        exact ndB_of s.needs none p x hv.1.2 hx
      simp only [cond_false]
      exact node_raw s p x hv hx hh _ (max_k hnd)
theorem need_cnt {s : Ws} (hv : stateB s = true) : ∀ x ∈ s.needs, x.expr.cnt ≤ 1000 := by
  intro x hx
  unfold stateB at hv
  simp only [Bool.and_eq_true] at hv
  have h1 : ∀ (l : List Nd) (p : Option Pr), vnGo p l = true → ∀ x ∈ l, ndB x = true := by
    intro l
    induction l with
    | nil => intro _ _ x hx; cases hx
    | cons y l ih =>
      intro p h x hx
      rw [vnGo_cons] at h
      simp only [Bool.and_eq_true] at h
      rcases List.mem_cons.1 hx with e | e
      · rw [e]; exact h.1.1
      · exact ih _ h.2 x e
  have h2 := h1 _ _ hv.1.2 x hx
  unfold ndB veB okB at h2
  simp only [Bool.and_eq_true, decide_eq_true_eq] at h2
  omega
theorem first_le {s : Ws} (hv : stateB s = true) : ∀ i, firstS s i ≤ 1000 := by
  intro i
  have hsh := stateB_short hv
  unfold firstS
  have h1 := sumO_len (s.queues.take i) fun q hq => hsh.2.1 q (List.mem_of_mem_take hq)
  rw [List.length_take] at h1
  have h2 : (procsW s).length ≤ 8 := by unfold stateB at hv; simp only [Bool.and_eq_true, decide_eq_true_eq] at hv; exact hv.2
  have := hsh.1
  omega
theorem nd_facts {x : Nd} (h : ndB x = true) : (atS x.expr).length ≤ 8 ∧ -1 ≤ x.expr.k ∧ x.expr.k ≤ 24 := by
  obtain ⟨⟨a, b, c⟩, ⟨k, at_, l⟩, gen⟩ := x
  unfold ndB at h
  simp only [Bool.and_eq_true] at h
  have h1 := veB_sh h.1.1.2
  have h2 := h.1.1.2
  unfold veB okB at h2
  simp only [Bool.and_eq_true, decide_eq_true_eq] at h2
  have h3 := h2.1.2
  rw [Ex.cnt_mk] at h3
  have h4 := length_cntL l
  have h5 := h1.1
  rw [shB_mk] at h5
  unfold headB at h5
  refine ⟨h1.2.2.1, ?_⟩
  show -1 ≤ k ∧ k ≤ 24
  cases hE : l.isEmpty with
  | true => rw [hE] at h5; simp at h5; omega
  | false => rw [hE] at h5; simp at h5; omega
theorem But.low {g : Nat} {a b c : World} (h : But g a b) (k : Below a.heap.size b c) : But g a c := ⟨k.os.trans h.os, k.tape.trans h.tape, k.output.trans h.output, Nat.le_trans h.size k.size, fun i hi hg => (k.block i hi).trans (h.block i hi hg)⟩
theorem own_set {w : World} {base gx o : Nat} {v u : Value} {l : List Int} (h : OwnRows intE 3 w base v l) (hg : gx < base) : OwnRows intE 3 (w.setCell ⟨gx, o, none⟩ u) base v l :=
  h.but (But.st (But.refl gx w) (.inl rfl)) (fun e => by have := (h.block _ e).1; omega) (fun _ hr => repsP hr)
theorem blkset {w : World} {g : Nat} {t : TypeId} {xs ys : Array Value} (h : Blk w g t xs) (i : Nat) (y : Value) (e : xs.setIfInBounds i y = ys) : Blk (w.setCell ⟨g, i, none⟩ y) g t ys := e ▸ h.set_ i y
theorem blk9 {w : World} {g : Nat} {t : TypeId} {x0 x1 x2 x3 x4 x5 x6 x7 x8 : Value} (h : Blk w g t #[x0, x1, x2, x3, x4, x5, x6, x7, x8]) (y0 y1 y2 y3 y4 y5 y6 y7 y8 : Value) :
    Blk (((((((((w.setCell ⟨g, 0, none⟩ y0).setCell ⟨g, 1, none⟩ y1).setCell ⟨g, 2, none⟩ y2).setCell ⟨g, 3, none⟩ y3).setCell ⟨g, 4, none⟩ y4).setCell ⟨g, 5, none⟩ y5).setCell ⟨g, 6, none⟩ y6).setCell ⟨g, 7, none⟩ y7).setCell ⟨g, 8, none⟩ y8) g t #[y0, y1, y2, y3, y4, y5, y6, y7, y8] := by
  have h0 : Blk (w.setCell ⟨g, 0, none⟩ y0) g t #[y0, x1, x2, x3, x4, x5, x6, x7, x8] := blkset h 0 y0 (by simp)
  generalize w.setCell ⟨g, 0, none⟩ y0 = w0 at h0 ⊢
  have h1 : Blk (w0.setCell ⟨g, 1, none⟩ y1) g t #[y0, y1, x2, x3, x4, x5, x6, x7, x8] := blkset h0 1 y1 (by simp)
  generalize w0.setCell ⟨g, 1, none⟩ y1 = w1 at h1 ⊢
  have h2 : Blk (w1.setCell ⟨g, 2, none⟩ y2) g t #[y0, y1, y2, x3, x4, x5, x6, x7, x8] := blkset h1 2 y2 (by simp)
  generalize w1.setCell ⟨g, 2, none⟩ y2 = w2 at h2 ⊢
  have h3 : Blk (w2.setCell ⟨g, 3, none⟩ y3) g t #[y0, y1, y2, y3, x4, x5, x6, x7, x8] := blkset h2 3 y3 (by simp)
  generalize w2.setCell ⟨g, 3, none⟩ y3 = w3 at h3 ⊢
  have h4 : Blk (w3.setCell ⟨g, 4, none⟩ y4) g t #[y0, y1, y2, y3, y4, x5, x6, x7, x8] := blkset h3 4 y4 (by simp)
  generalize w3.setCell ⟨g, 4, none⟩ y4 = w4 at h4 ⊢
  have h5 : Blk (w4.setCell ⟨g, 5, none⟩ y5) g t #[y0, y1, y2, y3, y4, y5, x6, x7, x8] := blkset h4 5 y5 (by simp)
  generalize w4.setCell ⟨g, 5, none⟩ y5 = w5 at h5 ⊢
  have h6 : Blk (w5.setCell ⟨g, 6, none⟩ y6) g t #[y0, y1, y2, y3, y4, y5, y6, x7, x8] := blkset h5 6 y6 (by simp)
  generalize w5.setCell ⟨g, 6, none⟩ y6 = w6 at h6 ⊢
  have h7 : Blk (w6.setCell ⟨g, 7, none⟩ y7) g t #[y0, y1, y2, y3, y4, y5, y6, y7, x8] := blkset h6 7 y7 (by simp)
  generalize w6.setCell ⟨g, 7, none⟩ y7 = w7 at h7 ⊢
  have h8 : Blk (w7.setCell ⟨g, 8, none⟩ y8) g t #[y0, y1, y2, y3, y4, y5, y6, y7, y8] := blkset h7 8 y8 (by simp)
  exact h8
set_option maxRecDepth 100000 in
set_option maxHeartbeats 16000000 in
theorem procP_any (s : Ws) (d : Nat) (A1 A2 A3 A4 : Option Addr) (c1 c2 n3 c3 c4 B gb : Nat) (cl : Int) (v5 : Value) (fs : List Int) (x y z : Int) (w : World) (hT : Tog w) (hw : WF w B d A1 A2 s) (hv : stateB s = true)
    (hb : Blk w gb 65 #[.slice A1 s.queues.length c1, .slice A2 s.needs.length c2, .slice A3 n3 c3, .slice A4 fs.length c4, .int .i64 cl, v5])
    (hf : RowsAt intE w (Lo w.heap.size) A4 fs) (hfl : fs.length = s.queues.length) (hfv : ∀ j (h : j < fs.length), fs[j] = ((firstS s j : Nat) : Int)) :
    Calls Tryz.prog 18 #[.pointer (some ⟨gb, 0, none⟩), .agg #[.int .i64 x, .int .i64 y, .int .i64 z]] w (RetNo w (nodeP s ⟨x, y, z⟩)) := by
  have HN := Lib.hid (fun W (hb : Below w.heap.size w W) => Need_new s d A1 A2 c1 c2 B x y z W (hw.below hb) (need_cnt hv))
  have HGR := Lib.hid (fun W (hb : Below w.heap.size w W) => Granted_any s d A1 A2 c1 c2 B x y z W (hT.below hb) (hw.below hb))
  have HHO := Lib.hid (fun x A A3 cap c3 B set W (hx : ExF W B d A x) h2 h3 => Holds_any d x A A3 cap c3 B set W hx h2 h3)
  have HA := Lib.hid (fun x A cap B W (hx : ExF W B d A x) => Atoms_any d x A cap B W hx)
  have HOD := Lib.hid (fun q A1 A2 A3 c1 c2 c3 W (hq : QF W B A1 A2 A3 q) (h : shortQ q) => QOrder_any q A1 A2 A3 c1 c2 c3 W B hq h.2.1 h.2.2)
  have HIX := Lib.hid (fun (O : List Pr) A cap B W (hm : O.length ≤ maxLen) hB hr => IndexProc_any A B cap O x y z W hm hB hr)
  have HRW := Lib.hid (proc_raw s ⟨x, y, z⟩ hv)
  have HND : Hid (∀ xx, needS s.needs ⟨x, y, z⟩ = some xx → ndB xx = true) := Lib.hid (fun xx h => ndB_of s.needs none ⟨x, y, z⟩ xx (by unfold stateB at hv; simp only [Bool.and_eq_true] at hv; exact hv.1.2) h)
  have HGL : Hid (∀ xx, needS s.needs ⟨x, y, z⟩ = some xx → (grantS s ⟨x, y, z⟩).length = (atS xx.expr).length) := Lib.hid (fun xx h => by unfold grantS; rw [h, hv]; dsimp only; rw [cond_true, List.length_map])
  have HSH := Lib.hid (stateB_short hv)
  have HFB := Lib.hid (first_le hv)
  have HRQ := Lib.hid hw.r1
  have HBw := Lib.hid hw.hB
  have HF := Lib.hid hf
  have HFV := Lib.hid hfv
  have hgb := hb.lt
  have HGB := Lib.hid hgb
  have HK3 : Hid (PB w ((w.alloc (.cells #[.int .i64 x, .int .i64 y, .int .i64 z] 51)).alloc (.cells #[.int .i64 0, .slice none 0 0] 37)) gb #[.int .i64 x, .int .i64 y, .int .i64 z] _) := Lib.hid (PB.made _ hb)
  clear hT hw hv hb hf hfv
  obtain ⟨R, hR⟩ : ∃ r, nodeP s ⟨x, y, z⟩ = r := ⟨_, rfl⟩
  rw [hR] at HRW ⊢
  clear hR
  obtain ⟨nd, hnd⟩ : ∃ r, needS s.needs ⟨x, y, z⟩ = r := ⟨_, rfl⟩
  rw [hnd] at HN HRW HND HGL
  clear hnd
  obtain ⟨bs, hbs⟩ : ∃ r, grantS s ⟨x, y, z⟩ = r := ⟨_, rfl⟩
  rw [hbs] at HGR HRW HGL
  clear hbs
  obtain ⟨S, hS⟩ : ∃ t, t = s := ⟨_, rfl⟩
  rw [← hS] at HRW HFV HFB
  have HSQU : Hid (S.queues = s.queues) := Lib.hid (by rw [hS])
  clear hS
  obtain ⟨qs, ns⟩ := s
  unfold Ws.val at *
  dsimp only at HN HGR HSH HRQ HSQU HK3 hfl
  have HKN : Hid (∀ b W, Sem.run Tryz.prog (callFunc 47 b) W = .ok (.enter 47 b) W) := Lib.hid (fun b W => by kernel_rfl)
  have HKG : Hid (∀ b W, Sem.run Tryz.prog (callFunc 48 b) W = .ok (.enter 48 b) W) := Lib.hid (fun b W => by kernel_rfl)
  have HKO : Hid (∀ b W, Sem.run Tryz.prog (callFunc 15 b) W = .ok (.enter 15 b) W) := Lib.hid (fun b W => by kernel_rfl)
  have HKI : Hid (∀ b W, Sem.run Tryz.prog (callFunc 51 b) W = .ok (.enter 51 b) W) := Lib.hid (fun b W => by kernel_rfl)
  go_enter Tryz.func18, Tryz.ntmps18
  go_upto_region 1 with fail
  generalize (w.alloc (.cells #[.int .i64 x, .int .i64 y, .int .i64 z] 51)).alloc (.cells #[.int .i64 0, .slice none 0 0] 37) = w3 at *
  have HW3 : Hid (Below w.heap.size w w3) := Lib.hid HK3.out.bel
  have HN3 := Lib.hid (fun W (hb : Below w3.heap.size w3 W) => HN.out W (Below.tr HW3.out hb))
  have b0 := HK3.out.bb.cellx 0 (v := .slice A1 qs.length c1) rfl
  have b1 := HK3.out.bb.cellx 1 (v := .slice A2 ns.length c2) rfl
  have p0 := HK3.out.pb.cellx 0 (v := .int .i64 x) rfl
  have p1 := HK3.out.pb.cellx 1 (v := .int .i64 y) rfl
  have p2 := HK3.out.pb.cellx 2 (v := .int .i64 z) rfl
  have hzb := HK3.out.bb.lt
  have hzp := HK3.out.pb.lt
  clear HN
  cases nd with
  | none =>
    have HE : Hid (R = ⟨0, []⟩) := HRW
    go_cut [5, 6] (fun v5' v6 wx => ∃ g5, v5' = .pointer (some ⟨g5, 0, none⟩) ∧ v6 = .bool false ∧ Hid (Below w3.heap.size w3 wx))
    case first =>
      go_wp2_with fail
      go_region_law (first
        | (refine stepCall rfl 47 #[.tmp 18, .tmp 19] _ rfl #[.agg #[.slice A1 qs.length c1, .slice A2 ns.length c2], .agg #[.int .i64 x, .int .i64 y, .int .i64 z]] rfl HKN.out (HN3.out _ (by (repeat (first | (with_reducible exact Below.refl _ _) | (with_reducible assumption) | (with_reducible refine below_drewN ?_ _) | (with_reducible refine Below.drew ?_) | (with_reducible refine Below.al ?_ _) | (with_reducible refine Below.st ?_ (by simp; try omega)) | (with_reducible refine Below.tr ?_ (Hid.out (by assumption))) | (with_reducible exact Hid.out (by assumption)))))) ?_; rintro e w4 ⟨hb4, hr4⟩; obtain rfl := hr4; refine ⟨_, rfl, ?_⟩; have HB4 : Hid (Below w3.heap.size w3 w4) := Lib.hid (Below.tr (by (repeat (first | (with_reducible exact Below.refl _ _) | (with_reducible assumption) | (with_reducible refine below_drewN ?_ _) | (with_reducible refine Below.drew ?_) | (with_reducible refine Below.al ?_ _) | (with_reducible refine Below.st ?_ (by simp; try omega)) | (with_reducible refine Below.tr ?_ (Hid.out (by assumption))) | (with_reducible exact Hid.out (by assumption))))) hb4); have hs4 := HB4.out.size; (try (have hQ : Blk w4 w3.heap.size 60 #[.int .i64 0, .int .i64 0, .int .i64 0, .int .i64 0, .string { data := #[] }, .int .i64 0, .int .i64 0, .slice none 0 0, .int .i64 0] := (Blk.new w3.drew 60 #[.int .i64 0, .int .i64 0, .int .i64 0, .int .i64 0, .string { data := #[] }, .int .i64 0, .int .i64 0, .slice none 0 0, .int .i64 0]).below hb4 (by simp); have q0 := hQ.cellx 0 (v := .int .i64 0) rfl; have qf0 := hQ.frozen 0; have q1 := hQ.cellx 1 (v := .int .i64 0) rfl; have qf1 := hQ.frozen 1; have q2 := hQ.cellx 2 (v := .int .i64 0) rfl; have qf2 := hQ.frozen 2; have q3 := hQ.cellx 3 (v := .int .i64 0) rfl; have qf3 := hQ.frozen 3; have q4 := hQ.cellx 4 (v := .string { data := #[] }) rfl; have qf4 := hQ.frozen 4; have q5 := hQ.cellx 5 (v := .int .i64 0) rfl; have qf5 := hQ.frozen 5; have q6 := hQ.cellx 6 (v := .int .i64 0) rfl; have qf6 := hQ.frozen 6; have q7 := hQ.cellx 7 (v := .slice none 0 0) rfl; have qf7 := hQ.frozen 7; have q8 := hQ.cellx 8 (v := .int .i64 0) rfl; have qf8 := hQ.frozen 8; have ql := hQ.lt; have HQ := Lib.hid hQ; clear hQ)); clear hb4))
      all_goals (go_wp2_with fail; go_meet; refine ⟨_, rfl, rfl, Lib.hid ?_⟩; (repeat (with_reducible refine Below.st ?_ (by simp))); first
        | with_reducible exact HB4.out
        | with_reducible exact Below.al HB4.out _)
    case rest =>
    obtain ⟨g5, rfl, rfl, HB5⟩ := hcut
    clear b0 b1 p0 p1 p2 hzb hzp
    have HZ5 := Lib.hid (HK3.out.nb.below HB5.out HK3.out.nb.lt)
    have HBW5 : Hid (Below w.heap.size w wc) := Lib.hid (Below.tr HW3.out HB5.out)
    go_wp2_with (refine storeBox rfl 37 (.tmp 4) (.tmp 25) rfl (w.heap.size + 1) 0 37 #[.int .i64 0, .slice none 0 0] #[.int .i64 0, .slice none 0 0] #[.int .i64 0, .slice none 0 0] rfl rfl HZ5.out sizeNo (by simp) (by simp [Value.oneCell']) rfl ?_; intro w8 hk8 hb8; have HF8 := Lib.hid hk8; have HB8 := Lib.hid hb8; clear hk8 hb8)
    rw [HE.out]
    exact bodyPost_ret_by (v := .agg #[.int .i64 0, .slice none 0 0]) (results_cell_row rfl _ _ (w.heap.size + 1) 37 #[.int .i64 0, .slice none 0 0] (0, 0) _ rfl HF8.out Tryz.underlying37 rfl sizeNo) rfl ⟨none, 0, rfl, RowsAt.nil _ _ _ _, HBW5.out.trans (HB8.out.below (by omega) HBW5.out.size)⟩
  | some nx =>
    have HN1 := Lib.hid (nd_facts (HND.out nx rfl))
    have HG1 := Lib.hid (HGL.out nx rfl)
    clear HND HGL
    obtain ⟨⟨a, b, c⟩, ⟨k, ⟨nm, ⟨m, u⟩⟩, l⟩, gen⟩ := nx
    have HRW2 : Hid (R = bif holdsS (.mk k ⟨nm, ⟨m, u⟩⟩ l) bs then ⟨0, []⟩ else ⟨(rawP S ⟨x, y, z⟩ (atS (.mk k ⟨nm, ⟨m, u⟩⟩ l)) bs (max k 1) []).1, sortI (rawP S ⟨x, y, z⟩ (atS (.mk k ⟨nm, ⟨m, u⟩⟩ l)) bs (max k 1) []).2⟩) := HRW
    dsimp only [Ex.k, Ex.atom, Ex.kids] at HN1 HG1
    unfold RetNN Nd.val at HN3
    dsimp only [Ex.k, Ex.atom, Ex.kids] at HN3
    clear HRW
    go_cut [5, 6] (fun v5' v6 wx => ∃ g5 A6 c6, v5' = .pointer (some ⟨g5, 0, none⟩) ∧ v6 = .bool true ∧ w3.heap.size ≤ g5 ∧ Hid (Blk wx g5 60 #[.int .i64 a, .int .i64 b, .int .i64 c, .int .i64 k, .string nm, .int .i64 m, .int .i64 u, .slice A6 l.length c6, .int .i64 gen]) ∧ Hid (ExF wx wx.heap.size d A6 (.mk k ⟨nm, ⟨m, u⟩⟩ l)) ∧ Hid (Below w3.heap.size w3 wx))
    case first =>
      go_wp2_with fail
      go_region_law (refine stepCall rfl 47 #[.tmp 18, .tmp 19] _ rfl #[.agg #[.slice A1 qs.length c1, .slice A2 ns.length c2], .agg #[.int .i64 x, .int .i64 y, .int .i64 z]] rfl HKN.out (HN3.out _ (by (repeat (first | (with_reducible exact Below.refl _ _) | (with_reducible assumption) | (with_reducible refine below_drewN ?_ _) | (with_reducible refine Below.drew ?_) | (with_reducible refine Below.al ?_ _) | (with_reducible refine Below.st ?_ (by simp; try omega)) | (with_reducible refine Below.tr ?_ (Hid.out (by assumption))) | (with_reducible exact Hid.out (by assumption)))))) ?_; rintro e w4 ⟨hb4, hr4⟩; obtain ⟨A6, c6, rfl, hm4, hx4⟩ := hr4; refine ⟨_, rfl, ?_⟩; have HM4 := Lib.hid hm4; have HX4 := Lib.hid hx4; have HB4 : Hid (Below w3.heap.size w3 w4) := Lib.hid (Below.tr (by (repeat (first | (with_reducible exact Below.refl _ _) | (with_reducible assumption) | (with_reducible refine below_drewN ?_ _) | (with_reducible refine Below.drew ?_) | (with_reducible refine Below.al ?_ _) | (with_reducible refine Below.st ?_ (by simp; try omega)) | (with_reducible refine Below.tr ?_ (Hid.out (by assumption))) | (with_reducible exact Hid.out (by assumption))))) hb4); have hs4 := HB4.out.size; (try (have hQ : Blk w4 w3.heap.size 60 #[.int .i64 0, .int .i64 0, .int .i64 0, .int .i64 0, .string { data := #[] }, .int .i64 0, .int .i64 0, .slice none 0 0, .int .i64 0] := (Blk.new w3.drew 60 #[.int .i64 0, .int .i64 0, .int .i64 0, .int .i64 0, .string { data := #[] }, .int .i64 0, .int .i64 0, .slice none 0 0, .int .i64 0]).below hb4 (by simp); have q0 := hQ.cellx 0 (v := .int .i64 0) rfl; have qf0 := hQ.frozen 0; have q1 := hQ.cellx 1 (v := .int .i64 0) rfl; have qf1 := hQ.frozen 1; have q2 := hQ.cellx 2 (v := .int .i64 0) rfl; have qf2 := hQ.frozen 2; have q3 := hQ.cellx 3 (v := .int .i64 0) rfl; have qf3 := hQ.frozen 3; have q4 := hQ.cellx 4 (v := .string { data := #[] }) rfl; have qf4 := hQ.frozen 4; have q5 := hQ.cellx 5 (v := .int .i64 0) rfl; have qf5 := hQ.frozen 5; have q6 := hQ.cellx 6 (v := .int .i64 0) rfl; have qf6 := hQ.frozen 6; have q7 := hQ.cellx 7 (v := .slice none 0 0) rfl; have qf7 := hQ.frozen 7; have q8 := hQ.cellx 8 (v := .int .i64 0) rfl; have qf8 := hQ.frozen 8; have ql := hQ.lt; have HQ := Lib.hid hQ; clear hQ)); clear hb4 hx4 hm4)
      all_goals (
        go_wp2_with fail
        go_meet
        first
        | (refine ⟨w4.heap.size, A6, c6, ?_, rfl, hs4, Lib.hid ?_, Lib.hid ?_, Lib.hid ?_⟩
           · with_reducible rfl
           · with_reducible exact Blk.new _ _ _
           · exact ⟨HM4.out, by simp, HX4.out.same (fun b hb => Below.heap_alloc _ _ _ hb.2) (fun b hb => by have := hb.2; show b < _; simp; omega)⟩
           · with_reducible exact Below.al HB4.out _)
        | (refine ⟨w3.heap.size, A6, c6, ?_, rfl, Nat.le_refl _, Lib.hid ?_, Lib.hid ?_, Lib.hid ?_⟩
           · with_reducible rfl
           · with_reducible exact blk9 HQ.out _ _ _ _ _ _ _ _ _
           · refine ⟨HM4.out, by simp, HX4.out.same (fun b hb => ?_) (fun b hb => by have := hb.2; show b < _; simpa using this)⟩
             have h1 := hb.1
             simp at h1
             (repeat (with_reducible rw [Below.heap_setCell _ _ _ _ (by show b ≠ w3.heap.size; omega)]))
           · (repeat (with_reducible refine Below.st ?_ (by simp))); with_reducible exact HB4.out))
    case rest =>
    obtain ⟨g5, A6, c6, rfl, rfl, hg5, HN5, HX5, HB5⟩ := hcut
    obtain ⟨w5, hw5⟩ : ∃ v, v = wc := ⟨_, rfl⟩
    subst hw5
    clear b0 b1 p0 p1 p2 hzb hzp HN3
    have HK5 := Lib.hid (HK3.out.next HB5.out)
    have HW5 : Hid (Below w.heap.size w w5) := Lib.hid HK5.out.bel
    have HGR5 := Lib.hid (fun W (hb : Below w5.heap.size w5 W) => HGR.out W (Below.tr HW5.out hb))
    have b0 := HK5.out.bb.cellx 0 (v := .slice A1 qs.length c1) rfl
    have b1 := HK5.out.bb.cellx 1 (v := .slice A2 ns.length c2) rfl
    have p0 := HK5.out.pb.cellx 0 (v := .int .i64 x) rfl
    have p1 := HK5.out.pb.cellx 1 (v := .int .i64 y) rfl
    have p2 := HK5.out.pb.cellx 2 (v := .int .i64 z) rfl
    have hzb := HK5.out.bb.lt
    have hzp := HK5.out.pb.lt
    clear HGR
    go_upto_region 4 with fail
    go_cut [7] (fun v7 wx => ∃ A7 c7, v7 = .slice A7 bs.length c7 ∧ Hid (RowsAt boolE wx (New w5.heap.size wx) A7 bs) ∧ Hid (Below w5.heap.size w5 wx))
    case first =>
      go_wp2_with fail
      go_region_law (refine stepCall rfl 48 #[.tmp 29, .tmp 30] _ rfl #[.agg #[.slice A1 qs.length c1, .slice A2 ns.length c2], .agg #[.int .i64 x, .int .i64 y, .int .i64 z]] rfl HKG.out (HGR5.out _ (by (repeat (first | (with_reducible exact Below.refl _ _) | (with_reducible assumption) | (with_reducible refine below_drewN ?_ _) | (with_reducible refine Below.drew ?_) | (with_reducible refine Below.al ?_ _) | (with_reducible refine Below.st ?_ (by simp; try omega)) | (with_reducible refine Below.tr ?_ (Hid.out (by assumption))) | (with_reducible exact Hid.out (by assumption)))))) ?_; rintro e w6 ⟨v6, rfl, ho6, hb6⟩; refine ⟨_, rfl, ?_⟩; obtain ⟨A7, c7, rfl, hr7, _⟩ := OwnRows.newP ho6; have HR7 := Lib.hid (New.older hr7 (show w5.heap.size ≤ _ from Nat.le_refl _)); have HB6 : Hid (Below w5.heap.size w5 w6) := Lib.hid (Below.tr (by (repeat (first | (with_reducible exact Below.refl _ _) | (with_reducible assumption) | (with_reducible refine below_drewN ?_ _) | (with_reducible refine Below.drew ?_) | (with_reducible refine Below.al ?_ _) | (with_reducible refine Below.st ?_ (by simp; try omega)) | (with_reducible refine Below.tr ?_ (Hid.out (by assumption))) | (with_reducible exact Hid.out (by assumption))))) hb6); clear hr7 ho6 hb6)
      all_goals (go_wp2_with fail; go_meet; exact ⟨_, _, rfl, HR7, HB6⟩)
    case rest =>
    obtain ⟨A7, c7, rfl, HR7, HB6⟩ := hcut
    obtain ⟨w6, hw6⟩ : ∃ v, v = wc := ⟨_, rfl⟩
    subst hw6
    clear b0 b1 p0 p1 p2 hzb hzp HGR5
    have HK6 := Lib.hid (HK5.out.next HB6.out)
    have HN6 := Lib.hid (HN5.out.below HB6.out HN5.out.lt)
    have HX6 := Lib.hid (HX5.out.below HB6.out)
    have HW6 : Hid (Below w.heap.size w w6) := Lib.hid HK6.out.bel
    have n3 := HN6.out.cellx 3 (v := .int .i64 k) rfl
    have n4 := HN6.out.cellx 4 (v := .string nm) rfl
    have n5 := HN6.out.cellx 5 (v := .int .i64 m) rfl
    have n6 := HN6.out.cellx 6 (v := .int .i64 u) rfl
    have n7 := HN6.out.cellx 7 (v := .slice A6 l.length c6) rfl
    have hz6 := HN6.out.lt
    obtain ⟨hL8, hk1, hk2⟩ := HN1.out
    have HH1 := Lib.hid (HHO.out (.mk k ⟨nm, ⟨m, u⟩⟩ l) A6 A7 c6 c7 w6.heap.size bs w6 (HX6.out.up HB6.out.size (Nat.le_refl _)) (New.lo HR7.out) (by have h : bs.length = (atS (.mk k ⟨nm, ⟨m, u⟩⟩ l)).length := HG1.out; omega))
    have HA1 := Lib.hid (fun W (hb : Below w6.heap.size w6 W) => HA.out (.mk k ⟨nm, ⟨m, u⟩⟩ l) A6 c6 w5.heap.size W (HX6.out.below hb))
    unfold Ex.val at HH1 HA1
    dsimp only [Ex.k, Ex.atom, Ex.kids] at HH1 HA1
    generalize holdsS (.mk k ⟨nm, ⟨m, u⟩⟩ l) bs = hq at *
    generalize atS (.mk k ⟨nm, ⟨m, u⟩⟩ l) = L at *
    clear HHO HA
    go_wp2_with fail
    refine HH1.out.mono ?_
    rintro e w7 ⟨rfl, hb7⟩
    have HB7 : Hid (Below w6.heap.size w6 w7) := Lib.hid hb7
    have HK7 := Lib.hid (HK6.out.next HB7.out)
    have HN7 := Lib.hid (HN6.out.below HB7.out HN6.out.lt)
    have HW7 : Hid (Below w.heap.size w w7) := Lib.hid HK7.out.bel
    clear hb7 n3 n4 n5 n6 n7 hz6
    have n3 := HN7.out.cellx 3 (v := .int .i64 k) rfl
    have n4 := HN7.out.cellx 4 (v := .string nm) rfl
    have n5 := HN7.out.cellx 5 (v := .int .i64 m) rfl
    have n6 := HN7.out.cellx 6 (v := .int .i64 u) rfl
    have n7 := HN7.out.cellx 7 (v := .slice A6 l.length c6) rfl
    have hz7 := HN7.out.lt
    have HZ7 := Lib.hid HK7.out.nb
    cases hq with
    | true =>
      have HE : Hid (R = ⟨0, []⟩) := HRW2
      go_wp2_with (refine storeBox rfl 37 (.tmp 4) (.tmp 36) rfl (w.heap.size + 1) 0 37 #[.int .i64 0, .slice none 0 0] #[.int .i64 0, .slice none 0 0] #[.int .i64 0, .slice none 0 0] rfl rfl HZ7.out sizeNo (by simp) (by simp [Value.oneCell']) rfl ?_; intro w8 hk8 hb8; have HF8 := Lib.hid hk8; have HB8 := Lib.hid hb8; clear hk8 hb8)
      rw [HE.out]
      exact bodyPost_ret_by (v := .agg #[.int .i64 0, .slice none 0 0]) (results_cell_row rfl _ _ (w.heap.size + 1) 37 #[.int .i64 0, .slice none 0 0] (0, 0) _ rfl HF8.out Tryz.underlying37 rfl sizeNo) rfl ⟨none, 0, rfl, RowsAt.nil _ _ _ _, HW7.out.trans (HB8.out.below (by omega) HW7.out.size)⟩
    | false =>
      have HE : Hid (R = ⟨(rawP S ⟨x, y, z⟩ (L.drop 0) (bs.drop 0) (max k 1) []).1, sortI (rawP S ⟨x, y, z⟩ (L.drop 0) (bs.drop 0) (max k 1) []).2⟩) := HRW2
      go_upto_region 8 with fail
      have hK1 : 1 ≤ max k 1 ∧ max k 1 ≤ 24 := by omega
      generalize max k 1 = K0 at *
      have HM8 : Hid (Blk (w7.alloc (.cells #[.int .i64 K0, .slice none 0 0] 37)) w7.heap.size 37 #[.int .i64 K0, .slice none 0 0]) := Lib.hid (Blk.new _ _ _)
      have HB8 : Hid (Below w7.heap.size w7 (w7.alloc (.cells #[.int .i64 K0, .slice none 0 0] 37))) := Lib.hid (Below.al (Below.refl _ _) _)
      have HGX : Hid (w.heap.size + 1 < w7.heap.size) := Lib.hid HK7.out.nb.lt
      have HS8 : Hid ((w7.alloc (.cells #[.int .i64 K0, .slice none 0 0] 37)).heap.size = w7.heap.size + 1) := Lib.hid (by simp)
      have HG6 : Hid (w6.heap.size ≤ w7.heap.size) := Lib.hid HB7.out.size
      generalize w7.alloc (.cells #[.int .i64 K0, .slice none 0 0] 37) = w8 at *
      have HK8 := Lib.hid (HK7.out.next HB8.out)
      have HN8 := Lib.hid (HN7.out.below HB8.out HN7.out.lt)
      have HB68 : Hid (Below w6.heap.size w6 w8) := Lib.hid (Below.tr HB7.out HB8.out)
      have HA8 := Lib.hid (HA1.out w8 HB68.out)
      have HBS8 := Lib.hid ((New.lo HR7.out).below (B'' := w6.heap.size) HB68.out (Nat.le_refl _) (Nat.le_refl _))
      clear n3 n4 n5 n6 n7 hz7 HZ7 HA1
      have n3 := HN8.out.cellx 3 (v := .int .i64 k) rfl
      have n4 := HN8.out.cellx 4 (v := .string nm) rfl
      have n5 := HN8.out.cellx 5 (v := .int .i64 m) rfl
      have n6 := HN8.out.cellx 6 (v := .int .i64 u) rfl
      have n7 := HN8.out.cellx 7 (v := .slice A6 l.length c6) rfl
      have hz8 := HN8.out.lt
      generalize w7.heap.size = gx at *
      go_wp2_with fail
      refine HA8.out.mono ?_
      rintro e w9 ⟨v9, rfl, ho9, hb9⟩
      obtain ⟨A9, c9, rfl, hr9, hl9⟩ := OwnRows.newP ho9
      have HR9 := Lib.hid hr9
      have HB9 : Hid (Below w8.heap.size w8 w9) := Lib.hid hb9
      have HK9 := Lib.hid (HK8.out.next hb9)
      have HM9 := Lib.hid (HM8.out.below hb9 HM8.out.lt)
      have HBS9 := Lib.hid (HBS8.out.below (B'' := w6.heap.size) hb9 HB68.out.size (Nat.le_refl _))
      have HS9 : Hid (gx < w9.heap.size ∧ w6.heap.size ≤ w9.heap.size ∧ w8.heap.size ≤ w9.heap.size) := Lib.hid ⟨HM9.out.lt, Nat.le_trans HB68.out.size hb9.size, hb9.size⟩
      have hbl : Hid (bs.length = L.length) := Lib.hid HG1.out
      have HSQ := Lib.hid HSH.out.2.1
      have hq8 := HSH.out.1
      clear ho9 hr9 hb9 n3 n4 n5 n6 n7 hz8 HN8 HN7 HN6 HN5 HX6 HX5 HR7 HH1 HA8 HK8 HK7 HK6 HK5 HK3 HM8 HW3 HW5 HW6 HW7 HG1 HRW2
      go_wp2_with fail
      go_loopg [46] L.length (fun m0 v46 wq => ∃ (j : Nat) (K : Int) (acc : List Int) (vX : Value), v46 = .int .i64 (j : Int) ∧ j ≤ L.length ∧ L.length ≤ j + m0 ∧ acc.length ≤ j * 8 ∧ (K0 - j ≤ K ∧ K ≤ K0) ∧ Hid (R = ⟨(rawP S ⟨x, y, z⟩ (L.drop j) (bs.drop j) K acc).1, sortI (rawP S ⟨x, y, z⟩ (L.drop j) (bs.drop j) K acc).2⟩) ∧ Hid (Blk wq gx 37 #[.int .i64 K, vX]) ∧ Hid (OwnRows intE 3 wq w9.heap.size vX acc) ∧ Hid (But gx w9 wq))
      case atStart => exact ⟨0, K0, [], .slice none 0 0, rfl, Nat.zero_le _, by omega, by simp, by omega, HE, HM9, Lib.hid (OwnRows.nil _ _ _ _ (Nat.le_refl _)), Lib.hid (But.refl _ _)⟩
      case round =>
        obtain ⟨j, K, acc, vX, rfl, hj, hjm, hal, hKb, HI, HM, HO, HB⟩ := hrel
        obtain ⟨AX, cx, rfl, _, _, _⟩ := HO.out.form
        have hszr := HB.out.size
        have HK := Lib.hid (HK9.out.but HB.out HGX.out HGB.out)
        have HBW : Hid (Below w.heap.size w wr) := Lib.hid HK.out.bel
        have m0 := HM.out.cellx 0 (v := .int .i64 K) rfl
        have m1' := HM.out.cellx 1 (v := .slice AX acc.length cx) rfl
        have fm0 := HM.out.frozen 0
        have fm1 := HM.out.frozen 1
        have hmz := HM.out.lt
        by_cases hlt : j < L.length
        · have hlti : (j : Int) < (L.length : Int) := by omega
          have hjb : j < bs.length := by rw [hbl.out]; exact hlt
          have hjbi : (j : Int) < (bs.length : Int) := by omega
          obtain ⟨⟨n1, ⟨m1, u1⟩⟩, hx⟩ : ∃ x, L[j] = x := ⟨_, rfl⟩
          obtain ⟨bj, hbj⟩ : ∃ x, bs[j] = x := ⟨_, rfl⟩
          have HE2 : Hid (R = ⟨(rawP S ⟨x, y, z⟩ (⟨n1, ⟨m1, u1⟩⟩ :: L.drop (j + 1)) (bj :: bs.drop (j + 1)) K acc).1, sortI (rawP S ⟨x, y, z⟩ (⟨n1, ⟨m1, u1⟩⟩ :: L.drop (j + 1)) (bj :: bs.drop (j + 1)) K acc).2⟩) := Lib.hid (by have h := HI.out; rw [drop_step hlt hx, drop_step hjb hbj] at h; exact h)
          rw [rawP_cons] at HE2
          obtain ⟨g1, off1, hA9, hgl, e0, e1, e2⟩ := tm_cells (S := Lo wr.heap.size) (HR9.out.same (fun b hb => HB.out.block b hb.2 (by have h1 := hb.1; have := HS8.out; omega)) (fun b hb => Nat.lt_of_lt_of_le hb.2 hszr)) hlt hx
          obtain ⟨g2, off2, hA7, hgl2, e3⟩ := bo_cell (HBS9.out.but (B' := wr.heap.size) HB.out HS9.out.2.1 HG6.out (Nat.le_trans HS9.out.2.1 hszr)) hjb hbj
          have hgl' : g1 < wr.heap.size := hgl
          have hgl2' : g2 < wr.heap.size := hgl2
          subst hA9
          subst hA7
          clear hx hbj
          cases bj with
          | true =>
            have HE3 : Hid (R = ⟨(rawP S ⟨x, y, z⟩ (L.drop (j + 1)) (bs.drop (j + 1)) (K - 1) acc).1, sortI (rawP S ⟨x, y, z⟩ (L.drop (j + 1)) (bs.drop (j + 1)) (K - 1) acc).2⟩) := HE2
            go_wp2_with fail
            go_roundg (gk - 1)
            case measure => omega
            case rel => exact ⟨j + 1, K - 1, acc, _, by go_num, by omega, by omega, by omega, by omega, HE3, Lib.hid ((HM.out.set_ 0 (.int .i64 (K - 1))).alloc _), Lib.hid ((own_set HO.out HS9.out.1).alloc _), Lib.hid (But.al (But.st HB.out (.inl rfl)) _)⟩
          | false =>
            have HE3 : Hid (R = ⟨(rawP S ⟨x, y, z⟩ (L.drop (j + 1)) (bs.drop (j + 1)) K (rawQ S ⟨x, y, z⟩ n1 0 S.queues acc)).1, sortI (rawP S ⟨x, y, z⟩ (L.drop (j + 1)) (bs.drop (j + 1)) K (rawQ S ⟨x, y, z⟩ n1 0 S.queues acc)).2⟩) := HE2
            rw [HSQU.out] at HE3
            obtain ⟨RQ, hRQ⟩ : ∃ r, rawQ S ⟨x, y, z⟩ n1 0 qs acc = r := ⟨_, rfl⟩
            rw [hRQ] at HE3
            have HRQ0 : Hid (rawQ S ⟨x, y, z⟩ n1 0 (qs.drop 0) acc = RQ) := Lib.hid hRQ
            have b0 := HK.out.bb.cellx 0 (v := .slice A1 qs.length c1) rfl
            have hzb := HK.out.bb.lt
            have HAT : Hid (Blk (wr.alloc (.cells #[.string n1, .int .i64 m1, .int .i64 u1] 55)) wr.heap.size 55 #[.string n1, .int .i64 m1, .int .i64 u1]) := Lib.hid (Blk.new _ _ _)
            have HM11 := Lib.hid (HM.out.alloc (.cells #[.string n1, .int .i64 m1, .int .i64 u1] 55))
            have HO11 := Lib.hid (HO.out.alloc (.cells #[.string n1, .int .i64 m1, .int .i64 u1] 55))
            have HB11 := Lib.hid (But.al HB.out (.cells #[.string n1, .int .i64 m1, .int .i64 u1] 55))
            have HOA := Lib.hid (fun k hk => (HO.out.block k hk).2)
            have HGA : Hid (gx < wr.heap.size) := Lib.hid hmz
            clear hRQ HE2
            go_wp2_with fail
            generalize wr.alloc (.cells #[.string n1, .int .i64 m1, .int .i64 u1] 55) = w11 at *
            obtain ⟨ga, hga⟩ : ∃ v, v = wr.heap.size := ⟨_, rfl⟩
            obtain ⟨vX, hvX⟩ : ∃ v, v = Value.slice AX acc.length cx := ⟨_, rfl⟩
            obtain ⟨g0, hg0⟩ : ∃ v, v = gk := ⟨_, rfl⟩
            rw [← hga] at HAT HOA HGA ⊢
            rw [← hvX] at HM11 HO11 HOA
            subst hg0
            clear hga hvX
            clear b0 hzb m0 m1' fm0 fm1 hmz e0 e1 e2 e3 hgl hgl2 hgl' hgl2' HI HM HO HB HK HBW hszr
            go_loopg [65] qs.length (fun mm v65 wq => ∃ (i : Nat) (ac2 : List Int) (vY : Value), v65 = .int .i64 (i : Int) ∧ i ≤ qs.length ∧ qs.length ≤ i + mm ∧ ac2.length ≤ j * 8 + i ∧ Hid (rawQ S ⟨x, y, z⟩ n1 i (qs.drop i) ac2 = RQ) ∧ Hid (Blk wq gx 37 #[.int .i64 K, vY]) ∧ Hid (OwnRows intE 3 wq w9.heap.size vY ac2) ∧ Hid (But gx w9 wq) ∧ Hid (PS (fun b => b = gx) w11 wq vX vY))
            case atStart => exact ⟨0, acc, vX, rfl, Nat.zero_le _, by omega, by omega, HRQ0, HM11, HO11, HB11, Lib.hid (PS.refl _ _ _)⟩
            case round =>
              obtain ⟨i, ac2, vY, rfl, hi, him, hal2, HI, HM, HO, HB, HP⟩ := hrel
              obtain ⟨AX2, cx2, rfl, _, _, _⟩ := HO.out.form
              have hszr := HB.out.size
              have HK := Lib.hid (HK9.out.but HB.out HGX.out HGB.out)
              have HBW : Hid (Below w.heap.size w wr) := Lib.hid HK.out.bel
              by_cases hlt2 : i < qs.length
              · have hlti2 : (i : Int) < (qs.length : Int) := by omega
                have HATr : Hid (Blk wr ga 55 #[.string n1, .int .i64 m1, .int .i64 u1]) := Lib.hid ((HP.out.block ga HAT.out.lt (fun e => by have := HGA.out; omega) (fun e => by have := HOA.out _ e; omega)).1.trans HAT.out)
                obtain ⟨q, hx⟩ : ∃ x, qs[i] = x := ⟨_, rfl⟩
                have HSQ1 : Hid (shortQ q) := Lib.hid (hx ▸ HSQ.out _ (List.getElem_mem hlt2))
                have HBR : Hid (B ≤ wr.heap.size) := Lib.hid (Nat.le_trans HBw.out HBW.out.size)
                obtain ⟨gq, offq, B1, B2, B3, r1, r2, r3, hAq, hgq, d0, d1, d2, d3, d4, d5, d6, d7, hqf⟩ := qu_cells (HRQ.out.below (B'' := B) HBW.out HBw.out (Nat.le_refl _)) HBR.out hlt2 hx
                have hgq2 : gq < wr.heap.size := Nat.lt_of_lt_of_le hgq HBR.out
                have HC := Lib.hid (fun W (hb : Below wr.heap.size wr W) => HOD.out q B1 B2 B3 r1 r2 r3 W (hqf.below hb) HSQ1.out)
                have HOL : Hid ((ordL q).length ≤ 16) := Lib.hid (ordL_len HSQ1.out)
                have HE4 : Hid (rawQ S ⟨x, y, z⟩ n1 (i + 1) (qs.drop (i + 1)) (bif (q.res.name.toList == n1.toList) && decide (0 ≤ idxP ⟨x, y, z⟩ 0 (ordL q)) then ac2 ++ [((firstS S i : Nat) : Int) + 2 * idxP ⟨x, y, z⟩ 0 (ordL q)] else ac2) = RQ) := Lib.hid (by have h := HI.out; rw [drop_step hlt2 hx, rawQ_cons] at h; exact h)
                have HSP := Lib.hid (idxP_spec ⟨x, y, z⟩ (ordL q) 0)
                obtain ⟨⟨qnm, kd, un, qh⟩, qhs, qcs, qws, qgen⟩ := q
                unfold Qu.val at HC
                dsimp only at d0 d1 d2 d3 d4 d5 d6 d7 HC HE4
                generalize ordL ⟨⟨qnm, kd, un, qh⟩, qhs, qcs, qws, qgen⟩ = O at *
                have HIXO := Lib.hid (fun A cap B W hm hB hr => HIX.out O A cap B W hm hB hr)
                generalize idxP ⟨x, y, z⟩ 0 O = ix at *
                subst hAq
                clear hx hgq hqf HI
                have HQ12 : Hid (Blk (wr.alloc (.cells #[.string qnm, .int .i64 kd, .int .i64 un, .int .i64 qh, .slice B1 qhs.length r1, .slice B2 qcs.length r2, .slice B3 qws.length r3, .int .i64 qgen] 48)) wr.heap.size 48 #[.string qnm, .int .i64 kd, .int .i64 un, .int .i64 qh, .slice B1 qhs.length r1, .slice B2 qcs.length r2, .slice B3 qws.length r3, .int .i64 qgen]) := Lib.hid (Blk.new _ _ _)
                have HK12 := Lib.hid (HK.out.next (Below.al (Below.refl _ _) (.cells #[.string qnm, .int .i64 kd, .int .i64 un, .int .i64 qh, .slice B1 qhs.length r1, .slice B2 qcs.length r2, .slice B3 qws.length r3, .int .i64 qgen] 48)))
                have HB12 : Hid (Below wr.heap.size wr (wr.alloc (.cells #[.string qnm, .int .i64 kd, .int .i64 un, .int .i64 qh, .slice B1 qhs.length r1, .slice B2 qcs.length r2, .slice B3 qws.length r3, .int .i64 qgen] 48))) := Lib.hid (Below.al (Below.refl _ _) _)
                go_upto_region 16 with fail
                generalize hw12 : wr.alloc (.cells #[.string qnm, .int .i64 kd, .int .i64 un, .int .i64 qh, .slice B1 qhs.length r1, .slice B2 qcs.length r2, .slice B3 qws.length r3, .int .i64 qgen] 48) = w12 at *
                clear hw12
                have HC12 := Lib.hid (HC.out w12 HB12.out)
                have q0 := HQ12.out.cellx 0 (v := .string qnm) rfl
                have q1 := HQ12.out.cellx 1 (v := .int .i64 kd) rfl
                have q2 := HQ12.out.cellx 2 (v := .int .i64 un) rfl
                have q3 := HQ12.out.cellx 3 (v := .int .i64 qh) rfl
                have q4 := HQ12.out.cellx 4 (v := .slice B1 qhs.length r1) rfl
                have q5 := HQ12.out.cellx 5 (v := .slice B2 qcs.length r2) rfl
                have q6 := HQ12.out.cellx 6 (v := .slice B3 qws.length r3) rfl
                have q7 := HQ12.out.cellx 7 (v := .int .i64 qgen) rfl
                have p0 := HK12.out.pb.cellx 0 (v := .int .i64 x) rfl
                have p1 := HK12.out.pb.cellx 1 (v := .int .i64 y) rfl
                have p2 := HK12.out.pb.cellx 2 (v := .int .i64 z) rfl
                have hzq := HQ12.out.lt
                have hzp := HK12.out.pb.lt
                go_cut [13] (fun v13 wx => v13 = .int .i64 ix ∧ Hid (Below w12.heap.size w12 wx))
                case first =>
                  go_wp2_with fail
                  go_region_law (first
                    | (refine stepCall rfl 15 #[.tmp 70] _ rfl #[.agg #[.string qnm, .int .i64 kd, .int .i64 un, .int .i64 qh, .slice B1 qhs.length r1, .slice B2 qcs.length r2, .slice B3 qws.length r3, .int .i64 qgen]] rfl HKO.out (HC.out _ (Below.tr HB12.out (by (repeat (first | (with_reducible exact Below.refl _ _) | (with_reducible assumption) | (with_reducible refine below_drewN ?_ _) | (with_reducible refine Below.drew ?_) | (with_reducible refine Below.al ?_ _) | (with_reducible refine Below.st ?_ (by simp; try omega)) | (with_reducible refine Below.tr ?_ (Hid.out (by assumption))) | (with_reducible exact Hid.out (by assumption))))))) ?_; rintro e w13 ⟨v13, rfl, ho13, hb13⟩; refine ⟨_, rfl, ?_⟩; obtain ⟨AO, cO, rfl, hrO, hlO, hmO⟩ := ho13.form; have HRO := Lib.hid hrO; have HB13 : Hid (Below w12.heap.size w12 w13) := Lib.hid (Below.tr (by (repeat (first | (with_reducible exact Below.refl _ _) | (with_reducible assumption) | (with_reducible refine below_drewN ?_ _) | (with_reducible refine Below.drew ?_) | (with_reducible refine Below.al ?_ _) | (with_reducible refine Below.st ?_ (by simp; try omega)) | (with_reducible refine Below.tr ?_ (Hid.out (by assumption))) | (with_reducible exact Hid.out (by assumption))))) hb13); obtain ⟨hc13, hf13⟩ := bcell HB13.out; have hs13 := HB13.out.size; have hz13 : w.heap.size < w13.heap.size := Nat.lt_of_lt_of_le hzp hs13; clear hrO ho13 hb13)
                    | (refine stepCall rfl 51 #[.tmp 71, .tmp 72] _ rfl #[.slice AO O.length cO, .agg #[.int .i64 x, .int .i64 y, .int .i64 z]] rfl HKI.out (HIXO.out AO cO w13.heap.size _ (by have := HOL.out; unfold maxLen; omega) (Nat.le_refl _) HRO.out) ?_; rintro e w14 ⟨rfl, hb14⟩; refine ⟨_, rfl, ?_⟩; have HB14 : Hid (Below w12.heap.size w12 w14) := Lib.hid (Below.tr HB13.out hb14); clear hb14))
                  all_goals (go_wp2_with fail; go_meet; exact ⟨rfl, HB14⟩)
                case rest =>
                obtain ⟨rfl, HB14⟩ := hcut
                obtain ⟨w14, hw14⟩ : ∃ v, v = wc := ⟨_, rfl⟩
                subst hw14
                clear q0 q1 q2 q3 q4 q5 q6 q7 p0 p1 p2 hzq hzp
                have HBr14 : Hid (Below wr.heap.size wr w14) := Lib.hid (Below.tr HB12.out HB14.out)
                have HQ14 := Lib.hid (HQ12.out.below HB14.out HQ12.out.lt)
                have HA14 := Lib.hid (HATr.out.below HBr14.out HATr.out.lt)
                have HM14 := Lib.hid (HM.out.below HBr14.out HM.out.lt)
                have HO14 := Lib.hid (HO.out.below HBr14.out (Nat.le_refl _))
                have HK14 := Lib.hid (HK12.out.next HB14.out)
                have HBu14 := Lib.hid (HB.out.grow HBr14.out)
                have HP14 := Lib.hid (HP.out.grow HBr14.out)
                have q0 := HQ14.out.cellx 0 (v := .string qnm) rfl
                have a0 := HA14.out.cellx 0 (v := .string n1) rfl
                have hzq := HQ14.out.lt
                have hza := HA14.out.lt
                obtain ⟨nb, hnb⟩ : ∃ b, (qnm.toList == n1.toList) = b := ⟨_, rfl⟩
                rw [hnb] at HE4
                cases nb with
                | false =>
                  have HE5 : Hid (rawQ S ⟨x, y, z⟩ n1 (i + 1) (qs.drop (i + 1)) ac2 = RQ) := HE4
                  go_wp2_with fail
                  go_roundg (gk - 1)
                  case measure => omega
                  case rel => exact ⟨i + 1, ac2, _, by go_num, by omega, by omega, by omega, HE5, HM14, HO14, HBu14, HP14⟩
                | true =>
                  by_cases h0 : 0 ≤ ix
                  · have hge : ix ≥ 0 := h0
                    obtain ⟨jj, hjj, hix⟩ : ∃ jj, jj < O.length ∧ ix = (jj : Int) := by
                      rcases HSP.out with h | ⟨jj, hjj, h⟩
                      · omega
                      · exact ⟨jj, hjj, by rw [h]; omega⟩
                    have HE5 : Hid (rawQ S ⟨x, y, z⟩ n1 (i + 1) (qs.drop (i + 1)) (ac2 ++ [((firstS S i : Nat) : Int) + 2 * ix]) = RQ) := Lib.hid (by have h := HE4.out; rw [decide_eq_true h0] at h; exact h)
                    have hif : i < fs.length := by omega
                    have hifi : (i : Int) < (fs.length : Int) := by omega
                    have HBW14 : Hid (Below w.heap.size w w14) := Lib.hid HK14.out.bel
                    obtain ⟨gF, offF, hA4, hgF, f0⟩ := in_cell (HF.out.below (B'' := w.heap.size) HBW14.out (Nat.le_refl _) (Nat.le_refl _)) hif (HFV.out i hif)
                    have hgF2 : gF < w14.heap.size := Nat.lt_of_lt_of_le hgF HBW14.out.size
                    have hfb := HFB.out i
                    have hjo := HOL.out
                    generalize firstS S i = F at *
                    subst hix
                    subst hA4
                    have HE6 : Hid (rawQ S ⟨x, y, z⟩ n1 (i + 1) (qs.drop (i + 1)) (ac2 ++ [IntKind.i64.wrap ((F : Int) + IntKind.i64.wrap (2 * (jj : Int)))]) = RQ) := Lib.hid (by rw [wrap_small (2 * (jj : Int)) (by omega) (by omega), wrap_small _ (by omega) (by omega)]; exact HE5.out)
                    have b3 := HK14.out.bb.cellx 3 (v := .slice (some ⟨gF, offF, none⟩) fs.length c4) rfl
                    have m1' := HM14.out.cellx 1 (v := .slice AX2 ac2.length cx2) rfl
                    have fm1 := HM14.out.frozen 1
                    have hzb := HK14.out.bb.lt
                    have hzx := HM14.out.lt
                    have HO15 := Lib.hid (HO14.out.drewN 1)
                    have HGL : Hid (gx < w9.heap.size) := Lib.hid HS9.out.1
                    clear hgF HE4 HSP
                    go_wp2_with fail
                    go_region_law (refine stepPushOneB inTB rfl (.tmp 85) (.tmp 96) rfl w9.heap.size (.slice AX2 ac2.length cx2) ac2 _ [.int .i64 _] _ rfl rfl HO15.out w14.heap.size rfl rfl rfl (by unfold maxLen; omega) (by omega) ?_; intro v15 w15 hown15 hb15 hsp15; have HO16 := Lib.hid hown15; obtain ⟨A15, c15, rfl, _, _, _⟩ := HO16.out.form; have HB15 := Lib.hid hb15; have HSP15 := Lib.hid hsp15; have hm15 := (hb15.cell (p := ⟨gx, 1, none⟩) HGL.out).trans m1'; have hmf15 := (hb15.frozen (p := ⟨gx, 1, none⟩) HGL.out).trans fm1; have hs15 : gx < w15.heap.size := Nat.lt_of_lt_of_le hzx hb15.size; clear hown15 hb15 hsp15)
                    all_goals (
                      have HM16 := Lib.hid ((HM14.out.drewN 1).below HB15.out HGL.out)
                      have HO17 : Hid (OwnRows intE 3 w15 w9.heap.size (.slice A15 (ac2.length + 1) c15) (ac2 ++ [IntKind.i64.wrap ((F : Int) + IntKind.i64.wrap (2 * (jj : Int)))])) := Lib.hid (by have h := HO16.out; rw [List.length_append] at h; exact h)
                      have HSP17 : Hid (Spares (w14.drewN 1) w15 (.slice AX2 ac2.length cx2) (.slice A15 (ac2.length + 1) c15)) := Lib.hid (by have h := HSP15.out; rw [List.length_append] at h; exact h)
                      go_wp2_with fail
                      go_roundg (gk - 1)
                      case measure => omega
                      case rel => exact ⟨i + 1, ac2 ++ [IntKind.i64.wrap ((F : Int) + IntKind.i64.wrap (2 * (jj : Int)))], .slice A15 (ac2.length + 1) c15, by go_num, by omega, by omega, by rw [List.length_append]; simp; omega, HE6, Lib.hid (HM16.out.set_ 1 (.slice A15 (ac2.length + 1) c15)), Lib.hid (own_set HO17.out HGL.out), Lib.hid (But.st (But.low (HBu14.out.drewN 1) HB15.out) (.inl rfl)), Lib.hid (PS.st ((HP14.out.grow (below_drewN (Below.refl _ _) 1)).trans (PS.push HB15.out HSP17.out)) rfl)⟩)
                  · have HE5 : Hid (rawQ S ⟨x, y, z⟩ n1 (i + 1) (qs.drop (i + 1)) ac2 = RQ) := Lib.hid (by have h := HE4.out; rw [decide_eq_false h0] at h; exact h)
                    have hge : ¬ ix ≥ 0 := h0
                    go_wp2_with fail
                    go_roundg (gk - 1)
                    case measure => omega
                    case rel => exact ⟨i + 1, ac2, _, by go_num, by omega, by omega, by omega, HE5, HM14, HO14, HBu14, HP14⟩
              · have hlti2 : ¬ (i : Int) < (qs.length : Int) := by omega
                have HE5 : Hid (R = ⟨(rawP S ⟨x, y, z⟩ (L.drop (j + 1)) (bs.drop (j + 1)) K ac2).1, sortI (rawP S ⟨x, y, z⟩ (L.drop (j + 1)) (bs.drop (j + 1)) K ac2).2⟩) := Lib.hid (by
                  have h := HI.out
                  rw [drop_end hlt2] at h
                  have h2 : ac2 = RQ := h
                  rw [h2]
                  exact HE3.out)
                go_wp2_with fail
                go_roundg (g0 - 1)
                case measure => omega
                case rel => exact ⟨j + 1, K, ac2, _, by go_num, by omega, by omega, by omega, by omega, HE5, HM, HO, HB⟩
        · have hlti : ¬ (j : Int) < (L.length : Int) := by omega
          have HE2 : Hid (R = ⟨K, sortI acc⟩) := Lib.hid (by have h := HI.out; rw [drop_end hlt] at h; simpa [rawP] using h)
          go_wp2_with fail
          refine (SortInt_own wr HO.out (w0 := wr) (Below.refl w9.heap.size wr) (by omega)).mono ?_
          rintro e w10 ⟨rfl, ho10, hb10⟩
          obtain ⟨A10, c10, hv10, hr10, _⟩ := OwnRows.newP ho10
          have HR10 := Lib.hid hr10
          have HV10 := Lib.hid hv10
          have HB10 := Lib.hid hb10
          have HM10 := Lib.hid (HM.out.below hb10 HS9.out.1)
          have HZ10 := Lib.hid (HK.out.nb.below hb10 (by have := HGX.out; have := HS9.out.1; omega))
          have HGL : Hid (gx < w9.heap.size ∧ w.heap.size + 1 < gx) := Lib.hid ⟨HS9.out.1, HGX.out⟩
          clear ho10 hv10 hr10 hb10 m0 m1' fm0 fm1 hmz
          go_wp2_with (first
            | (refine loadBox rfl 37 (.tmp 8) rfl gx 0 37 #[.int .i64 K, .slice AX acc.length cx] [.int .i64 K, .slice AX acc.length cx] _ rfl HM10.out (by simp) Tryz.underlying37 rfl sizeNo ?_)
            | (refine storeBox rfl 37 (.tmp 4) (.tmp 104) rfl (w.heap.size + 1) 0 37 #[.int .i64 0, .slice none 0 0] #[.int .i64 K, .slice AX acc.length cx] #[.int .i64 K, .slice AX acc.length cx] rfl rfl HZ10.out sizeNo (by simp) (by simp [Value.oneCell']) rfl ?_; intro w12 hk12 hb12; have HF12 := Lib.hid hk12; have HB12 := Lib.hid hb12; clear hk12 hb12))
          rw [HE2.out]
          have h3 := HGL.out
          exact bodyPost_ret_by (v := .agg #[.int .i64 K, .slice AX acc.length cx]) (results_cell_row rfl _ _ (w.heap.size + 1) 37 #[.int .i64 K, .slice AX acc.length cx] (0, 0) _ rfl HF12.out Tryz.underlying37 rfl sizeNo) rfl ⟨A10, c10, by rw [HV10.out], HR10.out.same (fun b hb => HB12.out.block b hb.2 (by have h1 := hb.1; omega)) (fun b hb => ⟨by have h1 := hb.1; omega, Nat.lt_of_lt_of_le hb.2 HB12.out.size⟩), (HBW.out.trans (HB10.out.mono (by omega))).trans (HB12.out.below (by omega) (Nat.le_trans HBW.out.size HB10.out.size))⟩
end Go.Proofs.YtogeihdfmnohnaaGreatDoor
