/- The search by a stack: the successors or the predecessors of a graph. -/
import Derived.Test.YtgdeekghngpcfaaMembers
import Derived.Test.YtgdeekghngpcfaaPlainS
namespace Go.Proofs.Ytgdeekghngpcfaa
open Go.RowKit

/-- What holds of the search's memory: s: the marks, base s + 1: the stack. -/
def SMem (w0 : World) (bs : List Bool) (v : Value) (st : List Int) (w : World) : Prop :=
  BoolBlk w w0.heap.size bs ∧ OwnInts w (w0.heap.size + 1) v st ∧ Below w0.heap.size w0 w

set_option maxHeartbeats 1600000 in
theorem search_any (f : Nat) (n : Nat) (adj : Int → List Int) (root : Int) (A : Option Addr) (cap : Nat) (w : World) (hn : n ≤ 40) (hroot : InR n root)
    (hadj : ∀ x, InR n x → ∀ y ∈ adj x, InR n y) (hlen : ∀ x, InR n x → (adj x).length ≤ 40)
    (hcall : ∀ args W, Sem.run Try.prog (callFunc f args) W = .ok (.enter f args) W)
    (hstep : ∀ W x, Below w.heap.size w W → InR n x → Calls Try.prog f #[.slice A n cap, .int .i64 x] W (RetIntsL W w.heap.size (adj x))) :
    Calls Try.prog 29 #[.slice A n cap, .int .i64 root, .func (.func f) #[] #[]] w (RetBools w (fun bs => bs.length = n ∧ ∀ x, InR n x → (at_ bs x = true ↔ Reach1 adj root x))) := by
  have hmk := mkBools n (by omega)
  have HA := Lib.hid hadj
  have HS := Lib.hid hstep
  have HL := Lib.hid hlen
  have HR := Lib.hid hroot
  clear hadj hstep hlen hroot
  go_enter Try.func29, Try.ntmps29
  go_wp2
  clear hmk
  go_loopg [8] (2 * n + 1) (fun m v8 wr => ∃ bs st, Hid (SInv n adj root bs st (fun _ _ => False)) ∧ SMem w bs v8 st wr ∧ 2 * unseen bs + st.length ≤ m ∧ m ≤ 2 * n + 1)
  case atStart =>
    refine ⟨List.replicate n false, [root], SInv.start n adj root HR.out, ⟨?_, ?_, ?_⟩, ?_, Nat.le_refl _⟩
    · exact (BoolBlk.new w n).below ((Below.refl _ _).alloc (Nat.le_refl _) _) (by simp)
    · simpa using OwnInts.one (w.alloc _) (w.heap.size + 1) root (by simp)
    · exact ((Below.refl _ _).alloc (Nat.le_refl _) _).alloc (by simp) _
    · simp [unseen, List.countP_replicate]
  case round =>
    obtain ⟨G, hG⟩ : ∃ G, G = gk := ⟨_, rfl⟩
    subst hG
    obtain ⟨wo, hwo⟩ : ∃ wo, wo = wr := ⟨_, rfl⟩
    subst hwo
    obtain ⟨bs, st, hinv, hmem, hm1, hm2⟩ := hrel
    rcases List.eq_nil_or_concat st with rfl | ⟨l, x, hst⟩
    · obtain ⟨A8, c8, hv, _⟩ := hmem.2.1.form
      obtain rfl : u8 = .slice A8 0 c8 := hv
      go_wp2
      go_ret
      exact ⟨w.heap.size, bs, n, by rw [hinv.out.len]; rfl, hmem.1, ⟨hinv.out.len, hinv.out.found HA.out HR.out⟩, hmem.2.2⟩
    · rw [List.concat_eq_append] at hst
      subst hst
      obtain ⟨g8, cap8, rfl, hg8, hg8', hc8, hl8, hcell, hown⟩ := hmem.2.1.last
      obtain ⟨hx, hxs⟩ := hinv.out.stack x (by simp)
      go_wp2_with fail
      refine (HS.out wo x hmem.2.2 hx).mono ?_
      rintro e w1 ⟨A1, c1, rfl, hjs, hloc, hb1⟩
      have hblk1 : BoolBlk w1 w.heap.size bs := hmem.1.below hb1 hmem.1.lt
      have hown1 := hown.below hb1 (Nat.le_refl _)
      have hbel1 := hmem.2.2.trans (hb1.mono hmem.2.2.size)
      have hL := HL.out x hx
      have hpop := Lib.hid hinv.out.pop
      have hlst : (l ++ [x]).length = l.length + 1 := by simp
      have hm3 : 2 * unseen bs + l.length + 1 ≤ G := by omega
      have HXS := Lib.hid hxs
      have HLOC : Hid (0 < (adj x).length → ∀ a, A1 = some a → a.block ≠ w.heap.size ∧ a.block ≠ g8) := fun h0 a ha => by have h1 := hloc h0 a ha; have h2 := hmem.2.2.size; omega
      clear hlst hm1 hcell hxs hloc hmem hown hc8 hl8
      go_wp2_with fail
      go_loopg [8, 36] (adj x).length (fun m2 v8 v36 w2 => ∃ (bs2 : List Bool) (st2 : List Int) (k : Nat), v36 = .int .i64 (k : Int) ∧ k ≤ (adj x).length ∧ (adj x).length ≤ k + m2 ∧ Hid (SInv n adj root bs2 st2 (fun z y => z = x ∧ y ∈ (adj x).drop k)) ∧
        Hid (x = root ∨ at_ bs2 x = true) ∧ SMem w bs2 v8 st2 w2 ∧ IntsAt w2 w2.heap.size A1 (adj x) ∧ Hid (0 < (adj x).length → ∀ a, A1 = some a → a.block ≠ w.heap.size ∧ v8.ownBlock ≠ some a.block) ∧ 2 * unseen bs2 + st2.length ≤ 2 * unseen bs + l.length)
      case atStart =>
        exact ⟨bs, l, 0, rfl, Nat.zero_le _, by omega, hpop.out, HXS.out, ⟨hblk1, hown1, hbel1⟩, hjs, fun h0 a ha => ⟨(HLOC.out h0 a ha).1, by have := (HLOC.out h0 a ha).2; simp [Value.ownBlock]; omega⟩, Nat.le_refl _⟩
      case round =>
        obtain ⟨bs2, st2, k, rfl, hk, hkm, hinv2, hxs2, hmem2, hjs2, hap, hm4⟩ := hrel
        by_cases hlt : k < (adj x).length
        · obtain ⟨hy1, hy2⟩ := HA.out x hx _ (List.getElem_mem hlt)
          cases hs : at_ bs2 (adj x)[k] with
          | true =>
            obtain ⟨b2, off2, rfl, hb2, hc2⟩ := hjs2.get hlt rfl
            have hcs : wr.cell? ⟨w.heap.size, (adj x)[k].toNat, none⟩ = some (.bool true) := hmem2.1.cell (by rw [hinv2.out.len]; omega) (by have h := hs; unfold at_ at h; rw [List.getD_eq_getElem?_getD, List.getElem?_eq_getElem (by rw [hinv2.out.len]; omega)] at h; simpa using h)
            have HSS := Lib.hid hs
            clear hs
            go_wp2
            go_roundg (gk - 1)
            case measure => omega
            case rel => exact ⟨bs2, st2, k + 1, by go_num, by omega, by omega, hinv2.out.skip hlt HSS.out, hxs2, hmem2, hjs2, hap, hm4⟩
          | false =>
            obtain ⟨b2, off2, rfl, hb2, hc2⟩ := hjs2.get hlt rfl
            have hcs : wr.cell? ⟨w.heap.size, (adj x)[k].toNat, none⟩ = some (.bool false) := hmem2.1.cell (by rw [hinv2.out.len]; omega) (by have h := hs; unfold at_ at h; rw [List.getD_eq_getElem?_getD, List.getElem?_eq_getElem (by rw [hinv2.out.len]; omega)] at h; simpa using h)
            have hfs : wr.frozen? ⟨w.heap.size, (adj x)[k].toNat, none⟩ = false := hmem2.1.free _
            have HSS := Lib.hid hs
            clear hs
            go_wp2_with (at_builtin; refine pushInt rfl _ _ rfl _ _ _ _ _ rfl (hmem2.2.1.setCell (by simp) _) _ rfl (by simp [World.setCell]) (by omega) ?_; intro v' w3 hown3 hb3 hsp3)
            have hus := unseen_set (x := (adj x)[k]) hinv2.out.len ⟨hy1, hy2⟩ HSS.out
            have hln : (st2 ++ [(adj x)[k]]).length = st2.length + 1 := by simp
            obtain ⟨q1, q2⟩ := hap.out (by omega) _ rfl
            have hzz : (wr.setCell ⟨w.heap.size, (adj x)[k].toNat, none⟩ (.bool true)).heap.size = wr.heap.size := by simp [World.setCell]
            obtain ⟨q3, q4⟩ := hsp3 b2 (by rw [hzz]; exact hb2) q2
            have q5 := q3.trans (Below.heap_setCell wr ⟨w.heap.size, (adj x)[k].toNat, none⟩ (.bool true) b2 q1)
            have q6 := hb3.size
            have hx4 : x = root ∨ at_ (bs2.set (adj x)[k].toNat true) x = true := hxs2.out.imp id fun h => (at_set hinv2.out.len ⟨hy1, hy2⟩ hx).2 (.inr h)
            go_roundg (gk - 1)
            case measure => omega
            case rel =>
              refine ⟨bs2.set (adj x)[k].toNat true, st2 ++ [(adj x)[k]], k + 1, by go_num, by omega, by omega, hinv2.out.push hlt HA.out hx hxs2.out, hx4, ⟨(hmem2.1.set_ _ true).below hb3 (by omega), hown3, (hmem2.2.2.setCell (Nat.le_refl _) _).trans (hb3.mono (by omega))⟩, ?_, ?_, by omega⟩
              · exact hjs2.same (fun a ha _ => by injection ha with ha; subst ha; exact q5) (by omega)
              · intro _ a ha; injection ha with ha; subst ha; exact ⟨q1, q4⟩
        · go_wp2
          go_roundg (G - 1)
          case measure => omega
          case rel => exact ⟨bs2, st2, hinv2.out.done_ (by omega), hmem2, by omega, by omega⟩
end Go.Proofs.Ytgdeekghngpcfaa
