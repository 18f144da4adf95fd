/- The rows' condition gives what the library wants of the heap; the door's heap meets it. -/
import Derived.Test.YtambinjjfapcgaaDooriLay
import Derived.Test.YtambinjjfapcgaaDooriWrap
import Derived.Test.YtambinjjfapcgaaDoorPost
import Derived.Test.YtambinjjfapcgaaDoorTie
import Derived.Test.YtambinjjfapcgaaDoorCards
import Derived.Lib.LaidTab
import Derived.Shelf.Vars
import Derived.LaidMore
import Derived.Lay
import Derived.LaidSub
import Derived.MakeChecks
import Derived.OpenShut
import Derived.Stop.Joined
import Derived.SevenTiedAt
namespace Go.Proofs.YtambinjjfapcgaaDoor
open Go.ChangeShapes Go.WideShapes Go.ChangeAt Go.RowKit

/-- What the rows list. -/
def laidA : List (String × DataW Unit) := Rows.identSortsRow.laid
set_option maxRecDepth 100000
theorem door_metA (os : Os) (args : Array Value) : laidMetH Tryd.prog laidA ((World.laidAll Tryd.prog os laidA).forCall (fun _ _ => 0) ⟨#[], args, []⟩).memory := by
  rw [Go.MakeChecks.laidMetH_plain _ _ _ (by kernel_rfl)]
  exact laidMet_laidAll _ (by kernel_rfl) (by kernel_rfl)

theorem laidVars_reads {P : Program} {w : World} : ∀ {l : List (String × DataW Unit)} {ps : List MemPlace}, DataW.LaidVars P w l ps → ∀ n d, (n, d) ∈ l →
    ∃ g t cs fuel p, P.globalNamed n = some g ∧ (P.globals[g]?).map (·.type) = some t ∧ w.var? P n = some cs ∧ DataW.trod (fun _ => ()) P w 0 (fun _ => true) false fuel t cs.toList = some (d, p)
  | [], _, _, _, _, hm => by cases hm
  | (n', d') :: r, ps, h, n, d, hm => by
    obtain ⟨g, t, cs, fuel, p, q, h1, h2, h3, h4, h5, _⟩ := h
    rcases List.mem_cons.1 hm with e | e
    · cases e
      exact ⟨g, t, cs, fuel, p, h1, h2, h3, h4⟩
    · exact laidVars_reads h5 n d e
theorem trod_iface_any {H : Type} {enc : TypeId × Value → H} {P : Program} {w : World} {base : Nat} {sp : Nat → Bool} {held : Bool} {fuel : Nat} {t : TypeId} {ms : Array (String × TypeId)} {cs : List Value} {x : DataW H × List MemPlace}
    (ht : P.underlying t = some (.interface ms)) (h : DataW.trod enc P w base sp held fuel t cs = some x) : cs = [.nilIface] ∨ ∃ u v, cs = [.iface u v] := by
  cases fuel with
  | zero => simp [DataW.trod] at h
  | succ fuel =>
    simp only [DataW.trod, ht] at h
    split at h <;> first | (simp_all; done) | (cases h; done) | skip
theorem var_cells {P : Program} {w : World} {n : String} {g : Nat} {cs : Array Value} (hg : P.globalNamed n = some g) (h : w.var? P n = some cs) (i : Nat) : w.cell? ⟨g, i, none⟩ = cs[i]? := by
  unfold World.var? at h
  rw [hg] at h
  simp only [Option.bind_some] at h
  unfold World.cell?
  rcases ho : w.heap[g]? with _ | o
  · rw [ho] at h; cases h
  · rw [ho] at h
    simp only at h ⊢
    cases o <;> simp_all
theorem lay_iface {w : World} {l : List (String × DataW Unit)} {n : String} {d : DataW Unit} {g : Nat} {t : TypeId} (h : laidMet Tryd.prog l w) (hm : (n, d) ∈ l) (hg : Tryd.prog.globalNamed n = some g) (ht : (Tryd.prog.globals[g]?).map (·.type) = some t)
    (hu : (match Tryd.prog.underlying t with | some (.interface _) => true | _ => false) = true) : ∃ ev, w.cell? ⟨g, 0, none⟩ = some ev ∧ (ev = .nilIface ∨ ∃ te pe, ev = .iface te pe) := by
  obtain ⟨_, hv, _⟩ := h
  obtain ⟨g', t', cs, fuel, p, h1, h2, h3, h4⟩ := laidVars_reads hv n d hm
  obtain rfl := Option.some.inj (hg.symm.trans h1)
  obtain rfl := Option.some.inj (ht.symm.trans h2)
  have hc := var_cells hg h3 0
  obtain ⟨ms, hu⟩ : ∃ ms, Tryd.prog.underlying t = some (.interface ms) := by
    split at hu
    · exact ⟨_, by assumption⟩
    · cases hu
  rcases trod_iface_any hu h4 with e | ⟨u, v, e⟩
  · refine ⟨.nilIface, ?_, Or.inl rfl⟩
    rw [hc, ← Array.getElem?_toList, e]
    rfl
  · refine ⟨.iface u v, ?_, Or.inr ⟨u, v, rfl⟩⟩
    rw [hc, ← Array.getElem?_toList, e]
    rfl
theorem lay_of {W : World} (h : laidMetH Tryd.prog laidA W) (hs : W.ShapedOpen Tryd.prog) : Lay W where
  mx := cell_of_shapedOpen_int (t := 3) (zero := #[.int .i64 0]) hs (of_decide_eq_true (by kernel_rfl)) (by kernel_rfl) rfl (by kernel_rfl) (by kernel_rfl) Tryd.underlying3
  tab := by
    have h2 := h.filter (fun x => x.1 == "internal/strconv.uint64pow10")
    rw [Go.MakeChecks.laidMetH_plain _ _ _ (by kernel_rfl)] at h2
    exact Lib.tabIs_of_head (g := 3) (t := 110) (e := 69) (n := 20) (by kernel_rfl) (by kernel_rfl) (by kernel_rfl) (by kernel_rfl) (by kernel_rfl) (by kernel_rfl) (show laidMet Tryd.prog [("internal/strconv.uint64pow10", Lib.tabData .u64 Lib.pow10Tab)] W from h2)
  syn := by
    rw [Go.MakeChecks.laidMetH_plain _ _ _ (by kernel_rfl)] at h
    exact lay_iface h (n := "strconv.ErrSyntax") (d := Rows.laid_strconv_ErrSyntax) (g := 0) (t := 44) (by simp [laidA, Rows.identSortsRow]) (by kernel_rfl) (by kernel_rfl) (by kernel_rfl)
  rng := by
    rw [Go.MakeChecks.laidMetH_plain _ _ _ (by kernel_rfl)] at h
    exact lay_iface h (n := "strconv.ErrRange") (d := Rows.laid_strconv_ErrRange) (g := 1) (t := 44) (by simp [laidA, Rows.identSortsRow]) (by kernel_rfl) (by kernel_rfl) (by kernel_rfl)
end Go.Proofs.YtambinjjfapcgaaDoor
