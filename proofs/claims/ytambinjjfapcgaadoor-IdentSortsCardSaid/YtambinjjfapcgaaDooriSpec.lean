/- Plain words: processes, their texts, what is parsed. No program here. -/
import Derived.Test.YtambinjjfapcgaaDooriPlain
namespace Go.Proofs.YtambinjjfapcgaaDoor

/-- A process. -/
structure Pr where
  site : Int
  inc : Int
  num : Int
  deriving DecidableEq
/-- A stamp. -/
structure St where
  time : Int
  site : Int
  deriving DecidableEq
def vpB (p : Pr) : Bool := decide (0 ≤ p.site) && decide (p.site ≤ 3) && (decide (1 ≤ p.inc) && decide (p.inc ≤ 99)) && (decide (1 ≤ p.num) && decide (p.num ≤ 999))
def vsB (s : St) : Bool := decide (0 ≤ s.time) && decide (s.time ≤ 1073741824) && (decide (0 ≤ s.site) && decide (s.site ≤ 3))
theorem vpB_iff {p : Pr} : vpB p = true ↔ 0 ≤ p.site ∧ p.site ≤ 3 ∧ 1 ≤ p.inc ∧ p.inc ≤ 99 ∧ 1 ≤ p.num ∧ p.num ≤ 999 := by
  unfold vpB
  simp only [Bool.and_eq_true, decide_eq_true_eq]
  constructor
  · rintro ⟨⟨⟨a, b⟩, c, d⟩, e, f⟩; exact ⟨a, b, c, d, e, f⟩
  · rintro ⟨a, b, c, d, e, f⟩; exact ⟨⟨⟨a, b⟩, c, d⟩, e, f⟩
theorem vsB_iff {s : St} : vsB s = true ↔ 0 ≤ s.time ∧ s.time ≤ 1073741824 ∧ 0 ≤ s.site ∧ s.site ≤ 3 := by
  unfold vsB
  simp only [Bool.and_eq_true, decide_eq_true_eq]
  constructor
  · rintro ⟨⟨a, b⟩, c, d⟩; exact ⟨a, b, c, d⟩
  · rintro ⟨a, b, c, d⟩; exact ⟨⟨a, b⟩, c, d⟩
def dgI (n : Int) : List UInt8 := Lib.decDigits n.toNat
def ptext (p : Pr) : List UInt8 := dgI p.site ++ 46 :: (dgI p.inc ++ 46 :: dgI p.num)
/-- The text of a valid process, nothing of another one. -/
def fmtP (p : Pr) : List UInt8 := if vpB p = true then ptext p else []

theorem dgI_length {n : Int} (h : n ≤ 999) : (dgI n).length ≤ 3 := dec_length_le 2 n.toNat (by omega)
theorem ptext_length {p : Pr} (h : vpB p = true) : (ptext p).length ≤ 11 := by
  obtain ⟨a, b, c, d, e, f⟩ := vpB_iff.1 h
  have h1 := dgI_length (n := p.site) (by omega)
  have h2 := dgI_length (n := p.inc) (by omega)
  have h3 := dgI_length (n := p.num) (by omega)
  simp only [ptext, List.length_append, List.length_cons]
  omega
theorem dgI_length_pos (n : Int) : 1 ≤ (dgI n).length := by
  have := dec_ne n.toNat
  rcases h : dgI n with _ | ⟨a, r⟩
  · exact absurd h this
  · simp
theorem ptext_length_ge (p : Pr) : 5 ≤ (ptext p).length := by
  have h1 := dgI_length_pos p.site
  have h2 := dgI_length_pos p.inc
  have h3 := dgI_length_pos p.num
  simp only [ptext, List.length_append, List.length_cons]
  omega
theorem dgI_dot (n : Int) : (46 : UInt8) ∉ dgI n := by
  intro h
  have := dec_dig n.toNat 46 h
  exact absurd this (by decide)
theorem dgI_inj {n m : Int} (hn : 0 ≤ n) (hm : 0 ≤ m) (h : dgI n = dgI m) : n = m := by
  have := congrArg valD h
  rw [dgI, dgI, valD_dec, valD_dec] at this
  omega
theorem ptext_inj {p q : Pr} (hp : vpB p = true) (hq : vpB q = true) (h : ptext p = ptext q) : p = q := by
  obtain ⟨a, _, b, _, c, _⟩ := vpB_iff.1 hp
  obtain ⟨d, _, e, _, f, _⟩ := vpB_iff.1 hq
  have := congrArg (spl 46) h
  rw [ptext, ptext, spl_three 46 _ _ _ (dgI_dot _) (dgI_dot _) (dgI_dot _), spl_three 46 _ _ _ (dgI_dot _) (dgI_dot _) (dgI_dot _)] at this
  simp only [List.cons.injEq, and_true] at this
  obtain ⟨h1, h2, h3⟩ := this
  have := dgI_inj a d h1
  have := dgI_inj (by omega) (by omega) h2
  have := dgI_inj (by omega) (by omega) h3
  cases p; cases q
  simp_all

open Classical in
/-- The valid process whose text is s. -/
noncomputable def parseS (s : List UInt8) : Option Pr := if h : ∃ p, vpB p = true ∧ ptext p = s then some h.choose else none
theorem parseS_iff {s : List UInt8} {p : Pr} : parseS s = some p ↔ vpB p = true ∧ ptext p = s := by
  unfold parseS
  split
  · next h =>
    have hc := h.choose_spec
    constructor
    · intro e
      rw [← Option.some.inj e]
      exact hc
    · rintro ⟨h1, h2⟩
      rw [ptext_inj hc.1 h1 (hc.2.trans h2.symm)]
  · next h =>
    constructor
    · intro e
      cases e
    · exact fun e => absurd ⟨p, e⟩ h
theorem parseS_none {s : List UInt8} : parseS s = none ↔ ∀ p, vpB p = true → ptext p ≠ s := by
  rw [Option.eq_none_iff_forall_ne_some]
  constructor
  · exact fun h p h1 h2 => h p (parseS_iff.2 ⟨h1, h2⟩)
  · exact fun h p e => h p (parseS_iff.1 e).1 (parseS_iff.1 e).2
theorem parseS_text {p : Pr} (h : vpB p = true) : parseS (ptext p) = some p := parseS_iff.2 ⟨h, rfl⟩

/-- What the program makes of the words of s. -/
def okI : Lib.NumEnd Int → Option Int
  | .ok v => some v
  | _ => none
def progP (s : List UInt8) : List (List UInt8) → Option Pr
  | [a, b, c] => match okI (Lib.atoiAll a), okI (Lib.atoiAll b), okI (Lib.atoiAll c) with
    | some x, some y, some z => if vpB ⟨x, y, z⟩ = true ∧ ptext ⟨x, y, z⟩ = s then some ⟨x, y, z⟩ else none
    | _, _, _ => none
  | _ => none
theorem progP_sound {s : List UInt8} {W : List (List UInt8)} {p : Pr} (h : progP s W = some p) : parseS s = some p := by
  unfold progP at h
  split at h
  · split at h
    · split at h
      · next hh => exact Option.some.inj h ▸ parseS_iff.2 hh
      · cases h
    · cases h
  · cases h
theorem atoi_dgI {n : Int} (h0 : 0 ≤ n) (h : n ≤ 999) : Lib.atoiAll (dgI n) = .ok n := by
  rw [dgI, atoi_dec (by omega)]
  congr 1
  omega
theorem progP_eq (s : List UInt8) : progP s (Lib.splitK [46] 0 (min 4 (s.length + 1) - 1) s) = parseS s := by
  rcases h : parseS s with _ | p
  · rcases h1 : progP s (Lib.splitK [46] 0 (min 4 (s.length + 1) - 1) s) with _ | q
    · rfl
    · have := progP_sound h1
      rw [h] at this
      cases this
  · obtain ⟨h1, rfl⟩ := parseS_iff.1 h
    have hl := ptext_length_ge p
    rw [show min 4 ((ptext p).length + 1) - 1 = 3 by omega]
    obtain ⟨a, b, c, d, e, f⟩ := vpB_iff.1 h1
    have hw : Lib.splitK [46] 0 3 (ptext p) = [dgI p.site, dgI p.inc, dgI p.num] := splitK_three 46 _ _ _ (dgI_dot _) (dgI_dot _) (dgI_dot _)
    rw [hw]
    simp only [progP, atoi_dgI a (by omega), atoi_dgI (n := p.inc) (by omega) (by omega), atoi_dgI (n := p.num) (by omega) f, okI]
    rw [if_pos ⟨h1, trivial⟩]

/-- What the document makes of the words of s. -/
def numB (l : List UInt8) : Bool := decide (1 ≤ l.length) && decide (l.length ≤ 4) && !(decide (1 < l.length) && l.head? == some 48) && l.all digB
def numS (l : List UInt8) : Option Int := if numB l = true then some (valD l : Int) else none
theorem numB_ok {l : List UInt8} (h : numB l = true) : NumOk l := by
  unfold numB at h
  simp at h
  obtain ⟨⟨⟨h1, h2⟩, h3⟩, h4⟩ := h
  refine ⟨fun e => ?_, h4, fun hl => h3.resolve_left (by omega)⟩
  subst e
  simp at h1
def refP : List (List UInt8) → Option Pr
  | [a, b, c] => match numS a, numS b, numS c with
    | some x, some y, some z => if vpB ⟨x, y, z⟩ = true then some ⟨x, y, z⟩ else none
    | _, _, _ => none
  | _ => none
theorem numS_some {l : List UInt8} {x : Int} (h : numS l = some x) : dgI x = l := by
  unfold numS at h
  split at h
  · next hh =>
    rw [← Option.some.inj h, dgI, Int.toNat_natCast, dec_valD l (numB_ok hh)]
  · cases h
theorem numS_dgI {n : Int} (h0 : 0 ≤ n) (h : n ≤ 999) : numS (dgI n) = some n := by
  obtain ⟨h1, h2, h3⟩ := dec_ok n.toNat
  have hl := dgI_length h
  have hp := dgI_length_pos n
  have hb : numB (dgI n) = true := by
    unfold numB
    simp only [Bool.and_eq_true, decide_eq_true_eq, Bool.not_eq_true', Bool.and_eq_false_iff, decide_eq_false_iff_not, beq_eq_false_iff_ne, List.all_eq_true]
    refine ⟨⟨⟨hp, by omega⟩, ?_⟩, h2⟩
    by_cases hh : 1 < (dgI n).length
    · exact Or.inr (h3 hh)
    · exact Or.inl hh
  unfold numS
  rw [if_pos hb, dgI, valD_dec]
  congr 1
  omega
theorem refP_eq (s : List UInt8) : refP (spl 46 s) = parseS s := by
  rcases h : parseS s with _ | p
  · rcases h1 : refP (spl 46 s) with _ | q
    · rfl
    · exfalso
      unfold refP at h1
      split at h1
      · next a b c hw =>
        split at h1
        · next x y z hx hy hz =>
          split at h1
          · next hv =>
            have hj := (spl_join 46 s).2
            rw [hw] at hj
            refine parseS_none.1 h ⟨x, y, z⟩ hv ?_
            rw [← hj]
            simp only [ptext, numS_some hx, numS_some hy, numS_some hz]
            rfl
          · cases h1
        · cases h1
      · cases h1
  · obtain ⟨h1, rfl⟩ := parseS_iff.1 h
    obtain ⟨a, b, c, d, e, f⟩ := vpB_iff.1 h1
    have hw : spl 46 (ptext p) = [dgI p.site, dgI p.inc, dgI p.num] := spl_three 46 _ _ _ (dgI_dot _) (dgI_dot _) (dgI_dot _)
    rw [hw]
    simp only [refP, numS_dgI a (by omega), numS_dgI (n := p.inc) (by omega) (by omega), numS_dgI (n := p.num) (by omega) f]
    rw [if_pos h1]
theorem parseS_long {s : List UInt8} (h : 20 < s.length) : parseS s = none :=
  parseS_none.2 fun p hp e => by
    have := ptext_length hp
    rw [e] at this
    omega
/-- Orders. -/
def ordI (a b : Int) : Int := if a < b then -1 else if b < a then 1 else 0
def cmpP (p q : Pr) : Int := if ordI p.site q.site ≠ 0 then ordI p.site q.site else if ordI p.inc q.inc ≠ 0 then ordI p.inc q.inc else ordI p.num q.num
def cmpT (s t : St) : Int := if ordI s.time t.time ≠ 0 then ordI s.time t.time else ordI s.site t.site
def zeroP : Pr := ⟨0, 0, 0⟩
def zeroT : St := ⟨0, 0⟩
def mergeS (s t : St) : St × Int :=
  if (vsB s && vsB t) = true then (if max s.time t.time ≥ 1073741824 then (zeroT, 16) else (⟨max s.time t.time + 1, s.site⟩, 0)) else (zeroT, 1)
def nextS (n : Int) : Int := if n < 0 ∨ 1073741824 ≤ n then 1 else n + 1
end Go.Proofs.YtambinjjfapcgaaDoor
