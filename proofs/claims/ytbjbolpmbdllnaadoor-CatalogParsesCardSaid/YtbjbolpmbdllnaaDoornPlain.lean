/- Plain words: the text of a catalog read back. No program's walk here. -/
import Derived.Test.YtbjbolpmbdllnaaDooriPlain
import Derived.Lib.SplitLaws
import Derived.Test.YtbjbolpmbdllnaaDoorbFormat
namespace Go.Proofs.YtbjbolpmbdllnaaDoor

/-- What a number's text says. -/
def okI : Lib.NumEnd Int → Option Int
  | .ok v => some v
  | _ => none
def numB (l : List UInt8) : Bool := decide (1 ≤ l.length) && decide (l.length ≤ 4) && !(decide (1 < l.length) && l.head? == some 48) && l.all digB
def numS (l : List UInt8) : Option Int := if numB l = true then some (valD l : Int) else none

theorem dgt_one {n : Int} (h : n ≤ 9) : (dgt n).length ≤ 1 := dec_length_le 0 n.toNat (by omega)
theorem dgt_ne (n : Int) : 1 ≤ (dgt n).length := by
  have := dec_ne n.toNat
  unfold dgt
  rcases h : Lib.decDigits n.toNat with _ | ⟨a, b⟩
  · exact absurd h this
  · simp
theorem atoi_dgt {n : Int} (h0 : 0 ≤ n) (h : n ≤ 9) : okI (Lib.atoiAll (dgt n)) = some n := by
  rw [dgt, atoi_dec (by omega)]
  show some ((n.toNat : Nat) : Int) = some n
  congr 1
  omega
theorem numS_dgt {n : Int} (h0 : 0 ≤ n) (h : n ≤ 9) : numS (dgt n) = some n := by
  obtain ⟨h1, h2, h3⟩ := dec_ok n.toNat
  have hl := dgt_one h
  have hp := dgt_ne n
  have hb : numB (dgt n) = true := by
    unfold numB
    simp only [Bool.and_eq_true, decide_eq_true_eq, Bool.not_eq_true', Bool.and_eq_false_iff, decide_eq_false_iff_not, beq_eq_false_iff_ne, List.all_eq_true]
    exact ⟨⟨⟨hp, by omega⟩, Or.inl (by omega)⟩, h2⟩
  unfold numS
  rw [if_pos hb, dgt, valD_dec]
  congr 1
  omega
theorem dgt_no {n : Int} {c : UInt8} (hc : digB c = false) : c ∉ dgt n := fun h => by
  have := dec_dig n.toNat c h
  rw [hc] at this
  cases this

/-- Words put together and taken apart. -/
theorem spl_join_words (c : UInt8) : ∀ (ws : List (List UInt8)) (l : List (List UInt8)) (x : List UInt8), (∀ y ∈ x :: ws, c ∉ y) → (joinC c (x :: ws)).foldl (splStep c) (l ++ [[]]) = l ++ x :: ws
  | [], l, x, h => by
    have := fold_word c x l [] (h x (by simp))
    simpa [joinC] using this
  | y :: ws, l, x, h => by
    have h1 := fold_word c x l [] (h x (by simp))
    rw [List.nil_append] at h1
    show (x ++ c :: joinC c (y :: ws)).foldl (splStep c) (l ++ [[]]) = _
    rw [List.foldl_append, h1, List.foldl_cons]
    have e : splStep c (l ++ [x]) c = (l ++ [x]) ++ [[]] := by unfold splStep; rw [if_pos rfl]
    rw [e, spl_join_words c ws (l ++ [x]) y (fun z hz => h z (List.mem_cons_of_mem _ hz))]
    simp
theorem spl_words (c : UInt8) (x : List UInt8) (ws : List (List UInt8)) (h : ∀ y ∈ x :: ws, c ∉ y) : spl c (joinC c (x :: ws)) = x :: ws := by
  have := spl_join_words c ws [] x h
  simpa [spl] using this
theorem splitK_words (c : UInt8) : ∀ (ws : List (List UInt8)) (k : Nat) (x : List UInt8), ws.length ≤ k → (∀ y ∈ x :: ws, c ∉ y) → Lib.splitK [c] 0 k (joinC c (x :: ws)) = x :: ws
  | [], k, x, _, h => splitK_miss c k x (h x (by simp))
  | y :: ws, k, x, hk, h => by
    obtain ⟨k, rfl⟩ : ∃ m, k = m + 1 := ⟨k - 1, by simp at hk; omega⟩
    show Lib.splitK [c] 0 (k + 1) (x ++ c :: joinC c (y :: ws)) = _
    rw [splitK_hit c k x _ (h x (by simp)), splitK_words c ws k y (by simpa using hk) fun z hz => h z (List.mem_cons_of_mem _ hz)]

/-- The words of a resource's line. -/
def wLock : List UInt8 := [108, 111, 99, 107]
def wPool : List UInt8 := [112, 111, 111, 108]
def wAt : List UInt8 := [97, 116]
def wordsL (r : Rs) : List (List UInt8) := if r.kind = 1 then [wLock, r.key, wAt, dgt r.home] else [wPool, r.key, dgt r.units, wAt, dgt r.home]
theorem lineL_words (r : Rs) : lineL r = joinC 32 (wordsL r) ++ [10] := by
  unfold lineL wordsL
  split <;> simp [joinC, wLock, wPool, wAt]
theorem name_no {r : Rs} (hr : resB r = true) {c : UInt8} (hc : partB c = false) : c ∉ r.key := fun h => by
  unfold resB at hr
  simp only [Bool.and_eq_true] at hr
  have hn := hr.1.1.1
  unfold nameB at hn
  simp only [Bool.and_eq_true] at hn
  have := List.all_eq_true.1 hn.2 c h
  rw [hc] at this
  cases this
theorem words_no {r : Rs} (hr : resB r = true) {c : UInt8} (h1 : partB c = false) (h2 : digB c = false) (h3 : c ∉ wLock ++ wPool ++ wAt) : ∀ y ∈ wordsL r, c ∉ y := by
  intro y hy
  simp only [List.mem_append, not_or] at h3
  unfold wordsL at hy
  split at hy
  · simp only [List.mem_cons, List.not_mem_nil, or_false] at hy
    rcases hy with rfl | rfl | rfl | rfl
    · exact h3.1.1
    · exact name_no hr h1
    · exact h3.2
    · exact dgt_no h2
  · simp only [List.mem_cons, List.not_mem_nil, or_false] at hy
    rcases hy with rfl | rfl | rfl | rfl | rfl
    · exact h3.1.2
    · exact name_no hr h1
    · exact dgt_no h2
    · exact h3.2
    · exact dgt_no h2
theorem words_blank {r : Rs} (hr : resB r = true) : ∀ y ∈ wordsL r, (32 : UInt8) ∉ y := words_no hr (by decide) (by decide) (by decide)
theorem words_nl {r : Rs} (hr : resB r = true) : ∀ y ∈ wordsL r, (10 : UInt8) ∉ y := words_no hr (by decide) (by decide) (by decide)
theorem join_no (c d : UInt8) (hcd : c ≠ d) : ∀ (ws : List (List UInt8)), (∀ y ∈ ws, c ∉ y) → c ∉ joinC d ws
  | [], _ => by simp [joinC]
  | [x], h => h x (by simp)
  | x :: y :: ws, h => by
    show c ∉ x ++ d :: joinC d (y :: ws)
    rw [List.mem_append, List.mem_cons, not_or, not_or]
    exact ⟨h x (by simp), hcd, join_no c d hcd (y :: ws) fun z hz => h z (List.mem_cons_of_mem _ hz)⟩
theorem words_cons (r : Rs) : ∃ x ws, wordsL r = x :: ws ∧ ws.length ≤ 4 := by
  unfold wordsL
  split
  · exact ⟨_, _, rfl, by simp⟩
  · exact ⟨_, _, rfl, by simp⟩

/-- The body of a line: what stands ahead of its end. -/
def bodyL (r : Rs) : List UInt8 := joinC 32 (wordsL r)
theorem body_nl {r : Rs} (hr : resB r = true) : (10 : UInt8) ∉ bodyL r := join_no 10 32 (by decide) _ (words_nl hr)
theorem body_spl {r : Rs} (hr : resB r = true) : spl 32 (bodyL r) = wordsL r := by
  obtain ⟨x, ws, e, _⟩ := words_cons r
  have := words_blank hr
  unfold bodyL
  rw [e] at this ⊢
  exact spl_words 32 x ws this
theorem count_join (c : UInt8) : ∀ (ws : List (List UInt8)) (x : List UInt8), (∀ y ∈ x :: ws, c ∉ y) → (joinC c (x :: ws)).count c = ws.length
  | [], x, h => List.count_eq_zero.2 (h x (by simp))
  | y :: ws, x, h => by
    show (x ++ c :: joinC c (y :: ws)).count c = _
    rw [List.count_append, List.count_eq_zero.2 (h x (by simp)), List.count_cons_self, count_join c ws y fun z hz => h z (List.mem_cons_of_mem _ hz)]
    simp
theorem body_split {r : Rs} (hr : resB r = true) : Lib.split (bodyL r) [32] = wordsL r := by
  obtain ⟨x, ws, e, hl⟩ := words_cons r
  have := words_blank hr
  unfold Lib.split
  rw [Lib.count_one]
  unfold bodyL
  rw [e] at this ⊢
  rw [count_join 32 ws x this]
  exact splitK_words 32 ws _ x (Nat.le_refl _) this

/-- The resource that words describe: the program's eyes. -/
def mkR (k u : Int) (n : List UInt8) (h : Int) : Rs := ⟨⟨n.toArray⟩, k, u, h⟩
theorem mkR_eq (r : Rs) : mkR r.kind r.units r.key r.home = r := by
  obtain ⟨n, k, u, h⟩ := r
  unfold mkR Rs.key
  simp only [Rs.mk.injEq, and_true]
  exact (str_of n).symm
def progW (ws : List (List UInt8)) : Option Rs :=
  if ws.length < 4 ∨ ws.getD (ws.length - 2) [] ≠ wAt then none else
    match okI (Lib.atoiAll (ws.getD (ws.length - 1) [])) with
    | none => none
    | some h =>
      if ws.getD 0 [] = wLock ∧ ws.length = 4 then some (mkR 1 1 (ws.getD 1 []) h)
      else if ws.getD 0 [] = wPool ∧ ws.length = 5 then
        match okI (Lib.atoiAll (ws.getD 2 [])) with
        | none => none
        | some u => some (mkR 2 u (ws.getD 1 []) h)
      else none
/-- .. the document's eyes. -/
def refW (ws : List (List UInt8)) : Option Rs :=
  if ws.length = 5 ∧ ws.getD 0 [] = wPool then
    match numS (ws.getD 2 []) with
    | none => none
    | some u =>
      match numS (ws.getD 4 []) with
      | none => none
      | some h => if ws.getD 3 [] = wAt then some (mkR 2 u (ws.getD 1 []) h) else none
  else if ws.length ≠ 4 ∨ ws.getD 0 [] ≠ wLock then none else
    match numS (ws.getD 3 []) with
    | none => none
    | some h => if ws.getD 2 [] = wAt then some (mkR 1 1 (ws.getD 1 []) h) else none
theorem kinds {r : Rs} (hr : resB r = true) : (r.kind = 1 ∧ r.units = 1 ∨ r.kind = 2 ∧ 1 ≤ r.units ∧ r.units ≤ 8) ∧ 0 ≤ r.home ∧ r.home ≤ 3 := by
  unfold resB shapedB at hr
  simp only [Bool.and_eq_true, Bool.or_eq_true, decide_eq_true_eq] at hr
  omega
theorem progW_words {r : Rs} (hr : resB r = true) : progW (wordsL r) = some r := by
  obtain ⟨hk, h0, h1⟩ := kinds hr
  have e := mkR_eq r
  have a := atoi_dgt h0 (by omega)
  rcases hk with ⟨hk, hu⟩ | ⟨hk, hu, hu2⟩
  · have hw : wordsL r = [wLock, r.key, wAt, dgt r.home] := by unfold wordsL; rw [if_pos hk]
    rw [hk, hu] at e
    rw [hw]
    unfold progW
    simp [wLock, wPool, wAt, a, e]
  · have hw : wordsL r = [wPool, r.key, dgt r.units, wAt, dgt r.home] := by unfold wordsL; rw [if_neg (show ¬ r.kind = 1 by omega)]
    have b := atoi_dgt (n := r.units) (by omega) (by omega)
    rw [hk] at e
    rw [hw]
    unfold progW
    simp [wLock, wPool, wAt, a, b, e]
theorem refW_words {r : Rs} (hr : resB r = true) : refW (wordsL r) = some r := by
  obtain ⟨hk, h0, h1⟩ := kinds hr
  have e := mkR_eq r
  have a := numS_dgt h0 (by omega)
  rcases hk with ⟨hk, hu⟩ | ⟨hk, hu, hu2⟩
  · have hw : wordsL r = [wLock, r.key, wAt, dgt r.home] := by unfold wordsL; rw [if_pos hk]
    rw [hk, hu] at e
    rw [hw]
    unfold refW
    simp [wLock, wPool, wAt, a, e]
  · have hw : wordsL r = [wPool, r.key, dgt r.units, wAt, dgt r.home] := by unfold wordsL; rw [if_neg (show ¬ r.kind = 1 by omega)]
    have b := numS_dgt (n := r.units) (by omega) (by omega)
    rw [hk] at e
    rw [hw]
    unfold refW
    simp [wLock, wPool, wAt, a, b, e]


/-- The resources of a text: the program cuts line by line. -/
def progL : Nat → List UInt8 → Option Ct
  | 0, _ => none
  | f + 1, s => if s = [] then some [] else
    if (Lib.cut s [10]).2.2 = true then
      match progW (Lib.split (Lib.cut s [10]).1 [32]) with
      | none => none
      | some r => (progL f (Lib.cut s [10]).2.1).map (r :: ·)
    else none
def progS (s : List UInt8) : Option Ct := progL (s.length + 1) s
/-- .. the document takes the words between the line ends. -/
def refLs : List (List UInt8) → Option Ct
  | [] => some []
  | [_] => some []
  | x :: y :: l => match refW (spl 32 x) with
    | none => none
    | some r => (refLs (y :: l)).map (r :: ·)
def refS (s : List UInt8) : Option Ct := refLs (spl 10 s)

theorem cut_hit (c : UInt8) (x r : List UInt8) (h : c ∉ x) : Lib.cut (x ++ c :: r) [c] = (x, r, true) := by
  unfold Lib.cut
  rw [index_hit c x r h, if_pos (by omega)]
  have e : (x ++ c :: r).drop (x.length + 1) = r := by
    rw [← List.drop_drop, List.drop_left]
    rfl
  simp [e]
theorem line_cons (r : Rs) (l : Ct) : linesL (r :: l) = bodyL r ++ 10 :: linesL l := by
  show lineL r ++ linesL l = _
  rw [lineL_words]
  unfold bodyL
  simp
theorem progL_lines : ∀ (l : Ct) (f : Nat), l.length < f → (∀ x ∈ l, resB x = true) → progL f (linesL l) = some l
  | [], f + 1, _, _ => by simp [progL, linesL]
  | r :: l, f + 1, hf, h => by
    have hr := h r (by simp)
    rw [line_cons]
    have hc := cut_hit 10 (bodyL r) (linesL l) (body_nl hr)
    unfold progL
    rw [if_neg (by simp), hc, if_pos rfl]
    simp only
    rw [body_split hr, progW_words hr]
    simp only
    rw [progL_lines l f (by simpa using hf) fun x hx => h x (List.mem_cons_of_mem _ hx)]
    rfl
theorem lines_ge : ∀ (l : Ct), l.length ≤ (linesL l).length
  | [] => by simp [linesL]
  | r :: l => by
    rw [line_cons]
    have := lines_ge l
    simp
    omega
theorem progS_lines {l : Ct} (h : ∀ x ∈ l, resB x = true) : progS (linesL l) = some l := progL_lines l _ (by have := lines_ge l; omega) h
theorem lines_join : ∀ (l : Ct), linesL l = joinC 10 (l.map bodyL ++ [[]])
  | [] => rfl
  | [r] => by rw [line_cons]; rfl
  | r :: q :: l => by
    rw [line_cons, lines_join (q :: l)]
    rfl
theorem spl_lines {l : Ct} (h : ∀ x ∈ l, resB x = true) : spl 10 (linesL l) = l.map bodyL ++ [[]] := by
  rw [lines_join]
  have hn : ∀ y ∈ l.map bodyL ++ [[]], (10 : UInt8) ∉ y := by
    intro y hy
    rw [List.mem_append, List.mem_map] at hy
    rcases hy with ⟨r, hr, rfl⟩ | hy
    · exact body_nl (h r hr)
    · rw [List.mem_singleton.1 hy]
      simp
  rcases l with _ | ⟨r, l⟩
  · rfl
  · exact spl_words 10 _ _ hn
theorem refLs_bodies : ∀ (l : Ct), (∀ x ∈ l, resB x = true) → refLs (l.map bodyL ++ [[]]) = some l
  | [], _ => rfl
  | r :: l, h => by
    obtain ⟨y, t, e⟩ : ∃ y t, l.map bodyL ++ [[]] = y :: t := by
      rcases l with _ | ⟨q, l⟩
      · exact ⟨_, _, rfl⟩
      · exact ⟨_, _, rfl⟩
    have ih := refLs_bodies l fun x hx => h x (List.mem_cons_of_mem _ hx)
    show refLs (bodyL r :: (l.map bodyL ++ [[]])) = _
    rw [e] at ih ⊢
    unfold refLs
    rw [body_spl (h r (by simp)), refW_words (h r (by simp))]
    simp only [ih]
    rfl
theorem refS_lines {l : Ct} (h : ∀ x ∈ l, resB x = true) : refS (linesL l) = some l := by
  unfold refS
  rw [spl_lines h]
  exact refLs_bodies l h

open Classical in
/-- What Parse returns, of a text and of what was read. -/
noncomputable def doneC (s : List UInt8) (c : Option Ct) : Int × Ct := match c with
  | none => (6, [])
  | some l => if VCat l ∧ linesL l = s then (0, l) else (6, [])
noncomputable def parseC (s : List UInt8) : Int × Ct := if 1024 < s.length then (3, []) else doneC s (progS s)
theorem VCat.all {l : Ct} (h : VCat l) : ∀ x ∈ l, resB x = true := fun x hx => by
  obtain ⟨i, hi, rfl⟩ := List.getElem_of_mem hx
  exact h.2.1 i hi
theorem done_eq (s : List UInt8) : doneC s (refS s) = doneC s (progS s) := by
  have one : ∀ (a b : Option Ct), (∀ l, VCat l → linesL l = s → b = some l) → ∀ l, a = some l → VCat l → linesL l = s → doneC s a = doneC s b := by
    intro a b hb l ha hv hl
    rw [ha, hb l hv hl]
  have hp : ∀ l, VCat l → linesL l = s → progS s = some l := fun l hv hl => hl ▸ progS_lines hv.all
  have hr : ∀ l, VCat l → linesL l = s → refS s = some l := fun l hv hl => hl ▸ refS_lines hv.all
  have none_of : ∀ (a : Option Ct), (∀ l, a = some l → ¬ (VCat l ∧ linesL l = s)) → doneC s a = (6, []) := by
    intro a h
    unfold doneC
    rcases a with _ | l
    · rfl
    · exact if_neg (h l rfl)
  by_cases h : ∃ l, VCat l ∧ linesL l = s
  · obtain ⟨l, hv, hl⟩ := h
    rw [hp l hv hl, hr l hv hl]
  · rw [none_of _ fun l _ hh => h ⟨l, hh⟩, none_of _ fun l _ hh => h ⟨l, hh⟩]
theorem parseC_lines {l : Ct} (hv : VCat l) : parseC (linesL l) = (0, l) := by
  have hlen : (linesL l).length ≤ 1024 := by
    have := linesL_len hv.2.1 l.length (Nat.le_refl _)
    rw [List.take_length] at this
    have := hv.1
    omega
  unfold parseC
  rw [if_neg (by omega), progS_lines hv.all]
  exact if_pos ⟨hv, rfl⟩
theorem parseC_ok {s : List UInt8} {l : Ct} (h : parseC s = (0, l)) : VCat l ∧ linesL l = s := by
  unfold parseC at h
  split at h
  · cases h
  · unfold doneC at h
    split at h
    · cases h
    · split at h
      · next hh =>
        cases h
        exact hh
      · cases h
theorem parseC_no {s : List UInt8} {l : Ct} {e : Int} (h : parseC s = (e, l)) (he : e ≠ 0) : l = [] := by
  unfold parseC at h
  split at h
  · cases h; rfl
  · unfold doneC at h
    split at h
    · cases h; rfl
    · split at h
      · cases h; exact absurd rfl he
      · cases h; rfl
end Go.Proofs.YtbjbolpmbdllnaaDoor
