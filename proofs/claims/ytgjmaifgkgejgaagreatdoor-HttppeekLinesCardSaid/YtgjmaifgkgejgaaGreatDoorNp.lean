/- Layer 14, plain: the one form of a name. No function of the program. -/
import Derived.Test.YtgjmaifgkgejgaaGreatDoorAp
set_option linter.unusedVariables false
set_option linter.unusedSimpArgs false
namespace Go.Proofs.YtgjmaifgkgejgaaGreatDoor.L
open Go.RowKit

/-- No digit. -/
def othR (r : Nat) : Bool := decide (r < 48) || decide (57 < r)
/-- What may not stand in a label. -/
def badR (r : Nat) : Bool := !((decide (97 ≤ r) && decide (r ≤ 122)) || (decide (65 ≤ r) && decide (r ≤ 90)) || decide (r = 45) || decide (r = 95)) && othR r
theorem othR_high (r : Nat) (h : 128 ≤ r) : othR r = true := by
  unfold othR
  simp
  omega
theorem badR_high (r : Nat) (h : 128 ≤ r) : badR r = true := by
  unfold badR othR
  simp
  omega
/-- A label that may not be. -/
def badL (l : List UInt8) : Bool := l.isEmpty || decide (63 < l.length) || anyS badR l || decide (l[0]? = some 45) || decide (l.getLast? = some 45)
/-- Without a dot at its end. -/
def undot (l : List UInt8) : List UInt8 := if l.getLast? = some 46 then l.dropLast else l
def lastC (l : List (List UInt8)) : List UInt8 := l.getLast?.getD []
def nameN (x : List UInt8) : List UInt8 × Int :=
  if x = [] then ([], 8) else if 253 < x.length then ([], 6) else if (splitC 46 x).any badL = true ∨ anyS othR (lastC (splitC 46 x)) = false then ([], 9) else (x, 0)
/-- The one form of a name. -/
def normN (l : List UInt8) : List UInt8 × Int := match parseA l with
  | some a => (printA a, 0)
  | none => nameN (undot (lowS l))

theorem undot_trim (l : List UInt8) : Lib.trimSuffix l [46] = undot l := by
  unfold Lib.trimSuffix undot Lib.hasSuffix
  rcases List.eq_nil_or_concat l with rfl | ⟨a, c, rfl⟩
  · rfl
  · rw [List.concat_eq_append, List.getLast?_concat, List.dropLast_concat]
    by_cases hc : c = 46
    · subst hc
      rw [if_pos (by rw [List.isSuffixOf_iff_suffix]; exact ⟨a, rfl⟩), if_pos rfl]
      simp
    · have : ¬ (List.isSuffixOf [46] (a ++ [c])) = true := by
        rw [List.isSuffixOf_iff_suffix]
        rintro ⟨b, hb⟩
        have := (List.append_inj' hb rfl).2
        injection this with this
        exact hc this.symm
      rw [if_neg this, if_neg (by simpa using hc)]
theorem undot_len (l : List UInt8) : (undot l).length ≤ l.length := by
  unfold undot
  split
  · simp
  · exact Nat.le_refl _
end Go.Proofs.YtgjmaifgkgejgaaGreatDoor.L

/-! Layer 16, plain: the head of a request, byte by byte. No function of the program. -/
namespace Go.Proofs.YtgjmaifgkgejgaaGreatDoor.L
open Go.RowKit

/-- What is known: the state, why not, the host, the port. -/
structure Vd where
  st : Int
  rs : Int
  ho : List UInt8
  po : Int
deriving DecidableEq
def Vd.open_ : Vd := ⟨0, 0, [], 0⟩
def Vd.bad (e : Int) : Vd := ⟨2, e, [], 0⟩
/-- What came, of a head. -/
structure Hs where
  line : List UInt8
  back : Bool
  first : Bool
  rq : Rq
  fs : List (List UInt8 × List UInt8)
def Hs.new : Hs := ⟨[], false, false, Rq.none, []⟩
def judgeH (r : Rq) (fs : List (List UInt8 × List UInt8)) : Vd :=
  if (ofS r.m r.t fs).2.2 ≠ 0 then .bad (ofS r.m r.t fs).2.2
  else if (normN (ofS r.m r.t fs).1).2 ≠ 0 then .bad (normN (ofS r.m r.t fs).1).2
  else ⟨1, 0, (normN (ofS r.m r.t fs).1).1, (ofS r.m r.t fs).2.1⟩
/-- A line came. -/
def lineH2 (s : Hs) : Hs × Vd :=
  if s.first = false then (⟨[], false, true, (parseRq s.line).1, s.fs⟩, if (parseRq s.line).2 = 0 then .open_ else .bad (parseRq s.line).2)
  else if s.line = [] then (⟨[], false, true, s.rq, s.fs⟩, judgeH s.rq s.fs)
  else if (parseF s.line).2.2 ≠ 0 then (⟨[], false, true, s.rq, s.fs⟩, .bad (parseF s.line).2.2)
  else if s.fs.length = 100 then (⟨[], false, true, s.rq, s.fs⟩, .bad 2)
  else (⟨[], false, true, s.rq, s.fs ++ [((parseF s.line).1, (parseF s.line).2.1)]⟩, .open_)
/-- A byte came. -/
def stepH (s : Hs) (c : UInt8) : Hs × Vd :=
  if s.back = true ∧ c = 10 then lineH2 s
  else if s.back = true ∨ c = 10 then (s, .bad 3)
  else if c = 13 then (⟨s.line, true, s.first, s.rq, s.fs⟩, .open_)
  else (⟨s.line ++ [c], s.back, s.first, s.rq, s.fs⟩, .open_)
/-- All bytes: what is known, and of how many. -/
def runH (s : Hs) (u : Nat) : List UInt8 → Vd × Nat
  | [] => (.open_, u)
  | c :: r => if (stepH s c).2.st = 0 then runH (stepH s c).1 (u + 1) r else ((stepH s c).2, u + 1)
/-- What it is after all bytes, were they all open. -/
def afterH (s : Hs) : List UInt8 → Hs
  | [] => s
  | c :: r => afterH (stepH s c).1 r
def allH (b : List UInt8) : Vd × Nat := runH .new 0 b

theorem judge_cases (r : Rq) (fs : List (List UInt8 × List UInt8)) : ((judgeH r fs).st = 1 ∧ (judgeH r fs).rs = 0) ∨ ∃ e, e ≠ 0 ∧ judgeH r fs = .bad e := by
  unfold judgeH
  split
  · rename_i h
    exact Or.inr ⟨_, h, rfl⟩
  · split
    · rename_i h
      exact Or.inr ⟨_, h, rfl⟩
    · exact Or.inl ⟨rfl, rfl⟩
theorem step_cases (s : Hs) (c : UInt8) : (stepH s c).2 = .open_ ∨ ((stepH s c).2.st = 1 ∧ (stepH s c).2.rs = 0) ∨ ∃ e, e ≠ 0 ∧ (stepH s c).2 = .bad e := by
  unfold stepH
  split
  · unfold lineH2
    split
    · by_cases h : (parseRq s.line).2 = 0
      · exact Or.inl (if_pos h)
      · exact Or.inr (Or.inr ⟨_, h, if_neg h⟩)
    · split
      · exact Or.inr (judge_cases _ _)
      · split
        · rename_i h
          exact Or.inr (Or.inr ⟨_, h, rfl⟩)
        · split
          · exact Or.inr (Or.inr ⟨2, by decide, rfl⟩)
          · exact Or.inl rfl
  · split
    · exact Or.inr (Or.inr ⟨3, by decide, rfl⟩)
    · split
      · exact Or.inl rfl
      · exact Or.inl rfl
theorem step_open {s : Hs} {c : UInt8} (h : (stepH s c).2.st = 0) : (stepH s c).2 = .open_ := by
  rcases step_cases s c with h1 | ⟨h1, -⟩ | ⟨e, -, h1⟩
  · exact h1
  · rw [h1] at h
    cases h
  · rw [h1] at h
    cases h
theorem run_cons (s : Hs) (u : Nat) (c : UInt8) (r : List UInt8) : runH s u (c :: r) = if (stepH s c).2.st = 0 then runH (stepH s c).1 (u + 1) r else ((stepH s c).2, u + 1) := rfl
theorem after_cons (s : Hs) (c : UInt8) (r : List UInt8) : afterH s (c :: r) = afterH (stepH s c).1 r := rfl
theorem run_append (s : Hs) (u : Nat) (a b : List UInt8) : runH s u (a ++ b) = if (runH s u a).1.st = 0 then runH (afterH s a) (u + a.length) b else runH s u a := by
  induction a generalizing s u with
  | nil => rfl
  | cons c a ih =>
    rw [List.cons_append, run_cons, run_cons, after_cons]
    by_cases h : (stepH s c).2.st = 0
    · rw [if_pos h, if_pos h, ih, List.length_cons, show u + 1 + a.length = u + (a.length + 1) by omega]
    · rw [if_neg h, if_neg h, if_neg h]
theorem run_open (s : Hs) (u : Nat) (a : List UInt8) (h : (runH s u a).1.st = 0) : runH s u a = (.open_, u + a.length) := by
  induction a generalizing s u with
  | nil => rfl
  | cons c a ih =>
    rw [run_cons] at h ⊢
    by_cases h1 : (stepH s c).2.st = 0
    · rw [if_pos h1] at h ⊢
      rw [ih _ _ h, List.length_cons, show u + 1 + a.length = u + (a.length + 1) by omega]
    · rw [if_neg h1] at h
      exact absurd h h1
theorem run_known (s : Hs) (u : Nat) (a : List UInt8) (h : (runH s u a).1.st ≠ 0) : u < (runH s u a).2 ∧ (runH s u a).2 ≤ u + a.length ∧ runH s u (a.take ((runH s u a).2 - u - 1)) = (.open_, (runH s u a).2 - 1) := by
  induction a generalizing s u with
  | nil => exact absurd rfl h
  | cons c a ih =>
    rw [run_cons] at h
    by_cases h1 : (stepH s c).2.st = 0
    · rw [if_pos h1] at h
      have e : runH s u (c :: a) = runH (stepH s c).1 (u + 1) a := by rw [runH, if_pos h1]
      obtain ⟨k1, k2, k3⟩ := ih _ _ h
      rw [e, List.length_cons]
      refine ⟨by omega, by omega, ?_⟩
      obtain ⟨n, hn⟩ : ∃ n, (runH (stepH s c).1 (u + 1) a).2 - u - 1 = n + 1 := ⟨(runH (stepH s c).1 (u + 1) a).2 - u - 2, by omega⟩
      rw [hn, List.take_succ_cons, runH, if_pos h1, ← k3]
      congr 2
      omega
    · rw [if_neg h1] at h
      have e : runH s u (c :: a) = ((stepH s c).2, u + 1) := by rw [runH, if_neg h1]
      rw [e, List.length_cons]
      refine ⟨by omega, by omega, ?_⟩
      rw [show u + 1 - u - 1 = 0 by omega]
      rfl
end Go.Proofs.YtgjmaifgkgejgaaGreatDoor.L

/-! Layer 16, plain: heads of right lines, and the document's way. No function of the program. -/
namespace Go.Proofs.YtgjmaifgkgejgaaGreatDoor.L
open Go.RowKit

theorem step_plain (s : Hs) (c : UInt8) (hb : s.back = false) (h10 : c ≠ 10) (h13 : c ≠ 13) : stepH s c = (⟨s.line ++ [c], false, s.first, s.rq, s.fs⟩, .open_) := by
  unfold stepH
  rw [if_neg (by rw [hb]; simp), if_neg (by rw [hb]; simpa using h10), if_neg h13, hb]
theorem run_on {s s' : Hs} {c : UInt8} (h : stepH s c = (s', .open_)) (u : Nat) (r : List UInt8) : runH s u (c :: r) = runH s' (u + 1) r := by
  rw [run_cons, h]
  exact if_pos rfl
theorem run_text (s : Hs) (u : Nat) (x r : List UInt8) (hb : s.back = false) (hx : (10 : UInt8) ∉ x ∧ (13 : UInt8) ∉ x) : runH s u (x ++ r) = runH ⟨s.line ++ x, false, s.first, s.rq, s.fs⟩ (u + x.length) r := by
  induction x generalizing s u with
  | nil =>
    obtain ⟨l, b, f, q, fs⟩ := s
    simp only at hb
    subst hb
    simp
  | cons c x ih =>
    have hc : c ≠ 10 ∧ c ≠ 13 := ⟨fun e => hx.1 (by rw [e]; exact List.mem_cons_self), fun e => hx.2 (by rw [e]; exact List.mem_cons_self)⟩
    rw [List.cons_append, run_on (step_plain s c hb hc.1 hc.2)]
    rw [ih _ _ rfl ⟨fun h => hx.1 (List.mem_cons_of_mem _ h), fun h => hx.2 (List.mem_cons_of_mem _ h)⟩]
    simp only [List.append_assoc, List.cons_append, List.nil_append, List.length_cons]
    rw [show u + 1 + x.length = u + (x.length + 1) by omega]
theorem run_end (s : Hs) (u : Nat) (r : List UInt8) (hb : s.back = false) :
    runH s u (13 :: 10 :: r) = if (lineH2 ⟨s.line, true, s.first, s.rq, s.fs⟩).2.st = 0 then runH (lineH2 ⟨s.line, true, s.first, s.rq, s.fs⟩).1 (u + 2) r else ((lineH2 ⟨s.line, true, s.first, s.rq, s.fs⟩).2, u + 2) := by
  have e1 : stepH s 13 = (⟨s.line, true, s.first, s.rq, s.fs⟩, .open_) := by
    unfold stepH
    rw [if_neg (by rw [hb]; simp), if_neg (by rw [hb]; simp), if_pos rfl]
  have e2 : stepH ⟨s.line, true, s.first, s.rq, s.fs⟩ 10 = lineH2 ⟨s.line, true, s.first, s.rq, s.fs⟩ := by
    unfold stepH
    rw [if_pos ⟨rfl, rfl⟩]
  rw [run_on e1, run_cons, e2]
/-- A line of a field that is right. -/
def rightF (x : List UInt8) : Prop := x ≠ [] ∧ (10 : UInt8) ∉ x ∧ (13 : UInt8) ∉ x ∧ (parseF x).2.2 = 0
def fldOf (x : List UInt8) : List UInt8 × List UInt8 := ((parseF x).1, (parseF x).2.1)
def flatL (xs : List (List UInt8)) : List UInt8 := xs.flatMap fun x => x ++ [13, 10]
theorem run_field (q : Rq) (fs : List (List UInt8 × List UInt8)) (u : Nat) (x r : List UInt8) (hx : rightF x) :
    runH ⟨[], false, true, q, fs⟩ u (x ++ 13 :: 10 :: r) = if fs.length = 100 then (.bad 2, u + x.length + 2) else runH ⟨[], false, true, q, fs ++ [fldOf x]⟩ (u + x.length + 2) r := by
  rw [run_text _ _ _ _ rfl ⟨hx.2.1, hx.2.2.1⟩, run_end _ _ _ rfl]
  have e : lineH2 ⟨[] ++ x, true, true, q, fs⟩ = if fs.length = 100 then (⟨[], false, true, q, fs⟩, .bad 2) else (⟨[], false, true, q, fs ++ [fldOf x]⟩, .open_) := by
    unfold lineH2
    rw [List.nil_append, if_neg (by simp), if_neg hx.1, if_neg (by rw [hx.2.2.2]; simp)]
    rfl
  rw [e]
  by_cases h : fs.length = 100
  · rw [if_pos h, if_pos h]
    exact if_neg (show ¬ (2 : Int) = 0 by decide)
  · rw [if_neg h, if_neg h]
    exact if_pos rfl
theorem run_fields (q : Rq) (fs : List (List UInt8 × List UInt8)) (u : Nat) (xs : List (List UInt8)) (r : List UInt8) (hx : ∀ x ∈ xs, rightF x) (hl : fs.length + xs.length ≤ 100) :
    runH ⟨[], false, true, q, fs⟩ u (flatL xs ++ r) = runH ⟨[], false, true, q, fs ++ xs.map fldOf⟩ (u + (flatL xs).length) r := by
  induction xs generalizing fs u with
  | nil => simp [flatL]
  | cons x xs ih =>
    have e : flatL (x :: xs) ++ r = x ++ 13 :: 10 :: (flatL xs ++ r) := by simp [flatL]
    rw [List.length_cons] at hl
    rw [e, run_field q fs u x _ (hx x List.mem_cons_self), if_neg (by omega), ih _ _ (fun y h => hx y (List.mem_cons_of_mem _ h)) (by simp; omega)]
    have e2 : (flatL (x :: xs)).length = x.length + 2 + (flatL xs).length := by
      simp [flatL]
      omega
    rw [e2, List.map_cons, List.append_assoc, show u + x.length + 2 + (flatL xs).length = u + (x.length + 2 + (flatL xs).length) by omega]
    rfl
theorem run_first (x : List UInt8) (q : Rq) (r : List UInt8) (hx : (10 : UInt8) ∉ x ∧ (13 : UInt8) ∉ x) (hp : parseRq x = (q, 0)) :
    allH (x ++ 13 :: 10 :: r) = runH ⟨[], false, true, q, []⟩ (x.length + 2) r := by
  unfold allH
  rw [run_text Hs.new 0 x _ rfl hx, run_end _ _ _ rfl]
  have e : lineH2 ⟨Hs.new.line ++ x, true, Hs.new.first, Hs.new.rq, Hs.new.fs⟩ = (⟨[], false, true, q, []⟩, .open_) := by
    unfold lineH2 Hs.new
    rw [if_pos rfl, List.nil_append, hp]
    rfl
  rw [e, Nat.zero_add]
  exact if_pos rfl
theorem run_judge (q : Rq) (fs : List (List UInt8 × List UInt8)) (u : Nat) (r : List UInt8) : runH ⟨[], false, true, q, fs⟩ u (13 :: 10 :: r) = (judgeH q fs, u + 2) := by
  rw [run_end _ _ _ rfl]
  have e : lineH2 ⟨[], true, true, q, fs⟩ = (⟨[], false, true, q, fs⟩, judgeH q fs) := by
    unfold lineH2
    rw [if_neg (by simp), if_pos rfl]
  rw [e, if_neg]
  rcases judge_cases q fs with ⟨h, -⟩ | ⟨e, -, h⟩
  · rw [h]
    decide
  · rw [h]
    exact (show ¬ (2 : Int) = 0 by decide)
/-- A head of right lines is known by its last byte. -/
theorem all_head (x : List UInt8) (q : Rq) (xs : List (List UInt8)) (hx : (10 : UInt8) ∉ x ∧ (13 : UInt8) ∉ x) (hp : parseRq x = (q, 0)) (hxs : ∀ y ∈ xs, rightF y) (hl : xs.length ≤ 100) :
    allH (x ++ [13, 10] ++ flatL xs ++ [13, 10]) = (judgeH q (xs.map fldOf), (x ++ [13, 10] ++ flatL xs).length + 2) := by
  have e : x ++ [13, 10] ++ flatL xs ++ [13, 10] = x ++ 13 :: 10 :: (flatL xs ++ [13, 10]) := by simp
  rw [e, run_first x q _ hx hp, run_fields q [] _ xs _ hxs (by simpa using hl), run_judge]
  simp only [List.nil_append, List.length_append, List.length_cons, List.length_nil]
/-- One field too many. -/
theorem all_full (x : List UInt8) (q : Rq) (xs : List (List UInt8)) (y r : List UInt8) (hx : (10 : UInt8) ∉ x ∧ (13 : UInt8) ∉ x) (hp : parseRq x = (q, 0)) (hxs : ∀ y ∈ xs, rightF y) (hl : xs.length = 100) (hy : rightF y) :
    allH (x ++ [13, 10] ++ flatL xs ++ (y ++ 13 :: 10 :: r)) = (.bad 2, (x ++ [13, 10] ++ flatL xs).length + y.length + 2) := by
  have e : x ++ [13, 10] ++ flatL xs ++ (y ++ 13 :: 10 :: r) = x ++ 13 :: 10 :: (flatL xs ++ (y ++ 13 :: 10 :: r)) := by simp
  rw [e, run_first x q _ hx hp, run_fields q [] _ xs _ hxs (by simp; omega), run_field _ _ _ _ _ hy, if_pos (by simpa using hl)]
  simp only [List.nil_append, List.length_append, List.length_cons, List.length_nil]

theorem vis_noend (l : List UInt8) (h : allS visR l = true) : (10 : UInt8) ∉ l ∧ (13 : UInt8) ∉ l := by
  unfold allS at h
  rw [Bool.and_eq_true, List.all_eq_true] at h
  constructor
  · intro hc
    have := h.1 _ hc
    revert this
    decide
  · intro hc
    have := h.1 _ hc
    revert this
    decide
theorem line_noend (q : Rq) (h : okRq q) : (10 : UInt8) ∉ lineRq q ∧ (13 : UInt8) ∉ lineRq q := by
  obtain ⟨h1, -, h2, -⟩ := wrong_parts h.2
  obtain ⟨a1, a2⟩ := vis_noend _ (tok_vis _ h1)
  obtain ⟨b1, b2⟩ := vis_noend _ h2
  have hv : (10 : UInt8) ∉ (if q.n = 0 then olderL else newerL) ∧ (13 : UInt8) ∉ (if q.n = 0 then olderL else newerL) := by
    split
    · decide
    · decide
  unfold lineRq
  simp only [List.mem_append, List.mem_cons, not_or]
  exact ⟨⟨a1, by decide, b1, by decide, hv.1⟩, a2, by decide, b2, by decide, hv.2⟩
theorem str_noend (l : List UInt8) (h : anyS strR l = false) : (10 : UInt8) ∉ l ∧ (13 : UInt8) ∉ l := by
  unfold anyS at h
  rw [List.any_eq_false] at h
  constructor
  · intro hc
    exact h _ hc (by decide)
  · intro hc
    exact h _ hc (by decide)
theorem right_line (n t : List UInt8) (h : okF n t = true) : rightF (lineF n t) ∧ fldOf (lineF n t) = (n, t) := by
  have hp := parse_line n t h
  unfold okF at h
  simp only [Bool.and_eq_true, Bool.not_eq_true'] at h
  obtain ⟨a1, a2⟩ := vis_noend _ (tok_vis _ h.1.1.1)
  obtain ⟨b1, b2⟩ := str_noend _ h.1.2
  refine ⟨⟨?_, ?_, ?_, by rw [hp]⟩, by unfold fldOf; rw [hp]⟩
  · unfold lineF
    simp
  · unfold lineF
    simp only [List.mem_append, List.mem_cons, not_or]
    exact ⟨⟨a1, by decide, by decide, by simp⟩, b1⟩
  · unfold lineF
    simp only [List.mem_append, List.mem_cons, not_or]
    exact ⟨⟨a2, by decide, by decide, by simp⟩, b2⟩
/-- The head of a request and of fields that can be printed. -/
theorem all_lines (q : Rq) (fs : List (List UInt8 × List UInt8)) (hq : okRq q) (hf : ∀ f ∈ fs, okF f.1 f.2 = true) (hl : fs.length ≤ 100) :
    allH (lineRq q ++ [13, 10] ++ flatL (fs.map fun f : List UInt8 × List UInt8 => lineF f.1 f.2) ++ [13, 10]) = (judgeH q fs, (lineRq q ++ [13, 10] ++ flatL (fs.map fun f : List UInt8 × List UInt8 => lineF f.1 f.2)).length + 2) := by
  rw [all_head (lineRq q) q _ (line_noend q hq) (parse_lineRq q hq) (fun y hy => by
    obtain ⟨f, hf1, rfl⟩ := List.mem_map.1 hy
    exact (right_line _ _ (hf f hf1)).1) (by simpa using hl), List.map_map]
  have e : fs.map (fldOf ∘ fun f : List UInt8 × List UInt8 => lineF f.1 f.2) = fs := by
    conv => rhs; rw [← List.map_id fs]
    exact List.map_congr_left fun f hf1 => (right_line _ _ (hf f hf1)).2
  rw [e]
theorem judge_more (q : Rq) (fs : List (List UInt8 × List UInt8)) (f : List UInt8 × List UInt8) (h : f.1 ≠ hostL) : judgeH q (f :: fs) = judgeH q fs := by
  have e : ofS q.m q.t (f :: fs) = ofS q.m q.t fs := by
    unfold ofS
    rw [findF, if_neg h]
  unfold judgeH
  rw [e]

/-! ### as many fields as there may be -/
def getL : List UInt8 := [71, 69, 84, 32, 47, 32, 72, 84, 84, 80, 47, 49, 46, 49]
def hostA : List UInt8 := [72, 111, 115, 116, 58, 32, 97]
def bcL : List UInt8 := [98, 58, 32, 99]
def manyL (n : Nat) : List UInt8 := getL ++ [13, 10] ++ flatL (hostA :: List.replicate n bcL)
theorem get_parse : parseRq getL = (⟨[71, 69, 84], [47], 1⟩, 0) := by kernel_rfl
theorem host_right : rightF hostA ∧ fldOf hostA = (hostL, [97]) := ⟨⟨by decide, by decide, by decide, by kernel_rfl⟩, by kernel_rfl⟩
theorem bc_right : rightF bcL ∧ fldOf bcL = ([98], [99]) := ⟨⟨by decide, by decide, by decide, by kernel_rfl⟩, by kernel_rfl⟩
theorem many_right (n : Nat) : ∀ y ∈ hostA :: List.replicate n bcL, rightF y := by
  intro y hy
  rcases List.mem_cons.1 hy with rfl | h
  · exact host_right.1
  · rw [(List.mem_replicate.1 h).2]
    exact bc_right.1
theorem find_reps (n : Nat) : findF hostL (List.replicate n ([98], [99])) = ([], 0) := by
  induction n with
  | zero => rfl
  | succ n ih => rw [List.replicate_succ, findF, if_neg (by decide), ih]
theorem form_get : formS [71, 69, 84] [47] = 1 := by kernel_rfl
theorem hp_a : hpS [97] = ([97], 0, 0) := by kernel_rfl
theorem norm_a : normN [97] = ([97], 0) := by kernel_rfl
theorem judge_many (n : Nat) : judgeH ⟨[71, 69, 84], [47], 1⟩ ((hostL, [97]) :: List.replicate n ([98], [99])) = ⟨1, 0, [97], 0⟩ := by
  have e : ofS [71, 69, 84] [47] ((hostL, [97]) :: List.replicate n ([98], [99])) = ([97], 0, 0) := by
    unfold ofS
    rw [form_get, findF, if_pos rfl, find_reps]
    simp only
    rw [if_neg (by decide), if_neg (by decide), if_neg (by decide), if_neg (by decide), if_neg (by decide), hp_a]
  unfold judgeH
  simp only
  rw [e, if_neg (by decide), norm_a, if_neg (by decide)]
theorem many_few (n : Nat) (h : n ≤ 99) : allH (manyL n ++ [13, 10]) = (⟨1, 0, [97], 0⟩, (manyL n).length + 2) := by
  unfold manyL
  rw [all_head getL _ _ (by decide) get_parse (many_right n) (by simp; omega), List.map_cons, List.map_replicate, host_right.2, bc_right.2, judge_many]
theorem flat_app (xs ys : List (List UInt8)) : flatL (xs ++ ys) = flatL xs ++ flatL ys := List.flatMap_append
theorem flat_cons (x : List UInt8) (xs : List (List UInt8)) : flatL (x :: xs) = x ++ [13, 10] ++ flatL xs := rfl
theorem flat_reps (n : Nat) : (flatL (List.replicate n bcL)).length = 6 * n := by
  induction n with
  | zero => rfl
  | succ n ih =>
    rw [List.replicate_succ, flat_cons, List.length_append, ih]
    simp [bcL]
    omega
theorem many_len (n : Nat) : (manyL n).length = 25 + 6 * n := by
  unfold manyL
  rw [flat_cons, List.length_append, List.length_append, List.length_append, flat_reps]
  simp [getL, hostA]
  omega
theorem flat_snoc (xs : List (List UInt8)) (y : List UInt8) : flatL (xs ++ [y]) = flatL xs ++ (y ++ [13, 10]) := by simp [flatL]
theorem many_more (n : Nat) (h : ¬ n ≤ 99) : allH (manyL n ++ [13, 10]) = (.bad 2, 625) := by
  obtain ⟨k, rfl⟩ : ∃ k, n = 99 + (1 + k) := ⟨n - 100, by omega⟩
  have e : manyL (99 + (1 + k)) ++ [13, 10] = getL ++ [13, 10] ++ flatL (hostA :: List.replicate 99 bcL) ++ (bcL ++ 13 :: 10 :: (flatL (List.replicate k bcL) ++ [13, 10])) := by
    unfold manyL
    rw [← List.replicate_append_replicate, ← List.replicate_append_replicate]
    generalize List.replicate 99 bcL = A
    generalize List.replicate k bcL = B
    rw [show hostA :: (A ++ (List.replicate 1 bcL ++ B)) = (hostA :: A) ++ ([bcL] ++ B) from rfl, flat_app, flat_app, flat_cons bcL]
    simp only [List.append_assoc, List.cons_append, List.nil_append, flatL, List.flatMap_nil]
  have hl := many_len 99
  unfold manyL at hl
  rw [e, all_full getL _ _ _ _ (by decide) get_parse (many_right 99) (by simp) bc_right.1, hl]
  rfl

/-! ### the document's way -/
/-- What the document holds at byte i: the line that it stands in begins at from_. -/
structure RefH (b : List UInt8) (i from_ : Nat) (s : Hs) : Prop where
  all : allH b = runH s i (b.drop i)
  le : from_ ≤ i
  pend : (b.take i).drop from_ = s.line ++ (if s.back = true then [13] else [])
  cr : (13 : UInt8) ∉ s.line
theorem RefH.zero (b : List UInt8) : RefH b 0 0 .new := ⟨rfl, Nat.le_refl _, rfl, by simp [Hs.new]⟩
theorem drop_cons' (b : List UInt8) (i : Nat) (h : i < b.length) : b.drop i = b[i] :: b.drop (i + 1) := List.drop_eq_getElem_cons h
theorem RefH.len {b : List UInt8} {i f : Nat} {s : Hs} (h : RefH b i f s) (hi : i ≤ b.length) : i = f + s.line.length + (if s.back = true then 1 else 0) := by
  have := congrArg List.length h.pend
  have hl := h.le
  rw [List.length_drop, List.length_take, List.length_append] at this
  split
  · rename_i hb
    rw [if_pos hb] at this
    simp at this
    omega
  · rename_i hb
    rw [if_neg hb] at this
    simp at this
    omega
/-- Whether the byte ahead of this one is a carriage return of this line. -/
theorem RefH.back {b : List UInt8} {i f : Nat} {s : Hs} (h : RefH b i f s) (hi : i ≤ b.length) : (f < i ∧ b[i - 1]? = some 13) ↔ s.back = true := by
  have hl := h.len hi
  have hp := h.pend
  have hlast : f < i → b[i - 1]? = ((b.take i).drop f)[i - 1 - f]? := by
    intro hlt
    rw [List.getElem?_drop, List.getElem?_take, if_pos (by omega)]
    congr 1
    omega
  constructor
  · rintro ⟨h1, h2⟩
    rw [hlast h1, hp] at h2
    cases hb : s.back with
    | true => rfl
    | false =>
      rw [hb] at h2
      simp at h2
      exact absurd (List.mem_of_getElem? h2) h.cr
  · intro hb
    rw [if_pos hb] at hl hp
    have h1 : f < i := by omega
    refine ⟨h1, ?_⟩
    rw [hlast h1, hp, List.getElem?_append_right (by omega), show i - 1 - f - s.line.length = 0 by omega]
    rfl
theorem RefH.next {b : List UInt8} {i f : Nat} {s : Hs} (h : RefH b i f s) (hi : i < b.length) (h0 : (stepH s b[i]).2.st = 0) (hn : ¬ (s.back = true ∧ b[i] = 10)) : RefH b (i + 1) f (stepH s b[i]).1 := by
  have hall := h.all
  have hr : allH b = runH (stepH s b[i]).1 (i + 1) (b.drop (i + 1)) := by
    rw [hall, drop_cons' b i hi, run_cons, if_pos h0]
  have hp := h.pend
  have hle := h.le
  have e : (b.take (i + 1)).drop f = (b.take i).drop f ++ [b[i]] := by
    rw [List.take_succ_eq_append_getElem hi, List.drop_append_of_le_length (by simp; omega)]
  refine ⟨hr, by omega, ?_, ?_⟩
  · rw [e, hp]
    revert h0
    unfold stepH
    rw [if_neg hn]
    split
    · intro h0
      cases h0
    · rename_i h2
      have hb : s.back = false := by
        cases hb : s.back with
        | true => exact absurd (Or.inl hb) h2
        | false => rfl
      split
      · rename_i h13
        intro _
        rw [hb, h13]
        simp
      · intro _
        rw [hb]
        simp
  · revert h0
    unfold stepH
    rw [if_neg hn]
    split
    · intro h0
      cases h0
    · split
      · intro _
        exact h.cr
      · rename_i h13
        intro _
        simp only [List.mem_append, List.mem_singleton, not_or]
        exact ⟨h.cr, fun e => h13 e.symm⟩
theorem line2_fresh (s : Hs) : (lineH2 s).1.line = [] ∧ (lineH2 s).1.back = false ∧ (lineH2 s).1.first = true := by
  unfold lineH2
  split
  · exact ⟨rfl, rfl, rfl⟩
  · split
    · exact ⟨rfl, rfl, rfl⟩
    · split
      · exact ⟨rfl, rfl, rfl⟩
      · split
        · exact ⟨rfl, rfl, rfl⟩
        · exact ⟨rfl, rfl, rfl⟩
theorem RefH.line {b : List UInt8} {i f : Nat} {s : Hs} (h : RefH b i f s) (hi : i < b.length) (hb : s.back = true) (hc : b[i] = 10) : (b.take (i - 1)).drop f = s.line ∧ stepH s b[i] = lineH2 s ∧ ((lineH2 s).2.st = 0 → RefH b (i + 1) (i + 1) (lineH2 s).1) := by
  have hp := h.pend
  have hl := h.len (Nat.le_of_lt hi)
  have hst : stepH s b[i] = lineH2 s := by
    unfold stepH
    rw [if_pos ⟨hb, hc⟩]
  rw [if_pos hb] at hp hl
  refine ⟨?_, hst, ?_⟩
  · have e : b.take (i - 1) = (b.take i).take (i - 1) := by
      rw [List.take_take, Nat.min_eq_left (by omega)]
    rw [e, List.drop_take, hp, show i - 1 - f = s.line.length by omega, List.take_left]
  · intro h0
    obtain ⟨f1, f2, f3⟩ := line2_fresh s
    refine ⟨?_, Nat.le_refl _, ?_, by rw [f1]; simp⟩
    · rw [h.all, drop_cons' b i hi, run_cons, hst, if_pos h0]
    · rw [f1, f2]
      simp
/-- Its answer where it is known by this byte. -/
theorem RefH.known {b : List UInt8} {i f : Nat} {s : Hs} (h : RefH b i f s) (hi : i < b.length) (h0 : (stepH s b[i]).2.st ≠ 0) : allH b = ((stepH s b[i]).2, i + 1) := by
  rw [h.all, drop_cons' b i hi, run_cons, if_neg h0]
theorem RefH.end_ {b : List UInt8} {f : Nat} {s : Hs} (h : RefH b b.length f s) : allH b = (.open_, b.length) := by
  rw [h.all, List.drop_length]
  rfl

/-! ### one by one -/
def takeH (t : Hs × Vd × Nat) (c : UInt8) : Hs × Vd × Nat := if t.2.1.st = 0 then ((stepH t.1 c).1, (stepH t.1 c).2, t.2.2 + 1) else t
theorem takes_known (t : Hs × Vd × Nat) (b : List UInt8) (h : t.2.1.st ≠ 0) : b.foldl takeH t = t := by
  induction b with
  | nil => rfl
  | cons c b ih =>
    rw [List.foldl_cons]
    have e : takeH t c = t := by
      unfold takeH
      rw [if_neg h]
    rw [e, ih]
theorem takes_run (s : Hs) (u : Nat) (b : List UInt8) : (b.foldl takeH (s, .open_, u)).2 = runH s u b := by
  induction b generalizing s u with
  | nil => rfl
  | cons c b ih =>
    rw [List.foldl_cons, run_cons]
    have e : takeH (s, .open_, u) c = ((stepH s c).1, (stepH s c).2, u + 1) := rfl
    rw [e]
    by_cases h : (stepH s c).2.st = 0
    · rw [if_pos h, step_open h, ih]
    · rw [if_neg h, takes_known _ _ h]

/-! ### sizes -/
structure HsOk (s : Hs) (u : Nat) : Prop where
  line : s.line.length ≤ u
  rq : s.rq.t.length ≤ 8000
  fs : s.fs.length ≤ 100
  tx : ∀ x ∈ s.fs, x.1.length ≤ u ∧ x.2.length ≤ u
theorem HsOk.new : HsOk .new 0 := ⟨Nat.le_refl _, by decide, by decide, fun x h => by cases h⟩
theorem parseRq_len (l : List UInt8) : (parseRq l).1.t.length ≤ 8000 := by
  unfold parseRq
  split
  · rename_i m t v _
    unfold threeS
    by_cases hw : wrongS m t = 0
    · rw [if_neg (by rw [hw]; decide)]
      obtain ⟨-, -, -, h⟩ := wrong_parts hw
      split
      · exact h
      · split
        · exact h
        · exact Nat.zero_le _
    · rw [if_pos hw]
      exact Nat.zero_le _
  · exact Nat.zero_le _
theorem parseF_len (l : List UInt8) : (parseF l).1.length ≤ l.length ∧ (parseF l).2.1.length ≤ l.length := by
  have hc : (cutC 58 l).1.length ≤ l.length ∧ (cutC 58 l).2.1.length ≤ l.length := by
    rcases cutC_cases 58 l with ⟨_, h⟩ | ⟨a, b, rfl, _, h⟩
    · rw [h]
      exact ⟨Nat.le_refl _, Nat.zero_le _⟩
    · rw [h]
      simp
      omega
  unfold parseF
  split
  · split
    · exact ⟨Nat.zero_le _, Nat.zero_le _⟩
    · obtain ⟨a, b, h, -, -⟩ := trim_parts (cutC 58 l).2.1
      have h2 := congrArg List.length h
      simp only [List.length_append] at h2
      refine ⟨by rw [lowS_len]; exact hc.1, ?_⟩
      show (trimS (cutC 58 l).2.1).length ≤ l.length
      omega
  · exact ⟨Nat.zero_le _, Nat.zero_le _⟩
theorem HsOk.step {s : Hs} {u : Nat} (h : HsOk s u) (c : UInt8) : HsOk (stepH s c).1 (u + 1) := by
  have hl := h.line
  have ht : ∀ x ∈ s.fs, x.1.length ≤ u + 1 ∧ x.2.length ≤ u + 1 := fun x hx => by
    have := h.tx x hx
    omega
  unfold stepH
  split
  · unfold lineH2
    split
    · exact ⟨Nat.zero_le _, parseRq_len _, h.fs, ht⟩
    · split
      · exact ⟨Nat.zero_le _, h.rq, h.fs, ht⟩
      · split
        · exact ⟨Nat.zero_le _, h.rq, h.fs, ht⟩
        · split
          · exact ⟨Nat.zero_le _, h.rq, h.fs, ht⟩
          · rename_i h100
            have hp := parseF_len s.line
            have hf := h.fs
            refine ⟨Nat.zero_le _, h.rq, by simp; omega, ?_⟩
            intro x hx
            rcases List.mem_append.1 hx with hx | hx
            · exact ht x hx
            · rw [List.mem_singleton.1 hx]
              exact ⟨by have := hp.1; simp only; omega, by have := hp.2; simp only; omega⟩
  · split
    · exact ⟨Nat.le_succ_of_le hl, h.rq, h.fs, ht⟩
    · split
      · exact ⟨Nat.le_succ_of_le hl, h.rq, h.fs, ht⟩
      · exact ⟨by simp; omega, h.rq, h.fs, ht⟩
end Go.Proofs.YtgjmaifgkgejgaaGreatDoor.L
