/- Layer 13, plain: authorities. No function of the program. -/
import Derived.Test.YtdamgdmipfoalaaDoorVp
set_option linter.unusedVariables false
set_option linter.unusedSimpArgs false
namespace Go.Proofs.YtdamgdmipfoalaaDoor.L
open Go.RowKit

/-- What is ahead of the first c, and what is from there on. -/
def untilC (c : UInt8) : List UInt8 → List UInt8 × List UInt8
  | [] => ([], [])
  | x :: r => if x = c then ([], x :: r) else (x :: (untilC c r).1, (untilC c r).2)
theorem untilC_no (c : UInt8) (l : List UInt8) (h : c ∉ l) : untilC c l = (l, []) := by
  induction l with
  | nil => rfl
  | cons x r ih =>
    rw [List.mem_cons, not_or] at h
    rw [untilC, if_neg (fun e => h.1 e.symm), ih h.2]
theorem untilC_at (c : UInt8) (a b : List UInt8) (h : c ∉ a) : untilC c (a ++ c :: b) = (a, c :: b) := by
  induction a with
  | nil => rw [List.nil_append, untilC, if_pos rfl]
  | cons x r ih =>
    rw [List.mem_cons, not_or] at h
    rw [List.cons_append, untilC, if_neg (fun e => h.1 e.symm), ih h.2]
theorem untilC_cases (c : UInt8) (l : List UInt8) : (c ∉ l ∧ untilC c l = (l, [])) ∨ ∃ a b, l = a ++ c :: b ∧ c ∉ a ∧ untilC c l = (a, c :: b) := by
  rcases cutC_cases c l with ⟨h, -⟩ | ⟨a, b, rfl, h, -⟩
  · exact Or.inl ⟨h, untilC_no c l h⟩
  · exact Or.inr ⟨a, b, rfl, h, untilC_at c a b h⟩

/-- A host, and what is behind it. -/
def splitH (s : List UInt8) : List UInt8 × List UInt8 × Int :=
  if s = [] ∨ s[0]? = some 58 then ([], [], 8)
  else if allS visR s = false ∨ (64 : UInt8) ∈ s then ([], [], 3)
  else if s[0]? ≠ some 91 then ((untilC 58 s).1, (untilC 58 s).2, 0)
  else match parseA (untilC 93 (s.drop 1)).1 with
    | some a => if (untilC 93 (s.drop 1)).2 = [] ∨ (58 : UInt8) ∉ (untilC 93 (s.drop 1)).1 then ([], [], 3) else (printA a, (untilC 93 (s.drop 1)).2.drop 1, 0)
    | none => ([], [], 3)
/-- A host, and a port. -/
def tailH (h r : List UInt8) : List UInt8 × Int × Int :=
  if r = [] then (h, 0, 0) else if r[0]? ≠ some 58 then ([], 0, 3) else if (numS (r.drop 1) 65535).2 = false ∨ (numS (r.drop 1) 65535).1 = 0 then ([], 0, 10) else (h, (numS (r.drop 1) 65535).1, 0)
def hpS (s : List UInt8) : List UInt8 × Int × Int :=
  if (splitH s).2.2 ≠ 0 then ([], 0, (splitH s).2.2) else tailH (splitH s).1 (splitH s).2.1
/-- As it is printed. -/
def formH (h : List UInt8) : List UInt8 := if (58 : UInt8) ∈ h then 91 :: (h ++ [93]) else h
def portT (p : Int) : List UInt8 := if p = 0 then [] else 58 :: Lib.itoa p
def lineH (h : List UInt8) (p : Int) : List UInt8 := formH h ++ portT p
def printH3 (h : List UInt8) (p : Int) : List UInt8 × Bool := if hpS (lineH h p) = (h, p, 0) then (lineH h p, true) else ([], false)
def hostL : List UInt8 := [104, 111, 115, 116]
def ofS (m t : List UInt8) (xs : List (List UInt8 × List UInt8)) : List UInt8 × Int × Int :=
  if formS m t = 4 then ([], 0, 11) else if formS m t = 0 then ([], 0, 3) else if 1 < (findF hostL xs).2 then ([], 0, 7)
  else if formS m t = 2 then hpS (authS t).1 else if (findF hostL xs).2 = 0 then ([], 0, 8) else hpS (findF hostL xs).1

/-! ### addresses have sixteen bytes -/
theorem octsA_len (acc : List UInt8) (xs : List (List UInt8)) (b : List UInt8) (h : octsA acc xs = some b) : b.length = acc.length + xs.length := by
  induction xs generalizing acc with
  | nil =>
    rw [octsA] at h
    injection h with h
    rw [h]
    rfl
  | cons x r ih =>
    rw [octsA] at h
    split at h
    · rename_i c hc
      have := ih _ h
      simp at this ⊢
      omega
    · cases h
theorem dotS_len (l b : List UInt8) (h : dotS l = some b) : b.length = 4 := by
  unfold dotS at h
  split at h
  · rename_i h4
    rw [octsA_len _ _ _ h, h4]
    rfl
  · cases h
theorem parseA_len (l a : List UInt8) (h : parseA l = some a) : a.length = 16 := by
  unfold parseA at h
  split at h
  · rename_i d hd
    injection h with h
    rw [← h, List.length_append, dotS_len l d hd]
    rfl
  · split at h
    · split at h
      · split at h
        · rename_i b hb h16
          injection h with h
          rw [← h]
          exact h16
        · cases h
      · cases h
    · split at h
      · split at h
        · rename_i x y hxy a b ha hb hle
          injection h with h
          rw [← h]
          simp [zerosL]
          omega
        · cases h
      · cases h

/-! ### what hosts are -/
def fineH (c : UInt8) : Prop := visR c.toNat = true ∧ c ≠ 64
theorem digit_fine : ∀ d : Fin 10, visR (UInt8.ofNat (48 + d.1)).toNat = true ∧ UInt8.ofNat (48 + d.1) ≠ 64 ∧ UInt8.ofNat (48 + d.1) ≠ 58 ∧ UInt8.ofNat (48 + d.1) ≠ 91 := by decide
theorem digits_mem (n : Nat) : ∀ c ∈ Lib.decDigits n, visR c.toNat = true ∧ c ≠ 64 ∧ c ≠ 58 ∧ c ≠ 91 := by
  induction n using Nat.strongRecOn with
  | ind n ih =>
    rw [Lib.decDigits]
    split
    · rename_i h
      intro c hc
      rw [List.mem_singleton] at hc
      rw [hc]
      exact digit_fine ⟨n, h⟩
    · rename_i h
      intro c hc
      rcases List.mem_append.1 hc with hc | hc
      · exact ih _ (by omega) c hc
      · rw [List.mem_singleton] at hc
        rw [hc]
        exact digit_fine ⟨n % 10, Nat.mod_lt _ (by omega)⟩
theorem allS_iff (p : Nat → Bool) (l : List UInt8) : allS p l = true ↔ l ≠ [] ∧ ∀ c ∈ l, p c.toNat = true := by
  unfold allS
  rw [Bool.and_eq_true, List.all_eq_true]
  constructor
  · rintro ⟨h1, h2⟩
    refine ⟨?_, h1⟩
    rintro rfl
    simp at h2
  · rintro ⟨h1, h2⟩
    refine ⟨h2, ?_⟩
    cases l with
    | nil => exact absurd rfl h1
    | cons x r => rfl
theorem print4_mem (l : List UInt8) : ∀ c ∈ print4 l, c = 46 ∨ ∃ n, c ∈ Lib.decDigits n := by
  unfold print4
  induction l with
  | nil => intro c hc; cases hc
  | cons n r ih =>
    cases r with
    | nil => intro c hc; exact Or.inr ⟨_, hc⟩
    | cons m r =>
      intro c hc
      simp only [List.map_cons, joinC] at hc ih
      rcases List.mem_append.1 hc with hc | hc
      · exact Or.inr ⟨_, hc⟩
      · rcases List.mem_cons.1 hc with rfl | hc
        · exact Or.inl rfl
        · exact ih c hc
theorem print4_ne (l : List UInt8) (h : l ≠ []) : print4 l ≠ [] := by
  unfold print4
  cases l with
  | nil => exact absurd rfl h
  | cons n r =>
    cases r with
    | nil => exact decDigits_ne _
    | cons m r =>
      simp only [List.map_cons, joinC]
      intro e
      have := congrArg List.length e
      simp at this
/-- A host that is split off, put into its one form, is split off again, with nothing behind. -/
theorem plain_form (h : List UInt8) (hne : h ≠ []) (h58 : (58 : UInt8) ∉ h) (hv : ∀ c ∈ h, visR c.toNat = true) (h64 : (64 : UInt8) ∉ h) (h91 : h[0]? ≠ some 91) : splitH (formH h) = (h, [], 0) := by
  unfold formH
  rw [if_neg h58]
  unfold splitH
  rw [if_neg, if_neg, if_pos h91, untilC_no 58 h h58]
  · rintro (e | e)
    · rw [(allS_iff visR h).2 ⟨hne, hv⟩] at e
      cases e
    · exact h64 e
  · rintro (e | e)
    · exact hne e
    · exact h58 (List.mem_of_getElem? e)
theorem print6_colon (l : List Nat) (h : l.length = 8) : (58 : UInt8) ∈ print6 l := by
  unfold print6
  split
  · match l, h with
    | a :: b :: r, h =>
      show (58 : UInt8) ∈ hxT a ++ 58 :: joinH (b :: r)
      simp
    | [a], h => simp at h
    | [], h => simp at h
  · simp
theorem split_form (s b r : List UInt8) (h : splitH s = (b, r, 0)) : splitH (formH b) = (b, [], 0) := by
  unfold splitH at h
  split at h
  · simp at h
  · rename_i h0
    rw [not_or] at h0
    split at h
    · simp at h
    · rename_i h1
      rw [not_or] at h1
      have hv := (allS_iff visR s).1 (by simpa using h1.1)
      split at h
      · rename_i h91
        injection h with e1 e2
        rcases untilC_cases 58 s with ⟨hn, hu⟩ | ⟨x, y, rfl, hn, hu⟩
        · rw [hu] at e1
          subst e1
          exact plain_form _ h0.1 hn hv.2 h1.2 h91
        · rw [hu] at e1
          subst e1
          refine plain_form _ ?_ hn (fun c hc => hv.2 c (by simp [hc])) (fun hm => h1.2 (by simp [hm])) ?_
          · rintro rfl
            exact h0.2 rfl
          · cases x with
            | nil => simp
            | cons c x => simpa using h91
      · split at h
        · rename_i a ha
          split at h
          · simp at h
          · have hlen := parseA_len _ _ ha
            injection h with e1 e2
            subst e1
            unfold printA
            cases hf : fourB a with
            | true =>
              rw [if_pos rfl]
              have hd : a.drop 12 ≠ [] := fun e => by
                have := congrArg List.length e
                simp at this
                omega
              have hm : ∀ c ∈ print4 (a.drop 12), visR c.toNat = true ∧ c ≠ 64 ∧ c ≠ 58 ∧ c ≠ 91 := by
                intro c hc
                rcases print4_mem _ c hc with rfl | ⟨n, hc⟩
                · decide
                · exact digits_mem n c hc
              exact plain_form _ (print4_ne _ hd) (fun h => (hm _ h).2.2.1 rfl) (fun c hc => (hm c hc).1) (fun h => (hm _ h).2.1 rfl) (fun h => (hm _ (List.mem_of_getElem? h)).2.2.2 rfl)
            | false =>
              rw [if_neg (by decide)]
              have hb := bytesN_pairsN a 8 hlen
              have hcol := print6_colon (pairsN a) hb.2.1
              have hm : ∀ c ∈ print6 (pairsN a), visR c.toNat = true ∧ c ≠ 64 ∧ c ≠ 93 := by
                intro c hc
                rcases print6_mem _ c hc with rfl | ⟨n, hc⟩
                · decide
                · have := hxT_mem n c hc
                  exact ⟨this.2.2.1, this.2.2.2.2.1, this.2.2.2.1⟩
              have h93 : (93 : UInt8) ∉ print6 (pairsN a) := fun h => (hm _ h).2.2 rfl
              have hp := parse_print6 a hlen
              have hpa : printA a = print6 (pairsN a) := by
                unfold printA
                rw [hf, if_neg (by decide)]
              unfold formH
              rw [if_pos hcol]
              obtain ⟨P, hP⟩ : ∃ P, P = print6 (pairsN a) := ⟨_, rfl⟩
              rw [← hP] at hcol hm h93 hp hpa ⊢
              unfold splitH
              rw [if_neg (by simp), if_neg, if_neg (by simp)]
              · rw [List.drop_succ_cons, List.drop_zero, untilC_at 93 P [] h93]
                simp only
                rw [hp]
                simp only
                rw [if_neg (by simp [hcol]), hpa]
                rfl
              · rintro (e | e)
                · rw [(allS_iff visR _).2 ⟨by simp, fun c hc => by
                    rcases List.mem_cons.1 hc with rfl | hc
                    · decide
                    · rcases List.mem_append.1 hc with hc | hc
                      · exact (hm c hc).1
                      · rw [List.mem_singleton] at hc
                        rw [hc]
                        decide⟩] at e
                  cases e
                · rcases List.mem_cons.1 e with e | e
                  · exact absurd e (by decide)
                  · rcases List.mem_append.1 e with e | e
                    · exact (hm _ e).2.1 rfl
                    · rw [List.mem_singleton] at e
                      exact absurd e (by decide)
        · simp at h
/-- More may stand behind. -/
theorem split_more (s b t : List UInt8) (h : splitH s = (b, [], 0)) (ht : ∀ c ∈ t, visR c.toNat = true ∧ c ≠ 64) : splitH (s ++ 58 :: t) = (b, 58 :: t, 0) := by
  unfold splitH at h
  split at h
  · simp at h
  · rename_i h0
    rw [not_or] at h0
    split at h
    · simp at h
    · rename_i h1
      rw [not_or] at h1
      have hv := (allS_iff visR s).1 (by simpa using h1.1)
      have hs0 : (s ++ 58 :: t)[0]? = s[0]? := by
        cases s with
        | nil => exact absurd rfl h0.1
        | cons c r => rfl
      have hd1 : (s ++ 58 :: t).drop 1 = s.drop 1 ++ 58 :: t := by
        cases s with
        | nil => exact absurd rfl h0.1
        | cons c r => rfl
      unfold splitH
      rw [hs0, hd1]
      rw [if_neg (c := _ ∨ s[0]? = some 58), if_neg]
      · split at h
        · rename_i h91
          rw [if_pos h91]
          injection h with e1 e2
          injection e2 with e2 e3
          rcases untilC_cases 58 s with ⟨hn, hu⟩ | ⟨x, y, hxy, hn, hu⟩
          · rw [hu] at e1
            rw [untilC_at 58 s t hn, ← e1]
          · rw [hu] at e2
            cases e2
        · rename_i h91
          rw [if_neg h91]
          split at h
          · rename_i a ha
            split at h
            · simp at h
            · rename_i hq
              rw [not_or] at hq
              injection h with e1 e2
              injection e2 with e2 e3
              rcases untilC_cases 93 (s.drop 1) with ⟨hn, hu⟩ | ⟨x, y, hxy, hn, hu⟩
              · rw [hu] at hq
                exact absurd rfl hq.1
              · rw [hu] at e2 ha hq
                have hy : y = [] := e2
                subst hy
                rw [hxy, List.append_assoc, List.cons_append, List.nil_append, untilC_at 93 x _ hn]
                simp only
                rw [ha]
                simp only
                rw [if_neg (by simpa using hq.2), e1]
                rfl
          · simp at h
      · rintro (e | e)
        · rw [(allS_iff visR _).2 ⟨by simp, fun c hc => by
            rcases List.mem_append.1 hc with hc | hc
            · exact hv.2 c hc
            · rcases List.mem_cons.1 hc with rfl | hc
              · decide
              · exact (ht c hc).1⟩] at e
          cases e
        · rcases List.mem_append.1 e with e | e
          · exact h1.2 e
          · rcases List.mem_cons.1 e with e | e
            · exact absurd e (by decide)
            · exact (ht _ e).2 rfl
      · rintro (e | e)
        · simp at e
        · exact h0.2 e
theorem numS_pos (l : List UInt8) (most : Int) (h : (numS l most).2 = true) : ∃ n : Nat, (numS l most).1 = n ∧ (n : Int) ≤ most := by
  unfold numS at h ⊢
  split at h
  · rename_i n hn
    split at h
    · rename_i hc
      exact ⟨n, by rw [if_pos hc], hc.2.2⟩
    · cases h
  · cases h
/-- The parts of what is parsed. -/
theorem hp_parts (s b : List UInt8) (q : Int) (h : hpS s = (b, q, 0)) : ∃ r, splitH s = (b, r, 0) ∧ ∃ n : Nat, q = n ∧ n ≤ 65535 ∧ (n = 0 → r = []) := by
  unfold hpS at h
  split at h
  · rename_i he
    injection h with e1 e2
    injection e2 with e2 e3
    exact absurd e3 he
  · rename_i he
    have he' : (splitH s).2.2 = 0 := Decidable.of_not_not he
    unfold tailH at h
    have hh : splitH s = ((splitH s).1, (splitH s).2.1, 0) := by rw [← he']
    split at h
    · rename_i hr
      injection h with e1 e2
      injection e2 with e2 e3
      refine ⟨_, by rw [hh, e1], 0, by rw [← e2]; rfl, by omega, fun _ => by rw [← hr]⟩
    · split at h
      · simp at h
      · split at h
        · simp at h
        · rename_i hz
          rw [not_or] at hz
          obtain ⟨n, hn, hle⟩ := numS_pos ((splitH s).2.1.drop 1) 65535 (by simpa using hz.1)
          injection h with e1 e2
          injection e2 with e2 e3
          refine ⟨_, by rw [hh, e1], n, by rw [← e2, hn], by omega, fun h0 => ?_⟩
          rw [h0] at hn
          exact absurd hn hz.2
theorem hp_err (s : List UInt8) (h : (hpS s).2.2 ≠ 0) : (hpS s).1 = [] ∧ (hpS s).2.1 = 0 := by
  unfold hpS at h ⊢
  split
  · exact ⟨rfl, rfl⟩
  · rename_i he
    rw [if_neg he] at h
    unfold tailH at h ⊢
    split
    · rename_i hr
      rw [if_pos hr] at h
      exact absurd rfl h
    · rename_i hr
      rw [if_neg hr] at h
      split
      · exact ⟨rfl, rfl⟩
      · rename_i hc
        rw [if_neg hc] at h
        split
        · exact ⟨rfl, rfl⟩
        · rename_i hz
          rw [if_neg hz] at h
          exact absurd rfl h
/-- A port stands behind a host that is alone. -/
theorem hp_port (s b : List UInt8) (n : Nat) (h : splitH s = (b, [], 0)) : hpS (s ++ 58 :: Lib.decDigits n) = if 1 ≤ n ∧ n ≤ 65535 then (b, (n : Int), 0) else ([], 0, 10) := by
  have hs := split_more s b (Lib.decDigits n) h (fun c hc => ⟨(digits_mem n c hc).1, (digits_mem n c hc).2.1⟩)
  unfold hpS
  rw [hs]
  rw [if_neg (by simp)]
  unfold tailH
  rw [if_neg (by simp), if_neg (by simp)]
  rw [List.drop_succ_cons, List.drop_zero]
  by_cases hn : n ≤ 65535
  · rw [num_text n 65535 (by omega) (by omega)]
    by_cases h1 : 1 ≤ n
    · rw [if_neg (by simp; omega), if_pos ⟨h1, hn⟩]
    · rw [if_pos (by simp; omega), if_neg (by omega)]
  · rw [num_less n 65535 (by omega), if_pos (by simp), if_neg (by omega)]
theorem hp_alone (s b : List UInt8) (h : splitH s = (b, [], 0)) : hpS s = (b, 0, 0) := by
  unfold hpS
  rw [h, if_neg (by simp)]
  rfl
/-- THE STAGE'S THEOREM: what is parsed can be printed, and is parsed the same. -/
theorem hp_back (s b : List UInt8) (q : Int) (h : hpS s = (b, q, 0)) : hpS (lineH b q) = (b, q, 0) ∧ b ≠ [] ∧ 0 ≤ q ∧ q < 65536 := by
  obtain ⟨r, hr, n, rfl, hn, h0⟩ := hp_parts s b q h
  have hf := split_form s b r hr
  refine ⟨?_, ?_, by omega, by omega⟩
  · unfold lineH portT
    by_cases hz : n = 0
    · rw [if_pos (by omega), List.append_nil, hz]
      exact hp_alone _ _ hf
    · rw [if_neg (by omega), Lib.itoa_nonneg, hp_port _ _ n hf, if_pos ⟨by omega, hn⟩]
  · rintro rfl
    simp [formH, splitH] at hf
theorem hp_ports (s a : List UInt8) (n : Nat) (h : hpS s = (a, 0, 0)) : hpS (s ++ 58 :: Lib.decDigits n) = if 1 ≤ n ∧ n ≤ 65535 then (a, (n : Int), 0) else ([], 0, 10) := by
  obtain ⟨r, hr, m, hm, hn, h0⟩ := hp_parts s a 0 h
  rw [h0 (by omega)] at hr
  exact hp_port s a n hr
theorem print_neg (h : List UInt8) (p : Int) (hp : p < 0) : printH3 h p = ([], false) := by
  unfold printH3
  rw [if_neg]
  intro e
  obtain ⟨r, -, n, hn, -⟩ := hp_parts _ _ _ e
  omega
theorem print_ok (h : List UInt8) (p : Int) (t : List UInt8) (e : printH3 h p = (t, true)) : hpS t = (h, p, 0) := by
  unfold printH3 at e
  split at e
  · rename_i hh
    injection e with e1 e2
    rw [← e1, hh]
  · simp at e
theorem print_none (h : List UInt8) (p : Int) (e : (printH3 h p).2 = false) : (printH3 h p).1 = [] := by
  unfold printH3 at e ⊢
  split at e
  · cases e
  · rename_i hh
    rw [if_neg hh]
end Go.Proofs.YtdamgdmipfoalaaDoor.L
