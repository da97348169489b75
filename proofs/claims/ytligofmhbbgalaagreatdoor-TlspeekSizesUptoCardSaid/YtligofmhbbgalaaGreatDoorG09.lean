/- Texts of the proof, joined: Tq Aw Fa Ta. -/
import Derived.Test.YtligofmhbbgalaaGreatDoorG08
import Derived.Shelf.GgClosure.StringsIndexFunc
import Derived.Shelf.GgClosure.GivesRunes
import Derived.Test.YtligofmhbbgalaaGreatDoorShelf
import Derived.Test.YtligofmhbbgalaaGreatDoorG01
import Derived.Shelf.Strings.SlTrimAscii
import Derived.Shelf.Vars
set_option linter.unusedVariables false
set_option linter.unusedSimpArgs false
/- Layer 15, plain: what is known of bytes. No function of the program. -/
namespace Go.Proofs.YtligofmhbbgalaaGreatDoor.L
open Go.RowKit

abbrev Ts := Df × List UInt8
def Ts.new : Ts := (Df.new, [])
/-- All bytes: what is known, and of how many. -/
def runT (s : Ts) (u : Nat) : List UInt8 → Vt × Nat
  | [] => (.open_, u)
  | c :: r => if (stepT s c).2.st = 0 then runT (stepT s c).1 (u + 1) r else ((stepT s c).2, u + 1)
def afterT (s : Ts) : List UInt8 → Ts
  | [] => s
  | c :: r => afterT (stepT s c).1 r
def allT (b : List UInt8) : Vt × Nat := runT .new 0 b

theorem judgeT_cases (b : List UInt8) : ((judgeT b).st = 1 ∧ (judgeT b).rs = 0) ∨ ∃ e, e ≠ 0 ∧ judgeT b = .bad e := by
  unfold judgeT
  split
  · rename_i h
    exact Or.inr ⟨_, h, rfl⟩
  · split
    · rename_i h
      exact Or.inr ⟨_, h, rfl⟩
    · split
      · exact Or.inl ⟨rfl, rfl⟩
      · split
        · rename_i h
          exact Or.inr ⟨_, h, rfl⟩
        · exact Or.inl ⟨rfl, rfl⟩
theorem stepT_cases (s : Ts) (c : UInt8) : (stepT s c).2 = .open_ ∨ ((stepT s c).2.st = 1 ∧ (stepT s c).2.rs = 0) ∨ ∃ e, e ≠ 0 ∧ (stepT s c).2 = .bad e := by
  unfold stepT
  split
  · rename_i h
    exact Or.inr (Or.inr ⟨_, h, rfl⟩)
  · split
    · exact Or.inl rfl
    · split
      · rename_i h
        exact Or.inr (Or.inr ⟨_, h, rfl⟩)
      · split
        · exact Or.inl rfl
        · exact Or.inr (judgeT_cases _)
theorem stepT_open {s : Ts} {c : UInt8} (h : (stepT s c).2.st = 0) : (stepT s c).2 = .open_ := by
  rcases stepT_cases s c with h1 | ⟨h1, -⟩ | ⟨e, -, h1⟩
  · exact h1
  · rw [h1] at h
    cases h
  · rw [h1] at h
    cases h
theorem runT_cons (s : Ts) (u : Nat) (c : UInt8) (r : List UInt8) : runT s u (c :: r) = if (stepT s c).2.st = 0 then runT (stepT s c).1 (u + 1) r else ((stepT s c).2, u + 1) := rfl
theorem afterT_cons (s : Ts) (c : UInt8) (r : List UInt8) : afterT s (c :: r) = afterT (stepT s c).1 r := rfl
theorem runT_append (s : Ts) (u : Nat) (a b : List UInt8) : runT s u (a ++ b) = if (runT s u a).1.st = 0 then runT (afterT s a) (u + a.length) b else runT s u a := by
  induction a generalizing s u with
  | nil => rfl
  | cons c a ih =>
    rw [List.cons_append, runT_cons, runT_cons, afterT_cons]
    by_cases h : (stepT s c).2.st = 0
    · rw [if_pos h, if_pos h, ih, List.length_cons, show u + 1 + a.length = u + (a.length + 1) by omega]
    · rw [if_neg h, if_neg h, if_neg h]
theorem runT_open (s : Ts) (u : Nat) (a : List UInt8) (h : (runT s u a).1.st = 0) : runT s u a = (.open_, u + a.length) := by
  induction a generalizing s u with
  | nil => rfl
  | cons c a ih =>
    rw [runT_cons] at h ⊢
    by_cases h1 : (stepT s c).2.st = 0
    · rw [if_pos h1] at h ⊢
      rw [ih _ _ h, List.length_cons, show u + 1 + a.length = u + (a.length + 1) by omega]
    · rw [if_neg h1] at h
      exact absurd h h1
theorem runT_known (s : Ts) (u : Nat) (a : List UInt8) (h : (runT s u a).1.st ≠ 0) : u < (runT s u a).2 ∧ (runT s u a).2 ≤ u + a.length ∧ runT s u (a.take ((runT s u a).2 - u - 1)) = (.open_, (runT s u a).2 - 1) := by
  induction a generalizing s u with
  | nil => exact absurd rfl h
  | cons c a ih =>
    rw [runT_cons] at h
    by_cases h1 : (stepT s c).2.st = 0
    · rw [if_pos h1] at h
      have e : runT s u (c :: a) = runT (stepT s c).1 (u + 1) a := by rw [runT, if_pos h1]
      obtain ⟨k1, k2, k3⟩ := ih _ _ h
      rw [e, List.length_cons]
      refine ⟨by omega, by omega, ?_⟩
      obtain ⟨n, hn⟩ : ∃ n, (runT (stepT s c).1 (u + 1) a).2 - u - 1 = n + 1 := ⟨(runT (stepT s c).1 (u + 1) a).2 - u - 2, by omega⟩
      rw [hn, List.take_succ_cons, runT, if_pos h1, ← k3]
      congr 2
      omega
    · rw [if_neg h1] at h
      have e : runT s u (c :: a) = ((stepT s c).2, u + 1) := by rw [runT, if_neg h1]
      rw [e, List.length_cons]
      refine ⟨by omega, by omega, ?_⟩
      rw [show u + 1 - u - 1 = 0 by omega]
      rfl
theorem runT_state (s : Ts) (u : Nat) (a : List UInt8) : (runT s u a).1 = .open_ ∨ ((runT s u a).1.st = 1 ∧ (runT s u a).1.rs = 0) ∨ ∃ e, e ≠ 0 ∧ (runT s u a).1 = .bad e := by
  induction a generalizing s u with
  | nil => exact Or.inl rfl
  | cons c a ih =>
    rw [runT]
    split
    · exact ih _ _
    · exact stepT_cases s c
theorem allT_more_open (a b : List UInt8) (h : (allT a).1.st = 0) : (allT (a ++ b)).1.st = 0 ∨ a.length < (allT (a ++ b)).2 := by
  have h1 : allT (a ++ b) = runT (afterT .new a) (0 + a.length) b := by
    unfold allT at h ⊢
    rw [runT_append, if_pos h]
  rw [h1]
  by_cases h2 : (runT (afterT .new a) (0 + a.length) b).1.st = 0
  · exact Or.inl h2
  · have := (runT_known _ _ _ h2).1
    exact Or.inr (by omega)
theorem allT_more_known (a b : List UInt8) (h : (allT a).1.st ≠ 0) : allT (a ++ b) = allT a := by
  unfold allT at h ⊢
  rw [runT_append, if_neg h]
theorem allT_open (a : List UInt8) (h : (allT a).1.st = 0) : allT a = (.open_, a.length) := by
  have := runT_open .new 0 a h
  rw [Nat.zero_add] at this
  exact this
theorem allT_known (a : List UInt8) (h : (allT a).1.st ≠ 0) : 0 < (allT a).2 ∧ (allT a).2 ≤ a.length ∧ allT (a.take ((allT a).2 - 1)) = (.open_, (allT a).2 - 1) := by
  obtain ⟨h1, h2, h3⟩ := runT_known .new 0 a h
  refine ⟨h1, by rw [Nat.zero_add] at h2; exact h2, h3⟩

/-! ### one by one -/
def takeT (t : Ts × Vt × Nat) (c : UInt8) : Ts × Vt × Nat := if t.2.1.st = 0 then ((stepT t.1 c).1, (stepT t.1 c).2, t.2.2 + 1) else t
theorem takesT_known (t : Ts × Vt × Nat) (b : List UInt8) (h : t.2.1.st ≠ 0) : b.foldl takeT t = t := by
  induction b with
  | nil => rfl
  | cons c b ih =>
    rw [List.foldl_cons]
    have e : takeT t c = t := by
      unfold takeT
      rw [if_neg h]
    rw [e, ih]
theorem takesT_run (s : Ts) (u : Nat) (b : List UInt8) : (b.foldl takeT (s, .open_, u)).2 = runT s u b := by
  induction b generalizing s u with
  | nil => rfl
  | cons c b ih =>
    rw [List.foldl_cons, runT_cons]
    have e : takeT (s, .open_, u) c = ((stepT s c).1, (stepT s c).2, u + 1) := rfl
    rw [e]
    by_cases h : (stepT s c).2.st = 0
    · rw [if_pos h, stepT_open h, ih]
    · rw [if_neg h, takesT_known _ _ h]
def foldT (b : List UInt8) : Ts × Vt × Nat := b.foldl takeT (.new, .open_, 0)
theorem foldT_all (b : List UInt8) : (foldT b).2 = allT b := takesT_run .new 0 b
theorem foldT_next (b : List UInt8) (k : Nat) (h : k < b.length) : foldT (b.take (k + 1)) = takeT (foldT (b.take k)) b[k] := by
  unfold foldT
  rw [List.take_succ_eq_append_getElem h, List.foldl_append]
  rfl

/-! ### what holds while it is open -/
/-- The size of a message as the document reckons it: missing bytes are zeros. -/
def fsz (b : List UInt8) : Nat := msz b * 256 ^ (4 - b.length)
structure TsOk (t : Ts) (u : Nat) : Prop where
  er : t.1.err = 0
  nx : t.1.nx ≤ 5
  l4 : t.1.nx = 4 → ∃ k, t.1.left = 256 * k ∧ k ≤ 64
  l5 : t.1.nx = 5 → 1 ≤ t.1.left ∧ t.1.left ≤ 16384
  hd : t.2 = [] ∨ t.2[0]? = some 1
  sz : fsz t.2 ≤ 16384
  op : 4 ≤ t.2.length → t.2.length < 4 + msz t.2
  le : t.2.length ≤ u
theorem TsOk.new : TsOk .new 0 := ⟨rfl, Nat.zero_le _, fun h => (by cases h), fun h => (by cases h), Or.inl rfl, by decide, fun h => (by cases h), Nat.le_refl _⟩
theorem msz_one (c : UInt8) : msz [c] = 0 := rfl
theorem msz_snoc (b : List UInt8) (c : UInt8) (h1 : b ≠ []) (h4 : b.length < 4) : msz (b ++ [c]) = msz b * 256 + c.toNat := by
  unfold msz
  have e1 : ((b ++ [c]).take 4) = b ++ [c] := List.take_of_length_le (by simp; omega)
  have e2 : b.take 4 = b := List.take_of_length_le (by omega)
  rw [e1, e2]
  cases b with
  | nil => exact absurd rfl h1
  | cons x r =>
    rw [List.cons_append, List.drop_succ_cons, List.drop_succ_cons, List.drop_zero, List.drop_zero, beNum_snoc]
theorem msz_more (b : List UInt8) (c : UInt8) (h4 : 4 ≤ b.length) : msz (b ++ [c]) = msz b := by
  unfold msz
  rw [List.take_append_of_le_length h4]
theorem fsz_more (b : List UInt8) (c : UInt8) (h4 : 4 ≤ b.length) : fsz (b ++ [c]) = msz b := by
  unfold fsz
  rw [msz_more b c h4, show 4 - (b ++ [c]).length = 0 by simp; omega]
  simp
theorem fsz_four (b : List UInt8) (h4 : 4 ≤ b.length) : fsz b = msz b := by
  unfold fsz
  rw [show 4 - b.length = 0 by omega]
  simp
theorem headD_ok {d : Df} {c : UInt8} (h5 : d.nx < 5) (hl : d.nx = 4 → ∃ k, d.left = 256 * k ∧ k ≤ 64) (he : (headD d c).err = 0) :
    (headD d c).nx = d.nx + 1 ∧ ((headD d c).nx = 4 → ∃ k, (headD d c).left = 256 * k ∧ k ≤ 64) ∧ ((headD d c).nx = 5 → 1 ≤ (headD d c).left ∧ (headD d c).left ≤ 16384) := by
  unfold headD at he ⊢
  by_cases h0 : d.nx = 0
  · rw [if_pos h0] at he ⊢
    split at he
    · rename_i hc
      rw [if_pos hc, h0]
      exact ⟨rfl, fun h => (by cases h), fun h => (by cases h)⟩
    · cases he
  · rw [if_neg h0] at he ⊢
    by_cases h1 : d.nx = 1
    · rw [if_pos h1] at he ⊢
      split at he
      · rename_i hc
        rw [if_pos hc, h1]
        exact ⟨rfl, fun h => (by cases h), fun h => (by cases h)⟩
      · cases he
    · rw [if_neg h1] at he ⊢
      by_cases h2 : d.nx = 2
      · rw [if_pos h2] at he ⊢
        split at he
        · rename_i hc
          rw [if_pos hc, h2]
          exact ⟨rfl, fun h => (by cases h), fun h => (by cases h)⟩
        · cases he
      · rw [if_neg h2] at he ⊢
        by_cases h3 : d.nx = 3
        · rw [if_pos h3] at he ⊢
          split at he
          · rename_i hc
            rw [if_pos hc, h3]
            exact ⟨rfl, fun _ => ⟨c.toNat, Nat.mul_comm _ _, by omega⟩, fun h => (by cases h)⟩
          · cases he
        · rw [if_neg h3] at he ⊢
          have h4 : d.nx = 4 := by omega
          split at he
          · rename_i hc
            rw [if_pos hc, h4]
            exact ⟨rfl, fun h => (by cases h), fun _ => ⟨hc.1, hc.2⟩⟩
          · cases he
theorem takeM_ok {b : List UInt8} {c : UInt8} (hd : b = [] ∨ b[0]? = some 1) (hz : fsz b ≤ 16384) (hop : 4 ≤ b.length → b.length < 4 + msz b) (he : (takeM b c).2.2 = 0) (hw : (takeM b c).2.1 = false) :
    (takeM b c).1 = b ++ [c] ∧ (b ++ [c])[0]? = some 1 ∧ fsz (b ++ [c]) ≤ 16384 ∧ (4 ≤ (b ++ [c]).length → (b ++ [c]).length < 4 + msz (b ++ [c])) := by
  unfold takeM at he hw ⊢
  by_cases h0 : b = []
  · subst h0
    rw [if_pos rfl] at he hw ⊢
    have hc : c = 1 := by
      by_cases h : c = 1
      · exact h
      · rw [if_neg h] at he
        cases he
    subst hc
    exact ⟨rfl, rfl, by decide, fun h => absurd h (by decide)⟩
  · rw [if_neg h0] at he hw ⊢
    by_cases h1 : b.length < 4 ∧ 16384 < msz (b ++ [c]) * 256 ^ (3 - b.length)
    · rw [if_pos h1] at he
      cases he
    · rw [if_neg h1] at he hw ⊢
      simp only [decide_eq_false_iff_not] at hw
      have hz' : fsz (b ++ [c]) ≤ 16384 := by
        by_cases h4 : b.length < 4
        · unfold fsz
          rw [show 4 - (b ++ [c]).length = 3 - b.length by rw [List.length_append]; simp only [List.length_cons, List.length_nil]; omega]
          omega
        · rw [fsz_more b c (by omega), ← fsz_four b (by omega)]
          exact hz
      refine ⟨rfl, ?_, hz', ?_⟩
      · rcases hd with h | h
        · exact absurd h h0
        · rw [List.getElem?_append_left (by
            cases b with
            | nil => exact absurd rfl h0
            | cons _ _ => simp)]
          exact h
      · intro h4
        by_cases h5 : 4 ≤ b.length
        · have := hop h5
          have e := msz_more b c h5
          simp only [List.length_append, List.length_cons, List.length_nil] at h4 hw ⊢
          omega
        · simp only [List.length_append, List.length_cons, List.length_nil] at h4 hw ⊢
          omega
theorem takeD_ok {d : Df} {c : UInt8} {u : Nat} (h0 : d.err = 0) (hn : d.nx ≤ 5) (h4 : d.nx = 4 → ∃ k, d.left = 256 * k ∧ k ≤ 64) (h5 : d.nx = 5 → 1 ≤ d.left ∧ d.left ≤ 16384) (he : (takeD d c).2.2 = 0) :
    (takeD d c).1.err = 0 ∧ (takeD d c).1.nx ≤ 5 ∧ ((takeD d c).1.nx = 4 → ∃ k, (takeD d c).1.left = 256 * k ∧ k ≤ 64) ∧ ((takeD d c).1.nx = 5 → 1 ≤ (takeD d c).1.left ∧ (takeD d c).1.left ≤ 16384) := by
  unfold takeD at he ⊢
  rw [if_neg (by rw [h0]; simp)] at he ⊢
  by_cases hlt : d.nx < 5
  · rw [if_pos hlt] at he ⊢
    obtain ⟨a, b, c'⟩ := headD_ok hlt h4 he
    exact ⟨he, by rw [a]; omega, b, c'⟩
  · rw [if_neg hlt] at he ⊢
    obtain ⟨g1, g2⟩ := h5 (by omega)
    refine ⟨rfl, ?_, ?_, ?_⟩
    · show (if d.left = 1 then 0 else 5) ≤ 5
      split <;> omega
    · intro h
      exfalso
      revert h
      show (if d.left = 1 then 0 else 5) = 4 → False
      split <;> omega
    · intro h
      have h : (if d.left = 1 then 0 else 5) = 5 := h
      show 1 ≤ d.left - 1 ∧ d.left - 1 ≤ 16384
      split at h <;> omega
theorem TsOk.step {t : Ts} {u : Nat} (h : TsOk t u) (c : UInt8) (ho : (stepT t c).2.st = 0) : TsOk (stepT t c).1 (u + 1) := by
  obtain ⟨d, b⟩ := t
  unfold stepT at ho ⊢
  by_cases h1 : (takeD d c).2.2 ≠ 0
  · rw [if_pos h1] at ho
    exact absurd ho (show ¬ (2 : Int) = 0 by decide)
  · rw [if_neg h1] at ho ⊢
    obtain ⟨k1, k2, k3, k4⟩ := takeD_ok (u := u) h.er h.nx h.l4 h.l5 (Classical.not_not.1 h1)
    by_cases h2 : (takeD d c).2.1 = false
    · rw [if_pos h2]
      exact ⟨k1, k2, k3, k4, h.hd, h.sz, h.op, Nat.le_succ_of_le h.le⟩
    · rw [if_neg h2] at ho ⊢
      by_cases h3 : (takeM b c).2.2 ≠ 0
      · rw [if_pos h3] at ho
        exact absurd ho (show ¬ (2 : Int) = 0 by decide)
      · rw [if_neg h3] at ho ⊢
        by_cases h4 : (takeM b c).2.1 = false
        · rw [if_pos h4]
          obtain ⟨g1, g2, g3, g4⟩ := takeM_ok h.hd h.sz h.op (Classical.not_not.1 h3) h4
          have hl := h.le
          simp only at hl g1
          exact ⟨k1, k2, k3, k4, Or.inr (by rw [g1]; exact g2), by rw [g1]; exact g3, by rw [g1]; exact g4, by rw [g1]; simp; omega⟩
        · rw [if_neg h4] at ho
          rcases judgeT_cases ((takeM b c).1.drop 4) with ⟨g, -⟩ | ⟨e, -, g⟩
          · rw [g] at ho
            cases ho
          · rw [g] at ho
            exact absurd ho (show ¬ (2 : Int) = 0 by decide)
end Go.Proofs.YtligofmhbbgalaaGreatDoor.L

/- Layer 2: single bytes, single runes; all. -/
namespace Go.Proofs.YtligofmhbbgalaaGreatDoor.L
open Go.RowKit Go.Proofs

theorem ret_i8 {a b : Int} (h : a = b) : Ending.returned (.int .u8 a) = .returned (.int .u8 b) := by rw [h]
theorem ret_b {a b : Bool} (h : a = b) : Ending.returned (.bool a) = .returned (.bool b) := by rw [h]

set_option maxHeartbeats 400000 in
theorem small_any (c : UInt8) (w : World) :
    Calls Tryz.prog 76 #[.int .u8 (c.toNat : Int)] w fun e w' => e = .returned (.int .u8 ((lowB c).toNat : Int)) ∧ w' = w := by
  have hc := c.toNat_lt
  obtain ⟨n, hn⟩ : ∃ n : Int, n = ((lowB c).toNat : Int) := ⟨_, rfl⟩
  rw [← hn]
  rw [lowB_nat] at hn
  by_cases h1 : 65 ≤ c.toNat
  · by_cases h2 : c.toNat ≤ 90
    · rw [if_pos ⟨h1, h2⟩] at hn
      have HN := Lib.hid hn
      clear hn
      go_enter Tryz.func76, Tryz.ntmps76
      go_wp2
      go_ret
      refine ⟨ret_i8 ?_, rfl⟩
      rw [HN.out]
      omega
    · rw [if_neg (by omega)] at hn
      have HN := Lib.hid hn
      clear hn
      go_enter Tryz.func76, Tryz.ntmps76
      go_wp2
      go_ret
      exact ⟨ret_i8 HN.out.symm, rfl⟩
  · rw [if_neg (by omega)] at hn
    have HN := Lib.hid hn
    clear hn
    go_enter Tryz.func76, Tryz.ntmps76
    go_wp2
    go_ret
    exact ⟨ret_i8 HN.out.symm, rfl⟩

theorem digit_any (x : Nat) (w : World) : Calls Tryz.prog 145 #[.int .i32 (x : Int)] w fun e w' => e = .returned (.bool (digR x)) ∧ w' = w := by
  obtain ⟨b, hb⟩ : ∃ b, b = digR x := ⟨_, rfl⟩
  rw [← hb]
  have HB := Lib.hid hb
  clear hb
  by_cases h1 : 48 ≤ x
  · by_cases h2 : x ≤ 57
    · go_enter Tryz.func145, Tryz.ntmps145
      go_wp2
      go_ret
      exact ⟨ret_b (by rw [HB.out]; simp [digR, h1, h2]; omega), rfl⟩
    · go_enter Tryz.func145, Tryz.ntmps145
      go_wp2
      go_ret
      exact ⟨ret_b (by rw [HB.out]; simp [digR, h1, h2]; omega), rfl⟩
  · go_enter Tryz.func145, Tryz.ntmps145
    go_wp2
    go_ret
    exact ⟨ret_b (by rw [HB.out]; simp [digR, h1]), rfl⟩

/-- A function value that tells of runes. -/
abbrev Tells (g : Nat) (p : Nat → Bool) : Prop := ∀ (W : World) (x : Nat), x ≤ 1114111 → Calls Tryz.prog g #[.int .i32 (x : Int)] W fun e w' => e = .returned (.bool (p x)) ∧ w' = W

theorem ba_ne_empty (s : ByteArray) (h : s.size ≠ 0) : s.toList ≠ ([] : List UInt8) := by
  intro e
  rw [ByteArray.toList_eq] at e
  exact h (by rw [← size_list, e]; rfl)
theorem Stp.iterAt {S : Nat → Prop} {w w1 : World} (h : Stp S w w1) {k : Nat} (hk : w.heap.size ≤ k) (s : ByteArray) (pos : Nat) : Stp S w (w1.iterAt k s pos) :=
  ⟨h.os, h.tape, h.output, by rw [Lib.iterAt_size]; exact h.size, fun j hj hS => (Lib.iterAt_other w1 k j s pos (by omega)).trans (h.block j hj hS)⟩
theorem allS_false {p : Nat → Bool} {s : ByteArray} {k : Nat} (hk : k < s.size) (h : p (s[k]).toNat = false) : allS p s.data.toList = false := by
  unfold allS
  rw [all_drop_false (get_list s k hk) h, Bool.false_and]
theorem allS_true {p : Nat → Bool} {s : ByteArray} (h : ∀ k (hk : k < s.size), p (s[k]).toNat = true) (h0 : s.size ≠ 0) : allS p s.data.toList = true := by
  unfold allS
  rw [Bool.and_eq_true, List.all_eq_true]
  refine ⟨fun c hc => ?_, ?_⟩
  · obtain ⟨k, hk, rfl⟩ := List.mem_iff_getElem.1 hc
    rw [size_list] at hk
    exact h k hk
  · cases hl : s.data.toList with
    | nil => exact absurd (by rw [← size_list, hl]; rfl) h0
    | cons => rfl
theorem allS_empty {p : Nat → Bool} {s : ByteArray} (h0 : s.size = 0) : allS p s.data.toList = false := by
  have : s.data.toList = [] := List.eq_nil_of_length_eq_zero (by rw [size_list]; exact h0)
  rw [this]
  rfl

set_option maxRecDepth 100000 in
set_option maxHeartbeats 4000000 in
theorem all_any (g : Nat) (p : Nat → Bool) (s : ByteArray) (w : World) (eg : ∀ args w, (callFunc g args).run Tryz.prog w = .ok (.enter g args) w) (hp : Tells g p) (hh : ∀ r, 128 ≤ r → p r = false) (hs : s.size ≤ 9223372036854775807) :
    Calls Tryz.prog 101 #[.string s, .func (.func g) #[] #[]] w fun e w' => e = .returned (.bool (allS p s.data.toList)) ∧ Stp (fun _ => False) w w' := by
  obtain ⟨b, hb⟩ : ∃ b, b = allS p s.data.toList := ⟨_, rfl⟩
  rw [← hb]
  have HB := Lib.hid hb
  clear hb
  go_enter Tryz.func101, Tryz.ntmps101
  go_wp2
  go_loopg [] s.size (fun gf wx => ∃ pos : Nat, wx.heap[w.heap.size]? = some (.stringIter s pos) ∧ Stp (fun _ => False) w wx ∧ (∀ k (hk : k < s.size), k < pos → p (s[k]).toNat = true) ∧ s.size = pos + gf)
  case atStart => exact ⟨0, World.iter_heap w s 0, (Stp.refl _ w).alloc _, fun k hk h => absurd h (by omega), by omega⟩
  case round =>
    obtain ⟨pos, hit, hst, hall, hfu⟩ := hrel
    have HALL := Lib.hid hall
    have HST := Lib.hid hst
    clear hall hst
    by_cases hps : pos < s.size
    · obtain ⟨g', rfl⟩ : ∃ g', gk = g' + 1 := ⟨gk - 1, by omega⟩
      have hnx : ∀ ty, (Instr.next (.pointer (some ⟨w.heap.size, 0, none⟩)) true ty).run Tryz.prog wr = _ := fun ty => Lib.run_next_any_at wr w.heap.size s pos ty hit hps
      by_cases hlow : (s[pos]).toNat < 128
      · rw [decode_low s pos hps hlow] at hnx
        have hit2 := Lib.iterAt_heap wr w.heap.size s pos (pos + 1) hit
        have HST2 := Lib.hid (HST.out.iterAt (Nat.le_refl _) s (pos + 1))
        obtain ⟨W, hWd⟩ : ∃ W, wr.iterAt w.heap.size s (pos + 1) = W := ⟨_, rfl⟩
        rw [hWd] at hnx hit2 HST2
        obtain ⟨c, hc⟩ : ∃ c, c = s[pos] := ⟨_, rfl⟩
        have cS := hp W (s[pos]).toNat (by omega)
        rw [← hc] at cS hnx hlow
        have HC := Lib.hid hc
        clear hc hp
        cases hsp : p c.toNat
        · rw [hsp] at cS
          have HS := Lib.hid hsp
          clear hsp
          go_wp2_with (go_at_fn g; refine cS.mono ?_; rintro e W' ⟨rfl, rfl⟩)
          go_ret
          exact ⟨ret_b (by rw [HB.out]; exact (allS_false hps (by rw [← HC.out]; exact HS.out)).symm), HST2.out⟩
        · rw [hsp] at cS
          have HS := Lib.hid hsp
          clear hsp
          go_wp2_with (go_at_fn g; refine cS.mono ?_; rintro e W' ⟨rfl, rfl⟩)
          go_roundg g'
          case measure => omega
          case rel =>
            refine ⟨pos + 1, hit2, HST2.out, fun k hk hlt => ?_, by omega⟩
            by_cases e : k = pos
            · subst e
              rw [← HC.out]
              exact HS.out
            · exact HALL.out k hk (by omega)
      · have hit2 := Lib.iterAt_heap wr w.heap.size s pos (pos + (Utf8.decode s pos).2) hit
        have HST2 := Lib.hid (HST.out.iterAt (Nat.le_refl _) s (pos + (Utf8.decode s pos).2))
        have hR := decode_high s pos hps hlow
        have hR2 := Lib.rune_le s pos
        obtain ⟨R, hRd⟩ : ∃ R, (Utf8.decode s pos).1 = R := ⟨_, rfl⟩
        obtain ⟨K, hKd⟩ : ∃ K, (Utf8.decode s pos).2 = K := ⟨_, rfl⟩
        rw [hRd] at hR hR2
        rw [hKd] at hit2 HST2
        rw [hRd, hKd] at hnx
        obtain ⟨W, hWd⟩ : ∃ W, wr.iterAt w.heap.size s (pos + K) = W := ⟨_, rfl⟩
        rw [hWd] at hnx hit2 HST2
        have cS := hp W R hR2
        rw [hh R hR] at cS
        have HF := Lib.hid (allS_false hps (hh (s[pos]).toNat (by omega)))
        clear hp hh hRd hKd hWd
        go_wp2_with (go_at_fn g; refine cS.mono ?_; rintro e W' ⟨rfl, rfl⟩)
        go_ret
        exact ⟨ret_b (by rw [HB.out]; exact HF.out.symm), HST2.out⟩
    · have hnx : ∀ ty, (Instr.next (.pointer (some ⟨w.heap.size, 0, none⟩)) true ty).run Tryz.prog wr = _ := fun ty => Lib.run_next_end_at wr w.heap.size s pos ty hit hps
      by_cases h0 : s.size = 0
      · have e1 : s.toList = ([] : List UInt8) := by
          rw [ByteArray.toList_eq]
          exact List.eq_nil_of_length_eq_zero (by rw [size_list]; exact h0)
        have HF := Lib.hid (allS_empty (p := p) h0)
        clear h0 hp hh
        go_wp2
        go_ret
        exact ⟨ret_b (by rw [HB.out, HF.out] <;> simp [e1]), HST.out⟩
      · have e1 := ba_ne_empty s h0
        have HF := Lib.hid (allS_true (p := p) (fun k hk => HALL.out k hk (by omega)) h0)
        clear h0 hp hh
        go_wp2
        go_ret
        exact ⟨ret_b (by rw [HB.out, HF.out] <;> simp [e1]), HST.out⟩
end Go.Proofs.YtligofmhbbgalaaGreatDoor.L

/-! Layer 2: Token, Lower, Trim. -/
namespace Go.Proofs.YtligofmhbbgalaaGreatDoor.L
open Go.RowKit Go.Proofs

theorem ret_s {a b : ByteArray} (h : a = b) : Ending.returned (.string a) = .returned (.string b) := by rw [h]

/-- A block of bytes, whatever its marks behind them. -/
def BlkB (W : World) (g n : Nat) (l : List UInt8) : Prop := l.length = n ∧ ∃ (cs : Array Value) (fr : Nat × Nat), W.heap[g]? = some (.cells cs 5 fr) ∧ n ≤ cs.size ∧ n ≤ fr.1 ∧ ∀ (j : Nat) (c : UInt8), l[j]? = some c → cs[j]? = some (enc8 c)
theorem BlkB.cell {W : World} {g n : Nat} {l : List UInt8} (h : BlkB W g n l) {j : Nat} {c : UInt8} (hj : l[j]? = some c) : W.cell? ⟨g, j, none⟩ = some (enc8 c) := by
  obtain ⟨_, cs, fr, hb, hn, _, hc⟩ := h
  simp [World.cell?, hb]
  exact hc j c hj
theorem BlkB.free {W : World} {g n : Nat} {l : List UInt8} (h : BlkB W g n l) {j : Nat} (hj : j < n) : W.frozen? ⟨g, j, none⟩ = false := by
  obtain ⟨_, cs, fr, hb, hn, hf, hc⟩ := h
  simp only [World.frozen?, hb]
  simp
  omega
theorem BlkB.set {W : World} {g n : Nat} {l : List UInt8} (h : BlkB W g n l) (j : Nat) (c : UInt8) : BlkB (W.setCell ⟨g, j, none⟩ (enc8 c)) g n (l.set j c) := by
  obtain ⟨hl, cs, fr, hb, hn, hf, hc⟩ := h
  refine ⟨by rw [List.length_set]; exact hl, _, fr, blk_set hb j (enc8 c), by simpa using hn, hf, fun i d hi => ?_⟩
  rw [Array.getElem?_setIfInBounds]
  by_cases e : j = i
  · subst e
    obtain ⟨hlt, he⟩ := List.getElem?_eq_some_iff.1 hi
    rw [List.getElem_set_self] at he
    rw [List.length_set] at hlt
    rw [if_pos rfl, if_pos (by omega), he]
  · rw [if_neg e]
    rw [List.getElem?_set_ne e] at hi
    exact hc i d hi
theorem BlkB.stp {W W' : World} {g n : Nat} {l : List UInt8} {S : Nat → Prop} (h : BlkB W g n l) (hs : Stp S W W') (hS : ¬ S g) : BlkB W' g n l := by
  obtain ⟨hl, cs, fr, hb, rest⟩ := h
  exact ⟨hl, cs, fr, hs.blk hb hS, rest⟩
theorem BlkB.rd {W : World} {g n c : Nat} {l : List UInt8} (h : BlkB W g n l) (hc : n ≤ c) (hm : c ≤ maxLen) (M : Nat → Prop) (hM : ¬ M g) : Rd u8 M W (.slice (some ⟨g, 0, none⟩) n c) l := by
  obtain rfl := h.1
  refine plain_mk hc hm fun hp => ⟨_, rfl, hM, fun j hj => ?_⟩
  have hadd : (⟨g, 0, none⟩ : Addr).add j = ⟨g, j, none⟩ := by unfold Addr.add; split <;> simp_all
  rw [hadd]
  exact h.cell (List.getElem?_eq_getElem hj)
/-- []byte(s): its block. -/
theorem wp_bytesBlk {P : Program} {ops : Array Oper} {rest : List Oper} {o : Oper} {a : Act} {Q : Exit → Act → World → Prop} {W : World} (hg : o.guard = none) (src dst : TypeId) (x : Operand) (hop : o.op = .convert src dst x) {u : TypeDesc}
    (hs : P.underlying src = some u) (hd : P.underlying dst = some (.slice 5)) (he : P.underlying 5 = some (.int .u8)) {s : ByteArray} (hx : a.eval x = .string s) (hl : s.size ≤ 9223372036854775807)
    (h : ∀ W' c, BlkB W' W.heap.size s.size s.data.toList → s.size ≤ c → c ≤ maxLen → Stp (fun _ => False) W W' → W'.heap.size = W.heap.size + 1 → wpList P ops Q rest (a.put o.dst (.slice (some ⟨W.heap.size, 0, none⟩) s.size c)) W') :
    wpList P ops Q (o :: rest) a W := by
  refine wpList_plain hg fun K hK => ?_
  have hrun := Lib.run_convert_string_bytes (P := P) W src dst 5 s hs hd he
  unfold Oper.wp
  simp [execOp, hop, hx, hrun, Result.andThen]
  refine hK _ _ (h _ _ ⟨by simp, _, _, Lib.bytesWorld_at_new W 5 s, ?_, ?_, fun j c hj => ?_⟩ (grownCap_ge _ _ _ _) (grownCap_le_maxLen _ _ _ _ (by simpa [maxLen] using hl)) ⟨rfl, rfl, rfl, by rw [Lib.bytesWorld_size]; omega, fun k hk _ => Lib.bytesWorld_at_old W 5 s k hk⟩ (Lib.bytesWorld_size W 5 s))
  · simp [Lib.bytesCells]
  · simp [Lib.bytesCells]
  · obtain ⟨hlt, rfl⟩ := List.getElem?_eq_some_iff.1 hj
    have : j < s.data.size := by simpa using hlt
    simp [Lib.bytesCells, Array.getElem?_append, this, enc8]
    rw [if_pos (show j < s.size from this), Array.getElem?_eq_getElem this]
    rfl

set_option maxRecDepth 100000 in
set_option maxHeartbeats 4000000 in
theorem lower_any (s : ByteArray) (w : World) (hs : s.size ≤ 9223372036854775807) :
    Calls Tryz.prog 40 #[.string s] w fun e w' => e = .returned (.string (strB (lowS s.data.toList))) ∧ Stp (fun _ => False) w w' := by
  obtain ⟨R, hR⟩ : ∃ R : ByteArray, R = strB (lowS s.data.toList) := ⟨_, rfl⟩
  rw [← hR]
  have HR := Lib.hid hR
  clear hR
  go_enter Tryz.func40, Tryz.ntmps40
  go_wp2_with (with_reducible refine stop (N := 7) rfl ?_)
  refine Stop.go ?_
  refine wp_bytesBlk rfl _ _ _ rfl Tryz.underlying9 Tryz.underlying22 Tryz.underlying5 rfl hs ?_
  intro w1 c hb hc hm hs1 hz
  have HB := Lib.hid hb
  have HS := Lib.hid hs1
  have HZ := Lib.hid hz
  clear hb hs1 hz
  go_wp2
  go_loopg [10] s.size (fun gf i wr => ∃ k : Nat, k + gf = s.size ∧ i = .int .i64 k ∧ BlkB wr w.heap.size s.size (lowS (s.data.toList.take k) ++ s.data.toList.drop k) ∧ Stp (fun k => k = w.heap.size) w1 wr)
  case atStart => exact ⟨0, by omega, rfl, by simpa [lowS] using HB.out, Stp.refl _ _⟩
  case round =>
    obtain ⟨k, hk, rfl, hb, hst⟩ := hrel
    have HB2 := Lib.hid hb
    have HST := Lib.hid hst
    clear hb hst
    by_cases hlt : k < s.size
    · obtain ⟨g', rfl⟩ : ∃ g', gk = g' + 1 := ⟨gk - 1, by omega⟩
      obtain ⟨d, hd⟩ : ∃ d, d = s[k] := ⟨_, rfl⟩
      have hlen : (lowS (s.data.toList.take k)).length = k := by rw [lowS_len, List.length_take, size_list]; omega
      have hat : (lowS (s.data.toList.take k) ++ s.data.toList.drop k)[k]? = some d := by
        rw [List.getElem?_append_right (by omega), hlen, List.getElem?_drop, hd]
        simpa using get_list s k hlt
      have hcell : wr.cell? ⟨w.heap.size, k, none⟩ = some (.int .u8 (d.toNat : Int)) := HB2.out.cell hat
      have hfree : wr.frozen? ⟨w.heap.size, k, none⟩ = false := HB2.out.free hlt
      have HD := Lib.hid hd
      have HL := Lib.hid hlen
      clear hd hlen hat
      go_wp2_with (go_at_call 76; refine (small_any _ _).mono ?_; rintro e w' ⟨rfl, rfl⟩)
      go_roundg g'
      case measure => omega
      case rel =>
        refine ⟨k + 1, by omega, by go_num, ?_, HST.out.setCell (fun _ => rfl) _⟩
        have := HB2.out.set k (lowB d)
        have e : (lowS (s.data.toList.take k) ++ s.data.toList.drop k).set k (lowB d) = lowS (s.data.toList.take (k + 1)) ++ s.data.toList.drop (k + 1) := by
          have hk2 : k < s.data.toList.length := by rw [size_list]; exact hlt
          rw [List.set_append_right _ _ (by rw [HL.out]; exact Nat.le_refl _), HL.out, Nat.sub_self, List.drop_eq_getElem_cons hk2, List.set_cons_zero, List.take_succ_eq_append_getElem hk2, lowS_append, List.append_assoc]
          rw [HD.out]
          rfl
        rw [e] at this
        exact this
    · have hcv : convB wr (.slice (some ⟨w.heap.size, 0, none⟩) s.size c) (lowS s.data.toList) := by
        have := HB2.out.rd hc hm (fun _ => False) (fun h => h)
        rw [List.take_of_length_le (by rw [size_list]; omega), List.drop_of_length_le (by rw [size_list]; omega), List.append_nil] at this
        exact conv_of this
      have hcv' : (convert 22 9 (.slice (some ⟨w.heap.size, 0, none⟩) s.size c)).run Tryz.prog wr = .ok (.string R) wr := by rw [HR.out]; exact hcv
      clear hcv
      go_wp2
      go_ret
      exact ⟨rfl, HS.out.new HST.out (Nat.le_refl _)⟩
end Go.Proofs.YtligofmhbbgalaaGreatDoor.L

/- Layer 12: a field's line is parsed. -/
namespace Go.Proofs.YtligofmhbbgalaaGreatDoor.L
open Go.RowKit Go.Proofs

/-- The library's variable holds some number. -/
def MaxL (w : World) : Prop := ∃ m, w.cell? ⟨1, 0, none⟩ = some (.int .i64 m)
theorem MaxL.step {w w' : World} (h : MaxL w) (hs : Stp (fun _ => False) w w') : MaxL w' := by
  obtain ⟨m, hm⟩ := h
  exact ⟨m, hs.cell hm (fun h => h)⟩
theorem MaxL.of_shape {w : World} (h : w.ShapedOpen Tryz.prog) : MaxL w := cell_of_shapedOpen_int (P := Tryz.prog) (g := 1) (t := 3) (zero := #[.int .i64 0]) h (of_decide_eq_true (by kernel_rfl)) (by kernel_rfl) rfl (by kernel_rfl) (by kernel_rfl) Tryz.underlying3
theorem stp_drewN (w : World) (n : Nat) : Stp (fun _ => False) w (w.drewN n) := (Stp.refl _ _).drewN n

theorem results_row_tmp {P : Program} {fn : Func} {p u : Tmp} {ty : TypeId} (h : fn.results = #[.cell p ty, .tmp u]) (tmps : Array Value) (w : World) (g : Nat) (t : TypeId) (cs : Array Value) (fr : Nat × Nat) (d : TypeDesc)
    (hp : tmps.getD p undef = .pointer (some ⟨g, 0, none⟩)) (hg : w.heap[g]? = some (.cells cs t fr))
    (hu : P.underlying ty = some d) (hd : (match d with | .struct _ | .array _ _ => true | _ => false) = true) (hi : (P.info? ty).map (·.size) = some cs.size) :
    (results fn tmps).run P w = .ok (.tuple #[.agg cs, tmps.getD u undef]) w := by
  rw [results_cell_tmp h, hp]
  simp [asAddr, Result.andThen, run_loadVar_row w g t ty cs fr d hg hu hd hi]


end Go.Proofs.YtligofmhbbgalaaGreatDoor.L

/- Layer 15: records are taken apart. -/
namespace Go.Proofs.YtligofmhbbgalaaGreatDoor.L
open Go.RowKit Go.Proofs

/-- The cells of one that takes records apart, and where it lies. -/
def dfC (d : Df) (n : Int) : Array Value := #[.int .i64 (d.nx : Int), .int .i64 (d.left : Int), .int .i64 d.err, .int .i64 n]
def DfB (w : World) (g : Nat) (d : Df) : Prop := ∃ n : Int, w.heap[g]? = some (.cells (dfC d n) 94 (0, 0))
theorem DfB.lt {w : World} {g : Nat} {d : Df} (h : DfB w g d) : g < w.heap.size := by
  obtain ⟨n, h⟩ := h
  exact blk_lt h
theorem DfB.step {S : Nat → Prop} {w w1 : World} {g : Nat} {d : Df} (h : DfB w g d) (hs : Stp S w w1) (hS : ¬ S g) : DfB w1 g d := by
  obtain ⟨n, h⟩ := h
  exact ⟨n, hs.blk h hS⟩
def HdP7 (w : World) (g : Nat) (d : Df) (n : Int) (c : UInt8) (e : Ending) (w' : World) : Prop := e = .returned (.int .i64 (headD d c).err) ∧ w'.heap[g]? = some (.cells (dfC ⟨(headD d c).nx, (headD d c).left, d.err⟩ n) 94 (0, 0)) ∧ Stp (fun k => k = g) w w'
theorem or_left (k : Nat) (c : UInt8) (h : k ≤ 64) : bits .or .i64 (((256 * k : Nat)) : Int) (c.toNat : Int) = ((256 * k + c.toNat : Nat) : Int) := by
  have hc := c.toNat_lt
  have e : (((256 * k : Nat)) : Int) = (k : Int) * 256 := by omega
  rw [e, bits_join .i64 32 (by decide) (fun n h0 h1 => IntWalk.i64_in _ (by omega)) 8 _ _ (by omega) (by omega) (by omega) (by omega) (by omega) (by omega)]
  simp
  omega
set_option maxRecDepth 100000 in
set_option maxHeartbeats 8000000 in
theorem dhead_any (g : Nat) (d : Df) (n : Int) (c : UInt8) (w : World) (h : w.heap[g]? = some (.cells (dfC d n) 94 (0, 0))) (h5 : d.nx < 5) (h4 : d.nx = 4 → ∃ k, d.left = 256 * k ∧ k ≤ 64) :
    Calls Tryz.prog 95 #[.pointer (some ⟨g, 0, none⟩), .int .u8 (c.toNat : Int)] w (HdP7 w g d n c) := by
  obtain ⟨R, hR⟩ : ∃ R, R = HdP7 w g d n c := ⟨_, rfl⟩
  rw [← hR]
  have HR := Lib.hid hR
  obtain ⟨nx, left, err⟩ := d
  have HG := Lib.hid h
  have f0 := blk_free h 0
  have f1 := blk_free h 1
  have c1 : w.cell? ⟨g, 1, none⟩ = some (.int .i64 (left : Int)) := blk_cell (j := 1) h
  have hlt := blk_lt h
  have hcl := c.toNat_lt
  clear hR
  have hn : nx = 0 ∨ nx = 1 ∨ nx = 2 ∨ nx = 3 ∨ nx = 4 := by simp only at h5; omega
  rcases hn with rfl | rfl | rfl | rfl | rfl
  · have c0 : w.cell? ⟨g, 0, none⟩ = some (.int .i64 0) := blk_cell (j := 0) h
    clear h h4 h5
    by_cases hc : c.toNat = 22
    · have HJ : Hid (headD ⟨0, left, err⟩ c = ⟨1, left, 0⟩) := Lib.hid (by unfold headD; rw [if_pos rfl, if_pos (UInt8.toNat_inj.1 hc)])
      have e1 : ((c.toNat : Int) != 22) = false := by simp; omega
      clear hc
      go_enter Tryz.func95, Tryz.ntmps95
      go_wp2
      rw [HR.out]
      unfold HdP7
      rw [HJ.out]
      exact ⟨rfl, blk_set HG.out 0 (.int .i64 1), (Stp.refl _ w).setg 0 _⟩
    · have HJ : Hid (headD ⟨0, left, err⟩ c = ⟨0, left, 4⟩) := Lib.hid (by unfold headD; rw [if_pos rfl, if_neg (fun e => hc (by rw [e]; rfl))])
      have e1 : ((c.toNat : Int) != 22) = true := by simp; omega
      clear hc
      go_enter Tryz.func95, Tryz.ntmps95
      go_wp2
      rw [HR.out]
      unfold HdP7
      rw [HJ.out]
      exact ⟨rfl, HG.out, Stp.refl _ w⟩
  · have c0 : w.cell? ⟨g, 0, none⟩ = some (.int .i64 1) := blk_cell (j := 0) h
    clear h h4 h5
    by_cases hc : c.toNat = 3
    · have HJ : Hid (headD ⟨1, left, err⟩ c = ⟨2, left, 0⟩) := Lib.hid (by unfold headD; rw [if_neg (by simp), if_pos rfl, if_pos (UInt8.toNat_inj.1 hc)])
      have e1 : ((c.toNat : Int) != 3) = false := by simp; omega
      clear hc
      go_enter Tryz.func95, Tryz.ntmps95
      go_wp2
      rw [HR.out]
      unfold HdP7
      rw [HJ.out]
      exact ⟨rfl, blk_set HG.out 0 (.int .i64 2), (Stp.refl _ w).setg 0 _⟩
    · have HJ : Hid (headD ⟨1, left, err⟩ c = ⟨1, left, 5⟩) := Lib.hid (by unfold headD; rw [if_neg (by simp), if_pos rfl, if_neg (fun e => hc (by rw [e]; rfl))])
      have e1 : ((c.toNat : Int) != 3) = true := by simp; omega
      clear hc
      go_enter Tryz.func95, Tryz.ntmps95
      go_wp2
      rw [HR.out]
      unfold HdP7
      rw [HJ.out]
      exact ⟨rfl, HG.out, Stp.refl _ w⟩
  · have c0 : w.cell? ⟨g, 0, none⟩ = some (.int .i64 2) := blk_cell (j := 0) h
    clear h h4 h5
    by_cases hc : c.toNat ≤ 4
    · have HJ : Hid (headD ⟨2, left, err⟩ c = ⟨3, left, 0⟩) := Lib.hid (by unfold headD; rw [if_neg (by simp), if_neg (by simp), if_pos rfl, if_pos hc])
      have e1 : ¬ (4 : Int) < (c.toNat : Int) := by omega
      clear hc
      go_enter Tryz.func95, Tryz.ntmps95
      go_wp2
      rw [HR.out]
      unfold HdP7
      rw [HJ.out]
      exact ⟨rfl, blk_set HG.out 0 (.int .i64 3), (Stp.refl _ w).setg 0 _⟩
    · have HJ : Hid (headD ⟨2, left, err⟩ c = ⟨2, left, 5⟩) := Lib.hid (by unfold headD; rw [if_neg (by simp), if_neg (by simp), if_pos rfl, if_neg hc])
      have e1 : (4 : Int) < (c.toNat : Int) := by omega
      clear hc
      go_enter Tryz.func95, Tryz.ntmps95
      go_wp2
      rw [HR.out]
      unfold HdP7
      rw [HJ.out]
      exact ⟨rfl, HG.out, Stp.refl _ w⟩
  · have c0 : w.cell? ⟨g, 0, none⟩ = some (.int .i64 3) := blk_cell (j := 0) h
    have ew : IntKind.i64.wrap ((c.toNat : Int)) = (c.toNat : Int) := IntWalk.i64_in _ (by omega)
    have ew2 : IntKind.i64.wrap ((c.toNat : Int) * 256) = (c.toNat : Int) * 256 := IntWalk.i64_in _ (by omega)
    clear h h4 h5
    by_cases hc : c.toNat * 256 ≤ 16384
    · have HJ : Hid (headD ⟨3, left, err⟩ c = ⟨4, c.toNat * 256, 0⟩) := Lib.hid (by unfold headD; rw [if_neg (by simp), if_neg (by simp), if_neg (by simp), if_pos rfl, if_pos hc])
      have e1 : ¬ (16384 : Int) < (c.toNat : Int) * 256 := by omega
      clear hc
      go_enter Tryz.func95, Tryz.ntmps95
      go_wp2
      rw [HR.out]
      unfold HdP7
      rw [HJ.out]
      exact ⟨rfl, by have := blk_set (blk_set HG.out 1 (.int .i64 ((c.toNat : Int) * 256))) 0 (.int .i64 4); simpa [dfC] using this, ((Stp.refl _ w).setg 1 _).setg 0 _⟩
    · have HJ : Hid (headD ⟨3, left, err⟩ c = ⟨3, c.toNat * 256, 6⟩) := Lib.hid (by unfold headD; rw [if_neg (by simp), if_neg (by simp), if_neg (by simp), if_pos rfl, if_neg hc])
      have e1 : (16384 : Int) < (c.toNat : Int) * 256 := by omega
      clear hc
      go_enter Tryz.func95, Tryz.ntmps95
      go_wp2
      rw [HR.out]
      unfold HdP7
      rw [HJ.out]
      exact ⟨rfl, by have := blk_set HG.out 1 (.int .i64 ((c.toNat : Int) * 256)); simpa [dfC] using this, (Stp.refl _ w).setg 1 _⟩
  · have c0 : w.cell? ⟨g, 0, none⟩ = some (.int .i64 4) := blk_cell (j := 0) h
    have ew : IntKind.i64.wrap ((c.toNat : Int)) = (c.toNat : Int) := IntWalk.i64_in _ (by omega)
    obtain ⟨k, hk, hk64⟩ := h4 rfl
    simp only at hk
    subst hk
    have eo := or_left k c hk64
    have hJ : headD ⟨4, 256 * k, err⟩ c = if 0 < 256 * k + c.toNat ∧ 256 * k + c.toNat ≤ 16384 then ⟨5, 256 * k + c.toNat, 0⟩ else ⟨4, 256 * k + c.toNat, 6⟩ := by
      unfold headD
      rw [if_neg (by simp), if_neg (by simp), if_neg (by simp), if_neg (by simp)]
    obtain ⟨m, hm⟩ : ∃ m, m = 256 * k + c.toNat := ⟨_, rfl⟩
    have hm2 : m ≤ 16639 := by omega
    rw [← hm] at hJ eo
    obtain ⟨q, hq⟩ : ∃ q, q = 256 * k := ⟨_, rfl⟩
    rw [← hq] at c1 eo HG hJ HR
    have HJ0 := Lib.hid hJ
    clear h h4 h5 hJ hm hk64 hcl
    clear hq
    by_cases h0 : m = 0
    · subst h0
      have HJ : Hid (headD ⟨4, q, err⟩ c = ⟨4, 0, 6⟩) := Lib.hid (by rw [HJ0.out]; rfl)
      go_enter Tryz.func95, Tryz.ntmps95
      go_wp2
      rw [HR.out]
      unfold HdP7
      rw [HJ.out]
      exact ⟨rfl, by have := blk_set HG.out 1 (.int .i64 ((0 : Nat) : Int)); simpa [dfC] using this, (Stp.refl _ w).setg 1 _⟩
    · have e0 : ((m : Int) == 0) = false := by simp; omega
      by_cases hc : m ≤ 16384
      · have HJ : Hid (headD ⟨4, q, err⟩ c = ⟨5, m, 0⟩) := Lib.hid (by rw [HJ0.out, if_pos ⟨by omega, hc⟩])
        have e1 : ¬ (16384 : Int) < (m : Int) := by omega
        clear hc
        go_enter Tryz.func95, Tryz.ntmps95
        go_wp2
        rw [HR.out]
        unfold HdP7
        rw [HJ.out]
        exact ⟨rfl, by have := blk_set (blk_set HG.out 1 (.int .i64 (m : Int))) 0 (.int .i64 5); simpa [dfC] using this, ((Stp.refl _ w).setg 1 _).setg 0 _⟩
      · have HJ : Hid (headD ⟨4, q, err⟩ c = ⟨4, m, 6⟩) := Lib.hid (by rw [HJ0.out, if_neg (fun h => hc h.2)])
        have e1 : (16384 : Int) < (m : Int) := by omega
        clear hc
        go_enter Tryz.func95, Tryz.ntmps95
        go_wp2
        rw [HR.out]
        unfold HdP7
        rw [HJ.out]
        exact ⟨rfl, by have := blk_set HG.out 1 (.int .i64 (m : Int)); simpa [dfC] using this, (Stp.refl _ w).setg 1 _⟩
def TkP7 (w : World) (g : Nat) (d : Df) (c : UInt8) (e : Ending) (w' : World) : Prop := e = .returned (.tuple #[.bool (takeD d c).2.1, .int .i64 (takeD d c).2.2]) ∧ DfB w' g (takeD d c).1 ∧ Stp (fun k => k = g) w w'
set_option maxRecDepth 100000 in
set_option maxHeartbeats 8000000 in
theorem dtake_any (g : Nat) (d : Df) (c : UInt8) (w : World) (h : DfB w g d) (h0 : d.err = 0) (hn : d.nx ≤ 5) (h4 : d.nx = 4 → ∃ k, d.left = 256 * k ∧ k ≤ 64) (h5 : d.nx = 5 → 1 ≤ d.left ∧ d.left ≤ 16384) :
    Calls Tryz.prog 52 #[.pointer (some ⟨g, 0, none⟩), .int .u8 (c.toNat : Int)] w (TkP7 w g d c) := by
  obtain ⟨R, hR⟩ : ∃ R, R = TkP7 w g d c := ⟨_, rfl⟩
  rw [← hR]
  have HR := Lib.hid hR
  obtain ⟨n, h⟩ := h
  have HG := Lib.hid h
  have hlt := blk_lt h
  have f0 := blk_free h 0
  have f1 := blk_free h 1
  have f2 := blk_free h 2
  have f3 := blk_free h 3
  clear hR
  by_cases hlt5 : d.nx < 5
  · have cH := dhead_any g d n c w h hlt5 h4
    obtain ⟨q, hq⟩ : ∃ q, q = headD d c := ⟨_, rfl⟩
    have hJ : takeD d c = (q, false, q.err) := by unfold takeD; rw [if_neg (by rw [h0]; simp), if_pos hlt5, hq]
    unfold HdP7 at cH
    rw [← hq] at cH
    obtain ⟨nx', left', err'⟩ := q
    simp only at cH hJ
    have HJ := Lib.hid hJ
    obtain ⟨nx, left, err⟩ := d
    simp only at h0 hlt5
    subst h0
    have c0 : w.cell? ⟨g, 0, none⟩ = some (.int .i64 (nx : Int)) := blk_cell (j := 0) h
    have c2 : w.cell? ⟨g, 2, none⟩ = some (.int .i64 0) := blk_cell (j := 2) h
    have e5 : (nx : Int) < 5 := by omega
    clear h h4 h5 hn hq hJ hlt5
    go_enter Tryz.func52, Tryz.ntmps52
    go_wp2_with (go_at_call 95; refine stopc ?_)
    refine Stop.go ?_
    refine cH.mono ?_
    rintro e w1 ⟨rfl, hb, hs⟩
    have HB := Lib.hid hb
    have HS := Lib.hid hs
    have lt1 := blk_lt hb
    have k2 := blk_free hb 2
    have k2c : w1.cell? ⟨g, 2, none⟩ = some (.int .i64 0) := blk_cell (j := 2) hb
    clear hb hs c0 c2 f0 f1 f2 f3
    go_wp2_with fail
    go_quiet (fail)
    go_wp2
    rw [HR.out]
    unfold TkP7
    rw [HJ.out]
    exact ⟨rfl, ⟨n, ((Stp.refl (fun _ => False) _).drewN _).blk (blk_set HB.out 2 (.int .i64 err')) id⟩, (HS.out.setg 2 _).drewN _⟩
  · obtain ⟨h51, h52⟩ := h5 (by omega)
    have hJ : takeD d c = (⟨if d.left = 1 then 0 else 5, d.left - 1, 0⟩, true, 0) := by unfold takeD; rw [if_neg (by rw [h0]; simp), if_neg hlt5]
    have HJ := Lib.hid hJ
    obtain ⟨nx, left, err⟩ := d
    simp only at h0 hlt5 hn h51 h52
    subst h0
    obtain rfl : nx = 5 := by omega
    have c0 : w.cell? ⟨g, 0, none⟩ = some (.int .i64 5) := blk_cell (j := 0) h
    have c1 : w.cell? ⟨g, 1, none⟩ = some (.int .i64 (left : Int)) := blk_cell (j := 1) h
    have c2 : w.cell? ⟨g, 2, none⟩ = some (.int .i64 0) := blk_cell (j := 2) h
    have c3 : w.cell? ⟨g, 3, none⟩ = some (.int .i64 n) := blk_cell (j := 3) h
    have ew : IntKind.i64.wrap ((left : Int) - 1) = (left : Int) - 1 := IntWalk.i64_in _ (by omega)
    clear h h4 h5 hn hJ hlt5
    by_cases h1 : left = 1
    · subst h1
      simp only [Int.natCast_one] at c1 ew
      clear ew
      go_enter Tryz.func52, Tryz.ntmps52
      go_wp2
      rw [HR.out]
      unfold TkP7
      rw [HJ.out]
      exact ⟨rfl, ⟨_, blk_set (blk_set (blk_set HG.out 1 (.int .i64 0)) 0 (.int .i64 0)) 3 _⟩, (((Stp.refl _ w).setg 1 _).setg 0 _).setg 3 _⟩
    · have e1 : ((left : Int) - 1 == 0) = false := by simp; omega
      have HJ2 : Hid (takeD ⟨5, left, 0⟩ c = (⟨5, left - 1, 0⟩, true, 0)) := Lib.hid (by rw [HJ.out]; simp only; rw [if_neg h1])
      have hcs : ((left - 1 : Nat) : Int) = (left : Int) - 1 := by omega
      have HCS := Lib.hid hcs
      clear hcs h1
      go_enter Tryz.func52, Tryz.ntmps52
      go_wp2
      rw [HR.out]
      unfold TkP7
      rw [HJ2.out]
      refine ⟨rfl, ⟨n, ?_⟩, (Stp.refl _ w).setg 1 _⟩
      have := blk_set HG.out 1 (.int .i64 ((left : Int) - 1))
      unfold dfC
      simp only
      rw [HCS.out]
      exact this
end Go.Proofs.YtligofmhbbgalaaGreatDoor.L
