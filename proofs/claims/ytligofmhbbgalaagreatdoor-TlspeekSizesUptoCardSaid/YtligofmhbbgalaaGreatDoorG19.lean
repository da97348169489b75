/- Texts of the proof, joined: Hy Na Tc. -/
import Derived.Test.YtligofmhbbgalaaGreatDoorG18
import Derived.Test.YtligofmhbbgalaaGreatDoorG14
import Derived.Test.YtligofmhbbgalaaGreatDoorG08
import Derived.Test.YtligofmhbbgalaaGreatDoorG09
import Derived.Test.YtligofmhbbgalaaGreatDoorG05
set_option linter.unusedVariables false
set_option linter.unusedSimpArgs false
/- The law's small case. -/
namespace Go.Proofs.YtligofmhbbgalaaGreatDoor.L
open Go.RowKit Go.Proofs

def hA : Hl := ⟨771, List.replicate 32 0, [], [4865], [0], false, []⟩
def hB : Hl := { hA with has := true, exs := [(7, [97]), (0, [])] }
def hD : Hl := { hA with has := true, exs := [(7, [97]), (7, [])] }
theorem stopw9 {P : Program} {ops : Array Oper} {rest : List Oper} {a : Act} {Q : Exit → Act → World → Prop} {W : World} (h : Stop (wpList P ops Q rest a W)) : wpList P ops Q rest a W := by
  unfold Stop at h
  exact h
theorem box_hl (W : World) (cs : Array Value) (hz : cs.size = 38) : (W.alloc (.cells (hlV hl0 (.slice none 0 0) (.slice none 0 0) (.slice none 0 0) (.slice none 0 0)).toArray 69)).heap[W.heap.size]? = some (.cells (hlV hl0 (.slice none 0 0) (.slice none 0 0) (.slice none 0 0) (.slice none 0 0)).toArray 69 (0, 0)) ∧
    (hlV hl0 (.slice none 0 0) (.slice none 0 0) (.slice none 0 0) (.slice none 0 0)).toArray.size = cs.size ∧
    ∃ W', (W.alloc (.cells (hlV hl0 (.slice none 0 0) (.slice none 0 0) (.slice none 0 0) (.slice none 0 0)).toArray 69)).setRow W.heap.size cs = W' ∧ W'.heap[W.heap.size]? = some (.cells cs 69 (0, 0)) ∧ Stp (fun _ => False) W W' := by
  refine ⟨heap_alloc_new W _, by rw [hz]; rfl, _, rfl, hello_row (heap_alloc_new W _) cs, ((Stp.refl _ _).alloc _).setRow (by omega) _⟩

end Go.Proofs.YtligofmhbbgalaaGreatDoor.L

/- Layer 14: what may stand in a name. -/
namespace Go.Proofs.YtligofmhbbgalaaGreatDoor.L
open Go.RowKit Go.Proofs

theorem idx_anyH (p : Nat → Bool) (hp : ∀ r, 128 ≤ r → p r = true) (s : ByteArray) (f pos : Nat) (h : s.size ≤ pos + f) :
    decide (0 ≤ Lib.idxFuncFrom p true s f pos) = (s.data.toList.drop pos).any (fun b => p b.toNat) := by
  induction f generalizing pos with
  | zero =>
    rw [List.drop_of_length_le (by rw [size_list]; omega)]
    rfl
  | succ f ih =>
    unfold Lib.idxFuncFrom
    by_cases hlt : pos < s.size
    · rw [if_pos hlt]
      have hl : pos < s.data.toList.length := by rw [size_list]; exact hlt
      rw [List.drop_eq_getElem_cons hl, List.any_cons]
      have e : s.data.toList[pos] = s[pos] := rfl
      rw [e]
      by_cases hlow : (s[pos]).toNat < 128
      · rw [decode_low s pos hlt hlow]
        simp only
        cases hc : p (s[pos]).toNat with
        | true => simp
        | false =>
          rw [if_neg (by decide), ih (pos + 1) (by omega), Bool.false_or]
      · have hh := decode_high s pos hlt hlow
        rw [hp _ hh, hp _ (Nat.not_lt.1 hlow)]
        simp
    · rw [if_neg hlt, List.drop_of_length_le (by rw [size_list]; omega)]
      rfl
theorem idx_anySH (p : Nat → Bool) (hp : ∀ r, 128 ≤ r → p r = true) (s : ByteArray) : decide (0 ≤ Lib.idxFunc p true s) = anyS p s.data.toList := by
  unfold Lib.idxFunc anyS
  rw [idx_anyH p hp s _ 0 (by omega)]
  rfl
theorem other_any (x : Nat) (w : World) : Calls Tryz.prog 45 #[.int .i32 (x : Int)] w fun e w' => e = .returned (.bool (othR x)) ∧ w' = w := by
  obtain ⟨b, hb⟩ : ∃ b, b = othR x := ⟨_, rfl⟩
  rw [← hb]
  have HB := Lib.hid hb
  clear hb
  by_cases h1 : x < 48
  · go_enter Tryz.func45, Tryz.ntmps45
    go_wp2
    go_ret
    exact ⟨ret_b (by rw [HB.out]; simp [othR, h1]), rfl⟩
  · by_cases h2 : 57 < x
    · go_enter Tryz.func45, Tryz.ntmps45
      go_wp2
      go_ret
      exact ⟨ret_b (by rw [HB.out]; simp [othR, h1, h2]; try omega), rfl⟩
    · go_enter Tryz.func45, Tryz.ntmps45
      go_wp2
      go_ret
      exact ⟨ret_b (by rw [HB.out]; unfold othR; rw [decide_eq_false h1, decide_eq_false h2] <;> simp <;> omega), rfl⟩
theorem bad_cases (x : Nat) : (97 ≤ x ∧ x ≤ 122) ∨ (65 ≤ x ∧ x ≤ 90) ∨ x = 45 ∨ x = 95 ∨ (x < 65 ∧ x ≠ 45) ∨ (91 ≤ x ∧ x < 97 ∧ x ≠ 95) ∨ 123 ≤ x := by omega
set_option maxRecDepth 100000 in
set_option maxHeartbeats 4000000 in
theorem nstrange_any (x : Nat) (w : World) : Calls Tryz.prog 79 #[.int .i32 (x : Int)] w fun e w' => e = .returned (.bool (badR x)) ∧ w' = w := by
  obtain ⟨b, hb⟩ : ∃ b, b = badR x := ⟨_, rfl⟩
  rw [← hb]
  rcases bad_cases x with ⟨h1, h2⟩ | ⟨h1, h2⟩ | h1 | h1 | ⟨h1, h2⟩ | ⟨h1, h2, h3⟩ | h1
  · have HB := Lib.hid (show b = false by rw [hb, badR, show decide (97 ≤ x) = true by simpa using h1, show decide (x ≤ 122) = true by simpa using h2]; rfl)
    clear hb
    go_enter Tryz.func79, Tryz.ntmps79
    go_wp2
    go_ret
    exact ⟨ret_b HB.out.symm, rfl⟩
  · have HB := Lib.hid (show b = false by rw [hb, badR, show decide (65 ≤ x) = true by simpa using h1, show decide (x ≤ 90) = true by simpa using h2]; simp)
    clear hb
    have h3 : x < 97 := by omega
    go_enter Tryz.func79, Tryz.ntmps79
    go_wp2
    go_ret
    exact ⟨ret_b HB.out.symm, rfl⟩
  · have HB := Lib.hid (show b = false by rw [hb, h1]; rfl)
    clear hb
    subst h1
    go_enter Tryz.func79, Tryz.ntmps79
    go_wp2
    go_ret
    exact ⟨ret_b HB.out.symm, rfl⟩
  · have HB := Lib.hid (show b = false by rw [hb, h1]; rfl)
    clear hb
    subst h1
    go_enter Tryz.func79, Tryz.ntmps79
    go_wp2
    go_ret
    exact ⟨ret_b HB.out.symm, rfl⟩
  all_goals
    have n1 : (decide (97 ≤ x) && decide (x ≤ 122)) = false := by simp; omega
    have n2 : (decide (65 ≤ x) && decide (x ≤ 90)) = false := by simp; omega
    have n3 : decide (x = 45) = false := by simp; omega
    have n4 : decide (x = 95) = false := by simp; omega
    have HB := Lib.hid (show b = othR x by rw [hb, badR, n1, n2, n3, n4]; rfl)
    have e45 : ((x : Int) == 45) = false := by simp; omega
    have e95 : ((x : Int) == 95) = false := by simp; omega
    clear hb n1 n2 n3 n4
    go_enter Tryz.func79, Tryz.ntmps79
    go_wp2_with (go_at_call 45; refine (other_any _ _).mono ?_; rintro e w' ⟨rfl, rfl⟩)
    go_ret
    exact ⟨ret_b (by rw [HB.out] <;> first | rfl | (rw [show decide ((x : Int) ≤ 90) = false from decide_eq_false (by omega)] <;> rfl) | (rw [show decide ((x : Int) ≤ 122) = false from decide_eq_false (by omega), show decide ((x : Int) ≤ 90) = false from decide_eq_false (by omega)] <;> rfl)), rfl⟩
theorem anyOther (s : ByteArray) (w : World) :
    Calls Tryz.prog 44 #[.string s, .func (.func 45) #[] #[]] w fun e w' => e = .returned (.bool (anyS othR s.data.toList)) ∧ Stp (fun _ => False) w w' :=
  (Tryz.strings_ContainsFunc_runes 45 #[] (enters_of Tryz.func45 (by kernel_rfl) rfl) othR s w (fun W x _ _ => (other_any x W).mono fun e w' ⟨h1, h2⟩ => ⟨h1, 0, h2⟩)).mono fun e w' ⟨h1, h2⟩ => ⟨by rw [h1, idx_anySH othR othR_high], Stp.of_below h2⟩
theorem anyNStrange (s : ByteArray) (w : World) :
    Calls Tryz.prog 44 #[.string s, .func (.func 79) #[] #[]] w fun e w' => e = .returned (.bool (anyS badR s.data.toList)) ∧ Stp (fun _ => False) w w' :=
  (Tryz.strings_ContainsFunc_runes 79 #[] (enters_of Tryz.func79 (by kernel_rfl) rfl) badR s w (fun W x _ _ => (nstrange_any x W).mono fun e w' ⟨h1, h2⟩ => ⟨h1, 0, h2⟩)).mono fun e w' ⟨h1, h2⟩ => ⟨by rw [h1, idx_anySH badR badR_high], Stp.of_below h2⟩
theorem suffix_one (l : List UInt8) (c : UInt8) : Lib.hasSuffix l [c] = decide (l.getLast? = some c) := by
  unfold Lib.hasSuffix
  rw [Bool.eq_iff_iff, List.isSuffixOf_iff_suffix, decide_eq_true_iff]
  constructor
  · rintro ⟨a, rfl⟩
    exact List.getLast?_concat
  · intro h
    obtain ⟨a, rfl⟩ := List.getLast?_eq_some_iff.1 h
    exact ⟨a, rfl⟩
theorem hass_call (s : ByteArray) (c : UInt8) (w : World) (hs : s.size ≤ 9223372036854775807) : Calls Tryz.prog 81 #[.string s, .string ⟨#[c]⟩] w fun e w' => e = .returned (.bool (decide (s.data.toList.getLast? = some c))) ∧ w' = w := by
  rw [← suffix_one]
  exact Tryz.strings_HasSuffix s ⟨#[c]⟩ w hs
theorem badl_any (s : ByteArray) (w : World) (hs : s.size ≤ 9223372036854775807) : Calls Tryz.prog 43 #[.string s] w fun e w' => e = .returned (.bool (badL s.data.toList)) ∧ Stp (fun _ => False) w w' := by
  obtain ⟨b, hb⟩ : ∃ b, b = badL s.data.toList := ⟨_, rfl⟩
  rw [← hb]
  have hsl := size_list s
  by_cases h0 : s.data.toList = []
  · have ht : (s.toList == []) = true := by rw [list_eqb]; simp [h0]
    have HB := Lib.hid (show b = true by rw [hb, h0]; rfl)
    clear hb h0
    go_enter Tryz.func43, Tryz.ntmps43
    go_wp2
    go_ret
    exact ⟨ret_b HB.out.symm, Stp.refl _ _⟩
  have ht : (s.toList == []) = false := by rw [list_eqb]; simp [h0]
  have hn0 : s.data.toList.isEmpty = false := by cases h : s.data.toList with
    | nil => exact absurd h h0
    | cons a r => rfl
  by_cases h63 : 63 < s.size
  · have HB := Lib.hid (show b = true by rw [hb, badL, hsl, decide_eq_true h63]; simp)
    have d63 : decide ((63 : Int) < (s.size : Int)) = true := decide_eq_true (by omega)
    clear hb h0 h63 hn0 hsl
    go_enter Tryz.func43, Tryz.ntmps43
    go_wp2
    go_ret
    exact ⟨ret_b HB.out.symm, Stp.refl _ _⟩
  have d63 : decide ((63 : Int) < (s.size : Int)) = false := decide_eq_false (by omega)
  have cs := fun W => anyNStrange s W
  have cp := fun W => hasp_call s 45 W
  have cx := fun W => hass_call s 45 W hs
  obtain ⟨a, ha⟩ : ∃ a, a = anyS badR s.data.toList := ⟨_, rfl⟩
  obtain ⟨p, hp⟩ : ∃ p, p = decide (s.data.toList[0]? = some 45) := ⟨_, rfl⟩
  obtain ⟨x, hx⟩ : ∃ x, x = decide (s.data.toList.getLast? = some 45) := ⟨_, rfl⟩
  have HB := Lib.hid (show b = (a || p || x) by rw [hb, badL, hn0, hsl, decide_eq_false h63, ha, hp, hx]; rfl)
  rw [← ha] at cs
  rw [← hp] at cp
  rw [← hx] at cx
  clear hb h0 h63 hn0 hsl ha hp hx
  cases a with
  | true =>
    go_enter Tryz.func43, Tryz.ntmps43
    go_wp2_with (go_at_call 44; refine stopc ?_)
    refine Stop.go ?_
    refine (cs _).mono ?_
    rintro e w1 ⟨rfl, hs1⟩
    go_wp2
    go_ret
    exact ⟨ret_b HB.out.symm, hs1⟩
  | false =>
    cases p with
    | true =>
      go_enter Tryz.func43, Tryz.ntmps43
      go_wp2_with (go_at_call 44; refine stopc ?_)
      refine Stop.go ?_
      refine (cs _).mono ?_
      rintro e w1 ⟨rfl, hs1⟩
      go_wp2_with (go_at_call 80; refine stopc ?_)
      refine Stop.go ?_
      refine (cp _).mono ?_
      rintro e w2 ⟨rfl, rfl⟩
      go_wp2
      go_ret
      exact ⟨ret_b HB.out.symm, hs1⟩
    | false =>
      go_enter Tryz.func43, Tryz.ntmps43
      go_wp2_with (go_at_call 44; refine stopc ?_)
      refine Stop.go ?_
      refine (cs _).mono ?_
      rintro e w1 ⟨rfl, hs1⟩
      go_wp2_with (go_at_call 80; refine stopc ?_)
      refine Stop.go ?_
      refine (cp _).mono ?_
      rintro e w2 ⟨rfl, rfl⟩
      go_wp2_with (go_at_call 81; refine stopc ?_)
      refine Stop.go ?_
      refine (cx _).mono ?_
      rintro e w3 ⟨rfl, rfl⟩
      go_wp2
      go_ret
      exact ⟨ret_b HB.out.symm, hs1⟩
end Go.Proofs.YtligofmhbbgalaaGreatDoor.L

/-! Layer 14: a name's one form. -/
namespace Go.Proofs.YtligofmhbbgalaaGreatDoor.L
open Go.RowKit Go.Proofs

def AnyP (w : World) (X : List ByteArray) (e : Ending) (w' : World) : Prop := ∃ n : Int, e = .returned (.int .i64 n) ∧ decide (0 ≤ n) = X.any (fun x => badL x.data.toList) ∧ Stp (fun _ => False) w w'
theorem any_take (X : List ByteArray) (k : Nat) (h : ∀ j (hj : j < X.length), j < k → badL (X[j]).data.toList = false) (hk : X.length ≤ k) : X.any (fun x => badL x.data.toList) = false := by
  rw [List.any_eq_false]
  intro x hx
  obtain ⟨j, hj, rfl⟩ := List.mem_iff_getElem.1 hx
  rw [h j hj (by omega)]
  decide
theorem any_hit (X : List ByteArray) (k : Nat) (hk : k < X.length) (h : badL (X[k]).data.toList = true) : X.any (fun x => badL x.data.toList) = true := by
  rw [List.any_eq_true]
  exact ⟨X[k], List.getElem_mem hk, h⟩
set_option maxRecDepth 100000 in
set_option maxHeartbeats 4000000 in
theorem idxf_any (M : Nat → Prop) (v : Value) (X : List ByteArray) (w : World) (hx : Rd str M w v X) (hl : X.length ≤ 9223372036854775800) (hz : ∀ x ∈ X, x.size ≤ 9223372036854775807) :
    Calls Tryz.prog 78 #[v, .func (.func 43) #[] #[]] w (AnyP w X) := by
  obtain ⟨A, c, rfl, hle⟩ := hx.form
  have hcm := hx.at_.2.2.1
  unfold maxLen at hcm
  obtain ⟨R, hR⟩ : ∃ R, R = AnyP w X := ⟨_, rfl⟩
  rw [← hR]
  have HR := Lib.hid hR
  have HX := Lib.hid hx
  have HZ := Lib.hid hz
  clear hR hx hz
  have eg := enters_of (P := Tryz.prog) Tryz.func43 (by kernel_rfl) rfl
  go_enter Tryz.func78, Tryz.ntmps78
  go_wp2
  go_loopg [5, 8] X.length (fun gf _ i wr => ∃ k : Nat, k + gf = X.length ∧ i = .int .i64 k ∧ (∀ j (hj : j < X.length), j < k → badL (X[j]).data.toList = false) ∧ Stp (fun _ => False) w wr)
  case atStart => exact ⟨0, by omega, rfl, fun j hj h => absurd h (by omega), Stp.refl _ _⟩
  case round =>
    obtain ⟨k, hk, rfl, hall, hst⟩ := hrel
    have HALL := Lib.hid hall
    have HST := Lib.hid hst
    clear hall hst
    by_cases hlt : k < X.length
    · obtain ⟨ad, rfl, -, hc⟩ := plain_cell (HX.out.stp0 HST.out) k hlt
      obtain ⟨y, hy⟩ : ∃ y, y = X[k] := ⟨_, rfl⟩
      rw [← hy] at hc
      have cb := fun W => badl_any y W (by rw [hy]; exact HZ.out _ (List.getElem_mem hlt))
      obtain ⟨b, hb⟩ : ∃ b, b = badL y.data.toList := ⟨_, rfl⟩
      rw [← hb] at cb
      have HY := Lib.hid hy
      have HB := Lib.hid hb
      have hin : (k : Int) < (X.length : Int) := by omega
      have hw : IntKind.i64.wrap ((k : Int) + 1) = (k : Int) + 1 := IntWalk.i64_in _ (by omega)
      clear hy hb
      cases b with
      | true =>
        go_wp2_with (go_at_call 43; refine (cb _).mono ?_; rintro e w1 ⟨rfl, hs1⟩; have HS1 := Lib.hid (HST.out.trans hs1); clear hs1)
        rw [HR.out]
        exact ⟨_, rfl, by rw [any_hit X k hlt (by rw [← HY.out, ← HB.out])]; simp, HS1.out⟩
      | false =>
        obtain ⟨g', rfl⟩ : ∃ g', gk = g' + 1 := ⟨gk - 1, by omega⟩
        go_wp2_with (go_at_call 43; refine (cb _).mono ?_; rintro e w1 ⟨rfl, hs1⟩; have HS1 := Lib.hid (HST.out.trans hs1); clear hs1)
        go_roundg g'
        case measure => omega
        case rel =>
          refine ⟨k + 1, by omega, by go_num, fun j hj h1 => ?_, HS1.out⟩
          by_cases hjk : j = k
          · subst hjk
            rw [← HY.out, ← HB.out]
          · exact HALL.out j hj (by omega)
    · go_wp2
      rw [HR.out]
      exact ⟨_, rfl, by rw [any_take X k HALL.out (by omega)]; decide, HST.out⟩
theorem contf_any (M : Nat → Prop) (v : Value) (X : List ByteArray) (w : World) (hx : Rd str M w v X) (hl : X.length ≤ 9223372036854775800) (hz : ∀ x ∈ X, x.size ≤ 9223372036854775807) :
    Calls Tryz.prog 42 #[v, .func (.func 43) #[] #[]] w fun e w' => e = .returned (.bool (X.any (fun x => badL x.data.toList))) ∧ Stp (fun _ => False) w w' := by
  have ci := fun W hW => idxf_any M v X W (hx.stp0 hW) hl hz
  obtain ⟨A, c, rfl, hle⟩ := hx.form
  obtain ⟨b, hb⟩ : ∃ b, b = X.any (fun x => badL x.data.toList) := ⟨_, rfl⟩
  rw [← hb]
  unfold AnyP at ci
  rw [← hb] at ci
  clear hb hx hz
  go_enter Tryz.func42, Tryz.ntmps42
  go_wp2_with (go_at_call 78; refine stopc ?_)
  refine Stop.go ?_
  refine (ci _ (Stp.refl _ _)).mono ?_
  rintro e w1 ⟨n, rfl, hn, hs1⟩
  have HN := Lib.hid hn
  have HS1 := Lib.hid hs1
  clear hn hs1
  by_cases h0 : 0 ≤ n
  · have HB := Lib.hid (show b = true by rw [← HN.out]; exact decide_eq_true h0)
    go_wp2
    go_ret
    exact ⟨ret_b (by rw [HB.out] <;> (simp; try omega)), HS1.out⟩
  · have HB := Lib.hid (show b = false by rw [← HN.out]; exact decide_eq_false h0)
    go_wp2
    go_ret
    exact ⟨ret_b (by rw [HB.out] <;> (simp; try omega)), HS1.out⟩

def NormP (w : World) (r : List UInt8 × Int) (e : Ending) (w' : World) : Prop := e = .returned (.tuple #[.string (strB r.1), .int .i64 r.2]) ∧ Stp (fun _ => False) w w'
theorem last_get (X : List ByteArray) (h : 0 < X.length) : lastC (X.map (·.data.toList)) = (X[X.length - 1]'(by omega)).data.toList := by
  unfold lastC
  rw [List.getLast?_eq_getElem?, List.length_map, List.getElem?_map, List.getElem?_eq_getElem (by omega)]
  rfl

theorem trim_call (s : ByteArray) (w : World) (hs : s.size ≤ 9223372036854775807) : Calls Tryz.prog 39 #[.string s, .string ⟨#[46]⟩] w fun e w' => e = .returned (.string (strB (undot s.data.toList))) ∧ w' = w := by
  rw [← undot_trim]
  exact Tryz.strings_TrimSuffix s ⟨#[46]⟩ w hs
set_option maxRecDepth 100000 in
set_option maxHeartbeats 8000000 in
theorem norm_any (s : ByteArray) (w : World) (hs : s.size < 4294967280) (he : EnvP w) : Calls Tryz.prog 17 #[.string s] w (NormP w (normN s.data.toList)) := by
  obtain ⟨R, hR⟩ : ∃ R, R = NormP w (normN s.data.toList) := ⟨_, rfl⟩
  rw [← hR]
  have HR := Lib.hid hR
  have HE := Lib.hid he
  clear hR he
  have hsl := size_list s
  have cA := fun W hM hA => aparse_any s W (by omega) hM hA
  obtain ⟨O, hO⟩ : ∃ O, O = (parseA s.data.toList).isSome := ⟨_, rfl⟩
  unfold AdrP at cA
  simp only [← hO] at cA
  have HOV := Lib.hid hO
  have cL := fun W => lower_any s W (by omega)
  obtain ⟨y, hy⟩ : ∃ y, y = strB (lowS s.data.toList) := ⟨_, rfl⟩
  have hyd : y.data.toList = lowS s.data.toList := by rw [hy]; simp [strB]
  have hys : y.size = s.size := by rw [hy, strB_size, lowS_len, size_list]
  simp only [← hy] at cL
  have cT := fun W => trim_call y W (by omega)
  obtain ⟨x, hx⟩ : ∃ x, x = strB (undot y.data.toList) := ⟨_, rfl⟩
  have hxd : x.data.toList = undot (lowS s.data.toList) := by rw [hx, hyd]; simp [strB]
  have hxs : x.size ≤ s.size := by
    rw [hx, strB_size]
    have := undot_len y.data.toList
    rw [size_list] at this
    omega
  rw [← hx] at cT
  obtain ⟨X, hX, cS⟩ := splitc_call 46 x (by omega)
  have hXl : 0 < X.length := by
    have := congrArg List.length hX
    rw [List.length_map] at this
    have h2 := List.length_pos_iff.2 (splitC_ne 46 x.data.toList)
    omega
  have hXn : X.length ≤ x.size + 1 := by
    have := congrArg List.length hX
    rw [List.length_map, splitC_len] at this
    have h2 := List.count_le_length (a := (46 : UInt8)) (l := x.data.toList)
    rw [size_list] at h2
    omega
  have hXz : ∀ z ∈ X, z.size ≤ 9223372036854775807 := by
    intro z hz
    have h1 : z.data.toList ∈ splitC 46 x.data.toList := by rw [← hX]; exact List.mem_map_of_mem hz
    have h2 := splitc_le 46 _ _ h1
    rw [size_list, size_list] at h2
    omega
  have HXD := Lib.hid hxd
  have HXX := Lib.hid hX
  have HXZ := Lib.hid hXz
  have HXS := Lib.hid hxs
  clear hO hy hyd hys hx hxd hX hXz
  go_enter Tryz.func17, Tryz.ntmps17
  go_wp2_with (go_at_call 37; refine stopc ?_)
  refine Stop.go ?_
  refine (cA _ HE.out.1 HE.out.2.1).mono ?_
  rintro e w6 ⟨a, rfl, hal, hsome, -, hs6⟩
  have HS6 := Lib.hid hs6
  have HAL := Lib.hid hal
  have HSO := Lib.hid hsome
  clear hs6 hal hsome
  go_wp2_with (refine wp_storeA rfl _ _ _ rfl rfl rfl (arr_new _ _ _ (zerosL 16) rfl) size_addr HAL.out rfl ?_; intro w7 hA7 hs7; refine stopw ?_)
  refine Stop.go ?_
  have HS7 := Lib.hid ((HS6.out.alloc _).then_ hs7 (fun k hk h => absurd h (by have := HS6.out.size; omega)))
  have HA7 := Lib.hid hA7
  clear hs7 hA7
  cases O with
  | true =>
    have HPA : Hid (parseA s.data.toList = some a) := Lib.hid (by
      cases hq : parseA s.data.toList with
      | none => have := HOV.out; rw [hq] at this; cases this
      | some b => rw [HSO.out b hq])
    have HD : Hid (normN s.data.toList = (printA a, 0)) := Lib.hid (by unfold normN; rw [HPA.out])
    have cP := fun W hW => aprint_any a HAL.out W hW
    go_wp2_with (with_reducible refine stop (N := 13) rfl ?_)
    refine Stop.go ?_
    refine wp_loadA rfl _ _ rfl rfl HA7.out Tryz.underlying76 size_addr HAL.out ?_
    go_wp2_with (go_at_call 38; refine stopc ?_)
    refine Stop.go ?_
    refine (cP _ (HE.out.step HS7.out)).mono ?_
    rintro e w9 ⟨rfl, hs9⟩
    have HS9 := Lib.hid (HS7.out.trans hs9)
    clear hs9
    go_wp2
    rw [HR.out, HD.out]
    exact ⟨rfl, HS9.out⟩
  | false =>
    have HDN : Hid (normN s.data.toList = nameN x.data.toList) := Lib.hid (by
      unfold normN
      cases hq : parseA s.data.toList with
      | none => rw [HXD.out]
      | some b => have := HOV.out; rw [hq] at this; cases this)
    go_wp2_with (go_at_call 40; refine stopc ?_)
    refine Stop.go ?_
    refine (cL _).mono ?_
    rintro e w8 ⟨rfl, hs8⟩
    have HS8 := Lib.hid (HS7.out.trans hs8)
    clear hs8
    go_wp2_with (go_at_call 39; refine stopc ?_)
    refine Stop.go ?_
    refine (cT _).mono ?_
    rintro e w8' ⟨rfl, rfl⟩
    go_wp2_with (go_at_call 41; refine stopc ?_)
    refine Stop.go ?_
    refine (cS _ (HE.out.1.step HS8.out)).mono ?_
    rintro e w9 ⟨g9, rfl, hg9, hs9, hb9⟩
    have HS9 := Lib.hid (HS8.out.trans hs9)
    have hrd : Rd str (fun _ => False) w9 (.slice (some ⟨g9, 0, none⟩) X.length X.length) X := plain_mk (Nat.le_refl _) (by unfold maxLen; omega) (fun _ => ⟨⟨g9, 0, none⟩, rfl, fun h => h, fun j hj => by
      by_cases h0 : j = 0
      · subst h0
        rw [addr_z, blk_cell hb9]
        simp [hj]
      · rw [addr_nz _ _ h0, blk_cell hb9]
        simp [hj]⟩)
    have HRD := Lib.hid hrd
    clear hs9 hb9 hrd
    by_cases h0 : x.data.toList = []
    · have ht : (x.toList == []) = true := by rw [list_eqb]; simp [h0]
      have HD : Hid (normN s.data.toList = ([], 8)) := Lib.hid (by rw [HDN.out]; unfold nameN; rw [if_pos h0])
      clear h0
      go_wp2
      rw [HR.out, HD.out]
      exact ⟨rfl, HS9.out⟩
    have ht : (x.toList == []) = false := by rw [list_eqb]; simp [h0]
    by_cases h253 : 253 < x.size
    · have hd : decide ((253 : Int) < (x.size : Int)) = true := decide_eq_true (by omega)
      have HD : Hid (normN s.data.toList = ([], 6)) := Lib.hid (by rw [HDN.out]; unfold nameN; rw [if_neg h0, if_pos (by rw [size_list]; exact h253)])
      clear h0 h253
      go_wp2
      rw [HR.out, HD.out]
      exact ⟨rfl, HS9.out⟩
    have hd : decide ((253 : Int) < (x.size : Int)) = false := decide_eq_false (by omega)
    have HDM : Hid (normN s.data.toList = if X.any (fun z => badL z.data.toList) = true ∨ anyS othR (X[X.length - 1]'(by omega)).data.toList = false then ([], 9) else (x.data.toList, 0)) := Lib.hid (by
      rw [HDN.out]
      unfold nameN
      rw [if_neg h0, if_neg (by rw [size_list]; exact h253), ← HXX.out, last_get X hXl, List.any_map]
      rfl)
    have cC := fun W hW => contf_any (fun _ => False) (.slice (some ⟨g9, 0, none⟩) X.length X.length) X W hW (by omega) HXZ.out
    obtain ⟨z, hz⟩ : ∃ z, z = X[X.length - 1]'(by omega) := ⟨_, rfl⟩
    have hcz : w9.cell? ⟨g9, X.length - 1, none⟩ = some (.string z) := by
      obtain ⟨ad, h1, -, h2⟩ := plain_cell HRD.out (X.length - 1) (by omega)
      injection h1 with h1
      rw [← h1] at h2
      rw [hz, ← h2]
      by_cases hj : X.length - 1 = 0
      · rw [hj, addr_z]
      · rw [addr_nz _ _ hj]
        simp
    have cO := fun W => anyOther z W
    obtain ⟨b, hb⟩ : ∃ b, b = X.any (fun z => badL z.data.toList) := ⟨_, rfl⟩
    obtain ⟨o, ho⟩ : ∃ o, o = anyS othR z.data.toList := ⟨_, rfl⟩
    rw [← hb] at cC
    rw [← ho] at cO
    have HDK : Hid (normN s.data.toList = if b = true ∨ o = false then ([], 9) else (x.data.toList, 0)) := Lib.hid (by rw [HDM.out, ← hb, ← hz, ← ho])
    have HCZ := Lib.hid hcz
    obtain ⟨n, hn⟩ : ∃ n, X.length = n + 1 := ⟨X.length - 1, by omega⟩
    have HN := Lib.hid hn
    clear hb ho hz h0 h253 hcz HDM hn
    cases b with
    | true =>
      have HD : Hid (normN s.data.toList = ([], 9)) := Lib.hid (by rw [HDK.out, if_pos (Or.inl rfl)])
      go_wp2_with (go_at_call 42; refine stopc ?_)
      refine Stop.go ?_
      refine (cC _ HRD.out).mono ?_
      rintro e w10 ⟨rfl, hs10⟩
      have HS10 := Lib.hid (HS9.out.trans hs10)
      clear hs10
      go_wp2
      rw [HR.out, HD.out]
      exact ⟨rfl, HS10.out⟩
    | false =>
      go_wp2_with (go_at_call 42; refine stopc ?_)
      refine Stop.go ?_
      refine (cC _ HRD.out).mono ?_
      rintro e w10 ⟨rfl, hs10⟩
      have HS10 := Lib.hid (HS9.out.trans hs10)
      have hcz : w10.cell? ⟨g9, n, none⟩ = some (.string z) := by
        have := hs10.cell HCZ.out (fun h => h)
        rw [HN.out] at this
        exact this
      have hw1 : IntKind.i64.wrap ((X.length : Int) - 1) = (n : Int) := by have := HN.out; rw [IntWalk.i64_in _ (by omega)]; omega
      have hlt : (n : Int) < (X.length : Int) := by have := HN.out; omega
      have hlt2 : n < X.length := by have := HN.out; omega
      clear hs10
      cases o with
      | true =>
        have HD : Hid (normN s.data.toList = (x.data.toList, 0)) := Lib.hid (by rw [HDK.out]; simp)
        go_wp2_with (go_at_call 44; refine stopc ?_)
        refine Stop.go ?_
        refine (cO _).mono ?_
        rintro e w11 ⟨rfl, hs11⟩
        have HS11 := Lib.hid (HS10.out.trans hs11)
        clear hs11
        go_wp2
        rw [HR.out, HD.out]
        exact ⟨by rw [strB_of']; rfl, HS11.out⟩
      | false =>
        have HD : Hid (normN s.data.toList = ([], 9)) := Lib.hid (by rw [HDK.out, if_pos (Or.inr rfl)])
        go_wp2_with (go_at_call 44; refine stopc ?_)
        refine Stop.go ?_
        refine (cO _).mono ?_
        rintro e w11 ⟨rfl, hs11⟩
        have HS11 := Lib.hid (HS10.out.trans hs11)
        clear hs11
        go_wp2
        rw [HR.out, HD.out]
        exact ⟨rfl, HS11.out⟩
end Go.Proofs.YtligofmhbbgalaaGreatDoor.L

/- Layer 15: rows that are cloned, and what a message tells. -/
namespace Go.Proofs.YtligofmhbbgalaaGreatDoor.L
open Go.RowKit Go.Proofs

/-- A clone: an own slice of the same. -/
def ClP {α : Type} (enc : α → Value) (t : TypeId) (w : World) (l : List α) (e : Ending) (w' : World) : Prop := ∃ v, e = .returned v ∧ Own enc t w.heap.size w' v l ∧ Stp (fun _ => False) w w'
set_option maxRecDepth 10000 in
set_option maxHeartbeats 1000000 in
theorem cloneS_any (M : Nat → Prop) (v0 : Value) (l : List ByteArray) (w : World) (h : Rd str M w v0 l) (hl : l.length ≤ 1000000000) :
    Calls Tryz.prog 56 #[v0] w (ClP Value.string 9 w l) := by
  obtain ⟨R, hR⟩ : ∃ R, R = ClP Value.string 9 w l := ⟨_, rfl⟩
  rw [← hR]
  have HR := Lib.hid hR
  obtain ⟨A, c, rfl, hle⟩ := h.form
  have H := Lib.hid h
  clear h hR
  have hnil := fun (w : World) (A : Option Addr) (n c : Nat) => Lib.run_eql_slice_nil (P := Tryz.prog) w 26 9 A n c 0 0 Tryz.underlying26
  cases A with
  | none =>
    have h0 : l = [] := by
      obtain ⟨_, _, _, hc⟩ := H.out.at_
      apply List.eq_nil_of_length_eq_zero
      rcases Nat.eq_zero_or_pos l.length with h | h
      · exact h
      · obtain ⟨ad, ha, _⟩ := hc h
        cases ha
    subst h0
    go_enter Tryz.func56, Tryz.ntmps56
    go_wp2
    rw [HR.out]
    exact ⟨_, rfl, Own.nil _ _ _ _, Stp.refl _ _⟩
  | some ad =>
    go_enter Tryz.func56, Tryz.ntmps56
    go_wp2_with (with_reducible refine stop (N := 7) rfl ?_)
    refine Stop.go ?_
    refine wp_appendRd Value.string (h1e := fun _ => rfl) rfl _ _ _ rfl Tryz.underlying26 info_str9 rfl (Own.lit (B := w.heap.size) ([] : List ByteArray) #[] rfl (by simp) (by simp)) (H.out.stp0 ((Stp.refl _ _).alloc _)) rfl rfl (by simp; omega) (by simp; omega) (by simp) ?_
    intro v1 w1 ho1 hg1
    rw [List.nil_append] at ho1
    have HO1 := Lib.hid ho1
    have HS1 := Lib.hid (((Stp.refl (fun _ => False) w).alloc _).grown hg1 (by
          intro k hk hlt
          simp [Value.ownBlock] at hk
          omega))
    clear ho1 hg1
    go_wp2
    rw [HR.out]
    exact ⟨_, rfl, HO1.out, HS1.out⟩
set_option maxRecDepth 10000 in
set_option maxHeartbeats 1000000 in
theorem cloneI_any (M : Nat → Prop) (v0 : Value) (l : List Int) (w : World) (h : Rd (int .i64) M w v0 l) (hl : l.length ≤ 1000000000) :
    Calls Tryz.prog 57 #[v0] w (ClP (Value.int .i64) 3 w l) := by
  obtain ⟨R, hR⟩ : ∃ R, R = ClP (Value.int .i64) 3 w l := ⟨_, rfl⟩
  rw [← hR]
  have HR := Lib.hid hR
  obtain ⟨A, c, rfl, hle⟩ := h.form
  have H := Lib.hid h
  clear h hR
  have hnil := fun (w : World) (A : Option Addr) (n c : Nat) => Lib.run_eql_slice_nil (P := Tryz.prog) w 27 3 A n c 0 0 Tryz.underlying27
  cases A with
  | none =>
    have h0 : l = [] := by
      obtain ⟨_, _, _, hc⟩ := H.out.at_
      apply List.eq_nil_of_length_eq_zero
      rcases Nat.eq_zero_or_pos l.length with h | h
      · exact h
      · obtain ⟨ad, ha, _⟩ := hc h
        cases ha
    subst h0
    go_enter Tryz.func57, Tryz.ntmps57
    go_wp2
    rw [HR.out]
    exact ⟨_, rfl, Own.nil _ _ _ _, Stp.refl _ _⟩
  | some ad =>
    go_enter Tryz.func57, Tryz.ntmps57
    go_wp2_with (with_reducible refine stop (N := 7) rfl ?_)
    refine Stop.go ?_
    refine wp_appendRd (Value.int .i64) (h1e := fun _ => rfl) rfl _ _ _ rfl Tryz.underlying27 info_int rfl (Own.lit (B := w.heap.size) ([] : List Int) #[] rfl (by simp) (by simp)) (H.out.stp0 ((Stp.refl _ _).alloc _)) rfl rfl (by simp; omega) (by simp; omega) (by simp) ?_
    intro v1 w1 ho1 hg1
    rw [List.nil_append] at ho1
    have HO1 := Lib.hid ho1
    have HS1 := Lib.hid (((Stp.refl (fun _ => False) w).alloc _).grown hg1 (by
          intro k hk hlt
          simp [Value.ownBlock] at hk
          omega))
    clear ho1 hg1
    go_wp2
    rw [HR.out]
    exact ⟨_, rfl, HO1.out, HS1.out⟩

/-! ### what a message tells -/
def seeT (b : List UInt8) : Sn × List UInt8 × Int :=
  if (parseS b).2 ≠ 0 then (.zero, [], (parseS b).2)
  else if (seeS (parseS b).1.exs).2 ≠ 0 ∨ (seeS (parseS b).1.exs).1.has = false then ((seeS (parseS b).1.exs).1, [], (seeS (parseS b).1.exs).2)
  else ((seeS (parseS b).1.exs).1, normN (seeS (parseS b).1.exs).1.name.data.toList)
theorem judgeT_see (b : List UInt8) : judgeT b = if (seeT b).2.2 ≠ 0 then .bad (seeT b).2.2 else ⟨1, 0, (seeT b).2.1, (seeT b).1⟩ := by
  unfold judgeT seeT
  by_cases h1 : (parseS b).2 ≠ 0
  · rw [if_pos h1, if_pos h1, if_pos h1]
  · rw [if_neg h1, if_neg h1]
    by_cases h2 : (seeS (parseS b).1.exs).2 ≠ 0
    · rw [if_pos h2, if_pos (Or.inl h2), if_pos h2]
    · rw [if_neg h2]
      have h2' : (seeS (parseS b).1.exs).2 = 0 := Classical.not_not.1 h2
      by_cases h3 : (seeS (parseS b).1.exs).1.has = false
      · rw [if_pos h3, if_pos (Or.inr h3)]
        simp only
        rw [if_neg h2]
      · rw [if_neg h3, if_neg (show ¬ ((seeS (parseS b).1.exs).2 ≠ 0 ∨ (seeS (parseS b).1.exs).1.has = false) from fun h => h.elim h2 h3)]
theorem parse_fit (b : List UInt8) : (parseS b).1.exs.length ≤ 1000000000 ∧ ∀ x ∈ (parseS b).1.exs, x.2.length ≤ 65535 := by
  have h6 : (rd6 b).1.length < 65536 := rvec_max _ 2
  obtain ⟨he1, he2⟩ := extS_fit (rd6 b).1
  have key : ((laidS b).getD hl0).exs.length ≤ 1000000000 ∧ ∀ x ∈ ((laidS b).getD hl0).exs, x.2.length ≤ 65535 := by
    refine ⟨(laid_fit2 b).2, ?_⟩
    unfold laidS
    split
    · split
      · intro x hx
        simp [hlF] at hx
      · split
        · intro x hx
          simp only [Option.getD_some, hlF] at hx
          have := (he2 x hx).1
          omega
        · intro x hx
          simp [hl0] at hx
    · intro x hx
      simp [hl0] at hx
  have z : (hl0).exs.length ≤ 1000000000 ∧ ∀ x ∈ hl0.exs, x.2.length ≤ 65535 := ⟨by simp [hl0], fun x hx => by simp [hl0] at hx⟩
  unfold parseS
  cases h : laidS b with
  | none => exact z
  | some x =>
    rw [h] at key
    simp only
    split
    · exact key
    · exact z
theorem nameS_size (d : List UInt8) : (nameS d).1.size ≤ 255 := by
  have z : (⟨#[]⟩ : ByteArray).size ≤ 255 := Nat.zero_le _
  unfold nameS
  split
  · unfold pickS
    split
    · exact z
    · rename_i x _
      split
      · rename_i h
        unfold mayB at h
        simp only [Bool.and_eq_true, decide_eq_true_eq] at h
        have := h.1
        rw [size_list] at this
        exact this
      · exact z
    · exact z
  · exact z
theorem see_name (xs : List (Int × List UInt8)) : (seeS xs).1.name.size ≤ 255 := by
  have z : (⟨#[]⟩ : ByteArray).size ≤ 255 := Nat.zero_le _
  have h : (nmP xs).1.size ≤ 255 := by
    unfold nmP
    split
    · exact nameS_size _
    · exact z
  unfold seeS
  split
  · exact z
  · split
    · exact z
    · split
      · exact z
      · exact h
theorem see_hl {M : Nat → Prop} {W : World} {cs : Array Value} {h : Hl} (hi : IsHl M W cs h) (hl : h.exs.length ≤ 1000000000) (hd : ∀ x ∈ h.exs, x.2.length ≤ 65535) :
    Calls Tryz.prog 99 #[.agg cs] W fun e w' => ∃ v, e = .returned (.tuple #[v, .int .i64 (seeS h.exs).2]) ∧ IsSn (fun k => k < W.heap.size) w' v (seeS h.exs).1 ∧ Stp (fun _ => False) W w' := by
  obtain ⟨vs, vc, vm, vx, e, hr, _, _, _, hx⟩ := hi
  obtain ⟨hs, -, -, -, -, -, h37⟩ := hl_get e hr
  obtain ⟨A, c, rfl, _⟩ := hx.form
  exact see_any M cs A c h.exs W hs (fun _ => h37) hx hl (fun x hx => Nat.le_trans (hd x hx) (by decide))
theorem results_row3 {P : Program} {fn : Func} {p u v : Tmp} {ty : TypeId} (h : fn.results = #[.cell p ty, .tmp u, .tmp v]) (tmps : Array Value) (w : World) (g : Nat) (t : TypeId) (cs : Array Value) (fr : Nat × Nat) (d : TypeDesc)
    (hp : tmps.getD p undef = .pointer (some ⟨g, 0, none⟩)) (hg : w.heap[g]? = some (.cells cs t fr))
    (hu : P.underlying ty = some d) (hd : (match d with | .struct _ | .array _ _ => true | _ => false) = true) (hi : (P.info? ty).map (·.size) = some cs.size) :
    (results fn tmps).run P w = .ok (.tuple #[.agg cs, tmps.getD u undef, tmps.getD v undef]) w := by
  have e : (results fn tmps).run P w = ((asAddr (tmps.getD p undef)).run P w).andThen fun a w₁ => ((loadVar ty a).run P w₁).andThen fun x w₂ => .ok (.tuple #[x, tmps.getD u undef, tmps.getD v undef]) w₂ := by
    simp only [results, h]
    simp [Sem.run_bind, Result.andThen]
  rw [e, hp]
  simp [asAddr, Result.andThen, run_loadVar_row w g t ty cs fr d hg hu hd hi]
theorem size_seen : (Tryz.prog.info? 29).map (·.size) = some 5 := by kernel_rfl
def sn0 : Array Value := #[.bool false, .string ⟨#[]⟩, .slice none 0 0, .slice none 0 0, .bool false]
/-- Five cells, written one by one. -/
theorem sn_set {w : World} {g : Nat} {a0 a1 a2 a3 a4 : Value} (h : w.heap[g]? = some (.cells #[a0, a1, a2, a3, a4] 29 (0, 0))) (v0 v1 v2 v3 v4 : Value) : (((((w.setCell ⟨g, 0, none⟩ v0).setCell ⟨g, 1, none⟩ v1).setCell ⟨g, 2, none⟩ v2).setCell ⟨g, 3, none⟩ v3).setCell ⟨g, 4, none⟩ v4).heap[g]? = some (.cells #[v0, v1, v2, v3, v4] 29 (0, 0)) := by
  have h2 := (blk_set (blk_set (blk_set (blk_set (blk_set h 0 v0) 1 v1) 2 v2) 3 v3) 4 v4)
  simp only [List.setIfInBounds_toArray, List.set_cons_zero, List.set_cons_succ] at h2
  exact h2
theorem sn_stp (w : World) (g : Nat) (v0 v1 v2 v3 v4 : Value) : Stp (fun k => k = g) w (((((w.setCell ⟨g, 0, none⟩ v0).setCell ⟨g, 1, none⟩ v1).setCell ⟨g, 2, none⟩ v2).setCell ⟨g, 3, none⟩ v3).setCell ⟨g, 4, none⟩ v4) := (((((Stp.refl (fun k => k = g) w).setg 0 v0).setg 1 v1).setg 2 v2).setg 3 v3).setg 4 v4
theorem sn_step {M S : Nat → Prop} {W W1 : World} {v : Value} {s : Sn} (h : IsSn M W v s) (hs : Stp S W W1) (hS : ∀ k, k < W.heap.size → S k → M k) : IsSn M W1 v s := by
  obtain ⟨va, vv, e, h1, h2⟩ := h
  exact ⟨va, vv, e, h1.step hs hS, h2.step hs hS⟩
def SeP (w : World) (r : Sn × List UInt8 × Int) (e : Ending) (w' : World) : Prop := ∃ v, e = .returned (.tuple #[v, .string (strB r.2.1), .int .i64 r.2.2]) ∧ IsSn (fun k => k < w.heap.size) w' v r.1 ∧ Stp (fun _ => False) w w'
set_option maxRecDepth 100000 in
set_option maxHeartbeats 8000000 in
theorem tsee_any (M : Nat → Prop) (vb : Value) (b : List UInt8) (w : World) (hb : Rd u8 M w vb b) (hl : b.length ≤ 1000000) (he : EnvP w) : Calls Tryz.prog 54 #[vb] w (SeP w (seeT b)) := by
  have cP := fun W hs => parseH_any M vb b W (hb.stp0 hs) (by omega)
  have hft := parse_fit b
  have hnm := see_name (parseS b).1.exs
  have hJ : seeT b = seeT b := rfl
  conv at hJ => rhs; unfold seeT
  unfold ParseRet at cP
  obtain ⟨p, hp⟩ : ∃ p, p = parseS b := ⟨_, rfl⟩
  rw [← hp] at cP hft hnm hJ
  obtain ⟨h, er⟩ := p
  simp only at cP hft hnm hJ
  obtain ⟨r, hr⟩ : ∃ r, r = seeT b := ⟨_, rfl⟩
  rw [← hr] at hJ ⊢
  obtain ⟨R, hR⟩ : ∃ R, R = SeP w r := ⟨_, rfl⟩
  rw [← hR]
  have HR := Lib.hid hR
  have HV := Lib.hid he
  have HF := Lib.hid hft
  have cN := fun W hW => norm_any (seeS h.exs).1.name W (by omega) hW
  have cS := fun (M : Nat → Prop) (W : World) (cs : Array Value) (hi : IsHl M W cs h) => see_hl hi HF.out.1 HF.out.2
  obtain ⟨s, hs⟩ : ∃ s, s = seeS h.exs := ⟨_, rfl⟩
  rw [← hs] at cN cS hJ
  obtain ⟨n, hn⟩ : ∃ n, n = normN s.1.name.data.toList := ⟨_, rfl⟩
  unfold NormP at cN
  rw [← hn] at cN hJ
  have HJ := Lib.hid hJ
  clear hb hl he hft hnm hp hJ hr hR hs hn
  obtain ⟨⟨has, nm, al, vs, ec⟩, es⟩ := s
  obtain ⟨ho, en⟩ := n
  simp only at cN cS
  go_enter Tryz.func54, Tryz.ntmps54
  go_wp2_with (go_at_call 98; refine stopc ?_)
  refine Stop.go ?_
  refine (cP _ ((Stp.refl _ _).alloc _)).mono ?_
  rintro e w1 ⟨cs, rfl, hi, hs1⟩
  have HB1 := Lib.hid (hs1.blk (heap_alloc_new w (.cells sn0 29)) id)
  have HS1 := Lib.hid (((Stp.refl (fun _ => False) w).alloc (.cells sn0 29)).trans hs1)
  obtain ⟨g, hg⟩ : ∃ g, g = w.heap.size := ⟨_, rfl⟩
  rw [← hg] at HB1
  simp only [← hg]
  have HGW := Lib.hid hg
  clear hs1 hg cP
  obtain ⟨hbx, heq, w2, hw, hc, hs⟩ := box_hl w1 cs hi.size
  rw [hlV0] at hbx heq hw
  have HBX := Lib.hid hbx
  have HEQ := Lib.hid heq
  have HW := Lib.hid hw
  have HZ := Lib.hid hi.info
  have HON := Lib.hid hi.one
  have HC2 := Lib.hid hc
  have HI2 := Lib.hid (hi.stp0 hs)
  have HB2 := Lib.hid (hs.blk HB1.out id)
  have HS2 := Lib.hid (HS1.out.trans hs)
  clear hbx heq hw hc hs hi
  go_wp2_with (refine wpList_store_row rfl _ _ _ rfl w1.heap.size cs rfl rfl _ _ HBX.out HZ.out HEQ.out HON.out ?_; rw [HW.out]; refine stopw9 ?_)
  refine Stop.go ?_
  have c0 : w2.cell? ⟨g, 0, none⟩ = some (.bool false) := blk_cell (j := 0) HB2.out
  have c1 : w2.cell? ⟨g, 1, none⟩ = some (.string ⟨#[]⟩) := blk_cell (j := 1) HB2.out
  have c2 : w2.cell? ⟨g, 2, none⟩ = some (.slice none 0 0) := blk_cell (j := 2) HB2.out
  have c3 : w2.cell? ⟨g, 3, none⟩ = some (.slice none 0 0) := blk_cell (j := 3) HB2.out
  have c4 : w2.cell? ⟨g, 4, none⟩ = some (.bool false) := blk_cell (j := 4) HB2.out
  have f0 := blk_free HB2.out 0
  have f1 := blk_free HB2.out 1
  have f2 := blk_free HB2.out 2
  have f3 := blk_free HB2.out 3
  have f4 := blk_free HB2.out 4
  have hlt := blk_lt HB2.out
  obtain ⟨gh, hgh⟩ : ∃ gh, gh = w1.heap.size := ⟨_, rfl⟩
  rw [← hgh] at HC2 ⊢
  clear HBX HEQ HW HON hgh
  by_cases h0 : er = 0
  · subst h0
    go_wp2_with (with_reducible refine stop (N := 16) rfl ?_)
    refine Stop.go ?_
    refine wpList_load_row rfl _ _ rfl gh rfl _ cs (0, 0) _ HC2.out Tryz.underlying69 rfl HZ.out ?_
    go_wp2_with (go_at_call 99; refine stopc ?_)
    refine Stop.go ?_
    refine (cS _ _ cs HI2.out).mono ?_
    rintro e w3 ⟨v3, rfl, hv3, hs3⟩
    have HV3 := Lib.hid hv3
    have HG2 := Lib.hid hlt
    have HS3 := Lib.hid (HS2.out.trans hs3)
    have HB3 := Lib.hid (hs3.blk HB2.out id)
    obtain ⟨va, vv, rfl, ha, hvv⟩ := HV3.out
    obtain ⟨Aa, ca, rfl, -⟩ := ha.form
    obtain ⟨Av, cv, rfl, -⟩ := hvv.form
    clear hv3 hs3 c0 c1 c2 c3 c4 f0 f1 f2 f3 f4 hlt ha hvv HB2 HC2 HI2 HZ
    have c0 : w3.cell? ⟨g, 0, none⟩ = some (.bool false) := blk_cell (j := 0) HB3.out
    have c1 : w3.cell? ⟨g, 1, none⟩ = some (.string ⟨#[]⟩) := blk_cell (j := 1) HB3.out
    have c2 : w3.cell? ⟨g, 2, none⟩ = some (.slice none 0 0) := blk_cell (j := 2) HB3.out
    have c3 : w3.cell? ⟨g, 3, none⟩ = some (.slice none 0 0) := blk_cell (j := 3) HB3.out
    have c4 : w3.cell? ⟨g, 4, none⟩ = some (.bool false) := blk_cell (j := 4) HB3.out
    have f0 := blk_free HB3.out 0
    have f1 := blk_free HB3.out 1
    have f2 := blk_free HB3.out 2
    have f3 := blk_free HB3.out 3
    have f4 := blk_free HB3.out 4
    have hlt := blk_lt HB3.out
    by_cases h1 : es = 0
    · subst h1
      cases has with
      | true =>
        have HJ2 : Hid (r = (⟨true, nm, al, vs, ec⟩, ho, en)) := Lib.hid (by rw [HJ.out, if_neg (by simp), if_neg (by simp)])
        have cN := cN _ (HV.out.step (HS3.out.then_ (sn_stp w3 g (.bool true) (.string nm) (.slice Aa al.length ca) (.slice Av vs.length cv) (.bool ec)) (fun k hk h => by have := HGW.out; omega)))
        go_wp2_with (go_at_call 17; refine stopc ?_)
        refine Stop.go ?_
        refine cN.mono ?_
        rintro e w4 ⟨rfl, hs4⟩
        have HB4 := Lib.hid (hs4.blk (sn_set HB3.out (.bool true) (.string nm) (.slice Aa al.length ca) (.slice Av vs.length cv) (.bool ec)) id)
        have HS4 := Lib.hid ((HS3.out.then_ (sn_stp w3 g (.bool true) (.string nm) (.slice Aa al.length ca) (.slice Av vs.length cv) (.bool ec)) (fun k hk h => by have := HGW.out; omega)).trans hs4)
        have HV4 := Lib.hid ((sn_step HV3.out (sn_stp w3 g (.bool true) (.string nm) (.slice Aa al.length ca) (.slice Av vs.length cv) (.bool ec)) (fun k _ h => by have := HG2.out; omega)).stp0 hs4)
        clear hs4 cN c0 c1 c2 c3 c4 f0 f1 f2 f3 f4 hlt HB3 HV3
        have c0 : w4.cell? ⟨g, 0, none⟩ = some (.bool true) := blk_cell (j := 0) HB4.out
        have c1 : w4.cell? ⟨g, 1, none⟩ = some (.string nm) := blk_cell (j := 1) HB4.out
        have c2 : w4.cell? ⟨g, 2, none⟩ = some (.slice Aa al.length ca) := blk_cell (j := 2) HB4.out
        have c3 : w4.cell? ⟨g, 3, none⟩ = some (.slice Av vs.length cv) := blk_cell (j := 3) HB4.out
        have c4 : w4.cell? ⟨g, 4, none⟩ = some (.bool ec) := blk_cell (j := 4) HB4.out
        have f0 := blk_free HB4.out 0
        have f1 := blk_free HB4.out 1
        have f2 := blk_free HB4.out 2
        have f3 := blk_free HB4.out 3
        have f4 := blk_free HB4.out 4
        have hlt := blk_lt HB4.out
        go_wp2
        refine bodyPost_ret (results_row3 rfl _ _ g _ _ _ _ rfl (sn_set HB4.out _ _ _ _ _) Tryz.underlying29 rfl size_seen) rfl ?_
        rw [HR.out, HJ2.out]
        exact ⟨_, rfl, (sn_step HV4.out (sn_stp w4 g _ _ _ _ _) (fun k _ h => by have := HG2.out; omega)).weak _ (fun k _ h => by have := HS2.out.size; omega), HS4.out.then_ (sn_stp w4 g _ _ _ _ _) (fun k hk h => by have := HGW.out; omega)⟩
      | false =>
        have HJ2 : Hid (r = (⟨false, nm, al, vs, ec⟩, [], 0)) := Lib.hid (by rw [HJ.out, if_neg (by simp), if_pos (Or.inr rfl)])
        go_wp2
        refine bodyPost_ret (results_row3 rfl _ _ g _ _ _ _ rfl (sn_set (sn_set HB3.out _ _ _ _ _) _ _ _ _ _) Tryz.underlying29 rfl size_seen) rfl ?_
        rw [HR.out, HJ2.out]
        exact ⟨_, rfl, (sn_step (sn_step HV3.out (sn_stp w3 g _ _ _ _ _) (fun k _ h => by have := HG2.out; omega)) (sn_stp _ g _ _ _ _ _) (fun k _ h => by have := HG2.out; omega)).weak _ (fun k _ h => by have := HS2.out.size; omega), (HS3.out.then_ (sn_stp w3 g _ _ _ _ _) (fun k hk h => by have := HGW.out; omega)).then_ (sn_stp _ g _ _ _ _ _) (fun k hk h => by have := HGW.out; omega)⟩
    · have hne : (es != 0) = true := by simpa using h1
      have HJ2 : Hid (r = (⟨has, nm, al, vs, ec⟩, [], es)) := Lib.hid (by rw [HJ.out, if_neg (by simp), if_pos (Or.inl h1)])
      clear h1
      go_wp2
      refine bodyPost_ret (results_row3 rfl _ _ g _ _ _ _ rfl (sn_set (sn_set HB3.out _ _ _ _ _) _ _ _ _ _) Tryz.underlying29 rfl size_seen) rfl ?_
      rw [HR.out, HJ2.out]
      exact ⟨_, rfl, (sn_step (sn_step HV3.out (sn_stp w3 g _ _ _ _ _) (fun k _ h => by have := HG2.out; omega)) (sn_stp _ g _ _ _ _ _) (fun k _ h => by have := HG2.out; omega)).weak _ (fun k _ h => by have := HS2.out.size; omega), (HS3.out.then_ (sn_stp w3 g _ _ _ _ _) (fun k hk h => by have := HGW.out; omega)).then_ (sn_stp _ g _ _ _ _ _) (fun k hk h => by have := HGW.out; omega)⟩
  · have hne : (er != 0) = true := by simpa using h0
    have HJ2 : Hid (r = (.zero, [], er)) := Lib.hid (by rw [HJ.out, if_pos h0])
    clear h0
    go_wp2
    refine bodyPost_ret (results_row3 rfl _ _ g _ _ _ _ rfl (sn_set HB2.out _ _ _ _ _) Tryz.underlying29 rfl size_seen) rfl ?_
    rw [HR.out, HJ2.out]
    exact ⟨_, rfl, ⟨_, _, rfl, Rd.nil _ _ _, Rd.nil _ _ _⟩, HS2.out.then_ (sn_stp w2 g _ _ _ _ _) (fun k hk h => by have := HGW.out; omega)⟩
end Go.Proofs.YtligofmhbbgalaaGreatDoor.L
