/- Layer 14: what may stand in a name. -/
import Derived.Test.YtgjmaifgkgejgaaGreatDoorVi
import Derived.Test.YtgjmaifgkgejgaaGreatDoorNp
set_option linter.unusedVariables false
set_option linter.unusedSimpArgs false
namespace Go.Proofs.YtgjmaifgkgejgaaGreatDoor.L
open Go.RowKit Go.Proofs

theorem idx_anyH (p : Nat → Bool) (hp : ∀ r, 128 ≤ r → p r = true) (s : ByteArray) (f pos : Nat) (h : s.size ≤ pos + f) :
    decide (0 ≤ Lib.idxFuncFrom p true s f pos) = (s.data.toList.drop pos).any (fun b => p b.toNat) := by
  induction f generalizing pos with
  | zero =>
    rw [List.drop_of_length_le (by rw [size_list]; omega)]
    rfl
  | succ f ih =>
    unfold Lib.idxFuncFrom
    by_cases hlt : pos < s.size
    · rw [if_pos hlt]
      have hl : pos < s.data.toList.length := by rw [size_list]; exact hlt
      rw [List.drop_eq_getElem_cons hl, List.any_cons]
      have e : s.data.toList[pos] = s[pos] := rfl
      rw [e]
      by_cases hlow : (s[pos]).toNat < 128
      · rw [decode_low s pos hlt hlow]
        simp only
        cases hc : p (s[pos]).toNat with
        | true => simp
        | false =>
          rw [if_neg (by decide), ih (pos + 1) (by omega), Bool.false_or]
      · have hh := decode_high s pos hlt hlow
        rw [hp _ hh, hp _ (Nat.not_lt.1 hlow)]
        simp
    · rw [if_neg hlt, List.drop_of_length_le (by rw [size_list]; omega)]
      rfl
theorem idx_anySH (p : Nat → Bool) (hp : ∀ r, 128 ≤ r → p r = true) (s : ByteArray) : decide (0 ≤ Lib.idxFunc p true s) = anyS p s.data.toList := by
  unfold Lib.idxFunc anyS
  rw [idx_anyH p hp s _ 0 (by omega)]
  rfl
theorem other_any (x : Nat) (w : World) : Calls Tryz.prog 42 #[.int .i32 (x : Int)] w fun e w' => e = .returned (.bool (othR x)) ∧ w' = w := by
  obtain ⟨b, hb⟩ : ∃ b, b = othR x := ⟨_, rfl⟩
  rw [← hb]
  have HB := Lib.hid hb
  clear hb
  by_cases h1 : x < 48
  · go_enter Tryz.func42, Tryz.ntmps42
    go_wp2
    go_ret
    exact ⟨ret_b (by rw [HB.out]; simp [othR, h1]), rfl⟩
  · by_cases h2 : 57 < x
    · go_enter Tryz.func42, Tryz.ntmps42
      go_wp2
      go_ret
      exact ⟨ret_b (by rw [HB.out]; simp [othR, h1, h2]; try omega), rfl⟩
    · go_enter Tryz.func42, Tryz.ntmps42
      go_wp2
      go_ret
      exact ⟨ret_b (by rw [HB.out]; unfold othR; rw [decide_eq_false h1, decide_eq_false h2] <;> simp <;> omega), rfl⟩
theorem bad_cases (x : Nat) : (97 ≤ x ∧ x ≤ 122) ∨ (65 ≤ x ∧ x ≤ 90) ∨ x = 45 ∨ x = 95 ∨ (x < 65 ∧ x ≠ 45) ∨ (91 ≤ x ∧ x < 97 ∧ x ≠ 95) ∨ 123 ≤ x := by omega
set_option maxRecDepth 100000 in
set_option maxHeartbeats 4000000 in
theorem nstrange_any (x : Nat) (w : World) : Calls Tryz.prog 84 #[.int .i32 (x : Int)] w fun e w' => e = .returned (.bool (badR x)) ∧ w' = w := by
  obtain ⟨b, hb⟩ : ∃ b, b = badR x := ⟨_, rfl⟩
  rw [← hb]
  rcases bad_cases x with ⟨h1, h2⟩ | ⟨h1, h2⟩ | h1 | h1 | ⟨h1, h2⟩ | ⟨h1, h2, h3⟩ | h1
  · have HB := Lib.hid (show b = false by rw [hb, badR, show decide (97 ≤ x) = true by simpa using h1, show decide (x ≤ 122) = true by simpa using h2]; rfl)
    clear hb
    go_enter Tryz.func84, Tryz.ntmps84
    go_wp2
    go_ret
    exact ⟨ret_b HB.out.symm, rfl⟩
  · have HB := Lib.hid (show b = false by rw [hb, badR, show decide (65 ≤ x) = true by simpa using h1, show decide (x ≤ 90) = true by simpa using h2]; simp)
    clear hb
    have h3 : x < 97 := by omega
    go_enter Tryz.func84, Tryz.ntmps84
    go_wp2
    go_ret
    exact ⟨ret_b HB.out.symm, rfl⟩
  · have HB := Lib.hid (show b = false by rw [hb, h1]; rfl)
    clear hb
    subst h1
    go_enter Tryz.func84, Tryz.ntmps84
    go_wp2
    go_ret
    exact ⟨ret_b HB.out.symm, rfl⟩
  · have HB := Lib.hid (show b = false by rw [hb, h1]; rfl)
    clear hb
    subst h1
    go_enter Tryz.func84, Tryz.ntmps84
    go_wp2
    go_ret
    exact ⟨ret_b HB.out.symm, rfl⟩
  all_goals
    have n1 : (decide (97 ≤ x) && decide (x ≤ 122)) = false := by simp; omega
    have n2 : (decide (65 ≤ x) && decide (x ≤ 90)) = false := by simp; omega
    have n3 : decide (x = 45) = false := by simp; omega
    have n4 : decide (x = 95) = false := by simp; omega
    have HB := Lib.hid (show b = othR x by rw [hb, badR, n1, n2, n3, n4]; rfl)
    have e45 : ((x : Int) == 45) = false := by simp; omega
    have e95 : ((x : Int) == 95) = false := by simp; omega
    clear hb n1 n2 n3 n4
    go_enter Tryz.func84, Tryz.ntmps84
    go_wp2_with (go_at_call 42; refine (other_any _ _).mono ?_; rintro e w' ⟨rfl, rfl⟩)
    go_ret
    exact ⟨ret_b (by rw [HB.out] <;> first | rfl | (rw [show decide ((x : Int) ≤ 90) = false from decide_eq_false (by omega)] <;> rfl) | (rw [show decide ((x : Int) ≤ 122) = false from decide_eq_false (by omega), show decide ((x : Int) ≤ 90) = false from decide_eq_false (by omega)] <;> rfl)), rfl⟩
theorem anyOther (s : ByteArray) (w : World) :
    Calls Tryz.prog 29 #[.string s, .func (.func 42) #[] #[]] w fun e w' => e = .returned (.bool (anyS othR s.data.toList)) ∧ Stp (fun _ => False) w w' :=
  (Tryz.strings_ContainsFunc_runes 42 #[] (enters_of Tryz.func42 (by kernel_rfl) rfl) othR s w (fun W x _ _ => (other_any x W).mono fun e w' ⟨h1, h2⟩ => ⟨h1, 0, h2⟩)).mono fun e w' ⟨h1, h2⟩ => ⟨by rw [h1, idx_anySH othR othR_high], Stp.of_below h2⟩
theorem anyNStrange (s : ByteArray) (w : World) :
    Calls Tryz.prog 29 #[.string s, .func (.func 84) #[] #[]] w fun e w' => e = .returned (.bool (anyS badR s.data.toList)) ∧ Stp (fun _ => False) w w' :=
  (Tryz.strings_ContainsFunc_runes 84 #[] (enters_of Tryz.func84 (by kernel_rfl) rfl) badR s w (fun W x _ _ => (nstrange_any x W).mono fun e w' ⟨h1, h2⟩ => ⟨h1, 0, h2⟩)).mono fun e w' ⟨h1, h2⟩ => ⟨by rw [h1, idx_anySH badR badR_high], Stp.of_below h2⟩
theorem suffix_one (l : List UInt8) (c : UInt8) : Lib.hasSuffix l [c] = decide (l.getLast? = some c) := by
  unfold Lib.hasSuffix
  rw [Bool.eq_iff_iff, List.isSuffixOf_iff_suffix, decide_eq_true_iff]
  constructor
  · rintro ⟨a, rfl⟩
    exact List.getLast?_concat
  · intro h
    obtain ⟨a, rfl⟩ := List.getLast?_eq_some_iff.1 h
    exact ⟨a, rfl⟩
theorem hass_call (s : ByteArray) (c : UInt8) (w : World) (hs : s.size ≤ 9223372036854775807) : Calls Tryz.prog 85 #[.string s, .string ⟨#[c]⟩] w fun e w' => e = .returned (.bool (decide (s.data.toList.getLast? = some c))) ∧ w' = w := by
  rw [← suffix_one]
  exact Tryz.strings_HasSuffix s ⟨#[c]⟩ w hs
theorem badl_any (s : ByteArray) (w : World) (hs : s.size ≤ 9223372036854775807) : Calls Tryz.prog 41 #[.string s] w fun e w' => e = .returned (.bool (badL s.data.toList)) ∧ Stp (fun _ => False) w w' := by
  obtain ⟨b, hb⟩ : ∃ b, b = badL s.data.toList := ⟨_, rfl⟩
  rw [← hb]
  have hsl := size_list s
  by_cases h0 : s.data.toList = []
  · have ht : (s.toList == []) = true := by rw [list_eqb]; simp [h0]
    have HB := Lib.hid (show b = true by rw [hb, h0]; rfl)
    clear hb h0
    go_enter Tryz.func41, Tryz.ntmps41
    go_wp2
    go_ret
    exact ⟨ret_b HB.out.symm, Stp.refl _ _⟩
  have ht : (s.toList == []) = false := by rw [list_eqb]; simp [h0]
  have hn0 : s.data.toList.isEmpty = false := by cases h : s.data.toList with
    | nil => exact absurd h h0
    | cons a r => rfl
  by_cases h63 : 63 < s.size
  · have HB := Lib.hid (show b = true by rw [hb, badL, hsl, decide_eq_true h63]; simp)
    have d63 : decide ((63 : Int) < (s.size : Int)) = true := decide_eq_true (by omega)
    clear hb h0 h63 hn0 hsl
    go_enter Tryz.func41, Tryz.ntmps41
    go_wp2
    go_ret
    exact ⟨ret_b HB.out.symm, Stp.refl _ _⟩
  have d63 : decide ((63 : Int) < (s.size : Int)) = false := decide_eq_false (by omega)
  have cs := fun W => anyNStrange s W
  have cp := fun W => hasp_call s 45 W
  have cx := fun W => hass_call s 45 W hs
  obtain ⟨a, ha⟩ : ∃ a, a = anyS badR s.data.toList := ⟨_, rfl⟩
  obtain ⟨p, hp⟩ : ∃ p, p = decide (s.data.toList[0]? = some 45) := ⟨_, rfl⟩
  obtain ⟨x, hx⟩ : ∃ x, x = decide (s.data.toList.getLast? = some 45) := ⟨_, rfl⟩
  have HB := Lib.hid (show b = (a || p || x) by rw [hb, badL, hn0, hsl, decide_eq_false h63, ha, hp, hx]; rfl)
  rw [← ha] at cs
  rw [← hp] at cp
  rw [← hx] at cx
  clear hb h0 h63 hn0 hsl ha hp hx
  cases a with
  | true =>
    go_enter Tryz.func41, Tryz.ntmps41
    go_wp2_with (go_at_call 29; refine stopc ?_)
    refine Stop.go ?_
    refine (cs _).mono ?_
    rintro e w1 ⟨rfl, hs1⟩
    go_wp2
    go_ret
    exact ⟨ret_b HB.out.symm, hs1⟩
  | false =>
    cases p with
    | true =>
      go_enter Tryz.func41, Tryz.ntmps41
      go_wp2_with (go_at_call 29; refine stopc ?_)
      refine Stop.go ?_
      refine (cs _).mono ?_
      rintro e w1 ⟨rfl, hs1⟩
      go_wp2_with (go_at_call 67; refine stopc ?_)
      refine Stop.go ?_
      refine (cp _).mono ?_
      rintro e w2 ⟨rfl, rfl⟩
      go_wp2
      go_ret
      exact ⟨ret_b HB.out.symm, hs1⟩
    | false =>
      go_enter Tryz.func41, Tryz.ntmps41
      go_wp2_with (go_at_call 29; refine stopc ?_)
      refine Stop.go ?_
      refine (cs _).mono ?_
      rintro e w1 ⟨rfl, hs1⟩
      go_wp2_with (go_at_call 67; refine stopc ?_)
      refine Stop.go ?_
      refine (cp _).mono ?_
      rintro e w2 ⟨rfl, rfl⟩
      go_wp2_with (go_at_call 85; refine stopc ?_)
      refine Stop.go ?_
      refine (cx _).mono ?_
      rintro e w3 ⟨rfl, rfl⟩
      go_wp2
      go_ret
      exact ⟨ret_b HB.out.symm, hs1⟩
end Go.Proofs.YtgjmaifgkgejgaaGreatDoor.L

/-! Layer 14: a name's one form. -/
namespace Go.Proofs.YtgjmaifgkgejgaaGreatDoor.L
open Go.RowKit Go.Proofs

def AnyP (w : World) (X : List ByteArray) (e : Ending) (w' : World) : Prop := ∃ n : Int, e = .returned (.int .i64 n) ∧ decide (0 ≤ n) = X.any (fun x => badL x.data.toList) ∧ Stp (fun _ => False) w w'
theorem any_take (X : List ByteArray) (k : Nat) (h : ∀ j (hj : j < X.length), j < k → badL (X[j]).data.toList = false) (hk : X.length ≤ k) : X.any (fun x => badL x.data.toList) = false := by
  rw [List.any_eq_false]
  intro x hx
  obtain ⟨j, hj, rfl⟩ := List.mem_iff_getElem.1 hx
  rw [h j hj (by omega)]
  decide
theorem any_hit (X : List ByteArray) (k : Nat) (hk : k < X.length) (h : badL (X[k]).data.toList = true) : X.any (fun x => badL x.data.toList) = true := by
  rw [List.any_eq_true]
  exact ⟨X[k], List.getElem_mem hk, h⟩
set_option maxRecDepth 100000 in
set_option maxHeartbeats 4000000 in
theorem idxf_any (M : Nat → Prop) (v : Value) (X : List ByteArray) (w : World) (hx : Rd str M w v X) (hl : X.length ≤ 9223372036854775800) (hz : ∀ x ∈ X, x.size ≤ 9223372036854775807) :
    Calls Tryz.prog 83 #[v, .func (.func 41) #[] #[]] w (AnyP w X) := by
  obtain ⟨A, c, rfl, hle⟩ := hx.form
  have hcm := hx.at_.2.2.1
  unfold maxLen at hcm
  obtain ⟨R, hR⟩ : ∃ R, R = AnyP w X := ⟨_, rfl⟩
  rw [← hR]
  have HR := Lib.hid hR
  have HX := Lib.hid hx
  have HZ := Lib.hid hz
  clear hR hx hz
  have eg := enters_of (P := Tryz.prog) Tryz.func41 (by kernel_rfl) rfl
  go_enter Tryz.func83, Tryz.ntmps83
  go_wp2
  go_loopg [5, 8] X.length (fun gf _ i wr => ∃ k : Nat, k + gf = X.length ∧ i = .int .i64 k ∧ (∀ j (hj : j < X.length), j < k → badL (X[j]).data.toList = false) ∧ Stp (fun _ => False) w wr)
  case atStart => exact ⟨0, by omega, rfl, fun j hj h => absurd h (by omega), Stp.refl _ _⟩
  case round =>
    obtain ⟨k, hk, rfl, hall, hst⟩ := hrel
    have HALL := Lib.hid hall
    have HST := Lib.hid hst
    clear hall hst
    by_cases hlt : k < X.length
    · obtain ⟨ad, rfl, -, hc⟩ := plain_cell (HX.out.stp0 HST.out) k hlt
      obtain ⟨y, hy⟩ : ∃ y, y = X[k] := ⟨_, rfl⟩
      rw [← hy] at hc
      have cb := fun W => badl_any y W (by rw [hy]; exact HZ.out _ (List.getElem_mem hlt))
      obtain ⟨b, hb⟩ : ∃ b, b = badL y.data.toList := ⟨_, rfl⟩
      rw [← hb] at cb
      have HY := Lib.hid hy
      have HB := Lib.hid hb
      have hin : (k : Int) < (X.length : Int) := by omega
      have hw : IntKind.i64.wrap ((k : Int) + 1) = (k : Int) + 1 := IntWalk.i64_in _ (by omega)
      clear hy hb
      cases b with
      | true =>
        go_wp2_with (go_at_call 41; refine (cb _).mono ?_; rintro e w1 ⟨rfl, hs1⟩; have HS1 := Lib.hid (HST.out.trans hs1); clear hs1)
        rw [HR.out]
        exact ⟨_, rfl, by rw [any_hit X k hlt (by rw [← HY.out, ← HB.out])]; simp, HS1.out⟩
      | false =>
        obtain ⟨g', rfl⟩ : ∃ g', gk = g' + 1 := ⟨gk - 1, by omega⟩
        go_wp2_with (go_at_call 41; refine (cb _).mono ?_; rintro e w1 ⟨rfl, hs1⟩; have HS1 := Lib.hid (HST.out.trans hs1); clear hs1)
        go_roundg g'
        case measure => omega
        case rel =>
          refine ⟨k + 1, by omega, by go_num, fun j hj h1 => ?_, HS1.out⟩
          by_cases hjk : j = k
          · subst hjk
            rw [← HY.out, ← HB.out]
          · exact HALL.out j hj (by omega)
    · go_wp2
      rw [HR.out]
      exact ⟨_, rfl, by rw [any_take X k HALL.out (by omega)]; decide, HST.out⟩
theorem contf_any (M : Nat → Prop) (v : Value) (X : List ByteArray) (w : World) (hx : Rd str M w v X) (hl : X.length ≤ 9223372036854775800) (hz : ∀ x ∈ X, x.size ≤ 9223372036854775807) :
    Calls Tryz.prog 40 #[v, .func (.func 41) #[] #[]] w fun e w' => e = .returned (.bool (X.any (fun x => badL x.data.toList))) ∧ Stp (fun _ => False) w w' := by
  have ci := fun W hW => idxf_any M v X W (hx.stp0 hW) hl hz
  obtain ⟨A, c, rfl, hle⟩ := hx.form
  obtain ⟨b, hb⟩ : ∃ b, b = X.any (fun x => badL x.data.toList) := ⟨_, rfl⟩
  rw [← hb]
  unfold AnyP at ci
  rw [← hb] at ci
  clear hb hx hz
  go_enter Tryz.func40, Tryz.ntmps40
  go_wp2_with (go_at_call 83; refine stopc ?_)
  refine Stop.go ?_
  refine (ci _ (Stp.refl _ _)).mono ?_
  rintro e w1 ⟨n, rfl, hn, hs1⟩
  have HN := Lib.hid hn
  have HS1 := Lib.hid hs1
  clear hn hs1
  by_cases h0 : 0 ≤ n
  · have HB := Lib.hid (show b = true by rw [← HN.out]; exact decide_eq_true h0)
    go_wp2
    go_ret
    exact ⟨ret_b (by rw [HB.out] <;> (simp; try omega)), HS1.out⟩
  · have HB := Lib.hid (show b = false by rw [← HN.out]; exact decide_eq_false h0)
    go_wp2
    go_ret
    exact ⟨ret_b (by rw [HB.out] <;> (simp; try omega)), HS1.out⟩

def NormP (w : World) (r : List UInt8 × Int) (e : Ending) (w' : World) : Prop := e = .returned (.tuple #[.string (strB r.1), .int .i64 r.2]) ∧ Stp (fun _ => False) w w'
theorem last_get (X : List ByteArray) (h : 0 < X.length) : lastC (X.map (·.data.toList)) = (X[X.length - 1]'(by omega)).data.toList := by
  unfold lastC
  rw [List.getLast?_eq_getElem?, List.length_map, List.getElem?_map, List.getElem?_eq_getElem (by omega)]
  rfl

theorem trim_call (s : ByteArray) (w : World) (hs : s.size ≤ 9223372036854775807) : Calls Tryz.prog 38 #[.string s, .string ⟨#[46]⟩] w fun e w' => e = .returned (.string (strB (undot s.data.toList))) ∧ w' = w := by
  rw [← undot_trim]
  exact Tryz.strings_TrimSuffix s ⟨#[46]⟩ w hs
set_option maxRecDepth 100000 in
set_option maxHeartbeats 8000000 in
theorem norm_any (s : ByteArray) (w : World) (hs : s.size < 4294967280) (he : EnvP w) : Calls Tryz.prog 18 #[.string s] w (NormP w (normN s.data.toList)) := by
  obtain ⟨R, hR⟩ : ∃ R, R = NormP w (normN s.data.toList) := ⟨_, rfl⟩
  rw [← hR]
  have HR := Lib.hid hR
  have HE := Lib.hid he
  clear hR he
  have hsl := size_list s
  have cA := fun W hM hA => aparse_any s W (by omega) hM hA
  obtain ⟨O, hO⟩ : ∃ O, O = (parseA s.data.toList).isSome := ⟨_, rfl⟩
  unfold AdrP at cA
  simp only [← hO] at cA
  have HOV := Lib.hid hO
  have cL := fun W => lower_any s W (by omega)
  obtain ⟨y, hy⟩ : ∃ y, y = strB (lowS s.data.toList) := ⟨_, rfl⟩
  have hyd : y.data.toList = lowS s.data.toList := by rw [hy]; simp [strB]
  have hys : y.size = s.size := by rw [hy, strB_size, lowS_len, size_list]
  simp only [← hy] at cL
  have cT := fun W => trim_call y W (by omega)
  obtain ⟨x, hx⟩ : ∃ x, x = strB (undot y.data.toList) := ⟨_, rfl⟩
  have hxd : x.data.toList = undot (lowS s.data.toList) := by rw [hx, hyd]; simp [strB]
  have hxs : x.size ≤ s.size := by
    rw [hx, strB_size]
    have := undot_len y.data.toList
    rw [size_list] at this
    omega
  rw [← hx] at cT
  obtain ⟨X, hX, cS⟩ := splitc_call 46 x (by omega)
  have hXl : 0 < X.length := by
    have := congrArg List.length hX
    rw [List.length_map] at this
    have h2 := List.length_pos_iff.2 (splitC_ne 46 x.data.toList)
    omega
  have hXn : X.length ≤ x.size + 1 := by
    have := congrArg List.length hX
    rw [List.length_map, splitC_len] at this
    have h2 := List.count_le_length (a := (46 : UInt8)) (l := x.data.toList)
    rw [size_list] at h2
    omega
  have hXz : ∀ z ∈ X, z.size ≤ 9223372036854775807 := by
    intro z hz
    have h1 : z.data.toList ∈ splitC 46 x.data.toList := by rw [← hX]; exact List.mem_map_of_mem hz
    have h2 := splitc_le 46 _ _ h1
    rw [size_list, size_list] at h2
    omega
  have HXD := Lib.hid hxd
  have HXX := Lib.hid hX
  have HXZ := Lib.hid hXz
  have HXS := Lib.hid hxs
  clear hO hy hyd hys hx hxd hX hXz
  go_enter Tryz.func18, Tryz.ntmps18
  go_wp2_with (go_at_call 36; refine stopc ?_)
  refine Stop.go ?_
  refine (cA _ HE.out.1 HE.out.2.1).mono ?_
  rintro e w6 ⟨a, rfl, hal, hsome, -, hs6⟩
  have HS6 := Lib.hid hs6
  have HAL := Lib.hid hal
  have HSO := Lib.hid hsome
  clear hs6 hal hsome
  go_wp2_with (refine wp_storeA rfl _ _ _ rfl rfl rfl (arr_new _ _ _ (zerosL 16) rfl) size_addr HAL.out rfl ?_; intro w7 hA7 hs7; refine stopw ?_)
  refine Stop.go ?_
  have HS7 := Lib.hid ((HS6.out.alloc _).then_ hs7 (fun k hk h => absurd h (by have := HS6.out.size; omega)))
  have HA7 := Lib.hid hA7
  clear hs7 hA7
  cases O with
  | true =>
    have HPA : Hid (parseA s.data.toList = some a) := Lib.hid (by
      cases hq : parseA s.data.toList with
      | none => have := HOV.out; rw [hq] at this; cases this
      | some b => rw [HSO.out b hq])
    have HD : Hid (normN s.data.toList = (printA a, 0)) := Lib.hid (by unfold normN; rw [HPA.out])
    have cP := fun W hW => aprint_any a HAL.out W hW
    go_wp2_with (with_reducible refine stop (N := 13) rfl ?_)
    refine Stop.go ?_
    refine wp_loadA rfl _ _ rfl rfl HA7.out Tryz.underlying76 size_addr HAL.out ?_
    go_wp2_with (go_at_call 37; refine stopc ?_)
    refine Stop.go ?_
    refine (cP _ (HE.out.step HS7.out)).mono ?_
    rintro e w9 ⟨rfl, hs9⟩
    have HS9 := Lib.hid (HS7.out.trans hs9)
    clear hs9
    go_wp2
    rw [HR.out, HD.out]
    exact ⟨rfl, HS9.out⟩
  | false =>
    have HDN : Hid (normN s.data.toList = nameN x.data.toList) := Lib.hid (by
      unfold normN
      cases hq : parseA s.data.toList with
      | none => rw [HXD.out]
      | some b => have := HOV.out; rw [hq] at this; cases this)
    go_wp2_with (go_at_call 28; refine stopc ?_)
    refine Stop.go ?_
    refine (cL _).mono ?_
    rintro e w8 ⟨rfl, hs8⟩
    have HS8 := Lib.hid (HS7.out.trans hs8)
    clear hs8
    go_wp2_with (go_at_call 38; refine stopc ?_)
    refine Stop.go ?_
    refine (cT _).mono ?_
    rintro e w8' ⟨rfl, rfl⟩
    go_wp2_with (go_at_call 39; refine stopc ?_)
    refine Stop.go ?_
    refine (cS _ (HE.out.1.step HS8.out)).mono ?_
    rintro e w9 ⟨g9, rfl, hg9, hs9, hb9⟩
    have HS9 := Lib.hid (HS8.out.trans hs9)
    have hrd : Rd str (fun _ => False) w9 (.slice (some ⟨g9, 0, none⟩) X.length X.length) X := plain_mk (Nat.le_refl _) (by unfold maxLen; omega) (fun _ => ⟨⟨g9, 0, none⟩, rfl, fun h => h, fun j hj => by
      by_cases h0 : j = 0
      · subst h0
        rw [addr_z, blk_cell hb9]
        simp [hj]
      · rw [addr_nz _ _ h0, blk_cell hb9]
        simp [hj]⟩)
    have HRD := Lib.hid hrd
    clear hs9 hb9 hrd
    by_cases h0 : x.data.toList = []
    · have ht : (x.toList == []) = true := by rw [list_eqb]; simp [h0]
      have HD : Hid (normN s.data.toList = ([], 8)) := Lib.hid (by rw [HDN.out]; unfold nameN; rw [if_pos h0])
      clear h0
      go_wp2
      rw [HR.out, HD.out]
      exact ⟨rfl, HS9.out⟩
    have ht : (x.toList == []) = false := by rw [list_eqb]; simp [h0]
    by_cases h253 : 253 < x.size
    · have hd : decide ((253 : Int) < (x.size : Int)) = true := decide_eq_true (by omega)
      have HD : Hid (normN s.data.toList = ([], 6)) := Lib.hid (by rw [HDN.out]; unfold nameN; rw [if_neg h0, if_pos (by rw [size_list]; exact h253)])
      clear h0 h253
      go_wp2
      rw [HR.out, HD.out]
      exact ⟨rfl, HS9.out⟩
    have hd : decide ((253 : Int) < (x.size : Int)) = false := decide_eq_false (by omega)
    have HDM : Hid (normN s.data.toList = if X.any (fun z => badL z.data.toList) = true ∨ anyS othR (X[X.length - 1]'(by omega)).data.toList = false then ([], 9) else (x.data.toList, 0)) := Lib.hid (by
      rw [HDN.out]
      unfold nameN
      rw [if_neg h0, if_neg (by rw [size_list]; exact h253), ← HXX.out, last_get X hXl, List.any_map]
      rfl)
    have cC := fun W hW => contf_any (fun _ => False) (.slice (some ⟨g9, 0, none⟩) X.length X.length) X W hW (by omega) HXZ.out
    obtain ⟨z, hz⟩ : ∃ z, z = X[X.length - 1]'(by omega) := ⟨_, rfl⟩
    have hcz : w9.cell? ⟨g9, X.length - 1, none⟩ = some (.string z) := by
      obtain ⟨ad, h1, -, h2⟩ := plain_cell HRD.out (X.length - 1) (by omega)
      injection h1 with h1
      rw [← h1] at h2
      rw [hz, ← h2]
      by_cases hj : X.length - 1 = 0
      · rw [hj, addr_z]
      · rw [addr_nz _ _ hj]
        simp
    have cO := fun W => anyOther z W
    obtain ⟨b, hb⟩ : ∃ b, b = X.any (fun z => badL z.data.toList) := ⟨_, rfl⟩
    obtain ⟨o, ho⟩ : ∃ o, o = anyS othR z.data.toList := ⟨_, rfl⟩
    rw [← hb] at cC
    rw [← ho] at cO
    have HDK : Hid (normN s.data.toList = if b = true ∨ o = false then ([], 9) else (x.data.toList, 0)) := Lib.hid (by rw [HDM.out, ← hb, ← hz, ← ho])
    have HCZ := Lib.hid hcz
    obtain ⟨n, hn⟩ : ∃ n, X.length = n + 1 := ⟨X.length - 1, by omega⟩
    have HN := Lib.hid hn
    clear hb ho hz h0 h253 hcz HDM hn
    cases b with
    | true =>
      have HD : Hid (normN s.data.toList = ([], 9)) := Lib.hid (by rw [HDK.out, if_pos (Or.inl rfl)])
      go_wp2_with (go_at_call 40; refine stopc ?_)
      refine Stop.go ?_
      refine (cC _ HRD.out).mono ?_
      rintro e w10 ⟨rfl, hs10⟩
      have HS10 := Lib.hid (HS9.out.trans hs10)
      clear hs10
      go_wp2
      rw [HR.out, HD.out]
      exact ⟨rfl, HS10.out⟩
    | false =>
      go_wp2_with (go_at_call 40; refine stopc ?_)
      refine Stop.go ?_
      refine (cC _ HRD.out).mono ?_
      rintro e w10 ⟨rfl, hs10⟩
      have HS10 := Lib.hid (HS9.out.trans hs10)
      have hcz : w10.cell? ⟨g9, n, none⟩ = some (.string z) := by
        have := hs10.cell HCZ.out (fun h => h)
        rw [HN.out] at this
        exact this
      have hw1 : IntKind.i64.wrap ((X.length : Int) - 1) = (n : Int) := by have := HN.out; rw [IntWalk.i64_in _ (by omega)]; omega
      have hlt : (n : Int) < (X.length : Int) := by have := HN.out; omega
      have hlt2 : n < X.length := by have := HN.out; omega
      clear hs10
      cases o with
      | true =>
        have HD : Hid (normN s.data.toList = (x.data.toList, 0)) := Lib.hid (by rw [HDK.out]; simp)
        go_wp2_with (go_at_call 29; refine stopc ?_)
        refine Stop.go ?_
        refine (cO _).mono ?_
        rintro e w11 ⟨rfl, hs11⟩
        have HS11 := Lib.hid (HS10.out.trans hs11)
        clear hs11
        go_wp2
        rw [HR.out, HD.out]
        exact ⟨by rw [strB_of']; rfl, HS11.out⟩
      | false =>
        have HD : Hid (normN s.data.toList = ([], 9)) := Lib.hid (by rw [HDK.out, if_pos (Or.inr rfl)])
        go_wp2_with (go_at_call 29; refine stopc ?_)
        refine Stop.go ?_
        refine (cO _).mono ?_
        rintro e w11 ⟨rfl, hs11⟩
        have HS11 := Lib.hid (HS10.out.trans hs11)
        clear hs11
        go_wp2
        rw [HR.out, HD.out]
        exact ⟨rfl, HS11.out⟩
end Go.Proofs.YtgjmaifgkgejgaaGreatDoor.L
