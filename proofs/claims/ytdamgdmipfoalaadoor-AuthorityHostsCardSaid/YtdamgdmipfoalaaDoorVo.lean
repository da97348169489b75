/- Layer 13: the law AuthorityHosts. -/
import Derived.Test.YtdamgdmipfoalaaDoorVl
import Derived.Test.YtdamgdmipfoalaaDoorFk
set_option linter.unusedVariables false
set_option linter.unusedSimpArgs false
namespace Go.Proofs.YtdamgdmipfoalaaDoor.L
open Go.RowKit Go.Proofs

def getG : ByteArray := ⟨#[71, 69, 84]⟩
def httpG : ByteArray := ⟨#[104, 116, 116, 112, 58, 47, 47]⟩
theorem auth_of (a : ByteArray) (ha : ∀ j (hj : j < a.size), isEnd a[j] = false) : authS (httpG ++ a ++ ⟨#[47]⟩).data.toList = (a.data.toList, true) := by
  have e : (httpG ++ a ++ ⟨#[47]⟩).data.toList = httpG.data.toList ++ (a.data.toList ++ [47]) := by simp
  rw [e, auth_at _ _ rfl (by decide), upto_at _ _ ?_ (fun c hc => by simp at hc; subst hc; rfl)]
  rw [List.all_eq_true]
  intro x hx
  obtain ⟨j, hj⟩ := List.mem_iff_getElem?.1 hx
  have hjs : j < a.size := by
    have := (List.getElem?_eq_some_iff.1 hj).1
    rw [size_list] at this
    exact this
  rw [get_list a j hjs] at hj
  rw [← Option.some.inj hj, ha j hjs]
  rfl
theorem form_of (a : ByteArray) (ha : ∀ j (hj : j < a.size), isEnd a[j] = false) : formS getG.data.toList (httpG ++ a ++ ⟨#[47]⟩).data.toList = 2 := by
  have h := auth_of a ha
  have e : (httpG ++ a ++ ⟨#[47]⟩).data.toList = httpG.data.toList ++ (a.data.toList ++ [47]) := by simp
  unfold formS
  rw [if_neg (by decide), if_neg (fun h => by rw [e] at h; have := congrArg List.length h; simp [httpG] at this), if_neg (by rw [e, List.getElem?_append_left (by decide)]; decide), h, if_pos rfl]
theorem find_no (xs : List (ByteArray × ByteArray)) (h : ∀ x ∈ xs, x.1.data.toList ≠ hostL) : findF hostL (flS xs) = ([], 0) := by
  induction xs with
  | nil => rfl
  | cons x r ih =>
    show findF hostL ((x.1.data.toList, x.2.data.toList) :: flS r) = _
    rw [findF, if_neg (h x (by simp))]
    exact ih fun y hy => h y (by simp [hy])
theorem flS_append (xs : List (ByteArray × ByteArray)) (n t : ByteArray) : flS (xs ++ [(n, t)]) = flS xs ++ [(n.data.toList, t.data.toList)] := by simp [flS]
theorem find_one (xs : List (ByteArray × ByteArray)) (h : ∀ x ∈ xs, x.1.data.toList ≠ hostL) (t : ByteArray) : findF hostL (flS (xs ++ [(hostB, t)])) = (t.data.toList, 1) := by
  rw [flS_append, findF_snoc, find_no xs h, if_pos (by show hostB.data.toList = hostL; decide)]
  rfl
theorem find_two (xs : List (ByteArray × ByteArray)) (h : ∀ x ∈ xs, x.1.data.toList ≠ hostL) (t u : ByteArray) : (findF hostL (flS (xs ++ [(hostB, t)] ++ [(hostB, u)]))).2 = 2 := by
  rw [flS_append, findF_snoc, find_one xs h, if_pos (by show hostB.data.toList = hostL; decide)]

set_option maxRecDepth 100000 in
set_option maxHeartbeats 8000000 in
theorem hosts13_any (M : Nat → Prop) (a text : ByteArray) (v : Value) (xs : List (ByteArray × ByteArray)) (w : World) (hx : Rd fldK M w v xs) (he : EnvP w) :
    Calls Tryd.prog 5 #[.string a, .string text, v] w (TrueV w) := by
  obtain ⟨A, c, rfl, hle⟩ := hx.form
  have hcm := hx.at_.2.2.1
  unfold maxLen at hcm
  obtain ⟨R, hR⟩ : ∃ R, R = TrueV w := ⟨_, rfl⟩
  rw [← hR]
  have HR := Lib.hid hR
  have HM := Lib.hid he
  have HX := Lib.hid hx
  clear hR he hx
  by_cases hbig : ¬ (a.size ≤ 500 ∧ text.size ≤ 500 ∧ xs.length ≤ 30)
  · have key : (decide ((500 : Int) < (a.size : Int)) = true) ∨ (decide ((500 : Int) < (a.size : Int)) = false ∧ decide ((500 : Int) < (text.size : Int)) = true) ∨ (decide ((500 : Int) < (a.size : Int)) = false ∧ decide ((500 : Int) < (text.size : Int)) = false ∧ decide ((30 : Int) < (xs.length : Int)) = true) := by
      simp only [decide_eq_true_eq, decide_eq_false_iff_not]
      omega
    clear hbig
    rcases key with h1 | ⟨h1, h2⟩ | ⟨h1, h2, h3⟩
    all_goals
      have HS0 := Lib.hid (Stp.refl (fun _ => False) w)
      go_enter Tryd.func5, Tryd.ntmps5
      go_wp2_with (go_at_call 7; refine stopc ?_)
      refine Stop.go ?_
      refine (small13_any _ (HM.out.step HS0.out)).mono ?_
      rintro e w1 ⟨he, hs1⟩
      subst he
      have HS1 := Lib.hid (HS0.out.trans hs1)
      clear hs1
      go_wp2
      rw [HR.out]
      exact ⟨rfl, HS1.out⟩
  · obtain ⟨l1, l2, l3⟩ := Classical.not_not.1 hbig
    have h1 : decide ((500 : Int) < (a.size : Int)) = false := decide_eq_false (by omega)
    have h2 : decide ((500 : Int) < (text.size : Int)) = false := decide_eq_false (by omega)
    have h3 : decide ((30 : Int) < (xs.length : Int)) = false := decide_eq_false (by omega)
    clear hbig
    have HS0 := Lib.hid (Stp.refl (fun _ => False) w)
    go_enter Tryd.func5, Tryd.ntmps5
    go_wp2_with (go_at_call 7; refine stopc ?_)
    refine Stop.go ?_
    refine (small13_any _ (HM.out.step HS0.out)).mono ?_
    rintro e w1 ⟨he, hs1⟩
    subst he
    have HS1 := Lib.hid (HS0.out.trans hs1)
    clear hs1
    go_wp2
    go_loopg [8] a.size (fun gf i wr => ∃ k : Nat, k + gf = a.size ∧ i = .int .i64 k ∧ (∀ j (hj : j < a.size), j < k → isEnd a[j] = false) ∧ wr = w1)
    case atStart => exact ⟨0, by omega, rfl, fun j hj h => absurd h (by omega), rfl⟩
    case round =>
      obtain ⟨k, hk, rfl, hall, hw⟩ := hrel
      obtain rfl := hw.symm
      have HALL := Lib.hid hall
      clear hall hw
      by_cases hlt : k < a.size
      · rcases ends_cases a[k] with he | he | he | ⟨he, i1, i2, i3⟩
        · have i1 : (((a[k]).toNat : Int) == 47) = true := by rw [he]; rfl
          clear he
          go_wp2
          rw [HR.out]
          exact ⟨rfl, HS1.out⟩
        · have i1 : (((a[k]).toNat : Int) == 47) = false := by rw [he]; rfl
          have i2 : (((a[k]).toNat : Int) == 63) = true := by rw [he]; rfl
          clear he
          go_wp2
          rw [HR.out]
          exact ⟨rfl, HS1.out⟩
        · have i1 : (((a[k]).toNat : Int) == 47) = false := by rw [he]; rfl
          have i2 : (((a[k]).toNat : Int) == 63) = false := by rw [he]; rfl
          have i3 : (((a[k]).toNat : Int) == 35) = true := by rw [he]; rfl
          clear he
          go_wp2
          rw [HR.out]
          exact ⟨rfl, HS1.out⟩
        · have HE := Lib.hid he
          have j1 : (((a[k]).toNat : Int) == 47) = false := by simpa using i1
          have j2 : (((a[k]).toNat : Int) == 63) = false := by simpa using i2
          have j3 : (((a[k]).toNat : Int) == 35) = false := by simpa using i3
          clear he i1 i2 i3
          obtain ⟨g', rfl⟩ : ∃ g', gk = g' + 1 := ⟨gk - 1, by omega⟩
          go_wp2
          go_roundg g'
          case measure => omega
          case rel =>
            refine ⟨k + 1, by omega, by go_num, fun j hj h1 => ?_, rfl⟩
            by_cases hjk : j = k
            · subst hjk
              exact HE.out
            · exact HALL.out j hj (by omega)
      · have ha : ∀ j (hj : j < a.size), isEnd a[j] = false := fun j hj => HALL.out j hj (by omega)
        have HAA := Lib.hid ha
        clear ha HALL
        go_wp2
        go_loopg [9] xs.length (fun gf i wr => ∃ k : Nat, k + gf = xs.length ∧ i = .int .i64 k ∧ (∀ j (hj : j < xs.length), j < k → (xs[j]).1.data.toList ≠ hostL) ∧ wr = w1)
        case atStart => exact ⟨0, by omega, rfl, fun j hj h => absurd h (by omega), rfl⟩
        case round =>
          obtain ⟨k2, hk2, rfl, hall, hw⟩ := hrel
          obtain rfl := hw.symm
          have HALL := Lib.hid hall
          clear hall hw
          by_cases hlt2 : k2 < xs.length
          · obtain ⟨ad, rfl, -, c0, c1⟩ := pair_cell (HX.out.stp0 HS1.out) k2 hlt2
            obtain ⟨X, hXX⟩ : ∃ X, X = (xs[k2]).1 := ⟨_, rfl⟩
            rw [← hXX] at c0
            have hin : (k2 : Int) < (xs.length : Int) := by omega
            by_cases hh : X.data.toList = hostL
            · have ht : (X.toList == [104, 111, 115, 116]) = true := by rw [list_eqb]; exact decide_eq_true hh
              clear hXX c1 hh
              go_wp2
              rw [HR.out]
              exact ⟨rfl, HS1.out⟩
            · have ht : (X.toList == [104, 111, 115, 116]) = false := by rw [list_eqb]; exact decide_eq_false hh
              have HH : Hid ((xs[k2]).1.data.toList ≠ hostL) := Lib.hid (by rw [← hXX]; exact hh)
              clear hXX c1 hh
              obtain ⟨g', rfl⟩ : ∃ g', gk = g' + 1 := ⟨gk - 1, by omega⟩
              go_wp2
              go_roundg g'
              case measure => omega
              case rel =>
                refine ⟨k2 + 1, by omega, by go_num, fun j hj h1 => ?_, rfl⟩
                by_cases hjk : j = k2
                · subst hjk
                  exact HH.out
                · exact HALL.out j hj (by omega)
          · have hno : ∀ x ∈ xs, x.1.data.toList ≠ hostL := fun x hx => by
              obtain ⟨j, hj, rfl⟩ := List.mem_iff_getElem.1 hx
              exact HALL.out j hj (by omega)
            have HNO := Lib.hid hno
            clear hno HALL
            -- what the calls answer
            obtain ⟨U, hU⟩ : ∃ U, U = httpG ++ a ++ (⟨#[47]⟩ : ByteArray) := ⟨_, rfl⟩
            have hUs : U.size ≤ 600 := by
              rw [hU]
              simp
              have : httpG.size = 7 := rfl
              have : (⟨#[47]⟩ : ByteArray).size = 1 := rfl
              omega
            have hauth := auth_of a HAA.out
            have hform := form_of a HAA.out
            rw [← hU] at hauth hform
            have cO1 : ∀ W v', Rd fldK (fun _ => False) W v' (xs ++ [(hostB, text)]) → EnvP W → Calls Tryd.prog 11 #[.agg #[.string getG, .string U, .int .i64 0], v'] W (HpP W (hpS a.data.toList)) := fun W v' hv hW => by
              have f1 := find_one xs HNO.out text
              have c1 := of_any (fun _ => False) v' (xs ++ [(hostB, text)]) getG U 0 W hv (by simp; omega) (by rw [f1, size_list]; omega) (by omega) hW
              unfold ofS at c1
              rw [hform, f1, hauth, if_neg (by decide), if_neg (by decide), if_neg (by simp), if_pos rfl] at c1
              exact c1
            have cO2 : ∀ W v', Rd fldK (fun _ => False) W v' (xs ++ [(hostB, text)]) → EnvP W → Calls Tryd.prog 11 #[.agg #[.string getG, .string ⟨#[47]⟩, .int .i64 0], v'] W (HpP W (hpS text.data.toList)) := fun W v' hv hW => by
              have f1 := find_one xs HNO.out text
              have c1 := of_any (fun _ => False) v' (xs ++ [(hostB, text)]) getG ⟨#[47]⟩ 0 W hv (by simp; omega) (by rw [f1, size_list]; omega) (by decide) hW
              have hf2 : formS getG.data.toList (⟨#[47]⟩ : ByteArray).data.toList = 1 := by decide
              unfold ofS at c1
              rw [hf2, f1, if_neg (by decide), if_neg (by decide), if_neg (by simp), if_neg (by decide), if_neg (by simp)] at c1
              exact c1
            have cO3 : ∀ W v', Rd fldK (fun _ => False) W v' (xs ++ [(hostB, text)] ++ [(hostB, ⟨#[]⟩)]) → EnvP W → Calls Tryd.prog 11 #[.agg #[.string getG, .string ⟨#[47]⟩, .int .i64 0], v'] W fun e w' => e = .returned (.tuple #[.string ⟨#[]⟩, .int .i64 0, .int .i64 7]) ∧ Stp (fun _ => False) W w' := fun W v' hv hW => by
              have f2 := find_two xs HNO.out text ⟨#[]⟩
              have f1 : (findF hostL (flS (xs ++ [(hostB, text)] ++ [(hostB, ⟨#[]⟩)]))).1.length < 4294967280 := by
                rw [flS_append, findF_snoc, find_one xs HNO.out text, if_pos (by decide)]
                show (text.data.toList).length < _
                rw [size_list]
                omega
              have c1 := of_any (fun _ => False) v' (xs ++ [(hostB, text)] ++ [(hostB, ⟨#[]⟩)]) getG ⟨#[47]⟩ 0 W hv (by simp; omega) f1 (by decide) hW
              have hf2 : formS getG.data.toList (⟨#[47]⟩ : ByteArray).data.toList = 1 := by decide
              unfold ofS at c1
              rw [hf2, f2, if_neg (by decide), if_neg (by decide), if_pos (by decide)] at c1
              exact c1
            have cA := fun W hW => hparse_any a W (by omega) hW
            have cT := fun W hW => hparse_any text W (by omega) hW
            unfold HpP at cA cT cO1 cO2
            obtain ⟨q1, hq1⟩ : ∃ q, q = hpS a.data.toList := ⟨_, rfl⟩
            obtain ⟨q2, hq2⟩ : ∃ q, q = hpS text.data.toList := ⟨_, rfl⟩
            rw [← hq1] at cA cO1
            rw [← hq2] at cT cO2
            obtain ⟨b1, p1, e1⟩ := q1
            obtain ⟨b2, p2, e2⟩ := q2
            obtain ⟨B1, hB1⟩ : ∃ B, B = strB b1 := ⟨_, rfl⟩
            obtain ⟨B2, hB2⟩ : ∃ B, B = strB b2 := ⟨_, rfl⟩
            simp only [← hB1] at cA cO1
            simp only [← hB2] at cT cO2
            unfold getG hostB at cO1 cO2 cO3
            unfold httpG at hU
            have hx1 := hU.symm
            have y1 : ¬ 9223372036854775807 < 7 + a.size := by omega
            have y2 : ¬ 9223372036854775807 < 7 + a.size + 1 := by omega
            have r1 : (B1.toList == B1.toList) = true := by simp
            have r2 : (B2.toList == B2.toList) = true := by simp
            clear hauth hform hU hUs hq1 hq2 hB1 hB2
            go_wp2_with (with_reducible refine stop (N := 79) rfl ?_)
            refine Stop.go ?_
            have o0 := OwnM.empty fldK 33 w1.heap.size (fun k => w1.heap.size ≤ k) w1 (Nat.le_refl _)
            refine wp_appendRdM (d := fldK) (B := w1.heap.size) (M := fun k => w1.heap.size ≤ k) (ys := xs) rfl _ _ _ rfl Tryd.underlying31 info_fld rfl (by decide) o0 ((HX.out.stp0 HS1.out).stp0 ((Stp.refl _ _).alloc _)).now (fun k hk => (o0.lt k hk).1) rfl rfl (by simp; omega) (by simp; omega) (by simp) ?_
            intro vA w2 ho2 hg2
            rw [List.nil_append] at ho2
            have HT2 := Lib.hid (Stp.ownM ((Stp.refl (fun _ => False) w1).alloc _) o0 (Nat.le_refl _) hg2)
            have HO2 := Lib.hid ho2
            clear ho2 hg2 o0
            go_wp2_with (with_reducible refine stop (N := 83) rfl ?_)
            refine Stop.go ?_
            have o3 := HO2.out.stp0 ((Stp.refl (fun _ => False) w2).alloc (.cells #[.string ⟨#[104, 111, 115, 116]⟩, .string text] 33))
            have hsz2 := HT2.out.size
            refine wp_appendRdM (d := fldK) (B := w1.heap.size) (M := fun k => w1.heap.size ≤ k) (ys := [(⟨#[104, 111, 115, 116]⟩, text)]) rfl _ _ _ rfl Tryd.underlying31 info_fld rfl (by decide) o3 ((FAt.alloc w2 _ _).now _) (fun k hk => (o3.lt k hk).1) rfl rfl (by simp; omega) (by simp; omega) (by simp; omega) ?_
            intro vB w3 ho3 hg3
            have HT3 := Lib.hid (Stp.ownM (HT2.out.alloc _) o3 (Nat.le_refl _) hg3)
            have HO3 := Lib.hid ho3
            have HS3 := Lib.hid (HS1.out.trans HT3.out)
            clear ho3 hg3 o3
            go_wp2_with (go_at_call 11; refine stopc ?_)
            refine Stop.go ?_
            refine (cO1 _ _ (HO3.out.rd (fun _ _ h => h.elim) (fun _ _ => id)) (HM.out.step HS3.out)).mono ?_
            rintro e w4 ⟨rfl, hs4⟩
            have HO4 := Lib.hid (HO3.out.stp0 hs4)
            have HS4 := Lib.hid (HS3.out.trans hs4)
            have HT4 := Lib.hid (HT3.out.trans hs4)
            clear hs4
            go_wp2_with (go_at_call 9; refine stopc ?_)
            refine Stop.go ?_
            refine (cA _ (HM.out.step HS4.out)).mono ?_
            rintro e w5 ⟨rfl, hs5⟩
            have HO5 := Lib.hid (HO4.out.stp0 hs5)
            have HS5 := Lib.hid (HS4.out.trans hs5)
            have HT5 := Lib.hid (HT4.out.trans hs5)
            clear hs5
            go_wp2_with (go_at_call 11; refine stopc ?_)
            refine Stop.go ?_
            refine (cO2 _ _ (HO5.out.rd (fun _ _ h => h.elim) (fun _ _ => id)) (HM.out.step HS5.out)).mono ?_
            rintro e w6 ⟨rfl, hs6⟩
            have HO6 := Lib.hid (HO5.out.stp0 hs6)
            have HS6 := Lib.hid (HS5.out.trans hs6)
            have HT6 := Lib.hid (HT5.out.trans hs6)
            clear hs6
            go_wp2_with (go_at_call 9; refine stopc ?_)
            refine Stop.go ?_
            refine (cT _ (HM.out.step HS6.out)).mono ?_
            rintro e w7 ⟨rfl, hs7⟩
            have HO7 := Lib.hid (HO6.out.stp0 hs7)
            have HS7 := Lib.hid (HS6.out.trans hs7)
            have HT7 := Lib.hid (HT6.out.trans hs7)
            clear hs7
            go_wp2_with (with_reducible refine stop (N := 118) rfl ?_)
            refine Stop.go ?_
            have o8 := HO7.out.stp0 ((Stp.refl (fun _ => False) w7).alloc (.cells #[.string ⟨#[104, 111, 115, 116]⟩, .string ⟨#[]⟩] 33))
            have hsz7 := HT7.out.size
            refine wp_appendRdM (d := fldK) (B := w1.heap.size) (M := fun k => w1.heap.size ≤ k) (ys := [(⟨#[104, 111, 115, 116]⟩, ⟨#[]⟩)]) rfl _ _ _ rfl Tryd.underlying31 info_fld rfl (by decide) o8 ((FAt.alloc w7 _ _).now _) (fun k hk => (o8.lt k hk).1) rfl rfl (by simp; omega) (by simp; omega) (by simp; omega) ?_
            intro vC w8 ho8 hg8
            have HS8 := Lib.hid (HS1.out.trans (Stp.ownM (HT7.out.alloc _) o8 (Nat.le_refl _) hg8))
            have HO8 := Lib.hid ho8
            clear ho8 hg8 o8
            go_wp2_with (go_at_call 11; refine stopc ?_)
            refine Stop.go ?_
            refine (cO3 _ _ (HO8.out.rd (fun _ _ h => h.elim) (fun _ _ => id)) (HM.out.step HS8.out)).mono ?_
            rintro e w9 ⟨rfl, hs9⟩
            have HS9 := Lib.hid (HS8.out.trans hs9)
            clear hs9
            go_wp2
            rw [HR.out]
            exact ⟨rfl, HS9.out⟩
end Go.Proofs.YtdamgdmipfoalaaDoor.L
