/- Layer 11: the law ReqlineAuthority. -/
import Derived.Test.YteoffbglbpdekaaDoorUa
set_option linter.unusedVariables false
set_option linter.unusedSimpArgs false
namespace Go.Proofs.YteoffbglbpdekaaDoor.L
open Go.RowKit Go.Proofs

def getB : ByteArray := ⟨#[71, 69, 84]⟩
theorem law_auth (p a r : ByteArray) (hp : p.size = 7) (hl : lowS p.data.toList = httpL) (ha : ∀ j (hj : j < a.size), isEnd a[j] = false) (hr : ∀ c, r.data.toList[0]? = some c → isEnd c = true) : authS (p ++ a ++ r).data.toList = (a.data.toList, true) := by
  have e : (p ++ a ++ r).data.toList = p.data.toList ++ (a.data.toList ++ r.data.toList) := by simp
  rw [e, auth_at _ _ (by rw [size_list]; exact hp) hl, upto_at _ _ ?_ hr]
  rw [List.all_eq_true]
  intro x hx
  obtain ⟨j, hj⟩ := List.mem_iff_getElem?.1 hx
  have hjs : j < a.size := by
    have := (List.getElem?_eq_some_iff.1 hj).1
    rw [size_list] at this
    exact this
  rw [get_list a j hjs] at hj
  rw [← Option.some.inj hj, ha j hjs]
  rfl
theorem law_form (p x : List UInt8) (hp : p.length = 7) (h0 : p[0]? ≠ some 47) (ha : (authS (p ++ x)).2 = true) : formS getB.data.toList (p ++ x) = 2 := by
  unfold formS
  rw [if_neg (by decide), if_neg (fun h => by have := congrArg List.length h; simp at this; omega), if_neg (by rw [List.getElem?_append_left (by omega)]; exact h0), if_pos ha]

set_option maxRecDepth 100000 in
set_option maxHeartbeats 8000000 in
theorem lawauth11_any (a r : ByteArray) (g : Bool) (w : World) (hml : MaxL w) :
    Calls Tryd.prog 11 #[.string a, .string r, .bool g] w (TrueV w) := by
  obtain ⟨R, hR⟩ : ∃ R, R = TrueV w := ⟨_, rfl⟩
  rw [← hR]
  have HR := Lib.hid hR
  have HM := Lib.hid hml
  clear hR hml
  by_cases hbig : ¬ (a.size ≤ 1000 ∧ r.size ≤ 1000)
  · have key : (decide ((1000 : Int) < (a.size : Int)) = true) ∨ (decide ((1000 : Int) < (a.size : Int)) = false ∧ decide ((1000 : Int) < (r.size : Int)) = true) := by
      simp only [decide_eq_true_eq, decide_eq_false_iff_not]
      omega
    clear hbig
    rcases key with h1 | ⟨h1, h2⟩
    all_goals
      have HS0 := Lib.hid (Stp.refl (fun _ => False) w)
      go_enter Tryd.func11, Tryd.ntmps11
      go_wp2_with (go_at_call 27; refine stopc ?_)
      refine Stop.go ?_
      refine (small11_any _ (HM.out.step HS0.out)).mono ?_
      rintro e w1 ⟨he, hs1⟩
      subst he
      have HS1 := Lib.hid (HS0.out.trans hs1)
      clear hs1
      go_wp2
      rw [HR.out]
      exact ⟨rfl, HS1.out⟩
  · obtain ⟨l1, l2⟩ := Classical.not_not.1 hbig
    have h1 : decide ((1000 : Int) < (a.size : Int)) = false := decide_eq_false (by omega)
    have h2 : decide ((1000 : Int) < (r.size : Int)) = false := decide_eq_false (by omega)
    have cA : ∀ (p r' : ByteArray), p.size = 7 → lowS p.data.toList = httpL → p.data.toList[0]? ≠ some 47 → (∀ j (hj : j < a.size), isEnd a[j] = false) → r'.size ≤ 1001 → (∀ c, r'.data.toList[0]? = some c → isEnd c = true) →
        (∀ W, Calls Tryd.prog 30 #[.string (p ++ a ++ r')] W fun e w' => e = .returned (.tuple #[.string a, .bool true]) ∧ Stp (fun _ => False) W w') ∧
        (∀ W, Calls Tryd.prog 32 #[.agg #[.string ⟨#[71, 69, 84]⟩, .string (p ++ a ++ r'), .int .i64 0]] W fun e w' => e = .returned (.int .i64 2) ∧ Stp (fun _ => False) W w') := fun p r' hp hl h0 ha hrs hr => by
      have hsz : (p ++ a ++ r').size < 4294967281 := by simp; omega
      have e := law_auth p a r' hp hl ha hr
      refine ⟨fun W => ?_, fun W => ?_⟩
      · have c := auth_any (p ++ a ++ r') W hsz
        rw [e] at c
        simp only [sB_self] at c
        exact c
      · have c := form_any getB (p ++ a ++ r') 0 W hsz
        have e2 : (p ++ a ++ r').data.toList = p.data.toList ++ (a.data.toList ++ r'.data.toList) := by simp
        rw [e2] at e
        rw [e2, law_form _ _ (by rw [size_list]; exact hp) h0 (by rw [e])] at c
        exact c
    have CA := Lib.hid cA
    clear cA hbig
    have HS0 := Lib.hid (Stp.refl (fun _ => False) w)
    go_enter Tryd.func11, Tryd.ntmps11
    go_wp2_with (go_at_call 27; refine stopc ?_)
    refine Stop.go ?_
    refine (small11_any _ (HM.out.step HS0.out)).mono ?_
    rintro e w1 ⟨he, hs1⟩
    subst he
    have HS1 := Lib.hid (HS0.out.trans hs1)
    clear hs1
    go_wp2
    go_loopg [8] a.size (fun gf i wr => ∃ k : Nat, k + gf = a.size ∧ i = .int .i64 k ∧ (∀ j (hj : j < a.size), j < k → isEnd a[j] = false) ∧ wr = w1)
    case atStart => exact ⟨0, by omega, rfl, fun j hj h => absurd h (by omega), rfl⟩
    case round =>
      obtain ⟨k, hk, rfl, hall, hw⟩ := hrel
      obtain rfl := hw.symm
      have HALL := Lib.hid hall
      clear hall hw
      by_cases hlt : k < a.size
      · rcases ends_cases a[k] with he | he | he | ⟨he, i1, i2, i3⟩
        · have i1 : (((a[k]).toNat : Int) == 47) = true := by rw [he]; rfl
          clear he
          go_wp2
          rw [HR.out]
          exact ⟨rfl, HS1.out⟩
        · have i1 : (((a[k]).toNat : Int) == 47) = false := by rw [he]; rfl
          have i2 : (((a[k]).toNat : Int) == 63) = true := by rw [he]; rfl
          clear he
          go_wp2
          rw [HR.out]
          exact ⟨rfl, HS1.out⟩
        · have i1 : (((a[k]).toNat : Int) == 47) = false := by rw [he]; rfl
          have i2 : (((a[k]).toNat : Int) == 63) = false := by rw [he]; rfl
          have i3 : (((a[k]).toNat : Int) == 35) = true := by rw [he]; rfl
          clear he
          go_wp2
          rw [HR.out]
          exact ⟨rfl, HS1.out⟩
        · have HE := Lib.hid he
          have j1 : (((a[k]).toNat : Int) == 47) = false := by simpa using i1
          have j2 : (((a[k]).toNat : Int) == 63) = false := by simpa using i2
          have j3 : (((a[k]).toNat : Int) == 35) = false := by simpa using i3
          clear he i1 i2 i3
          obtain ⟨g', rfl⟩ : ∃ g', gk = g' + 1 := ⟨gk - 1, by omega⟩
          go_wp2
          go_roundg g'
          case measure => omega
          case rel =>
            refine ⟨k + 1, by omega, by go_num, fun j hj h1 => ?_, rfl⟩
            by_cases hjk : j = k
            · subst hjk
              exact HE.out
            · exact HALL.out j hj (by omega)
      · have ha : ∀ j (hj : j < a.size), isEnd a[j] = false := fun j hj => HALL.out j hj (by omega)
        have h0 : (47 : UInt8) ∉ [] := by simp
        have key : (r = ⟨#[]⟩) ∨ (∃ h : 0 < r.size, isEnd r[0] = true) ∨ (∃ h : 0 < r.size, isEnd r[0] = false) := by
          by_cases hr : 0 < r.size
          · cases h : isEnd r[0]
            · exact .inr (.inr ⟨hr, h⟩)
            · exact .inr (.inl ⟨hr, h⟩)
          · exact .inl (ByteArray.ext (Array.size_eq_zero_iff.1 (by show r.size = 0; omega)))
        rcases key with rfl | ⟨hp0, he⟩ | ⟨hp0, he⟩
        · cases g with
          | false =>
            obtain ⟨d1, d2⟩ := CA.out ⟨#[104, 116, 116, 112, 58, 47, 47]⟩ ⟨#[]⟩ rfl (by decide) (by decide) ha (by decide) (fun c hc => by simp at hc)
            clear ha h0
            go_wp2_with (go_at_call 30; refine stopc ?_)
            refine Stop.go ?_
            refine (d1 _).mono ?_
            rintro e w2 ⟨rfl, hs2⟩
            have HS2 := Lib.hid (HS1.out.trans hs2)
            clear hs2
            go_wp2_with (go_at_call 32; refine stopc ?_)
            refine Stop.go ?_
            refine (d2 _).mono ?_
            rintro e w3 ⟨rfl, hs3⟩
            have HS3 := Lib.hid (HS2.out.trans hs3)
            clear hs3
            go_wp2
            rw [HR.out]
            exact ⟨rfl, HS3.out⟩
          | true =>
            obtain ⟨d1, d2⟩ := CA.out ⟨#[72, 116, 116, 80, 58, 47, 47]⟩ ⟨#[]⟩ rfl (by decide) (by decide) ha (by decide) (fun c hc => by simp at hc)
            clear ha h0
            go_wp2_with (go_at_call 30; refine stopc ?_)
            refine Stop.go ?_
            refine (d1 _).mono ?_
            rintro e w2 ⟨rfl, hs2⟩
            have HS2 := Lib.hid (HS1.out.trans hs2)
            clear hs2
            go_wp2_with (go_at_call 32; refine stopc ?_)
            refine Stop.go ?_
            refine (d2 _).mono ?_
            rintro e w3 ⟨rfl, hs3⟩
            have HS3 := Lib.hid (HS2.out.trans hs3)
            clear hs3
            go_wp2
            rw [HR.out]
            exact ⟨rfl, HS3.out⟩
        · have g0 : (0 : Int) < (r.size : Int) := by omega
          have n1 : (r.toList == []) = false := by
            rw [list_eqb]
            exact decide_eq_false (fun h => by have h9 := size_list r; rw [h, List.length_nil] at h9; omega)
          have n2 : r.toList.isEmpty = false := by
            rw [Lib.toList_data]
            cases hd : r.data.toList with
            | nil => have := size_list r; rw [hd] at this; simp at this; omega
            | cons _ _ => rfl
          rcases ends_cases r[0] with h | h | h | ⟨h, -, -, -⟩
          · have i1 : (((r[0]).toNat : Int) != 47) = false := by rw [h]; rfl
            cases g with
            | false =>
              obtain ⟨d1, d2⟩ := CA.out ⟨#[104, 116, 116, 112, 58, 47, 47]⟩ r rfl (by decide) (by decide) ha (by omega) (fun c hc => by rw [get_list r 0 hp0] at hc; rw [← Option.some.inj hc]; exact he)
              clear ha h0 h
              go_wp2_with (go_at_call 30; refine stopc ?_)
              refine Stop.go ?_
              refine (d1 _).mono ?_
              rintro e w2 ⟨rfl, hs2⟩
              have HS2 := Lib.hid (HS1.out.trans hs2)
              clear hs2
              go_wp2_with (go_at_call 32; refine stopc ?_)
              refine Stop.go ?_
              refine (d2 _).mono ?_
              rintro e w3 ⟨rfl, hs3⟩
              have HS3 := Lib.hid (HS2.out.trans hs3)
              clear hs3
              go_wp2
              rw [HR.out]
              exact ⟨rfl, HS3.out⟩
            | true =>
              obtain ⟨d1, d2⟩ := CA.out ⟨#[72, 116, 116, 80, 58, 47, 47]⟩ r rfl (by decide) (by decide) ha (by omega) (fun c hc => by rw [get_list r 0 hp0] at hc; rw [← Option.some.inj hc]; exact he)
              clear ha h0 h
              go_wp2_with (go_at_call 30; refine stopc ?_)
              refine Stop.go ?_
              refine (d1 _).mono ?_
              rintro e w2 ⟨rfl, hs2⟩
              have HS2 := Lib.hid (HS1.out.trans hs2)
              clear hs2
              go_wp2_with (go_at_call 32; refine stopc ?_)
              refine Stop.go ?_
              refine (d2 _).mono ?_
              rintro e w3 ⟨rfl, hs3⟩
              have HS3 := Lib.hid (HS2.out.trans hs3)
              clear hs3
              go_wp2
              rw [HR.out]
              exact ⟨rfl, HS3.out⟩
          · have i1 : (((r[0]).toNat : Int) != 47) = true := by rw [h]; rfl
            have i2 : (((r[0]).toNat : Int) != 63) = false := by rw [h]; rfl
            cases g with
            | false =>
              obtain ⟨d1, d2⟩ := CA.out ⟨#[104, 116, 116, 112, 58, 47, 47]⟩ r rfl (by decide) (by decide) ha (by omega) (fun c hc => by rw [get_list r 0 hp0] at hc; rw [← Option.some.inj hc]; exact he)
              clear ha h0 h
              go_wp2_with (go_at_call 30; refine stopc ?_)
              refine Stop.go ?_
              refine (d1 _).mono ?_
              rintro e w2 ⟨rfl, hs2⟩
              have HS2 := Lib.hid (HS1.out.trans hs2)
              clear hs2
              go_wp2_with (go_at_call 32; refine stopc ?_)
              refine Stop.go ?_
              refine (d2 _).mono ?_
              rintro e w3 ⟨rfl, hs3⟩
              have HS3 := Lib.hid (HS2.out.trans hs3)
              clear hs3
              go_wp2
              rw [HR.out]
              exact ⟨rfl, HS3.out⟩
            | true =>
              obtain ⟨d1, d2⟩ := CA.out ⟨#[72, 116, 116, 80, 58, 47, 47]⟩ r rfl (by decide) (by decide) ha (by omega) (fun c hc => by rw [get_list r 0 hp0] at hc; rw [← Option.some.inj hc]; exact he)
              clear ha h0 h
              go_wp2_with (go_at_call 30; refine stopc ?_)
              refine Stop.go ?_
              refine (d1 _).mono ?_
              rintro e w2 ⟨rfl, hs2⟩
              have HS2 := Lib.hid (HS1.out.trans hs2)
              clear hs2
              go_wp2_with (go_at_call 32; refine stopc ?_)
              refine Stop.go ?_
              refine (d2 _).mono ?_
              rintro e w3 ⟨rfl, hs3⟩
              have HS3 := Lib.hid (HS2.out.trans hs3)
              clear hs3
              go_wp2
              rw [HR.out]
              exact ⟨rfl, HS3.out⟩
          · have i1 : (((r[0]).toNat : Int) != 47) = true := by rw [h]; rfl
            have i2 : (((r[0]).toNat : Int) != 63) = true := by rw [h]; rfl
            have i3 : (((r[0]).toNat : Int) != 35) = false := by rw [h]; rfl
            cases g with
            | false =>
              obtain ⟨d1, d2⟩ := CA.out ⟨#[104, 116, 116, 112, 58, 47, 47]⟩ r rfl (by decide) (by decide) ha (by omega) (fun c hc => by rw [get_list r 0 hp0] at hc; rw [← Option.some.inj hc]; exact he)
              clear ha h0 h
              go_wp2_with (go_at_call 30; refine stopc ?_)
              refine Stop.go ?_
              refine (d1 _).mono ?_
              rintro e w2 ⟨rfl, hs2⟩
              have HS2 := Lib.hid (HS1.out.trans hs2)
              clear hs2
              go_wp2_with (go_at_call 32; refine stopc ?_)
              refine Stop.go ?_
              refine (d2 _).mono ?_
              rintro e w3 ⟨rfl, hs3⟩
              have HS3 := Lib.hid (HS2.out.trans hs3)
              clear hs3
              go_wp2
              rw [HR.out]
              exact ⟨rfl, HS3.out⟩
            | true =>
              obtain ⟨d1, d2⟩ := CA.out ⟨#[72, 116, 116, 80, 58, 47, 47]⟩ r rfl (by decide) (by decide) ha (by omega) (fun c hc => by rw [get_list r 0 hp0] at hc; rw [← Option.some.inj hc]; exact he)
              clear ha h0 h
              go_wp2_with (go_at_call 30; refine stopc ?_)
              refine Stop.go ?_
              refine (d1 _).mono ?_
              rintro e w2 ⟨rfl, hs2⟩
              have HS2 := Lib.hid (HS1.out.trans hs2)
              clear hs2
              go_wp2_with (go_at_call 32; refine stopc ?_)
              refine Stop.go ?_
              refine (d2 _).mono ?_
              rintro e w3 ⟨rfl, hs3⟩
              have HS3 := Lib.hid (HS2.out.trans hs3)
              clear hs3
              go_wp2
              rw [HR.out]
              exact ⟨rfl, HS3.out⟩
          · exact absurd (he.symm.trans h) (by decide)
        · have g0 : (0 : Int) < (r.size : Int) := by omega
          have n1 : (r.toList == []) = false := by
            rw [list_eqb]
            exact decide_eq_false (fun h => by have h9 := size_list r; rw [h, List.length_nil] at h9; omega)
          have n2 : r.toList.isEmpty = false := by
            rw [Lib.toList_data]
            cases hd : r.data.toList with
            | nil => have := size_list r; rw [hd] at this; simp at this; omega
            | cons _ _ => rfl
          rcases ends_cases r[0] with h | h | h | ⟨h, i1, i2, i3⟩
          · rw [h] at he
            exact absurd he (by decide)
          · rw [h] at he
            exact absurd he (by decide)
          · rw [h] at he
            exact absurd he (by decide)
          · cases g with
            | false =>
              obtain ⟨d1, d2⟩ := CA.out ⟨#[104, 116, 116, 112, 58, 47, 47]⟩ (⟨#[47]⟩ ++ r) rfl (by decide) (by decide) ha (by rw [ByteArray.size_append]; have h9 : (⟨#[47]⟩ : ByteArray).size = 1 := rfl; omega) (fun c hc => by simp at hc; rw [← hc]; rfl)
              clear ha h0 h
              go_wp2_with (go_at_call 30; refine stopc ?_)
              refine Stop.go ?_
              refine (d1 _).mono ?_
              rintro e w2 ⟨rfl, hs2⟩
              have HS2 := Lib.hid (HS1.out.trans hs2)
              clear hs2
              go_wp2_with (go_at_call 32; refine stopc ?_)
              refine Stop.go ?_
              refine (d2 _).mono ?_
              rintro e w3 ⟨rfl, hs3⟩
              have HS3 := Lib.hid (HS2.out.trans hs3)
              clear hs3
              go_wp2
              rw [HR.out]
              exact ⟨rfl, HS3.out⟩
            | true =>
              obtain ⟨d1, d2⟩ := CA.out ⟨#[72, 116, 116, 80, 58, 47, 47]⟩ (⟨#[47]⟩ ++ r) rfl (by decide) (by decide) ha (by rw [ByteArray.size_append]; have h9 : (⟨#[47]⟩ : ByteArray).size = 1 := rfl; omega) (fun c hc => by simp at hc; rw [← hc]; rfl)
              clear ha h0 h
              go_wp2_with (go_at_call 30; refine stopc ?_)
              refine Stop.go ?_
              refine (d1 _).mono ?_
              rintro e w2 ⟨rfl, hs2⟩
              have HS2 := Lib.hid (HS1.out.trans hs2)
              clear hs2
              go_wp2_with (go_at_call 32; refine stopc ?_)
              refine Stop.go ?_
              refine (d2 _).mono ?_
              rintro e w3 ⟨rfl, hs3⟩
              have HS3 := Lib.hid (HS2.out.trans hs3)
              clear hs3
              go_wp2
              rw [HR.out]
              exact ⟨rfl, HS3.out⟩
end Go.Proofs.YteoffbglbpdekaaDoor.L
