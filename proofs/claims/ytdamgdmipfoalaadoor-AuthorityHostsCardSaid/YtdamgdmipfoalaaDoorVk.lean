/- Layer 13: which host a request is for. -/
import Derived.Test.YtdamgdmipfoalaaDoorVj
import Derived.Test.YtdamgdmipfoalaaDoorFd
set_option linter.unusedVariables false
set_option linter.unusedSimpArgs false
namespace Go.Proofs.YtdamgdmipfoalaaDoor.L
open Go.RowKit Go.Proofs

theorem find_size (nm : List UInt8) (xs : List (ByteArray × ByteArray)) (m : Nat) (hm : 0 < m) (h : ∀ x ∈ xs, x.2.size < m) : (findF nm (flS xs)).1.length < m := by
  induction xs with
  | nil => exact hm
  | cons x r ih =>
    show (findF nm ((x.1.data.toList, x.2.data.toList) :: flS r)).1.length < m
    rw [findF]
    split
    · rw [size_list]
      exact h x (by simp)
    · exact ih fun y hy => h y (by simp [hy])
def hostB : ByteArray := ⟨#[104, 111, 115, 116]⟩
theorem form_vals (m t : List UInt8) : formS m t = 0 ∨ formS m t = 1 ∨ formS m t = 2 ∨ formS m t = 3 ∨ formS m t = 4 := by
  unfold formS
  repeat' split
  all_goals simp

set_option maxRecDepth 100000 in
set_option maxHeartbeats 4000000 in
theorem of_any (M : Nat → Prop) (v : Value) (xs : List (ByteArray × ByteArray)) (m t : ByteArray) (n : Int) (w : World) (hx : Rd fldK M w v xs) (hl : xs.length ≤ 1000000000) (hz : (findF hostL (flS xs)).1.length < 4294967280) (ht : t.size < 4294967280) (he : EnvP w) :
    Calls Tryd.prog 11 #[.agg #[.string m, .string t, .int .i64 n], v] w (HpP w (ofS m.data.toList t.data.toList (flS xs))) := by
  obtain ⟨R, hR⟩ : ∃ R, R = HpP w (ofS m.data.toList t.data.toList (flS xs)) := ⟨_, rfl⟩
  rw [← hR]
  have HR := Lib.hid hR
  have HE := Lib.hid he
  have HX := Lib.hid hx
  obtain ⟨A, c, rfl, hle⟩ := hx.form
  have cf := fun W hW => find_any M (.slice A xs.length c) xs hostB W hW (by decide) (by omega)
  have hlow : lowS hostB.data.toList = hostL := by decide
  unfold hostB at cf hlow
  unfold FindV at cf
  rw [hlow] at cf
  obtain ⟨q, hq⟩ : ∃ q, q = findF hostL (flS xs) := ⟨_, rfl⟩
  have hql : q.1.length < 4294967280 := by
    rw [hq]
    exact hz
  have hqn : q.2 ≤ xs.length := by
    rw [hq]
    have := findF_len hostL (flS xs)
    simpa [flS] using this
  have hof : ofS m.data.toList t.data.toList (flS xs) = if formS m.data.toList t.data.toList = 4 then ([], 0, 11) else if formS m.data.toList t.data.toList = 0 then ([], 0, 3) else if 1 < q.2 then ([], 0, 7)
      else if formS m.data.toList t.data.toList = 2 then hpS (authS t.data.toList).1 else if q.2 = 0 then ([], 0, 8) else hpS q.1 := by rw [hq]; rfl
  simp only [← hq] at cf
  have cF := fun W => form_any m t n W (by omega)
  have hvals := form_vals m.data.toList t.data.toList
  obtain ⟨f, hf⟩ : ∃ f, f = formS m.data.toList t.data.toList := ⟨_, rfl⟩
  rw [← hf] at cF hof hvals
  have cA := fun W => auth_any t W (by omega)
  have hal : (authS t.data.toList).1.length ≤ t.size := by
    unfold authS
    split
    · have := List.takeWhile_sublist (fun c => !isEnd c) (l := t.data.toList.drop 7)
      have := this.length_le
      rw [List.length_drop, size_list] at this
      show (uptoEnd _).length ≤ _
      unfold uptoEnd
      omega
    · simp
  obtain ⟨S, hS⟩ : ∃ S, S = strB q.1 := ⟨_, rfl⟩
  obtain ⟨U, hU⟩ : ∃ U, U = strB (authS t.data.toList).1 := ⟨_, rfl⟩
  obtain ⟨ub, hub⟩ : ∃ ub, ub = (authS t.data.toList).2 := ⟨_, rfl⟩
  simp only [← hU, ← hub] at cA
  have hSd : S.data.toList = q.1 := by rw [hS]; simp [strB]
  have hUd : U.data.toList = (authS t.data.toList).1 := by rw [hU]; simp [strB]
  have cS := fun W hW => hparse_any S W (by rw [hS, strB_size]; exact hql) hW
  have cU := fun W hW => hparse_any U W (by rw [hU, strB_size]; omega) hW
  rw [hSd] at cS
  rw [hUd] at cU
  unfold HpP at cS cU
  rw [← hS] at cf
  obtain ⟨k, hk⟩ : ∃ k, k = q.2 := ⟨_, rfl⟩
  rw [← hk] at cf hof hqn
  have HOF := Lib.hid hof
  clear hR hx he hlow hq hql hof hf hal hS hU hub hSd hUd hk
  rcases hvals with rfl | rfl | rfl | rfl | rfl
  · have HD : Hid (ofS m.data.toList t.data.toList (flS xs) = ([], 0, 3)) := Lib.hid (by rw [HOF.out, if_neg (by decide), if_pos rfl])
    go_enter Tryd.func11, Tryd.ntmps11
    go_wp2_with (go_at_call 19; refine stopc ?_)
    refine Stop.go ?_
    refine (cf _ (HX.out.stp0 ((Stp.refl _ _).alloc _))).mono ?_
    rintro e w1 ⟨rfl, hs1⟩
    have HB := Lib.hid (hs1.blk (heap_alloc_new w (.cells #[.string m, .string t, .int .i64 n] 36)) id)
    have HS1 := Lib.hid (((Stp.refl (fun _ => False) w).alloc _).trans hs1)
    clear hs1
    go_wp2_with (with_reducible refine stop (N := 15) rfl ?_)
    refine Stop.go ?_
    refine wpList_load_row rfl _ _ rfl _ rfl _ _ (0, 0) _ HB.out Tryd.underlying36 rfl (by kernel_rfl) ?_
    go_wp2_with (go_at_call 20; refine stopc ?_)
    refine Stop.go ?_
    refine (cF _).mono ?_
    rintro e w2 ⟨rfl, hs2⟩
    have HB2 := Lib.hid (hs2.blk HB.out id)
    have HS2 := Lib.hid (HS1.out.trans hs2)
    clear hs2 HB HS1
    go_wp2
    go_ret3
    rw [HR.out, HD.out]
    exact ⟨rfl, HS2.out⟩
  · skip
    by_cases k1 : 1 < k
    · have kk : decide ((1 : Int) < (k : Int)) = true := decide_eq_true (by omega)
      have HD : Hid (ofS m.data.toList t.data.toList (flS xs) = ([], 0, 7)) := Lib.hid (by rw [HOF.out, if_neg (by decide), if_neg (by decide), if_pos k1])
      clear k1
      go_enter Tryd.func11, Tryd.ntmps11
      go_wp2_with (go_at_call 19; refine stopc ?_)
      refine Stop.go ?_
      refine (cf _ (HX.out.stp0 ((Stp.refl _ _).alloc _))).mono ?_
      rintro e w1 ⟨rfl, hs1⟩
      have HB := Lib.hid (hs1.blk (heap_alloc_new w (.cells #[.string m, .string t, .int .i64 n] 36)) id)
      have HS1 := Lib.hid (((Stp.refl (fun _ => False) w).alloc _).trans hs1)
      clear hs1
      go_wp2_with (with_reducible refine stop (N := 15) rfl ?_)
      refine Stop.go ?_
      refine wpList_load_row rfl _ _ rfl _ rfl _ _ (0, 0) _ HB.out Tryd.underlying36 rfl (by kernel_rfl) ?_
      go_wp2_with (go_at_call 20; refine stopc ?_)
      refine Stop.go ?_
      refine (cF _).mono ?_
      rintro e w2 ⟨rfl, hs2⟩
      have HB2 := Lib.hid (hs2.blk HB.out id)
      have HS2 := Lib.hid (HS1.out.trans hs2)
      clear hs2 HB HS1
      go_wp2
      go_ret3
      rw [HR.out, HD.out]
      exact ⟨rfl, HS2.out⟩
    · have kk : decide ((1 : Int) < (k : Int)) = false := decide_eq_false (by omega)
      by_cases k0 : k = 0
      · have HD : Hid (ofS m.data.toList t.data.toList (flS xs) = ([], 0, 8)) := Lib.hid (by rw [HOF.out, if_neg (by decide), if_neg (by decide), if_neg k1, if_neg (by decide), if_pos k0])
        subst k0
        clear k1
        go_enter Tryd.func11, Tryd.ntmps11
        go_wp2_with (go_at_call 19; refine stopc ?_)
        refine Stop.go ?_
        refine (cf _ (HX.out.stp0 ((Stp.refl _ _).alloc _))).mono ?_
        rintro e w1 ⟨rfl, hs1⟩
        have HB := Lib.hid (hs1.blk (heap_alloc_new w (.cells #[.string m, .string t, .int .i64 n] 36)) id)
        have HS1 := Lib.hid (((Stp.refl (fun _ => False) w).alloc _).trans hs1)
        clear hs1
        go_wp2_with (with_reducible refine stop (N := 15) rfl ?_)
        refine Stop.go ?_
        refine wpList_load_row rfl _ _ rfl _ rfl _ _ (0, 0) _ HB.out Tryd.underlying36 rfl (by kernel_rfl) ?_
        go_wp2_with (go_at_call 20; refine stopc ?_)
        refine Stop.go ?_
        refine (cF _).mono ?_
        rintro e w2 ⟨rfl, hs2⟩
        have HB2 := Lib.hid (hs2.blk HB.out id)
        have HS2 := Lib.hid (HS1.out.trans hs2)
        clear hs2 HB HS1
        go_wp2
        go_ret3
        rw [HR.out, HD.out]
        exact ⟨rfl, HS2.out⟩
      · have kz : ((k : Int) == 0) = false := by simp; omega
        have HD : Hid (ofS m.data.toList t.data.toList (flS xs) = hpS q.1) := Lib.hid (by rw [HOF.out, if_neg (by decide), if_neg (by decide), if_neg k1, if_neg (by decide), if_neg k0])
        clear k1 k0
        go_enter Tryd.func11, Tryd.ntmps11
        go_wp2_with (go_at_call 19; refine stopc ?_)
        refine Stop.go ?_
        refine (cf _ (HX.out.stp0 ((Stp.refl _ _).alloc _))).mono ?_
        rintro e w1 ⟨rfl, hs1⟩
        have HB := Lib.hid (hs1.blk (heap_alloc_new w (.cells #[.string m, .string t, .int .i64 n] 36)) id)
        have HS1 := Lib.hid (((Stp.refl (fun _ => False) w).alloc _).trans hs1)
        clear hs1
        go_wp2_with (with_reducible refine stop (N := 15) rfl ?_)
        refine Stop.go ?_
        refine wpList_load_row rfl _ _ rfl _ rfl _ _ (0, 0) _ HB.out Tryd.underlying36 rfl (by kernel_rfl) ?_
        go_wp2_with (go_at_call 20; refine stopc ?_)
        refine Stop.go ?_
        refine (cF _).mono ?_
        rintro e w2 ⟨rfl, hs2⟩
        have HB2 := Lib.hid (hs2.blk HB.out id)
        have HS2 := Lib.hid (HS1.out.trans hs2)
        clear hs2 HB HS1
        go_wp2_with (go_at_call 9; refine stopc ?_)
        refine Stop.go ?_
        refine (cS _ (HE.out.step HS2.out)).mono ?_
        rintro e w3 ⟨rfl, hs3⟩
        have HS3 := Lib.hid (HS2.out.trans hs3)
        clear hs3
        go_wp2
        go_ret3
        rw [HR.out, HD.out]
        exact ⟨rfl, HS3.out⟩
  · skip
    by_cases k1 : 1 < k
    · have kk : decide ((1 : Int) < (k : Int)) = true := decide_eq_true (by omega)
      have HD : Hid (ofS m.data.toList t.data.toList (flS xs) = ([], 0, 7)) := Lib.hid (by rw [HOF.out, if_neg (by decide), if_neg (by decide), if_pos k1])
      clear k1
      go_enter Tryd.func11, Tryd.ntmps11
      go_wp2_with (go_at_call 19; refine stopc ?_)
      refine Stop.go ?_
      refine (cf _ (HX.out.stp0 ((Stp.refl _ _).alloc _))).mono ?_
      rintro e w1 ⟨rfl, hs1⟩
      have HB := Lib.hid (hs1.blk (heap_alloc_new w (.cells #[.string m, .string t, .int .i64 n] 36)) id)
      have HS1 := Lib.hid (((Stp.refl (fun _ => False) w).alloc _).trans hs1)
      clear hs1
      go_wp2_with (with_reducible refine stop (N := 15) rfl ?_)
      refine Stop.go ?_
      refine wpList_load_row rfl _ _ rfl _ rfl _ _ (0, 0) _ HB.out Tryd.underlying36 rfl (by kernel_rfl) ?_
      go_wp2_with (go_at_call 20; refine stopc ?_)
      refine Stop.go ?_
      refine (cF _).mono ?_
      rintro e w2 ⟨rfl, hs2⟩
      have HB2 := Lib.hid (hs2.blk HB.out id)
      have HS2 := Lib.hid (HS1.out.trans hs2)
      clear hs2 HB HS1
      go_wp2
      go_ret3
      rw [HR.out, HD.out]
      exact ⟨rfl, HS2.out⟩
    · have kk : decide ((1 : Int) < (k : Int)) = false := decide_eq_false (by omega)
      have HD : Hid (ofS m.data.toList t.data.toList (flS xs) = hpS (authS t.data.toList).1) := Lib.hid (by rw [HOF.out, if_neg (by decide), if_neg (by decide), if_neg k1, if_pos rfl])
      clear k1
      go_enter Tryd.func11, Tryd.ntmps11
      go_wp2_with (go_at_call 19; refine stopc ?_)
      refine Stop.go ?_
      refine (cf _ (HX.out.stp0 ((Stp.refl _ _).alloc _))).mono ?_
      rintro e w1 ⟨rfl, hs1⟩
      have HB := Lib.hid (hs1.blk (heap_alloc_new w (.cells #[.string m, .string t, .int .i64 n] 36)) id)
      have HS1 := Lib.hid (((Stp.refl (fun _ => False) w).alloc _).trans hs1)
      clear hs1
      go_wp2_with (with_reducible refine stop (N := 15) rfl ?_)
      refine Stop.go ?_
      refine wpList_load_row rfl _ _ rfl _ rfl _ _ (0, 0) _ HB.out Tryd.underlying36 rfl (by kernel_rfl) ?_
      go_wp2_with (go_at_call 20; refine stopc ?_)
      refine Stop.go ?_
      refine (cF _).mono ?_
      rintro e w2 ⟨rfl, hs2⟩
      have HB2 := Lib.hid (hs2.blk HB.out id)
      have HS2 := Lib.hid (HS1.out.trans hs2)
      clear hs2 HB HS1
      have hc1 : w2.cell? ⟨w.heap.size, 1, none⟩ = some (.string t) := blk_cell (j := 1) HB2.out
      go_wp2_with (go_at_call 21; refine stopc ?_)
      refine Stop.go ?_
      refine (cA _).mono ?_
      rintro e w3 ⟨rfl, hs3⟩
      have HS3 := Lib.hid (HS2.out.trans hs3)
      clear hs3 hc1
      go_wp2_with (go_at_call 9; refine stopc ?_)
      refine Stop.go ?_
      refine (cU _ (HE.out.step HS3.out)).mono ?_
      rintro e w4 ⟨rfl, hs4⟩
      have HS4 := Lib.hid (HS3.out.trans hs4)
      clear hs4
      go_wp2
      go_ret3
      rw [HR.out, HD.out]
      exact ⟨rfl, HS4.out⟩
  · skip
    by_cases k1 : 1 < k
    · have kk : decide ((1 : Int) < (k : Int)) = true := decide_eq_true (by omega)
      have HD : Hid (ofS m.data.toList t.data.toList (flS xs) = ([], 0, 7)) := Lib.hid (by rw [HOF.out, if_neg (by decide), if_neg (by decide), if_pos k1])
      clear k1
      go_enter Tryd.func11, Tryd.ntmps11
      go_wp2_with (go_at_call 19; refine stopc ?_)
      refine Stop.go ?_
      refine (cf _ (HX.out.stp0 ((Stp.refl _ _).alloc _))).mono ?_
      rintro e w1 ⟨rfl, hs1⟩
      have HB := Lib.hid (hs1.blk (heap_alloc_new w (.cells #[.string m, .string t, .int .i64 n] 36)) id)
      have HS1 := Lib.hid (((Stp.refl (fun _ => False) w).alloc _).trans hs1)
      clear hs1
      go_wp2_with (with_reducible refine stop (N := 15) rfl ?_)
      refine Stop.go ?_
      refine wpList_load_row rfl _ _ rfl _ rfl _ _ (0, 0) _ HB.out Tryd.underlying36 rfl (by kernel_rfl) ?_
      go_wp2_with (go_at_call 20; refine stopc ?_)
      refine Stop.go ?_
      refine (cF _).mono ?_
      rintro e w2 ⟨rfl, hs2⟩
      have HB2 := Lib.hid (hs2.blk HB.out id)
      have HS2 := Lib.hid (HS1.out.trans hs2)
      clear hs2 HB HS1
      go_wp2
      go_ret3
      rw [HR.out, HD.out]
      exact ⟨rfl, HS2.out⟩
    · have kk : decide ((1 : Int) < (k : Int)) = false := decide_eq_false (by omega)
      by_cases k0 : k = 0
      · have HD : Hid (ofS m.data.toList t.data.toList (flS xs) = ([], 0, 8)) := Lib.hid (by rw [HOF.out, if_neg (by decide), if_neg (by decide), if_neg k1, if_neg (by decide), if_pos k0])
        subst k0
        clear k1
        go_enter Tryd.func11, Tryd.ntmps11
        go_wp2_with (go_at_call 19; refine stopc ?_)
        refine Stop.go ?_
        refine (cf _ (HX.out.stp0 ((Stp.refl _ _).alloc _))).mono ?_
        rintro e w1 ⟨rfl, hs1⟩
        have HB := Lib.hid (hs1.blk (heap_alloc_new w (.cells #[.string m, .string t, .int .i64 n] 36)) id)
        have HS1 := Lib.hid (((Stp.refl (fun _ => False) w).alloc _).trans hs1)
        clear hs1
        go_wp2_with (with_reducible refine stop (N := 15) rfl ?_)
        refine Stop.go ?_
        refine wpList_load_row rfl _ _ rfl _ rfl _ _ (0, 0) _ HB.out Tryd.underlying36 rfl (by kernel_rfl) ?_
        go_wp2_with (go_at_call 20; refine stopc ?_)
        refine Stop.go ?_
        refine (cF _).mono ?_
        rintro e w2 ⟨rfl, hs2⟩
        have HB2 := Lib.hid (hs2.blk HB.out id)
        have HS2 := Lib.hid (HS1.out.trans hs2)
        clear hs2 HB HS1
        go_wp2
        go_ret3
        rw [HR.out, HD.out]
        exact ⟨rfl, HS2.out⟩
      · have kz : ((k : Int) == 0) = false := by simp; omega
        have HD : Hid (ofS m.data.toList t.data.toList (flS xs) = hpS q.1) := Lib.hid (by rw [HOF.out, if_neg (by decide), if_neg (by decide), if_neg k1, if_neg (by decide), if_neg k0])
        clear k1 k0
        go_enter Tryd.func11, Tryd.ntmps11
        go_wp2_with (go_at_call 19; refine stopc ?_)
        refine Stop.go ?_
        refine (cf _ (HX.out.stp0 ((Stp.refl _ _).alloc _))).mono ?_
        rintro e w1 ⟨rfl, hs1⟩
        have HB := Lib.hid (hs1.blk (heap_alloc_new w (.cells #[.string m, .string t, .int .i64 n] 36)) id)
        have HS1 := Lib.hid (((Stp.refl (fun _ => False) w).alloc _).trans hs1)
        clear hs1
        go_wp2_with (with_reducible refine stop (N := 15) rfl ?_)
        refine Stop.go ?_
        refine wpList_load_row rfl _ _ rfl _ rfl _ _ (0, 0) _ HB.out Tryd.underlying36 rfl (by kernel_rfl) ?_
        go_wp2_with (go_at_call 20; refine stopc ?_)
        refine Stop.go ?_
        refine (cF _).mono ?_
        rintro e w2 ⟨rfl, hs2⟩
        have HB2 := Lib.hid (hs2.blk HB.out id)
        have HS2 := Lib.hid (HS1.out.trans hs2)
        clear hs2 HB HS1
        go_wp2_with (go_at_call 9; refine stopc ?_)
        refine Stop.go ?_
        refine (cS _ (HE.out.step HS2.out)).mono ?_
        rintro e w3 ⟨rfl, hs3⟩
        have HS3 := Lib.hid (HS2.out.trans hs3)
        clear hs3
        go_wp2
        go_ret3
        rw [HR.out, HD.out]
        exact ⟨rfl, HS3.out⟩
  · have HD : Hid (ofS m.data.toList t.data.toList (flS xs) = ([], 0, 11)) := Lib.hid (by rw [HOF.out, if_pos rfl])
    go_enter Tryd.func11, Tryd.ntmps11
    go_wp2_with (go_at_call 19; refine stopc ?_)
    refine Stop.go ?_
    refine (cf _ (HX.out.stp0 ((Stp.refl _ _).alloc _))).mono ?_
    rintro e w1 ⟨rfl, hs1⟩
    have HB := Lib.hid (hs1.blk (heap_alloc_new w (.cells #[.string m, .string t, .int .i64 n] 36)) id)
    have HS1 := Lib.hid (((Stp.refl (fun _ => False) w).alloc _).trans hs1)
    clear hs1
    go_wp2_with (with_reducible refine stop (N := 15) rfl ?_)
    refine Stop.go ?_
    refine wpList_load_row rfl _ _ rfl _ rfl _ _ (0, 0) _ HB.out Tryd.underlying36 rfl (by kernel_rfl) ?_
    go_wp2_with (go_at_call 20; refine stopc ?_)
    refine Stop.go ?_
    refine (cF _).mono ?_
    rintro e w2 ⟨rfl, hs2⟩
    have HB2 := Lib.hid (hs2.blk HB.out id)
    have HS2 := Lib.hid (HS1.out.trans hs2)
    clear hs2 HB HS1
    go_wp2
    go_ret3
    rw [HR.out, HD.out]
    exact ⟨rfl, HS2.out⟩
end Go.Proofs.YtdamgdmipfoalaaDoor.L
