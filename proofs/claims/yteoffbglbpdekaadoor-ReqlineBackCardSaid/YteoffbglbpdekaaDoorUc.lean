/- Layer 11: the law ReqlineBack. -/
import Derived.Test.YteoffbglbpdekaaDoorUb
set_option linter.unusedVariables false
set_option linter.unusedSimpArgs false
namespace Go.Proofs.YteoffbglbpdekaaDoor.L
open Go.RowKit Go.Proofs

set_option maxRecDepth 100000 in
set_option maxHeartbeats 8000000 in
theorem back11_any (m t : ByteArray) (n : Int) (s : ByteArray) (w : World) (hml : MaxL w) :
    Calls Tryd.prog 9 #[.agg #[.string m, .string t, .int .i64 n], .string s] w (TrueV w) := by
  obtain ⟨R, hR⟩ : ∃ R, R = TrueV w := ⟨_, rfl⟩
  rw [← hR]
  have HR := Lib.hid hR
  have HM := Lib.hid hml
  clear hR hml
  by_cases hbig : ¬ (m.size ≤ 2000 ∧ t.size ≤ 9000 ∧ s.size ≤ 9000)
  · have key : (decide ((2000 : Int) < (m.size : Int)) = true) ∨ (decide ((2000 : Int) < (m.size : Int)) = false ∧ decide ((9000 : Int) < (t.size : Int)) = true) ∨ (decide ((2000 : Int) < (m.size : Int)) = false ∧ decide ((9000 : Int) < (t.size : Int)) = false ∧ decide ((9000 : Int) < (s.size : Int)) = true) := by
      simp only [decide_eq_true_eq, decide_eq_false_iff_not]
      omega
    clear hbig
    rcases key with h1 | ⟨h1, h2⟩ | ⟨h1, h2, h3⟩
    all_goals
      have HS0 := Lib.hid (Stp.refl (fun _ => False) w)
      go_enter Tryd.func9, Tryd.ntmps9
      go_wp2_with (go_at_call 27; refine stopc ?_)
      refine Stop.go ?_
      refine (small11_any _ (HM.out.step (HS0.out.alloc _))).mono ?_
      rintro e w1 ⟨he, hs1⟩
      subst he
      have HS1 := Lib.hid ((HS0.out.alloc _).trans hs1)
      have HBR := Lib.hid (show w1.heap[w.heap.size]? = some (.cells #[.string m, .string t, .int .i64 n] 40 (0, 0)) from hs1.blk (heap_alloc_new w _) id)
      clear hs1
      have kR0 : w1.cell? ⟨w.heap.size, 0, none⟩ = some (.string m) := blk_cell (j := 0) HBR.out
      have kR1 : w1.cell? ⟨w.heap.size, 1, none⟩ = some (.string t) := blk_cell (j := 1) HBR.out
      have kR2 : w1.cell? ⟨w.heap.size, 2, none⟩ = some (.int .i64 n) := blk_cell (j := 2) HBR.out
      have ltR := blk_lt HBR.out
      go_wp2
      rw [HR.out]
      exact ⟨rfl, HS1.out⟩
  · obtain ⟨l1, l2, l3⟩ := Classical.not_not.1 hbig
    have h1 : decide ((2000 : Int) < (m.size : Int)) = false := decide_eq_false (by omega)
    have h2 : decide ((9000 : Int) < (t.size : Int)) = false := decide_eq_false (by omega)
    have h3 : decide ((9000 : Int) < (s.size : Int)) = false := decide_eq_false (by omega)
    obtain ⟨y, e, hp⟩ : ∃ y e, parseRq s.data.toList = (y, e) := ⟨_, _, rfl⟩
    have c3 := fun W hW => qparse_v s W (by omega) hW y e hp
    have c1 := fun W => qprint_any m t n W (by omega) (by omega)
    unfold StrB2 at c1
    have hY : (e = 0 ∧ ∃ a b k, (∀ W, MaxL W → Calls Tryd.prog 34 #[.string s] W fun e' w' => e' = .returned (.tuple #[.agg #[.string a, .string b, .int .i64 k], .int .i64 0]) ∧ Stp (fun _ => False) W w') ∧ ∀ W, Calls Tryd.prog 28 #[.agg #[.string a, .string b, .int .i64 k]] W fun e' w' => e' = .returned (.tuple #[.string s, .bool true]) ∧ Stp (fun _ => False) W w') ∨
        ((e != 0) = true ∧ ∀ W, MaxL W → Calls Tryd.prog 34 #[.string s] W fun e' w' => e' = .returned (.tuple #[.agg #[.string ⟨#[]⟩, .string ⟨#[]⟩, .int .i64 0], .int .i64 e]) ∧ Stp (fun _ => False) W w') := by
      by_cases he : e = 0
      · subst he
        left
        obtain ⟨hok, hl⟩ := parseRq_ok hp
        obtain ⟨-, p2, -, p4⟩ := wrong_parts hok.2
        refine ⟨rfl, strB y.m, strB y.t, y.n, c3, fun W => ?_⟩
        have c := qprint_any (strB y.m) (strB y.t) y.n W (by rw [sB_size]; omega) (by rw [sB_size]; omega)
        rw [sB_data, sB_data, show printRq ⟨y.m, y.t, y.n⟩ = (s.data.toList, true) by unfold printRq; rw [if_pos hok]; exact congrArg (·, true) hl] at c
        unfold StrB2 at c
        simp only [sB_self] at c
        exact c
      · right
        have hn := parseRq_err s.data.toList (by rw [hp]; exact he)
        rw [hp] at hn
        simp only at hn
        subst hn
        exact ⟨by simpa using he, c3⟩
    clear c3 hp hbig
    by_cases hok : okRq ⟨m.data.toList, t.data.toList, n⟩
    · obtain ⟨L, hL⟩ : ∃ L, L = strB (lineRq ⟨m.data.toList, t.data.toList, n⟩) := ⟨_, rfl⟩
      have c1' : ∀ W, Calls Tryd.prog 28 #[.agg #[.string m, .string t, .int .i64 n]] W fun e w' => e = .returned (.tuple #[.string L, .bool true]) ∧ Stp (fun _ => False) W w' := fun W => by
        have c := c1 W
        unfold printRq at c
        rw [if_pos hok, ← hL] at c
        exact c
      have c2 : ∀ W, MaxL W → Calls Tryd.prog 34 #[.string L] W fun e' w' => e' = .returned (.tuple #[.agg #[.string m, .string t, .int .i64 n], .int .i64 0]) ∧ Stp (fun _ => False) W w' := fun W hW => by
        have hv : (if n = 0 then olderL else newerL).length = 8 := by split <;> rfl
        have c := qparse_v L W (by rw [hL, sB_size]; simp only [lineRq, List.length_append, List.length_cons, size_list, hv]; omega) hW ⟨m.data.toList, t.data.toList, n⟩ 0 (by rw [hL, sB_data]; exact parse_lineRq _ hok)
        unfold ReqE ReqV at c
        simp only [sB_self] at c
        exact c
      clear hL c1 hok l1 l2 l3
      rcases hY with ⟨rfl, a, b, k, c3, c4⟩ | ⟨he, c3⟩
      · skip
        have HS0 := Lib.hid (Stp.refl (fun _ => False) w)
        go_enter Tryd.func9, Tryd.ntmps9
        go_wp2_with (go_at_call 27; refine stopc ?_)
        refine Stop.go ?_
        refine (small11_any _ (HM.out.step (HS0.out.alloc _))).mono ?_
        rintro e w1 ⟨he, hs1⟩
        subst he
        have HS1 := Lib.hid ((HS0.out.alloc _).trans hs1)
        have HBR := Lib.hid (show w1.heap[w.heap.size]? = some (.cells #[.string m, .string t, .int .i64 n] 40 (0, 0)) from hs1.blk (heap_alloc_new w _) id)
        clear hs1
        have kR0 : w1.cell? ⟨w.heap.size, 0, none⟩ = some (.string m) := blk_cell (j := 0) HBR.out
        have kR1 : w1.cell? ⟨w.heap.size, 1, none⟩ = some (.string t) := blk_cell (j := 1) HBR.out
        have kR2 : w1.cell? ⟨w.heap.size, 2, none⟩ = some (.int .i64 n) := blk_cell (j := 2) HBR.out
        have ltR := blk_lt HBR.out
        go_wp2_with (go_at_call 28; refine stopc ?_)
        refine Stop.go ?_
        refine (c1' _).mono ?_
        rintro e w2 ⟨he, hs2⟩
        subst he
        have HS2 := Lib.hid (HS1.out.trans hs2)
        replace HBR := Lib.hid (hs2.blk HBR.out id)
        clear hs2 kR0 kR1 kR2 ltR
        have kR0 : w2.cell? ⟨w.heap.size, 0, none⟩ = some (.string m) := blk_cell (j := 0) HBR.out
        have kR1 : w2.cell? ⟨w.heap.size, 1, none⟩ = some (.string t) := blk_cell (j := 1) HBR.out
        have kR2 : w2.cell? ⟨w.heap.size, 2, none⟩ = some (.int .i64 n) := blk_cell (j := 2) HBR.out
        have ltR := blk_lt HBR.out
        go_wp2_with (go_at_call 34; refine stopc ?_)
        refine Stop.go ?_
        refine (c2 _ (HM.out.step HS2.out)).mono ?_
        rintro e w3 ⟨he, hs3⟩
        subst he
        have HS3 := Lib.hid (HS2.out.trans hs3)
        replace HBR := Lib.hid (hs3.blk HBR.out id)
        clear hs3 kR0 kR1 kR2 ltR
        have kR0 : w3.cell? ⟨w.heap.size, 0, none⟩ = some (.string m) := blk_cell (j := 0) HBR.out
        have kR1 : w3.cell? ⟨w.heap.size, 1, none⟩ = some (.string t) := blk_cell (j := 1) HBR.out
        have kR2 : w3.cell? ⟨w.heap.size, 2, none⟩ = some (.int .i64 n) := blk_cell (j := 2) HBR.out
        have ltR := blk_lt HBR.out
        go_wp2_with (go_at_call 34; refine stopc ?_)
        refine Stop.go ?_
        refine (c3 _ (HM.out.step (HS3.out.alloc _))).mono ?_
        rintro e w4 ⟨he, hs4⟩
        subst he
        have HS4 := Lib.hid ((HS3.out.alloc _).trans hs4)
        replace HBR := Lib.hid (hs4.blk (((Stp.refl (fun _ => False) _).alloc _).blk HBR.out id) id)
        have HBX := Lib.hid (show w4.heap[w3.heap.size]? = some (.cells #[.string m, .string t, .int .i64 n] 40 (0, 0)) from hs4.blk (heap_alloc_new w3 _) id)
        clear hs4 kR0 kR1 kR2 ltR
        have kR0 : w4.cell? ⟨w.heap.size, 0, none⟩ = some (.string m) := blk_cell (j := 0) HBR.out
        have kR1 : w4.cell? ⟨w.heap.size, 1, none⟩ = some (.string t) := blk_cell (j := 1) HBR.out
        have kR2 : w4.cell? ⟨w.heap.size, 2, none⟩ = some (.int .i64 n) := blk_cell (j := 2) HBR.out
        have ltR := blk_lt HBR.out
        have kX0 : w4.cell? ⟨w3.heap.size, 0, none⟩ = some (.string m) := blk_cell (j := 0) HBX.out
        have kX1 : w4.cell? ⟨w3.heap.size, 1, none⟩ = some (.string t) := blk_cell (j := 1) HBX.out
        have kX2 : w4.cell? ⟨w3.heap.size, 2, none⟩ = some (.int .i64 n) := blk_cell (j := 2) HBX.out
        have ltX := blk_lt HBX.out
        go_wp2_with (go_at_call 28; refine stopc ?_)
        refine Stop.go ?_
        refine (c4 _).mono ?_
        rintro e w5 ⟨he, hs5⟩
        subst he
        have HS5 := Lib.hid ((HS4.out.alloc _).trans hs5)
        replace HBR := Lib.hid (hs5.blk (((Stp.refl (fun _ => False) _).alloc _).blk HBR.out id) id)
        replace HBX := Lib.hid (hs5.blk (((Stp.refl (fun _ => False) _).alloc _).blk HBX.out id) id)
        have HBY := Lib.hid (show w5.heap[w4.heap.size]? = some (.cells #[.string a, .string b, .int .i64 k] 40 (0, 0)) from hs5.blk (heap_alloc_new w4 _) id)
        clear hs5 kR0 kR1 kR2 ltR kX0 kX1 kX2 ltX
        have kR0 : w5.cell? ⟨w.heap.size, 0, none⟩ = some (.string m) := blk_cell (j := 0) HBR.out
        have kR1 : w5.cell? ⟨w.heap.size, 1, none⟩ = some (.string t) := blk_cell (j := 1) HBR.out
        have kR2 : w5.cell? ⟨w.heap.size, 2, none⟩ = some (.int .i64 n) := blk_cell (j := 2) HBR.out
        have ltR := blk_lt HBR.out
        have kX0 : w5.cell? ⟨w3.heap.size, 0, none⟩ = some (.string m) := blk_cell (j := 0) HBX.out
        have kX1 : w5.cell? ⟨w3.heap.size, 1, none⟩ = some (.string t) := blk_cell (j := 1) HBX.out
        have kX2 : w5.cell? ⟨w3.heap.size, 2, none⟩ = some (.int .i64 n) := blk_cell (j := 2) HBX.out
        have ltX := blk_lt HBX.out
        have kY0 : w5.cell? ⟨w4.heap.size, 0, none⟩ = some (.string a) := blk_cell (j := 0) HBY.out
        have kY1 : w5.cell? ⟨w4.heap.size, 1, none⟩ = some (.string b) := blk_cell (j := 1) HBY.out
        have kY2 : w5.cell? ⟨w4.heap.size, 2, none⟩ = some (.int .i64 k) := blk_cell (j := 2) HBY.out
        have ltY := blk_lt HBY.out
        go_wp2
        rw [HR.out]
        exact ⟨rfl, HS5.out⟩
      · skip
        have HS0 := Lib.hid (Stp.refl (fun _ => False) w)
        go_enter Tryd.func9, Tryd.ntmps9
        go_wp2_with (go_at_call 27; refine stopc ?_)
        refine Stop.go ?_
        refine (small11_any _ (HM.out.step (HS0.out.alloc _))).mono ?_
        rintro e w1 ⟨he, hs1⟩
        subst he
        have HS1 := Lib.hid ((HS0.out.alloc _).trans hs1)
        have HBR := Lib.hid (show w1.heap[w.heap.size]? = some (.cells #[.string m, .string t, .int .i64 n] 40 (0, 0)) from hs1.blk (heap_alloc_new w _) id)
        clear hs1
        have kR0 : w1.cell? ⟨w.heap.size, 0, none⟩ = some (.string m) := blk_cell (j := 0) HBR.out
        have kR1 : w1.cell? ⟨w.heap.size, 1, none⟩ = some (.string t) := blk_cell (j := 1) HBR.out
        have kR2 : w1.cell? ⟨w.heap.size, 2, none⟩ = some (.int .i64 n) := blk_cell (j := 2) HBR.out
        have ltR := blk_lt HBR.out
        go_wp2_with (go_at_call 28; refine stopc ?_)
        refine Stop.go ?_
        refine (c1' _).mono ?_
        rintro e w2 ⟨he, hs2⟩
        subst he
        have HS2 := Lib.hid (HS1.out.trans hs2)
        replace HBR := Lib.hid (hs2.blk HBR.out id)
        clear hs2 kR0 kR1 kR2 ltR
        have kR0 : w2.cell? ⟨w.heap.size, 0, none⟩ = some (.string m) := blk_cell (j := 0) HBR.out
        have kR1 : w2.cell? ⟨w.heap.size, 1, none⟩ = some (.string t) := blk_cell (j := 1) HBR.out
        have kR2 : w2.cell? ⟨w.heap.size, 2, none⟩ = some (.int .i64 n) := blk_cell (j := 2) HBR.out
        have ltR := blk_lt HBR.out
        go_wp2_with (go_at_call 34; refine stopc ?_)
        refine Stop.go ?_
        refine (c2 _ (HM.out.step HS2.out)).mono ?_
        rintro e w3 ⟨he, hs3⟩
        subst he
        have HS3 := Lib.hid (HS2.out.trans hs3)
        replace HBR := Lib.hid (hs3.blk HBR.out id)
        clear hs3 kR0 kR1 kR2 ltR
        have kR0 : w3.cell? ⟨w.heap.size, 0, none⟩ = some (.string m) := blk_cell (j := 0) HBR.out
        have kR1 : w3.cell? ⟨w.heap.size, 1, none⟩ = some (.string t) := blk_cell (j := 1) HBR.out
        have kR2 : w3.cell? ⟨w.heap.size, 2, none⟩ = some (.int .i64 n) := blk_cell (j := 2) HBR.out
        have ltR := blk_lt HBR.out
        go_wp2_with (go_at_call 34; refine stopc ?_)
        refine Stop.go ?_
        refine (c3 _ (HM.out.step (HS3.out.alloc _))).mono ?_
        rintro e w4 ⟨he, hs4⟩
        subst he
        have HS4 := Lib.hid ((HS3.out.alloc _).trans hs4)
        replace HBR := Lib.hid (hs4.blk (((Stp.refl (fun _ => False) _).alloc _).blk HBR.out id) id)
        have HBX := Lib.hid (show w4.heap[w3.heap.size]? = some (.cells #[.string m, .string t, .int .i64 n] 40 (0, 0)) from hs4.blk (heap_alloc_new w3 _) id)
        clear hs4 kR0 kR1 kR2 ltR
        have kR0 : w4.cell? ⟨w.heap.size, 0, none⟩ = some (.string m) := blk_cell (j := 0) HBR.out
        have kR1 : w4.cell? ⟨w.heap.size, 1, none⟩ = some (.string t) := blk_cell (j := 1) HBR.out
        have kR2 : w4.cell? ⟨w.heap.size, 2, none⟩ = some (.int .i64 n) := blk_cell (j := 2) HBR.out
        have ltR := blk_lt HBR.out
        have kX0 : w4.cell? ⟨w3.heap.size, 0, none⟩ = some (.string m) := blk_cell (j := 0) HBX.out
        have kX1 : w4.cell? ⟨w3.heap.size, 1, none⟩ = some (.string t) := blk_cell (j := 1) HBX.out
        have kX2 : w4.cell? ⟨w3.heap.size, 2, none⟩ = some (.int .i64 n) := blk_cell (j := 2) HBX.out
        have ltX := blk_lt HBX.out
        go_wp2
        rw [HR.out]
        exact ⟨rfl, (HS4.out.alloc _).alloc _⟩
    · have c1' : ∀ W, Calls Tryd.prog 28 #[.agg #[.string m, .string t, .int .i64 n]] W fun e w' => e = .returned (.tuple #[.string ⟨#[]⟩, .bool false]) ∧ Stp (fun _ => False) W w' := fun W => by
        have c := c1 W
        unfold printRq at c
        rw [if_neg hok] at c
        exact c
      clear c1 hok l1 l2 l3
      rcases hY with ⟨rfl, a, b, k, c3, c4⟩ | ⟨he, c3⟩
      · skip
        have HS0 := Lib.hid (Stp.refl (fun _ => False) w)
        go_enter Tryd.func9, Tryd.ntmps9
        go_wp2_with (go_at_call 27; refine stopc ?_)
        refine Stop.go ?_
        refine (small11_any _ (HM.out.step (HS0.out.alloc _))).mono ?_
        rintro e w1 ⟨he, hs1⟩
        subst he
        have HS1 := Lib.hid ((HS0.out.alloc _).trans hs1)
        have HBR := Lib.hid (show w1.heap[w.heap.size]? = some (.cells #[.string m, .string t, .int .i64 n] 40 (0, 0)) from hs1.blk (heap_alloc_new w _) id)
        clear hs1
        have kR0 : w1.cell? ⟨w.heap.size, 0, none⟩ = some (.string m) := blk_cell (j := 0) HBR.out
        have kR1 : w1.cell? ⟨w.heap.size, 1, none⟩ = some (.string t) := blk_cell (j := 1) HBR.out
        have kR2 : w1.cell? ⟨w.heap.size, 2, none⟩ = some (.int .i64 n) := blk_cell (j := 2) HBR.out
        have ltR := blk_lt HBR.out
        go_wp2_with (go_at_call 28; refine stopc ?_)
        refine Stop.go ?_
        refine (c1' _).mono ?_
        rintro e w2 ⟨he, hs2⟩
        subst he
        have HS2 := Lib.hid (HS1.out.trans hs2)
        replace HBR := Lib.hid (hs2.blk HBR.out id)
        clear hs2 kR0 kR1 kR2 ltR
        have kR0 : w2.cell? ⟨w.heap.size, 0, none⟩ = some (.string m) := blk_cell (j := 0) HBR.out
        have kR1 : w2.cell? ⟨w.heap.size, 1, none⟩ = some (.string t) := blk_cell (j := 1) HBR.out
        have kR2 : w2.cell? ⟨w.heap.size, 2, none⟩ = some (.int .i64 n) := blk_cell (j := 2) HBR.out
        have ltR := blk_lt HBR.out
        go_wp2_with (go_at_call 34; refine stopc ?_)
        refine Stop.go ?_
        refine (c3 _ (HM.out.step HS2.out)).mono ?_
        rintro e w3 ⟨he, hs3⟩
        subst he
        have HS3 := Lib.hid (HS2.out.trans hs3)
        replace HBR := Lib.hid (hs3.blk HBR.out id)
        clear hs3 kR0 kR1 kR2 ltR
        have kR0 : w3.cell? ⟨w.heap.size, 0, none⟩ = some (.string m) := blk_cell (j := 0) HBR.out
        have kR1 : w3.cell? ⟨w.heap.size, 1, none⟩ = some (.string t) := blk_cell (j := 1) HBR.out
        have kR2 : w3.cell? ⟨w.heap.size, 2, none⟩ = some (.int .i64 n) := blk_cell (j := 2) HBR.out
        have ltR := blk_lt HBR.out
        go_wp2_with (go_at_call 28; refine stopc ?_)
        refine Stop.go ?_
        refine (c4 _).mono ?_
        rintro e w4 ⟨he, hs4⟩
        subst he
        have HS4 := Lib.hid ((HS3.out.alloc _).trans hs4)
        replace HBR := Lib.hid (hs4.blk (((Stp.refl (fun _ => False) _).alloc _).blk HBR.out id) id)
        have HBY := Lib.hid (show w4.heap[w3.heap.size]? = some (.cells #[.string a, .string b, .int .i64 k] 40 (0, 0)) from hs4.blk (heap_alloc_new w3 _) id)
        clear hs4 kR0 kR1 kR2 ltR
        have kR0 : w4.cell? ⟨w.heap.size, 0, none⟩ = some (.string m) := blk_cell (j := 0) HBR.out
        have kR1 : w4.cell? ⟨w.heap.size, 1, none⟩ = some (.string t) := blk_cell (j := 1) HBR.out
        have kR2 : w4.cell? ⟨w.heap.size, 2, none⟩ = some (.int .i64 n) := blk_cell (j := 2) HBR.out
        have ltR := blk_lt HBR.out
        have kY0 : w4.cell? ⟨w3.heap.size, 0, none⟩ = some (.string a) := blk_cell (j := 0) HBY.out
        have kY1 : w4.cell? ⟨w3.heap.size, 1, none⟩ = some (.string b) := blk_cell (j := 1) HBY.out
        have kY2 : w4.cell? ⟨w3.heap.size, 2, none⟩ = some (.int .i64 k) := blk_cell (j := 2) HBY.out
        have ltY := blk_lt HBY.out
        go_wp2
        rw [HR.out]
        exact ⟨rfl, HS4.out⟩
      · skip
        have HS0 := Lib.hid (Stp.refl (fun _ => False) w)
        go_enter Tryd.func9, Tryd.ntmps9
        go_wp2_with (go_at_call 27; refine stopc ?_)
        refine Stop.go ?_
        refine (small11_any _ (HM.out.step (HS0.out.alloc _))).mono ?_
        rintro e w1 ⟨he, hs1⟩
        subst he
        have HS1 := Lib.hid ((HS0.out.alloc _).trans hs1)
        have HBR := Lib.hid (show w1.heap[w.heap.size]? = some (.cells #[.string m, .string t, .int .i64 n] 40 (0, 0)) from hs1.blk (heap_alloc_new w _) id)
        clear hs1
        have kR0 : w1.cell? ⟨w.heap.size, 0, none⟩ = some (.string m) := blk_cell (j := 0) HBR.out
        have kR1 : w1.cell? ⟨w.heap.size, 1, none⟩ = some (.string t) := blk_cell (j := 1) HBR.out
        have kR2 : w1.cell? ⟨w.heap.size, 2, none⟩ = some (.int .i64 n) := blk_cell (j := 2) HBR.out
        have ltR := blk_lt HBR.out
        go_wp2_with (go_at_call 28; refine stopc ?_)
        refine Stop.go ?_
        refine (c1' _).mono ?_
        rintro e w2 ⟨he, hs2⟩
        subst he
        have HS2 := Lib.hid (HS1.out.trans hs2)
        replace HBR := Lib.hid (hs2.blk HBR.out id)
        clear hs2 kR0 kR1 kR2 ltR
        have kR0 : w2.cell? ⟨w.heap.size, 0, none⟩ = some (.string m) := blk_cell (j := 0) HBR.out
        have kR1 : w2.cell? ⟨w.heap.size, 1, none⟩ = some (.string t) := blk_cell (j := 1) HBR.out
        have kR2 : w2.cell? ⟨w.heap.size, 2, none⟩ = some (.int .i64 n) := blk_cell (j := 2) HBR.out
        have ltR := blk_lt HBR.out
        go_wp2_with (go_at_call 34; refine stopc ?_)
        refine Stop.go ?_
        refine (c3 _ (HM.out.step HS2.out)).mono ?_
        rintro e w3 ⟨he, hs3⟩
        subst he
        have HS3 := Lib.hid (HS2.out.trans hs3)
        replace HBR := Lib.hid (hs3.blk HBR.out id)
        clear hs3 kR0 kR1 kR2 ltR
        have kR0 : w3.cell? ⟨w.heap.size, 0, none⟩ = some (.string m) := blk_cell (j := 0) HBR.out
        have kR1 : w3.cell? ⟨w.heap.size, 1, none⟩ = some (.string t) := blk_cell (j := 1) HBR.out
        have kR2 : w3.cell? ⟨w.heap.size, 2, none⟩ = some (.int .i64 n) := blk_cell (j := 2) HBR.out
        have ltR := blk_lt HBR.out
        go_wp2
        rw [HR.out]
        exact ⟨rfl, (HS3.out.alloc _).alloc _⟩
end Go.Proofs.YteoffbglbpdekaaDoor.L
