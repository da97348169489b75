/- Layer 11: requests are printed. -/
import Derived.Test.YtgjmaifgkgejgaaGreatDoorRy
set_option linter.unusedVariables false
set_option linter.unusedSimpArgs false
namespace Go.Proofs.YtgjmaifgkgejgaaGreatDoor.L
open Go.RowKit Go.Proofs

theorem join3 (g : Nat) (m t v : ByteArray) (W : World) (ty : TypeId) (hb : W.heap[g]? = some (.cells #[.string m, .string t, .string v] ty (0, 0))) (hl : m.size + t.size + v.size ≤ 4000000000) :
    Calls Tryz.prog 26 #[.slice (some ⟨g, 0, none⟩) 3 3, .string ⟨#[32]⟩] W fun e w' => e = .returned (.string (strB (m.data.toList ++ 32 :: (t.data.toList ++ 32 :: v.data.toList)))) ∧ Stp (fun _ => False) W w' := by
  have hj : Lib.join ([m, t, v].map (·.data.toList)) (⟨#[32]⟩ : ByteArray).data.toList = m.data.toList ++ 32 :: (t.data.toList ++ 32 :: v.data.toList) := by
    simp [Lib.join, List.intercalate]
  have h := Tryz.strings_Join g 0 3 [m, t, v] ⟨#[32]⟩ W (fun j x hj => by
    match j, hj with
    | 0, hj => cases hj; exact blk_cell (j := 0) hb
    | 1, hj => cases hj; exact blk_cell (j := 1) hb
    | 2, hj => cases hj; exact blk_cell (j := 2) hb) (blk_lt hb) (by simp) (by simp) (by rw [hj]; simp only [List.length_append, List.length_cons, size_list]; omega)
  rw [hj] at h
  exact h.mono fun e w' ⟨h1, h2⟩ => ⟨h1, Stp.of_below h2⟩

theorem und_ver : Tryz.prog.underlying 64 = some (.array 2 9) := by kernel_rfl
theorem run_ver0 (a b : ByteArray) (W : World) : (Instr.index 64 (.agg #[.string a, .string b]) (.int .i64 0)).run Tryz.prog W = .ok (.string a) W := by
  simp [Instr.index, run_underlying und_ver, asIntOf, part, Tryz.isAgg9, Tryz.sizeOf9, go_sem]
theorem run_ver1 (a b : ByteArray) (W : World) : (Instr.index 64 (.agg #[.string a, .string b]) (.int .i64 1)).run Tryz.prog W = .ok (.string b) W := by
  simp [Instr.index, run_underlying und_ver, asIntOf, part, Tryz.isAgg9, Tryz.sizeOf9, go_sem]
theorem print_key (m t : List UInt8) (n : Int) (r : List UInt8 × Bool) (hr : r = printRq ⟨m, t, n⟩) :
    (decide (n < 0) = true ∧ r = ([], false)) ∨ (decide (n < 0) = false ∧ decide (1 < n) = true ∧ r = ([], false)) ∨ ((n = 0 ∨ n = 1) ∧ wrongS m t ≠ 0 ∧ r = ([], false)) ∨ (n = 0 ∧ wrongS m t = 0 ∧ r = (m ++ 32 :: (t ++ 32 :: olderL), true)) ∨ (n = 1 ∧ wrongS m t = 0 ∧ r = (m ++ 32 :: (t ++ 32 :: newerL), true)) := by
  have hok : okRq ⟨m, t, n⟩ ↔ (n = 0 ∨ n = 1) ∧ wrongS m t = 0 := Iff.rfl
  unfold printRq at hr
  by_cases h1 : n < 0
  · exact .inl ⟨decide_eq_true h1, by rw [hr, if_neg]; rw [hok]; omega⟩
  · by_cases h2 : 1 < n
    · exact .inr (.inl ⟨decide_eq_false h1, decide_eq_true h2, by rw [hr, if_neg]; rw [hok]; omega⟩)
    · have h3 : n = 0 ∨ n = 1 := by omega
      by_cases h4 : wrongS m t = 0
      · rw [if_pos (hok.2 ⟨h3, h4⟩)] at hr
        rcases h3 with rfl | rfl
        · exact .inr (.inr (.inr (.inl ⟨rfl, h4, hr⟩)))
        · exact .inr (.inr (.inr (.inr ⟨rfl, h4, hr⟩)))
      · exact .inr (.inr (.inl ⟨h3, h4, by rw [hr, if_neg]; exact fun h => h4 (hok.1 h).2⟩))

set_option maxRecDepth 100000 in
set_option maxHeartbeats 8000000 in
theorem qprint_any (m t : ByteArray) (n : Int) (w : World) (hm : m.size ≤ 9223372036854775807) (ht : t.size ≤ 9223372036854775807) :
    Calls Tryz.prog 15 #[.agg #[.string m, .string t, .int .i64 n]] w (StrB2 w (printRq ⟨m.data.toList, t.data.toList, n⟩)) := by
  obtain ⟨r, hr⟩ : ∃ r, r = printRq ⟨m.data.toList, t.data.toList, n⟩ := ⟨_, rfl⟩
  rw [← hr]
  have key := print_key _ _ _ _ hr
  have cw := fun W => wrong_any m t W (by omega) (by omega)
  obtain ⟨q, hq⟩ : ∃ q, q = wrongS m.data.toList t.data.toList := ⟨_, rfl⟩
  rw [← hq] at cw key
  have hsz : q = 0 → m.size ≤ 32 ∧ t.size ≤ 8000 := fun h => by
    obtain ⟨-, a, -, b⟩ := wrong_parts (hq.symm.trans h)
    rw [size_list] at a b
    exact ⟨a, b⟩
  clear hr hq
  rcases key with ⟨h1, rfl⟩ | ⟨h1, h2, rfl⟩ | ⟨h1, h2, rfl⟩ | ⟨rfl, rfl, hr⟩ | ⟨rfl, rfl, hr⟩
  · have hb0 := heap_alloc_new w (.cells #[.string m, .string t, .int .i64 n] 40)
    have hc2 := blk_cell (j := 2) hb0
    have HS0 := Lib.hid (Stp.refl (fun _ => False) w)
    clear hb0
    go_enter Tryz.func15, Tryz.ntmps15
    go_wp2
    go_ret2
    exact ⟨rfl, (Stp.refl _ _).alloc _⟩
  · have hb0 := heap_alloc_new w (.cells #[.string m, .string t, .int .i64 n] 40)
    have hc2 := blk_cell (j := 2) hb0
    have HS0 := Lib.hid (Stp.refl (fun _ => False) w)
    clear hb0
    go_enter Tryz.func15, Tryz.ntmps15
    go_wp2
    go_ret2
    exact ⟨rfl, (Stp.refl _ _).alloc _⟩
  · have hq1 : (q != 0) = true := by simpa using h2
    rcases h1 with rfl | rfl
    · skip
      have HS0 := Lib.hid (Stp.refl (fun _ => False) w)
      go_enter Tryz.func15, Tryz.ntmps15
      go_wp2_with (go_at_call 25; refine stopc ?_)
      refine Stop.go ?_
      refine (cw _).mono ?_
      rintro e w1 ⟨he, hs1⟩
      subst he
      have HS1 := Lib.hid ((HS0.out.alloc _).trans hs1)
      have HBR := Lib.hid (show w1.heap[w.heap.size]? = some (.cells #[.string m, .string t, .int .i64 0] 40 (0, 0)) from hs1.blk (heap_alloc_new w _) id)
      clear hs1
      have kR0 : w1.cell? ⟨w.heap.size, 0, none⟩ = some (.string m) := blk_cell (j := 0) HBR.out
      have kR1 : w1.cell? ⟨w.heap.size, 1, none⟩ = some (.string t) := blk_cell (j := 1) HBR.out
      have kR2 : w1.cell? ⟨w.heap.size, 2, none⟩ = some (.int .i64 0) := blk_cell (j := 2) HBR.out
      have ltR := blk_lt HBR.out
      go_wp2
      go_ret2
      exact ⟨rfl, HS1.out⟩
    · skip
      have HS0 := Lib.hid (Stp.refl (fun _ => False) w)
      go_enter Tryz.func15, Tryz.ntmps15
      go_wp2_with (go_at_call 25; refine stopc ?_)
      refine Stop.go ?_
      refine (cw _).mono ?_
      rintro e w1 ⟨he, hs1⟩
      subst he
      have HS1 := Lib.hid ((HS0.out.alloc _).trans hs1)
      have HBR := Lib.hid (show w1.heap[w.heap.size]? = some (.cells #[.string m, .string t, .int .i64 1] 40 (0, 0)) from hs1.blk (heap_alloc_new w _) id)
      clear hs1
      have kR0 : w1.cell? ⟨w.heap.size, 0, none⟩ = some (.string m) := blk_cell (j := 0) HBR.out
      have kR1 : w1.cell? ⟨w.heap.size, 1, none⟩ = some (.string t) := blk_cell (j := 1) HBR.out
      have kR2 : w1.cell? ⟨w.heap.size, 2, none⟩ = some (.int .i64 1) := blk_cell (j := 2) HBR.out
      have ltR := blk_lt HBR.out
      go_wp2
      go_ret2
      exact ⟨rfl, HS1.out⟩
  · obtain ⟨hm32, ht8⟩ := hsz rfl
    clear hsz
    have HR := Lib.hid hr
    have hvr := fun (x y : ByteArray) (W : World) => run_ver0 x y W
    clear hr
    have HS0 := Lib.hid (Stp.refl (fun _ => False) w)
    go_enter Tryz.func15, Tryz.ntmps15
    go_wp2_with (go_at_call 25; refine stopc ?_)
    refine Stop.go ?_
    refine (cw _).mono ?_
    rintro e w1 ⟨he, hs1⟩
    subst he
    have HS1 := Lib.hid ((HS0.out.alloc _).trans hs1)
    have HBR := Lib.hid (show w1.heap[w.heap.size]? = some (.cells #[.string m, .string t, .int .i64 0] 40 (0, 0)) from hs1.blk (heap_alloc_new w _) id)
    clear hs1
    have kR0 : w1.cell? ⟨w.heap.size, 0, none⟩ = some (.string m) := blk_cell (j := 0) HBR.out
    have kR1 : w1.cell? ⟨w.heap.size, 1, none⟩ = some (.string t) := blk_cell (j := 1) HBR.out
    have kR2 : w1.cell? ⟨w.heap.size, 2, none⟩ = some (.int .i64 0) := blk_cell (j := 2) HBR.out
    have ltR := blk_lt HBR.out
    go_wp2_with (go_at_call 26; refine stopc ?_)
    refine Stop.go ?_
    refine (join3 _ m t ⟨#[72, 84, 84, 80, 47, 49, 46, 48]⟩ _ _ (heap_alloc_new _ _) (by have : (⟨#[72, 84, 84, 80, 47, 49, 46, 48]⟩ : ByteArray).size = 8 := rfl; omega)).mono ?_
    rintro e w2 ⟨he, hs2⟩
    subst he
    have HS2 := Lib.hid ((HS1.out.alloc _).trans hs2)
    replace HBR := Lib.hid (hs2.blk (((Stp.refl (fun _ => False) _).alloc _).blk HBR.out id) id)
    have HBL := Lib.hid (show w2.heap[w1.heap.size]? = some (.cells #[.string m, .string t, .string ⟨#[72, 84, 84, 80, 47, 49, 46, 48]⟩] 9 (0, 0)) from hs2.blk (heap_alloc_new w1 _) id)
    clear hs2 kR0 kR1 kR2 ltR
    have kR0 : w2.cell? ⟨w.heap.size, 0, none⟩ = some (.string m) := blk_cell (j := 0) HBR.out
    have kR1 : w2.cell? ⟨w.heap.size, 1, none⟩ = some (.string t) := blk_cell (j := 1) HBR.out
    have kR2 : w2.cell? ⟨w.heap.size, 2, none⟩ = some (.int .i64 0) := blk_cell (j := 2) HBR.out
    have ltR := blk_lt HBR.out
    have kL0 : w2.cell? ⟨w1.heap.size, 0, none⟩ = some (.string m) := blk_cell (j := 0) HBL.out
    have kL1 : w2.cell? ⟨w1.heap.size, 1, none⟩ = some (.string t) := blk_cell (j := 1) HBL.out
    have kL2 : w2.cell? ⟨w1.heap.size, 2, none⟩ = some (.string ⟨#[72, 84, 84, 80, 47, 49, 46, 48]⟩) := blk_cell (j := 2) HBL.out
    have ltL := blk_lt HBL.out
    go_wp2
    go_ret2
    exact ⟨by rw [HR.out]; rfl, HS2.out⟩
  · obtain ⟨hm32, ht8⟩ := hsz rfl
    clear hsz
    have HR := Lib.hid hr
    have hvr := fun (x y : ByteArray) (W : World) => run_ver1 x y W
    clear hr
    have HS0 := Lib.hid (Stp.refl (fun _ => False) w)
    go_enter Tryz.func15, Tryz.ntmps15
    go_wp2_with (go_at_call 25; refine stopc ?_)
    refine Stop.go ?_
    refine (cw _).mono ?_
    rintro e w1 ⟨he, hs1⟩
    subst he
    have HS1 := Lib.hid ((HS0.out.alloc _).trans hs1)
    have HBR := Lib.hid (show w1.heap[w.heap.size]? = some (.cells #[.string m, .string t, .int .i64 1] 40 (0, 0)) from hs1.blk (heap_alloc_new w _) id)
    clear hs1
    have kR0 : w1.cell? ⟨w.heap.size, 0, none⟩ = some (.string m) := blk_cell (j := 0) HBR.out
    have kR1 : w1.cell? ⟨w.heap.size, 1, none⟩ = some (.string t) := blk_cell (j := 1) HBR.out
    have kR2 : w1.cell? ⟨w.heap.size, 2, none⟩ = some (.int .i64 1) := blk_cell (j := 2) HBR.out
    have ltR := blk_lt HBR.out
    go_wp2_with (go_at_call 26; refine stopc ?_)
    refine Stop.go ?_
    refine (join3 _ m t ⟨#[72, 84, 84, 80, 47, 49, 46, 49]⟩ _ _ (heap_alloc_new _ _) (by have : (⟨#[72, 84, 84, 80, 47, 49, 46, 49]⟩ : ByteArray).size = 8 := rfl; omega)).mono ?_
    rintro e w2 ⟨he, hs2⟩
    subst he
    have HS2 := Lib.hid ((HS1.out.alloc _).trans hs2)
    replace HBR := Lib.hid (hs2.blk (((Stp.refl (fun _ => False) _).alloc _).blk HBR.out id) id)
    have HBL := Lib.hid (show w2.heap[w1.heap.size]? = some (.cells #[.string m, .string t, .string ⟨#[72, 84, 84, 80, 47, 49, 46, 49]⟩] 9 (0, 0)) from hs2.blk (heap_alloc_new w1 _) id)
    clear hs2 kR0 kR1 kR2 ltR
    have kR0 : w2.cell? ⟨w.heap.size, 0, none⟩ = some (.string m) := blk_cell (j := 0) HBR.out
    have kR1 : w2.cell? ⟨w.heap.size, 1, none⟩ = some (.string t) := blk_cell (j := 1) HBR.out
    have kR2 : w2.cell? ⟨w.heap.size, 2, none⟩ = some (.int .i64 1) := blk_cell (j := 2) HBR.out
    have ltR := blk_lt HBR.out
    have kL0 : w2.cell? ⟨w1.heap.size, 0, none⟩ = some (.string m) := blk_cell (j := 0) HBL.out
    have kL1 : w2.cell? ⟨w1.heap.size, 1, none⟩ = some (.string t) := blk_cell (j := 1) HBL.out
    have kL2 : w2.cell? ⟨w1.heap.size, 2, none⟩ = some (.string ⟨#[72, 84, 84, 80, 47, 49, 46, 49]⟩) := blk_cell (j := 2) HBL.out
    have ltL := blk_lt HBL.out
    go_wp2
    go_ret2
    exact ⟨by rw [HR.out]; rfl, HS2.out⟩

end Go.Proofs.YtgjmaifgkgejgaaGreatDoor.L
