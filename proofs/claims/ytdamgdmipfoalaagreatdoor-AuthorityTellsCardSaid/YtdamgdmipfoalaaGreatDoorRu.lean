/- Layer 11: the forms of targets. -/
import Derived.Test.YtdamgdmipfoalaaGreatDoorRt
import Derived.IntWalk
set_option linter.unusedVariables false
set_option linter.unusedSimpArgs false
namespace Go.Proofs.YtdamgdmipfoalaaGreatDoor.L
open Go.RowKit Go.Proofs

theorem hasPrefix_one (l : List UInt8) (c : UInt8) : Lib.hasPrefix l [c] = decide (l[0]? = some c) := by
  cases l with
  | nil => simp [Lib.hasPrefix]
  | cons x l =>
    rw [Bool.eq_iff_iff]
    simp only [Lib.hasPrefix, List.isPrefixOf, Bool.and_true, beq_iff_eq, List.getElem?_cons_zero, Option.some.injEq, decide_eq_true_eq]
    exact ⟨fun h => h.symm, fun h => h.symm⟩
theorem list_eqb (s : ByteArray) (l : List UInt8) : (s.toList == l) = decide (s.data.toList = l) := by
  rw [Lib.toList_data, Bool.eq_iff_iff]
  simp
theorem form_key (m t : List UInt8) : (m = connectL ∧ formS m t = 4) ∨ (m ≠ connectL ∧ t = [42] ∧ formS m t = 3) ∨ (m ≠ connectL ∧ t ≠ [42] ∧ t[0]? = some 47 ∧ formS m t = 1) ∨ (m ≠ connectL ∧ t ≠ [42] ∧ ¬ t[0]? = some 47 ∧ formS m t = if (authS t).2 = true then 2 else 0) := by
  unfold formS
  by_cases h1 : m = connectL
  · exact .inl ⟨h1, by rw [if_pos h1]⟩
  · by_cases h2 : t = [42]
    · exact .inr (.inl ⟨h1, h2, by rw [if_neg h1, if_pos h2]⟩)
    · by_cases h3 : t[0]? = some 47
      · exact .inr (.inr (.inl ⟨h1, h2, h3, by rw [if_neg h1, if_neg h2, if_pos h3]⟩))
      · exact .inr (.inr (.inr ⟨h1, h2, h3, by rw [if_neg h1, if_neg h2, if_neg h3]⟩))

set_option maxRecDepth 100000 in
set_option maxHeartbeats 4000000 in
theorem form_any (m t : ByteArray) (n : Int) (w : World) (ht : t.size < 4294967281) :
    Calls Tryz.prog 22 #[.agg #[.string m, .string t, .int .i64 n]] w fun e w' => e = .returned (.int .i64 (formS m.data.toList t.data.toList)) ∧ Stp (fun _ => False) w w' := by
  have ca := fun W => auth_any t W ht
  have key := form_key m.data.toList t.data.toList
  obtain ⟨F, hF⟩ : ∃ F, F = formS m.data.toList t.data.toList := ⟨_, rfl⟩
  rw [← hF] at key ⊢
  obtain ⟨q, hq⟩ : ∃ q, q = (authS t.data.toList).2 := ⟨_, rfl⟩
  obtain ⟨A, hA⟩ : ∃ A, A = strB (authS t.data.toList).1 := ⟨_, rfl⟩
  rw [← hq] at key ca
  rw [← hA] at ca
  have b1 : (m.toList == [67, 79, 78, 78, 69, 67, 84]) = decide (m.data.toList = connectL) := list_eqb m _
  have b2 := list_eqb t [42]
  have b3 := hasPrefix_one t.data.toList 47
  clear hF hq hA
  rcases key with ⟨h1, rfl⟩ | ⟨h1, h2, rfl⟩ | ⟨h1, h2, h3, rfl⟩ | ⟨h1, h2, h3, h4⟩
  · rw [decide_eq_true h1] at b1
    clear h1 b2 b3
    have HS0 := Lib.hid (Stp.refl (fun _ => False) w)
    go_enter Tryz.func22, Tryz.ntmps22
    go_wp2_with (go_at_call 23; refine stopc ?_)
    refine Stop.go ?_
    refine (ca _).mono ?_
    rintro e w1 ⟨he, hs1⟩
    subst he
    have HS1 := Lib.hid ((HS0.out.alloc _).trans hs1)
    have HBR := Lib.hid (show w1.heap[w.heap.size]? = some (.cells #[.string m, .string t, .int .i64 n] 28 (0, 0)) from hs1.blk (heap_alloc_new w _) id)
    clear hs1
    have kR0 : w1.cell? ⟨w.heap.size, 0, none⟩ = some (.string m) := blk_cell (j := 0) HBR.out
    have kR1 : w1.cell? ⟨w.heap.size, 1, none⟩ = some (.string t) := blk_cell (j := 1) HBR.out
    have kR2 : w1.cell? ⟨w.heap.size, 2, none⟩ = some (.int .i64 n) := blk_cell (j := 2) HBR.out
    have ltR := blk_lt HBR.out
    go_wp2
    go_ret
    exact ⟨rfl, HS1.out⟩
  · rw [decide_eq_false h1] at b1
    rw [decide_eq_true h2] at b2
    clear h1 h2 b3
    have HS0 := Lib.hid (Stp.refl (fun _ => False) w)
    go_enter Tryz.func22, Tryz.ntmps22
    go_wp2_with (go_at_call 23; refine stopc ?_)
    refine Stop.go ?_
    refine (ca _).mono ?_
    rintro e w1 ⟨he, hs1⟩
    subst he
    have HS1 := Lib.hid ((HS0.out.alloc _).trans hs1)
    have HBR := Lib.hid (show w1.heap[w.heap.size]? = some (.cells #[.string m, .string t, .int .i64 n] 28 (0, 0)) from hs1.blk (heap_alloc_new w _) id)
    clear hs1
    have kR0 : w1.cell? ⟨w.heap.size, 0, none⟩ = some (.string m) := blk_cell (j := 0) HBR.out
    have kR1 : w1.cell? ⟨w.heap.size, 1, none⟩ = some (.string t) := blk_cell (j := 1) HBR.out
    have kR2 : w1.cell? ⟨w.heap.size, 2, none⟩ = some (.int .i64 n) := blk_cell (j := 2) HBR.out
    have ltR := blk_lt HBR.out
    go_wp2
    go_ret
    exact ⟨rfl, HS1.out⟩
  · rw [decide_eq_false h1] at b1
    rw [decide_eq_false h2] at b2
    rw [decide_eq_true h3] at b3
    have HB3 := Lib.hid b3
    clear h1 h2 h3 b3
    have HS0 := Lib.hid (Stp.refl (fun _ => False) w)
    go_enter Tryz.func22, Tryz.ntmps22
    go_wp2_with (go_at_call 23; refine stopc ?_)
    refine Stop.go ?_
    refine (ca _).mono ?_
    rintro e w1 ⟨he, hs1⟩
    subst he
    have HS1 := Lib.hid ((HS0.out.alloc _).trans hs1)
    have HBR := Lib.hid (show w1.heap[w.heap.size]? = some (.cells #[.string m, .string t, .int .i64 n] 28 (0, 0)) from hs1.blk (heap_alloc_new w _) id)
    clear hs1
    have kR0 : w1.cell? ⟨w.heap.size, 0, none⟩ = some (.string m) := blk_cell (j := 0) HBR.out
    have kR1 : w1.cell? ⟨w.heap.size, 1, none⟩ = some (.string t) := blk_cell (j := 1) HBR.out
    have kR2 : w1.cell? ⟨w.heap.size, 2, none⟩ = some (.int .i64 n) := blk_cell (j := 2) HBR.out
    have ltR := blk_lt HBR.out
    go_wp2_with fail
    refine wp_region_held_drew (S := (fun w' => w'.cell? ⟨w.heap.size, 1, none⟩ = some (.string t))) (by kernel_rfl) (kR1) (fun hHeld => ?_)
    try (change wpAnyH _ _ _ _ _ _ _ _ (World.drew _))
    refine rg_take (i := 0) (o := { dst := some 20, op := Op.fieldAddr 28 (Operand.tmp 1) 1, type := 0, pos := "reqline.go:81", after := #[], guard := none }) (v := ?rgv1) rfl (by kernel_rfl) (by kernel_rfl) (by kernel_rfl) (fun _ _ _ h => h) (by rfl) (fun w hSw => ?rgy1) hHeld ?_
    case rgy1 => (try dsimp only at hSw); first | (go_simp; done) | (go_simp; with_reducible rfl)
    try simp only [Act.put, List.setIfInBounds_toArray, List.set_cons_zero, List.set_cons_succ]
    refine rg_take (i := 1) (o := { dst := some 21, op := Op.load 9 (Operand.tmp 20), type := 9, pos := "reqline.go:81", after := #[{ on := 0, ground := Ground.data }], guard := none }) (v := ?rgv2) rfl (by kernel_rfl) (by kernel_rfl) (by kernel_rfl) (fun _ _ _ h => h) (by rfl) (fun w hSw => ?rgy2) hHeld ?_
    case rgy2 => (try dsimp only at hSw); first | (go_simp; done) | (go_simp; with_reducible rfl)
    try simp only [Act.put, List.setIfInBounds_toArray, List.set_cons_zero, List.set_cons_succ]
    refine rg_take (i := 2) (o := { dst := some 22, op := Op.slice 9 (Operand.const (Value.string { data := #[47, 63, 35] })) none (some (Operand.const (Value.int IntKind.i64 1))) none, type := 9, pos := "reqline.go:81", after := #[], guard := none }) (v := ?rgv3) rfl (by kernel_rfl) (by kernel_rfl) (by kernel_rfl) (fun _ _ _ h => h) (by rfl) (fun w hSw => ?rgy3) hHeld ?_
    case rgy3 => (try dsimp only at hSw); first | (go_simp; done) | (go_simp; with_reducible rfl)
    try simp only [Act.put, List.setIfInBounds_toArray, List.set_cons_zero, List.set_cons_succ]
    refine wpAnyH_ready (rs := [3]) (by kernel_rfl) (by simp) ?_
    refine (AllReadyH.cons (o := { dst := some 23, op := Op.call { callee := Callee.value (Operand.func 13), args := #[Operand.tmp 21, Operand.tmp 22], argTypes := #[9, 9] }, type := 4, pos := "reqline.go:81", after := #[{ on := 1, ground := Ground.data }, { on := 2, ground := Ground.data }], guard := none }) rfl (fun K hK => ?_) AllReadyH.nil)
    go_simp
    refine (Tryz.strings_HasPrefix t ⟨#[47]⟩ _).mono ?_
    rintro e w3 ⟨he, hw3⟩
    obtain rfl : e = .returned (.bool true) := he.trans (by rw [← HB3.out])
    obtain rfl := hw3.symm
    clear hw3 he
    show K _ _
    clear hHeld
    refine hK.out _ _ (kR1) (fun hHeld => ?_)
    clear hK K
    try simp only [Act.put, List.setIfInBounds_toArray, List.set_cons_zero, List.set_cons_succ]
    refine rg_take (i := 4) (o := { dst := some 19, op := Op.assign (Operand.tmp 23), type := 4, pos := "reqline.go:81", after := #[{ on := 3, ground := Ground.data }, { on := 3, ground := Ground.chain }], guard := none }) (v := ?rgv4) rfl (by kernel_rfl) (by kernel_rfl) (by kernel_rfl) (fun _ _ _ h => h) (by rfl) (fun w hSw => ?rgy4) hHeld ?_
    case rgy4 => (try dsimp only at hSw); first | (go_simp; done) | (go_simp; with_reducible rfl)
    try simp only [Act.put, List.setIfInBounds_toArray, List.set_cons_zero, List.set_cons_succ]
    clear hHeld
    refine wpAnyH_done (by kernel_rfl) ?_ _
    go_wp2
    go_ret
    exact ⟨rfl, HS1.out.drew⟩
  · rw [decide_eq_false h1] at b1
    rw [decide_eq_false h2] at b2
    rw [decide_eq_false h3] at b3
    have HB3 := Lib.hid b3
    clear h1 h2 h3 b3
    cases q
    all_goals
      try simp only [if_true] at h4
      try rw [if_neg (by decide)] at h4
      subst h4
      have HS0 := Lib.hid (Stp.refl (fun _ => False) w)
      go_enter Tryz.func22, Tryz.ntmps22
      go_wp2_with (go_at_call 23; refine stopc ?_)
      refine Stop.go ?_
      refine (ca _).mono ?_
      rintro e w1 ⟨he, hs1⟩
      subst he
      have HS1 := Lib.hid ((HS0.out.alloc _).trans hs1)
      have HBR := Lib.hid (show w1.heap[w.heap.size]? = some (.cells #[.string m, .string t, .int .i64 n] 28 (0, 0)) from hs1.blk (heap_alloc_new w _) id)
      clear hs1
      have kR0 : w1.cell? ⟨w.heap.size, 0, none⟩ = some (.string m) := blk_cell (j := 0) HBR.out
      have kR1 : w1.cell? ⟨w.heap.size, 1, none⟩ = some (.string t) := blk_cell (j := 1) HBR.out
      have kR2 : w1.cell? ⟨w.heap.size, 2, none⟩ = some (.int .i64 n) := blk_cell (j := 2) HBR.out
      have ltR := blk_lt HBR.out
      go_wp2_with fail
      refine wp_region_held_drew (S := (fun w' => w'.cell? ⟨w.heap.size, 1, none⟩ = some (.string t))) (by kernel_rfl) (kR1) (fun hHeld => ?_)
      try (change wpAnyH _ _ _ _ _ _ _ _ (World.drew _))
      refine rg_take (i := 0) (o := { dst := some 20, op := Op.fieldAddr 28 (Operand.tmp 1) 1, type := 0, pos := "reqline.go:81", after := #[], guard := none }) (v := ?rgv5) rfl (by kernel_rfl) (by kernel_rfl) (by kernel_rfl) (fun _ _ _ h => h) (by rfl) (fun w hSw => ?rgy5) hHeld ?_
      case rgy5 => (try dsimp only at hSw); first | (go_simp; done) | (go_simp; with_reducible rfl)
      try simp only [Act.put, List.setIfInBounds_toArray, List.set_cons_zero, List.set_cons_succ]
      refine rg_take (i := 1) (o := { dst := some 21, op := Op.load 9 (Operand.tmp 20), type := 9, pos := "reqline.go:81", after := #[{ on := 0, ground := Ground.data }], guard := none }) (v := ?rgv6) rfl (by kernel_rfl) (by kernel_rfl) (by kernel_rfl) (fun _ _ _ h => h) (by rfl) (fun w hSw => ?rgy6) hHeld ?_
      case rgy6 => (try dsimp only at hSw); first | (go_simp; done) | (go_simp; with_reducible rfl)
      try simp only [Act.put, List.setIfInBounds_toArray, List.set_cons_zero, List.set_cons_succ]
      refine rg_take (i := 2) (o := { dst := some 22, op := Op.slice 9 (Operand.const (Value.string { data := #[47, 63, 35] })) none (some (Operand.const (Value.int IntKind.i64 1))) none, type := 9, pos := "reqline.go:81", after := #[], guard := none }) (v := ?rgv7) rfl (by kernel_rfl) (by kernel_rfl) (by kernel_rfl) (fun _ _ _ h => h) (by rfl) (fun w hSw => ?rgy7) hHeld ?_
      case rgy7 => (try dsimp only at hSw); first | (go_simp; done) | (go_simp; with_reducible rfl)
      try simp only [Act.put, List.setIfInBounds_toArray, List.set_cons_zero, List.set_cons_succ]
      refine wpAnyH_ready (rs := [3]) (by kernel_rfl) (by simp) ?_
      refine (AllReadyH.cons (o := { dst := some 23, op := Op.call { callee := Callee.value (Operand.func 13), args := #[Operand.tmp 21, Operand.tmp 22], argTypes := #[9, 9] }, type := 4, pos := "reqline.go:81", after := #[{ on := 1, ground := Ground.data }, { on := 2, ground := Ground.data }], guard := none }) rfl (fun K hK => ?_) AllReadyH.nil)
      go_simp
      refine (Tryz.strings_HasPrefix t ⟨#[47]⟩ _).mono ?_
      rintro e w3 ⟨he, hw3⟩
      obtain rfl : e = .returned (.bool false) := he.trans (by rw [← HB3.out])
      obtain rfl := hw3.symm
      clear hw3 he
      show K _ _
      clear hHeld
      refine hK.out _ _ (kR1) (fun hHeld => ?_)
      clear hK K
      try simp only [Act.put, List.setIfInBounds_toArray, List.set_cons_zero, List.set_cons_succ]
      refine rg_take (i := 4) (o := { dst := some 19, op := Op.assign (Operand.tmp 23), type := 4, pos := "reqline.go:81", after := #[{ on := 3, ground := Ground.data }, { on := 3, ground := Ground.chain }], guard := none }) (v := ?rgv8) rfl (by kernel_rfl) (by kernel_rfl) (by kernel_rfl) (fun _ _ _ h => h) (by rfl) (fun w hSw => ?rgy8) hHeld ?_
      case rgy8 => (try dsimp only at hSw); first | (go_simp; done) | (go_simp; with_reducible rfl)
      try simp only [Act.put, List.setIfInBounds_toArray, List.set_cons_zero, List.set_cons_succ]
      clear hHeld
      refine wpAnyH_done (by kernel_rfl) ?_ _
      go_wp2
      go_ret
      exact ⟨rfl, HS1.out.drew⟩

set_option maxRecDepth 100000 in
set_option maxHeartbeats 4000000 in
theorem formR_any (m t : ByteArray) (n : Int) (w : World) (ht : t.size < 4294967281) :
    Calls Tryz.prog 26 #[.agg #[.string m, .string t, .int .i64 n]] w fun e w' => e = .returned (.int .i64 (formS m.data.toList t.data.toList)) ∧ Stp (fun _ => False) w w' := by
  have ca := fun W => authR_any t W ht
  have key := form_key m.data.toList t.data.toList
  obtain ⟨F, hF⟩ : ∃ F, F = formS m.data.toList t.data.toList := ⟨_, rfl⟩
  rw [← hF] at key ⊢
  obtain ⟨q, hq⟩ : ∃ q, q = (authS t.data.toList).2 := ⟨_, rfl⟩
  obtain ⟨A, hA⟩ : ∃ A, A = strB (authS t.data.toList).1 := ⟨_, rfl⟩
  rw [← hq] at key ca
  rw [← hA] at ca
  have b1 : (m.toList == [67, 79, 78, 78, 69, 67, 84]) = decide (m.data.toList = connectL) := list_eqb m _
  have b2 := list_eqb t [42]
  clear hF hq hA
  rcases key with ⟨h1, rfl⟩ | ⟨h1, h2, rfl⟩ | ⟨h1, h2, h3, rfl⟩ | ⟨h1, h2, h3, h4⟩
  · rw [decide_eq_true h1] at b1
    clear h1 b2
    have HS0 := Lib.hid (Stp.refl (fun _ => False) w)
    go_enter Tryz.func26, Tryz.ntmps26
    go_wp2_with (go_at_call 25; refine stopc ?_)
    refine Stop.go ?_
    refine (ca _).mono ?_
    rintro e w1 ⟨he, hs1⟩
    subst he
    have HS1 := Lib.hid ((HS0.out.alloc _).trans hs1)
    have HBR := Lib.hid (show w1.heap[w.heap.size]? = some (.cells #[.string m, .string t, .int .i64 n] 28 (0, 0)) from hs1.blk (heap_alloc_new w _) id)
    clear hs1
    have kR0 : w1.cell? ⟨w.heap.size, 0, none⟩ = some (.string m) := blk_cell (j := 0) HBR.out
    have kR1 : w1.cell? ⟨w.heap.size, 1, none⟩ = some (.string t) := blk_cell (j := 1) HBR.out
    have kR2 : w1.cell? ⟨w.heap.size, 2, none⟩ = some (.int .i64 n) := blk_cell (j := 2) HBR.out
    have ltR := blk_lt HBR.out
    go_wp2
    go_ret
    exact ⟨rfl, HS1.out⟩
  · rw [decide_eq_false h1] at b1
    rw [decide_eq_true h2] at b2
    clear h1 h2
    have HS0 := Lib.hid (Stp.refl (fun _ => False) w)
    go_enter Tryz.func26, Tryz.ntmps26
    go_wp2_with (go_at_call 25; refine stopc ?_)
    refine Stop.go ?_
    refine (ca _).mono ?_
    rintro e w1 ⟨he, hs1⟩
    subst he
    have HS1 := Lib.hid ((HS0.out.alloc _).trans hs1)
    have HBR := Lib.hid (show w1.heap[w.heap.size]? = some (.cells #[.string m, .string t, .int .i64 n] 28 (0, 0)) from hs1.blk (heap_alloc_new w _) id)
    clear hs1
    have kR0 : w1.cell? ⟨w.heap.size, 0, none⟩ = some (.string m) := blk_cell (j := 0) HBR.out
    have kR1 : w1.cell? ⟨w.heap.size, 1, none⟩ = some (.string t) := blk_cell (j := 1) HBR.out
    have kR2 : w1.cell? ⟨w.heap.size, 2, none⟩ = some (.int .i64 n) := blk_cell (j := 2) HBR.out
    have ltR := blk_lt HBR.out
    go_wp2
    go_ret
    exact ⟨rfl, HS1.out⟩
  · rw [decide_eq_false h1] at b1
    rw [decide_eq_false h2] at b2
    have h0 : 0 < t.size := by
      obtain ⟨x, -⟩ := List.getElem?_eq_some_iff.1 h3
      rw [size_list] at x
      exact x
    rw [get_list t 0 h0] at h3
    have c47 : (((t[0]).toNat : Int) == 47) = true := by rw [Option.some.inj h3]; rfl
    have g0 : (0 : Int) < (t.size : Int) := by omega
    clear h1 h2 h3
    have HS0 := Lib.hid (Stp.refl (fun _ => False) w)
    go_enter Tryz.func26, Tryz.ntmps26
    go_wp2_with (go_at_call 25; refine stopc ?_)
    refine Stop.go ?_
    refine (ca _).mono ?_
    rintro e w1 ⟨he, hs1⟩
    subst he
    have HS1 := Lib.hid ((HS0.out.alloc _).trans hs1)
    have HBR := Lib.hid (show w1.heap[w.heap.size]? = some (.cells #[.string m, .string t, .int .i64 n] 28 (0, 0)) from hs1.blk (heap_alloc_new w _) id)
    clear hs1
    have kR0 : w1.cell? ⟨w.heap.size, 0, none⟩ = some (.string m) := blk_cell (j := 0) HBR.out
    have kR1 : w1.cell? ⟨w.heap.size, 1, none⟩ = some (.string t) := blk_cell (j := 1) HBR.out
    have kR2 : w1.cell? ⟨w.heap.size, 2, none⟩ = some (.int .i64 n) := blk_cell (j := 2) HBR.out
    have ltR := blk_lt HBR.out
    go_wp2
    go_ret
    exact ⟨rfl, HS1.out⟩
  · rw [decide_eq_false h1] at b1
    rw [decide_eq_false h2] at b2
    clear h1 h2
    by_cases h0 : 0 < t.size
    · rw [get_list t 0 h0] at h3
      have c47 : (((t[0]).toNat : Int) == 47) = false := by
        have : (t[0]).toNat ≠ 47 := fun e => h3 (congrArg some (UInt8.toNat_inj.1 e))
        simp
        omega
      have g0 : (0 : Int) < (t.size : Int) := by omega
      clear h3
      cases q
      all_goals
        try simp only [if_true] at h4
        try rw [if_neg (by decide)] at h4
        subst h4
        have HS0 := Lib.hid (Stp.refl (fun _ => False) w)
        go_enter Tryz.func26, Tryz.ntmps26
        go_wp2_with (go_at_call 25; refine stopc ?_)
        refine Stop.go ?_
        refine (ca _).mono ?_
        rintro e w1 ⟨he, hs1⟩
        subst he
        have HS1 := Lib.hid ((HS0.out.alloc _).trans hs1)
        have HBR := Lib.hid (show w1.heap[w.heap.size]? = some (.cells #[.string m, .string t, .int .i64 n] 28 (0, 0)) from hs1.blk (heap_alloc_new w _) id)
        clear hs1
        have kR0 : w1.cell? ⟨w.heap.size, 0, none⟩ = some (.string m) := blk_cell (j := 0) HBR.out
        have kR1 : w1.cell? ⟨w.heap.size, 1, none⟩ = some (.string t) := blk_cell (j := 1) HBR.out
        have kR2 : w1.cell? ⟨w.heap.size, 2, none⟩ = some (.int .i64 n) := blk_cell (j := 2) HBR.out
        have ltR := blk_lt HBR.out
        go_wp2
        go_ret
        exact ⟨rfl, HS1.out⟩
    · have g0 : ¬ (0 : Int) < (t.size : Int) := by omega
      clear h3
      cases q
      all_goals
        try simp only [if_true] at h4
        try rw [if_neg (by decide)] at h4
        subst h4
        have HS0 := Lib.hid (Stp.refl (fun _ => False) w)
        go_enter Tryz.func26, Tryz.ntmps26
        go_wp2_with (go_at_call 25; refine stopc ?_)
        refine Stop.go ?_
        refine (ca _).mono ?_
        rintro e w1 ⟨he, hs1⟩
        subst he
        have HS1 := Lib.hid ((HS0.out.alloc _).trans hs1)
        have HBR := Lib.hid (show w1.heap[w.heap.size]? = some (.cells #[.string m, .string t, .int .i64 n] 28 (0, 0)) from hs1.blk (heap_alloc_new w _) id)
        clear hs1
        have kR0 : w1.cell? ⟨w.heap.size, 0, none⟩ = some (.string m) := blk_cell (j := 0) HBR.out
        have kR1 : w1.cell? ⟨w.heap.size, 1, none⟩ = some (.string t) := blk_cell (j := 1) HBR.out
        have kR2 : w1.cell? ⟨w.heap.size, 2, none⟩ = some (.int .i64 n) := blk_cell (j := 2) HBR.out
        have ltR := blk_lt HBR.out
        go_wp2
        go_ret
        exact ⟨rfl, HS1.out⟩
end Go.Proofs.YtdamgdmipfoalaaGreatDoor.L
