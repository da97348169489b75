/- Layer 11: the laws ReqlineTells, ReqlineBack. -/
import Derived.Test.YteoffbglbpdekaaDoorUa
set_option linter.unusedVariables false
set_option linter.unusedSimpArgs false
namespace Go.Proofs.YteoffbglbpdekaaDoor.L
open Go.RowKit Go.Proofs

set_option maxRecDepth 100000 in
set_option maxHeartbeats 8000000 in
theorem tells11_any (m t : ByteArray) (n : Int) (w : World) (hml : MaxL w) :
    Calls Tryd.prog 8 #[.agg #[.string m, .string t, .int .i64 n]] w (TrueV w) := by
  obtain ⟨R, hR⟩ : ∃ R, R = TrueV w := ⟨_, rfl⟩
  rw [← hR]
  have HR := Lib.hid hR
  have HM := Lib.hid hml
  clear hR hml
  cases h1 : decide ((2000 : Int) < (m.size : Int)) with
  | true =>
    have HS0 := Lib.hid (Stp.refl (fun _ => False) w)
    go_enter Tryd.func8, Tryd.ntmps8
    go_wp2_with (go_at_call 27; refine stopc ?_)
    refine Stop.go ?_
    refine (small11_any _ (HM.out.step (HS0.out.alloc _))).mono ?_
    rintro e w1 ⟨he, hs1⟩
    subst he
    have HS1 := Lib.hid ((HS0.out.alloc _).trans hs1)
    have HBR := Lib.hid (show w1.heap[w.heap.size]? = some (.cells #[.string m, .string t, .int .i64 n] 40 (0, 0)) from hs1.blk (heap_alloc_new w _) id)
    clear hs1
    have kR0 : w1.cell? ⟨w.heap.size, 0, none⟩ = some (.string m) := blk_cell (j := 0) HBR.out
    have kR1 : w1.cell? ⟨w.heap.size, 1, none⟩ = some (.string t) := blk_cell (j := 1) HBR.out
    have kR2 : w1.cell? ⟨w.heap.size, 2, none⟩ = some (.int .i64 n) := blk_cell (j := 2) HBR.out
    have ltR := blk_lt HBR.out
    go_wp2
    rw [HR.out]
    exact ⟨rfl, HS1.out⟩
  | false =>
    cases h2 : decide ((9000 : Int) < (t.size : Int)) with
    | true =>
      have HS0 := Lib.hid (Stp.refl (fun _ => False) w)
      go_enter Tryd.func8, Tryd.ntmps8
      go_wp2_with (go_at_call 27; refine stopc ?_)
      refine Stop.go ?_
      refine (small11_any _ (HM.out.step (HS0.out.alloc _))).mono ?_
      rintro e w1 ⟨he, hs1⟩
      subst he
      have HS1 := Lib.hid ((HS0.out.alloc _).trans hs1)
      have HBR := Lib.hid (show w1.heap[w.heap.size]? = some (.cells #[.string m, .string t, .int .i64 n] 40 (0, 0)) from hs1.blk (heap_alloc_new w _) id)
      clear hs1
      have kR0 : w1.cell? ⟨w.heap.size, 0, none⟩ = some (.string m) := blk_cell (j := 0) HBR.out
      have kR1 : w1.cell? ⟨w.heap.size, 1, none⟩ = some (.string t) := blk_cell (j := 1) HBR.out
      have kR2 : w1.cell? ⟨w.heap.size, 2, none⟩ = some (.int .i64 n) := blk_cell (j := 2) HBR.out
      have ltR := blk_lt HBR.out
      go_wp2
      rw [HR.out]
      exact ⟨rfl, HS1.out⟩
    | false =>
      have l1 : m.size ≤ 2000 := by have := of_decide_eq_false h1; omega
      have l2 : t.size ≤ 9000 := by have := of_decide_eq_false h2; omega
      obtain ⟨X, hX⟩ : ∃ X, X = strB (printRq ⟨m.data.toList, t.data.toList, n⟩).1 := ⟨_, rfl⟩
      obtain ⟨q, hq⟩ : ∃ q, q = (printRq ⟨m.data.toList, t.data.toList, n⟩).2 := ⟨_, rfl⟩
      obtain ⟨Y, hY⟩ : ∃ Y, Y = strB (authS t.data.toList).1 := ⟨_, rfl⟩
      obtain ⟨p, hp⟩ : ∃ p, p = (authS t.data.toList).2 := ⟨_, rfl⟩
      obtain ⟨F, hF⟩ : ∃ F, F = formS m.data.toList t.data.toList := ⟨_, rfl⟩
      have c1 : ∀ W, Calls Tryd.prog 28 #[.agg #[.string m, .string t, .int .i64 n]] W fun e w' => e = .returned (.tuple #[.string X, .bool q]) ∧ Stp (fun _ => False) W w' := fun W => by rw [hX, hq]; exact qprint_any m t n W (by omega) (by omega)
      have c2 : ∀ W, Calls Tryd.prog 29 #[.agg #[.string m, .string t, .int .i64 n]] W fun e w' => e = .returned (.tuple #[.string X, .bool q]) ∧ Stp (fun _ => False) W w' := fun W => by rw [hX, hq]; exact qprintR_any m t n W (by omega) (by omega)
      have c3 : ∀ W, Calls Tryd.prog 30 #[.string t] W fun e w' => e = .returned (.tuple #[.string Y, .bool p]) ∧ Stp (fun _ => False) W w' := fun W => by rw [hY, hp]; exact auth_any t W (by omega)
      have c4 : ∀ W, Calls Tryd.prog 31 #[.string t] W fun e w' => e = .returned (.tuple #[.string Y, .bool p]) ∧ Stp (fun _ => False) W w' := fun W => by rw [hY, hp]; exact authR_any t W (by omega)
      have c5 : ∀ W, Calls Tryd.prog 32 #[.agg #[.string m, .string t, .int .i64 n]] W fun e w' => e = .returned (.int .i64 F) ∧ Stp (fun _ => False) W w' := fun W => by rw [hF]; exact form_any m t n W (by omega)
      have c6 : ∀ W, Calls Tryd.prog 33 #[.agg #[.string m, .string t, .int .i64 n]] W fun e w' => e = .returned (.int .i64 F) ∧ Stp (fun _ => False) W w' := fun W => by rw [hF]; exact formR_any m t n W (by omega)
      clear hX hq hY hp hF l1 l2
      have HS0 := Lib.hid (Stp.refl (fun _ => False) w)
      go_enter Tryd.func8, Tryd.ntmps8
      go_wp2_with (go_at_call 27; refine stopc ?_)
      refine Stop.go ?_
      refine (small11_any _ (HM.out.step (HS0.out.alloc _))).mono ?_
      rintro e w1 ⟨he, hs1⟩
      subst he
      have HS1 := Lib.hid ((HS0.out.alloc _).trans hs1)
      have HBR := Lib.hid (show w1.heap[w.heap.size]? = some (.cells #[.string m, .string t, .int .i64 n] 40 (0, 0)) from hs1.blk (heap_alloc_new w _) id)
      clear hs1
      have kR0 : w1.cell? ⟨w.heap.size, 0, none⟩ = some (.string m) := blk_cell (j := 0) HBR.out
      have kR1 : w1.cell? ⟨w.heap.size, 1, none⟩ = some (.string t) := blk_cell (j := 1) HBR.out
      have kR2 : w1.cell? ⟨w.heap.size, 2, none⟩ = some (.int .i64 n) := blk_cell (j := 2) HBR.out
      have ltR := blk_lt HBR.out
      go_wp2_with (go_at_call 28; refine stopc ?_)
      refine Stop.go ?_
      refine (c1 _).mono ?_
      rintro e w2 ⟨he, hs2⟩
      subst he
      have HS2 := Lib.hid (HS1.out.trans hs2)
      replace HBR := Lib.hid (hs2.blk HBR.out id)
      clear hs2 kR0 kR1 kR2 ltR
      have kR0 : w2.cell? ⟨w.heap.size, 0, none⟩ = some (.string m) := blk_cell (j := 0) HBR.out
      have kR1 : w2.cell? ⟨w.heap.size, 1, none⟩ = some (.string t) := blk_cell (j := 1) HBR.out
      have kR2 : w2.cell? ⟨w.heap.size, 2, none⟩ = some (.int .i64 n) := blk_cell (j := 2) HBR.out
      have ltR := blk_lt HBR.out
      go_wp2_with (go_at_call 29; refine stopc ?_)
      refine Stop.go ?_
      refine (c2 _).mono ?_
      rintro e w3 ⟨he, hs3⟩
      subst he
      have HS3 := Lib.hid (HS2.out.trans hs3)
      replace HBR := Lib.hid (hs3.blk HBR.out id)
      clear hs3 kR0 kR1 kR2 ltR
      have kR0 : w3.cell? ⟨w.heap.size, 0, none⟩ = some (.string m) := blk_cell (j := 0) HBR.out
      have kR1 : w3.cell? ⟨w.heap.size, 1, none⟩ = some (.string t) := blk_cell (j := 1) HBR.out
      have kR2 : w3.cell? ⟨w.heap.size, 2, none⟩ = some (.int .i64 n) := blk_cell (j := 2) HBR.out
      have ltR := blk_lt HBR.out
      go_wp2_with (go_at_call 30; refine stopc ?_)
      refine Stop.go ?_
      refine (c3 _).mono ?_
      rintro e w4 ⟨he, hs4⟩
      subst he
      have HS4 := Lib.hid (HS3.out.trans hs4)
      replace HBR := Lib.hid (hs4.blk HBR.out id)
      clear hs4 kR0 kR1 kR2 ltR
      have kR0 : w4.cell? ⟨w.heap.size, 0, none⟩ = some (.string m) := blk_cell (j := 0) HBR.out
      have kR1 : w4.cell? ⟨w.heap.size, 1, none⟩ = some (.string t) := blk_cell (j := 1) HBR.out
      have kR2 : w4.cell? ⟨w.heap.size, 2, none⟩ = some (.int .i64 n) := blk_cell (j := 2) HBR.out
      have ltR := blk_lt HBR.out
      go_wp2_with (go_at_call 31; refine stopc ?_)
      refine Stop.go ?_
      refine (c4 _).mono ?_
      rintro e w5 ⟨he, hs5⟩
      subst he
      have HS5 := Lib.hid (HS4.out.trans hs5)
      replace HBR := Lib.hid (hs5.blk HBR.out id)
      clear hs5 kR0 kR1 kR2 ltR
      have kR0 : w5.cell? ⟨w.heap.size, 0, none⟩ = some (.string m) := blk_cell (j := 0) HBR.out
      have kR1 : w5.cell? ⟨w.heap.size, 1, none⟩ = some (.string t) := blk_cell (j := 1) HBR.out
      have kR2 : w5.cell? ⟨w.heap.size, 2, none⟩ = some (.int .i64 n) := blk_cell (j := 2) HBR.out
      have ltR := blk_lt HBR.out
      go_wp2_with fail
      have HC := Lib.hid (fun (w' : World) (h : Stp (fun _ => False) w5 w') => And.intro (blk_cell (j := 0) (h.blk HBR.out id)) (And.intro (blk_cell (j := 1) (h.blk HBR.out id)) (blk_cell (j := 2) (h.blk HBR.out id))))
      simp only [List.getElem?_toArray, List.getElem?_cons_zero, List.getElem?_cons_succ] at HC
      have HT := Lib.hid ((Stp.refl (fun _ => False) w5).drew)
      clear kR0 kR1 kR2
      refine wp_region_held_drew (S := (fun w' => w'.cell? ⟨w.heap.size, 0, none⟩ = some (.string m) ∧ w'.cell? ⟨w.heap.size, 1, none⟩ = some (.string t) ∧ w'.cell? ⟨w.heap.size, 2, none⟩ = some (.int .i64 n))) (by kernel_rfl) (HC.out _ HT.out) (fun hHeld => ?_)
      try (change wpAnyH _ _ _ _ _ _ _ _ (World.drew _))
      refine rg_take (i := 0) (o := { dst := some 46, op := Op.move (Operand.tmp 3), type := 4, pos := "law.go:44", after := #[], guard := none }) (v := ?rgv1) rfl (by kernel_rfl) (by kernel_rfl) (by kernel_rfl) (fun _ _ _ h => h) (by rfl) (fun w hSw => ?rgy1) hHeld ?_
      case rgy1 => (try dsimp only at hSw); first | (go_simp; done) | (go_simp; with_reducible rfl)
      try simp only [Act.put, List.setIfInBounds_toArray, List.set_cons_zero, List.set_cons_succ]
      refine rg_take (i := 1) (o := { dst := some 47, op := Op.move (Operand.tmp 46), type := 4, pos := "law.go:44", after := #[{ on := 0, ground := Ground.data }], guard := none }) (v := ?rgv2) rfl (by kernel_rfl) (by kernel_rfl) (by kernel_rfl) (fun _ _ _ h => h) (by rfl) (fun w hSw => ?rgy2) hHeld ?_
      case rgy2 => (try dsimp only at hSw); first | (go_simp; done) | (go_simp; with_reducible rfl)
      try simp only [Act.put, List.setIfInBounds_toArray, List.set_cons_zero, List.set_cons_succ]
      refine rg_take (i := 2) (o := { dst := some 48, op := Op.move (Operand.tmp 4), type := 9, pos := "law.go:44", after := #[{ on := 1, ground := Ground.guard }], guard := some (1, true) }) (v := ?rgv3) rfl (by kernel_rfl) (by kernel_rfl) (by kernel_rfl) (fun _ _ _ h => h) (by rfl) (fun w hSw => ?rgy3) hHeld ?_
      case rgy3 => (try dsimp only at hSw); first | (go_simp; done) | (go_simp; with_reducible rfl)
      try simp only [Act.put, List.setIfInBounds_toArray, List.set_cons_zero, List.set_cons_succ]
      refine rg_take (i := 3) (o := { dst := some 49, op := Op.move (Operand.tmp 6), type := 9, pos := "law.go:44", after := #[{ on := 1, ground := Ground.guard }], guard := some (1, true) }) (v := ?rgv4) rfl (by kernel_rfl) (by kernel_rfl) (by kernel_rfl) (fun _ _ _ h => h) (by rfl) (fun w hSw => ?rgy4) hHeld ?_
      case rgy4 => (try dsimp only at hSw); first | (go_simp; done) | (go_simp; with_reducible rfl)
      try simp only [Act.put, List.setIfInBounds_toArray, List.set_cons_zero, List.set_cons_succ]
      refine rg_take (i := 4) (o := { dst := some 50, op := Op.binOp BinOp.eql 9 (Operand.tmp 48) (Operand.tmp 49) 9, type := 4, pos := "law.go:44", after := #[{ on := 2, ground := Ground.data }, { on := 3, ground := Ground.data }, { on := 1, ground := Ground.guard }], guard := some (1, true) }) (v := ?rgv5) rfl (by kernel_rfl) (by kernel_rfl) (by kernel_rfl) (fun _ _ _ h => h) (by rfl) (fun w hSw => ?rgy5) hHeld ?_
      case rgy5 => (try dsimp only at hSw); first | (go_simp; done) | (go_simp; with_reducible rfl)
      try simp only [Act.put, List.setIfInBounds_toArray, List.set_cons_zero, List.set_cons_succ]
      refine rg_take (i := 5) (o := { dst := some 51, op := Op.pick (Operand.tmp 47) (Operand.tmp 50) (Operand.const (Value.bool false)), type := 4, pos := "law.go:44", after := #[{ on := 1, ground := Ground.data }, { on := 4, ground := Ground.data }], guard := none }) (v := ?rgv6) rfl (by kernel_rfl) (by kernel_rfl) (by kernel_rfl) (fun _ _ _ h => h) (by rfl) (fun w hSw => ?rgy6) hHeld ?_
      case rgy6 => (try dsimp only at hSw); first | (go_simp; done) | (go_simp; with_reducible rfl)
      try simp only [Act.put, List.setIfInBounds_toArray, List.set_cons_zero, List.set_cons_succ]
      refine rg_take (i := 6) (o := { dst := some 52, op := Op.move (Operand.tmp 51), type := 4, pos := "law.go:44", after := #[{ on := 5, ground := Ground.data }, { on := 1, ground := Ground.chain }], guard := none }) (v := ?rgv7) rfl (by kernel_rfl) (by kernel_rfl) (by kernel_rfl) (fun _ _ _ h => h) (by rfl) (fun w hSw => ?rgy7) hHeld ?_
      case rgy7 => (try dsimp only at hSw); first | (go_simp; done) | (go_simp; with_reducible rfl)
      try simp only [Act.put, List.setIfInBounds_toArray, List.set_cons_zero, List.set_cons_succ]
      refine rg_take (i := 7) (o := { dst := some 53, op := Op.move (Operand.tmp 5), type := 4, pos := "law.go:44", after := #[{ on := 6, ground := Ground.guard }], guard := some (6, true) }) (v := ?rgv8) rfl (by kernel_rfl) (by kernel_rfl) (by kernel_rfl) (fun _ _ _ h => h) (by rfl) (fun w hSw => ?rgy8) hHeld ?_
      case rgy8 => (try dsimp only at hSw); first | (go_simp; done) | (go_simp; with_reducible rfl)
      try simp only [Act.put, List.setIfInBounds_toArray, List.set_cons_zero, List.set_cons_succ]
      refine rg_take (i := 8) (o := { dst := some 54, op := Op.move (Operand.tmp 7), type := 4, pos := "law.go:44", after := #[{ on := 6, ground := Ground.guard }], guard := some (6, true) }) (v := ?rgv9) rfl (by kernel_rfl) (by kernel_rfl) (by kernel_rfl) (fun _ _ _ h => h) (by rfl) (fun w hSw => ?rgy9) hHeld ?_
      case rgy9 => (try dsimp only at hSw); first | (go_simp; done) | (go_simp; with_reducible rfl)
      try simp only [Act.put, List.setIfInBounds_toArray, List.set_cons_zero, List.set_cons_succ]
      refine rg_take (i := 9) (o := { dst := some 55, op := Op.binOp BinOp.eql 4 (Operand.tmp 53) (Operand.tmp 54) 4, type := 4, pos := "law.go:44", after := #[{ on := 7, ground := Ground.data }, { on := 8, ground := Ground.data }, { on := 6, ground := Ground.guard }], guard := some (6, true) }) (v := ?rgv10) rfl (by kernel_rfl) (by kernel_rfl) (by kernel_rfl) (fun _ _ _ h => h) (by rfl) (fun w hSw => ?rgy10) hHeld ?_
      case rgy10 => (try dsimp only at hSw); first | (go_simp; done) | (go_simp; with_reducible rfl)
      try simp only [Act.put, List.setIfInBounds_toArray, List.set_cons_zero, List.set_cons_succ]
      refine rg_take (i := 10) (o := { dst := some 56, op := Op.pick (Operand.tmp 52) (Operand.tmp 55) (Operand.const (Value.bool false)), type := 4, pos := "law.go:44", after := #[{ on := 6, ground := Ground.data }, { on := 9, ground := Ground.data }], guard := none }) (v := ?rgv11) rfl (by kernel_rfl) (by kernel_rfl) (by kernel_rfl) (fun _ _ _ h => h) (by rfl) (fun w hSw => ?rgy11) hHeld ?_
      case rgy11 => (try dsimp only at hSw); first | (go_simp; done) | (go_simp; with_reducible rfl)
      try simp only [Act.put, List.setIfInBounds_toArray, List.set_cons_zero, List.set_cons_succ]
      refine rg_take (i := 11) (o := { dst := some 57, op := Op.move (Operand.tmp 56), type := 4, pos := "law.go:44", after := #[{ on := 10, ground := Ground.data }, { on := 6, ground := Ground.chain }], guard := none }) (v := ?rgv12) rfl (by kernel_rfl) (by kernel_rfl) (by kernel_rfl) (fun _ _ _ h => h) (by rfl) (fun w hSw => ?rgy12) hHeld ?_
      case rgy12 => (try dsimp only at hSw); first | (go_simp; done) | (go_simp; with_reducible rfl)
      try simp only [Act.put, List.setIfInBounds_toArray, List.set_cons_zero, List.set_cons_succ]
      refine rg_take (i := 12) (o := { dst := some 58, op := Op.move (Operand.tmp 8), type := 9, pos := "law.go:44", after := #[{ on := 11, ground := Ground.guard }], guard := some (11, true) }) (v := ?rgv13) rfl (by kernel_rfl) (by kernel_rfl) (by kernel_rfl) (fun _ _ _ h => h) (by rfl) (fun w hSw => ?rgy13) hHeld ?_
      case rgy13 => (try dsimp only at hSw); first | (go_simp; done) | (go_simp; with_reducible rfl)
      try simp only [Act.put, List.setIfInBounds_toArray, List.set_cons_zero, List.set_cons_succ]
      refine rg_take (i := 13) (o := { dst := some 59, op := Op.move (Operand.tmp 10), type := 9, pos := "law.go:44", after := #[{ on := 11, ground := Ground.guard }], guard := some (11, true) }) (v := ?rgv14) rfl (by kernel_rfl) (by kernel_rfl) (by kernel_rfl) (fun _ _ _ h => h) (by rfl) (fun w hSw => ?rgy14) hHeld ?_
      case rgy14 => (try dsimp only at hSw); first | (go_simp; done) | (go_simp; with_reducible rfl)
      try simp only [Act.put, List.setIfInBounds_toArray, List.set_cons_zero, List.set_cons_succ]
      refine rg_take (i := 14) (o := { dst := some 60, op := Op.binOp BinOp.eql 9 (Operand.tmp 58) (Operand.tmp 59) 9, type := 4, pos := "law.go:44", after := #[{ on := 12, ground := Ground.data }, { on := 13, ground := Ground.data }, { on := 11, ground := Ground.guard }], guard := some (11, true) }) (v := ?rgv15) rfl (by kernel_rfl) (by kernel_rfl) (by kernel_rfl) (fun _ _ _ h => h) (by rfl) (fun w hSw => ?rgy15) hHeld ?_
      case rgy15 => (try dsimp only at hSw); first | (go_simp; done) | (go_simp; with_reducible rfl)
      try simp only [Act.put, List.setIfInBounds_toArray, List.set_cons_zero, List.set_cons_succ]
      refine rg_take (i := 15) (o := { dst := some 61, op := Op.pick (Operand.tmp 57) (Operand.tmp 60) (Operand.const (Value.bool false)), type := 4, pos := "law.go:44", after := #[{ on := 11, ground := Ground.data }, { on := 14, ground := Ground.data }], guard := none }) (v := ?rgv16) rfl (by kernel_rfl) (by kernel_rfl) (by kernel_rfl) (fun _ _ _ h => h) (by rfl) (fun w hSw => ?rgy16) hHeld ?_
      case rgy16 => (try dsimp only at hSw); first | (go_simp; done) | (go_simp; with_reducible rfl)
      try simp only [Act.put, List.setIfInBounds_toArray, List.set_cons_zero, List.set_cons_succ]
      refine rg_take (i := 16) (o := { dst := some 62, op := Op.move (Operand.tmp 61), type := 4, pos := "law.go:44", after := #[{ on := 15, ground := Ground.data }, { on := 11, ground := Ground.chain }], guard := none }) (v := ?rgv17) rfl (by kernel_rfl) (by kernel_rfl) (by kernel_rfl) (fun _ _ _ h => h) (by rfl) (fun w hSw => ?rgy17) hHeld ?_
      case rgy17 => (try dsimp only at hSw); first | (go_simp; done) | (go_simp; with_reducible rfl)
      try simp only [Act.put, List.setIfInBounds_toArray, List.set_cons_zero, List.set_cons_succ]
      refine rg_take (i := 17) (o := { dst := some 63, op := Op.move (Operand.tmp 9), type := 4, pos := "law.go:44", after := #[{ on := 16, ground := Ground.guard }], guard := some (16, true) }) (v := ?rgv18) rfl (by kernel_rfl) (by kernel_rfl) (by kernel_rfl) (fun _ _ _ h => h) (by rfl) (fun w hSw => ?rgy18) hHeld ?_
      case rgy18 => (try dsimp only at hSw); first | (go_simp; done) | (go_simp; with_reducible rfl)
      try simp only [Act.put, List.setIfInBounds_toArray, List.set_cons_zero, List.set_cons_succ]
      refine rg_take (i := 18) (o := { dst := some 64, op := Op.move (Operand.tmp 11), type := 4, pos := "law.go:44", after := #[{ on := 16, ground := Ground.guard }], guard := some (16, true) }) (v := ?rgv19) rfl (by kernel_rfl) (by kernel_rfl) (by kernel_rfl) (fun _ _ _ h => h) (by rfl) (fun w hSw => ?rgy19) hHeld ?_
      case rgy19 => (try dsimp only at hSw); first | (go_simp; done) | (go_simp; with_reducible rfl)
      try simp only [Act.put, List.setIfInBounds_toArray, List.set_cons_zero, List.set_cons_succ]
      refine rg_take (i := 19) (o := { dst := some 65, op := Op.binOp BinOp.eql 4 (Operand.tmp 63) (Operand.tmp 64) 4, type := 4, pos := "law.go:44", after := #[{ on := 17, ground := Ground.data }, { on := 18, ground := Ground.data }, { on := 16, ground := Ground.guard }], guard := some (16, true) }) (v := ?rgv20) rfl (by kernel_rfl) (by kernel_rfl) (by kernel_rfl) (fun _ _ _ h => h) (by rfl) (fun w hSw => ?rgy20) hHeld ?_
      case rgy20 => (try dsimp only at hSw); first | (go_simp; done) | (go_simp; with_reducible rfl)
      try simp only [Act.put, List.setIfInBounds_toArray, List.set_cons_zero, List.set_cons_succ]
      refine rg_take (i := 20) (o := { dst := some 66, op := Op.pick (Operand.tmp 62) (Operand.tmp 65) (Operand.const (Value.bool false)), type := 4, pos := "law.go:44", after := #[{ on := 16, ground := Ground.data }, { on := 19, ground := Ground.data }], guard := none }) (v := ?rgv21) rfl (by kernel_rfl) (by kernel_rfl) (by kernel_rfl) (fun _ _ _ h => h) (by rfl) (fun w hSw => ?rgy21) hHeld ?_
      case rgy21 => (try dsimp only at hSw); first | (go_simp; done) | (go_simp; with_reducible rfl)
      try simp only [Act.put, List.setIfInBounds_toArray, List.set_cons_zero, List.set_cons_succ]
      refine rg_take (i := 21) (o := { dst := some 67, op := Op.move (Operand.tmp 66), type := 4, pos := "law.go:44", after := #[{ on := 20, ground := Ground.data }, { on := 16, ground := Ground.chain }], guard := none }) (v := ?rgv22) rfl (by kernel_rfl) (by kernel_rfl) (by kernel_rfl) (fun _ _ _ h => h) (by rfl) (fun w hSw => ?rgy22) hHeld ?_
      case rgy22 => (try dsimp only at hSw); first | (go_simp; done) | (go_simp; with_reducible rfl)
      try simp only [Act.put, List.setIfInBounds_toArray, List.set_cons_zero, List.set_cons_succ]
      refine rg_take (i := 22) (o := { dst := some 68, op := Op.load 40 (Operand.tmp 1), type := 40, pos := "law.go:44", after := #[{ on := 21, ground := Ground.guard }], guard := some (21, true) }) (v := ?rgv23) rfl (by kernel_rfl) (by kernel_rfl) (by kernel_rfl) (fun _ _ _ h => h) (by rfl) (fun w hSw => ?rgy23) hHeld ?_
      case rgy23 => (try dsimp only at hSw); first | (go_simp; done) | (go_simp; with_reducible rfl)
      try simp only [Act.put, List.setIfInBounds_toArray, List.set_cons_zero, List.set_cons_succ]
      refine rg_take (i := 24) (o := { dst := some 70, op := Op.load 40 (Operand.tmp 1), type := 40, pos := "law.go:44", after := #[{ on := 21, ground := Ground.guard }], guard := some (21, true) }) (v := ?rgv24) rfl (by kernel_rfl) (by kernel_rfl) (by kernel_rfl) (fun _ _ _ h => h) (by rfl) (fun w hSw => ?rgy24) hHeld ?_
      case rgy24 => (try dsimp only at hSw); first | (go_simp; done) | (go_simp; with_reducible rfl)
      try simp only [Act.put, List.setIfInBounds_toArray, List.set_cons_zero, List.set_cons_succ]
      refine wpAnyH_ready (rs := [23]) (by kernel_rfl) (by simp) ?_
      refine (AllReadyH.cons (o := { dst := some 69, op := Op.call { callee := Callee.value (Operand.func 32), args := #[Operand.tmp 68], argTypes := #[40] }, type := 3, pos := "law.go:44", after := #[{ on := 22, ground := Ground.data }, { on := 21, ground := Ground.chain }, { on := 21, ground := Ground.guard }], guard := some (21, true) }) rfl (fun K hK => ?_) AllReadyH.nil)
      go_simp
      refine (c5 _).mono ?_
      rintro e w6 ⟨rfl, hs6⟩
      replace HT := Lib.hid (HT.out.trans hs6)
      clear hs6
      show K _ _
      clear hHeld
      refine hK.out _ _ (HC.out _ HT.out) (fun hHeld => ?_)
      clear hK K
      try simp only [Act.put, List.setIfInBounds_toArray, List.set_cons_zero, List.set_cons_succ]
      refine wpAnyH_ready (rs := [25]) (by kernel_rfl) (by simp) ?_
      refine (AllReadyH.cons (o := { dst := some 71, op := Op.call { callee := Callee.value (Operand.func 33), args := #[Operand.tmp 70], argTypes := #[40] }, type := 3, pos := "law.go:44", after := #[{ on := 24, ground := Ground.data }, { on := 23, ground := Ground.chain }, { on := 21, ground := Ground.guard }], guard := some (21, true) }) rfl (fun K hK => ?_) AllReadyH.nil)
      go_simp
      refine (c6 _).mono ?_
      rintro e w7 ⟨rfl, hs7⟩
      replace HT := Lib.hid (HT.out.trans hs7)
      clear hs7
      show K _ _
      clear hHeld
      refine hK.out _ _ (HC.out _ HT.out) (fun hHeld => ?_)
      clear hK K
      try simp only [Act.put, List.setIfInBounds_toArray, List.set_cons_zero, List.set_cons_succ]
      refine rg_take (i := 26) (o := { dst := some 72, op := Op.binOp BinOp.eql 3 (Operand.tmp 69) (Operand.tmp 71) 3, type := 4, pos := "law.go:44", after := #[{ on := 23, ground := Ground.data }, { on := 25, ground := Ground.data }, { on := 21, ground := Ground.guard }], guard := some (21, true) }) (v := ?rgv25) rfl (by kernel_rfl) (by kernel_rfl) (by kernel_rfl) (fun _ _ _ h => h) (by rfl) (fun w hSw => ?rgy25) hHeld ?_
      case rgy25 => (try dsimp only at hSw); first | (go_simp; done) | (go_simp; with_reducible rfl)
      try simp only [Act.put, List.setIfInBounds_toArray, List.set_cons_zero, List.set_cons_succ]
      refine rg_take (i := 27) (o := { dst := some 73, op := Op.pick (Operand.tmp 67) (Operand.tmp 72) (Operand.const (Value.bool false)), type := 4, pos := "law.go:44", after := #[{ on := 21, ground := Ground.data }, { on := 26, ground := Ground.data }], guard := none }) (v := ?rgv26) rfl (by kernel_rfl) (by kernel_rfl) (by kernel_rfl) (fun _ _ _ h => h) (by rfl) (fun w hSw => ?rgy26) hHeld ?_
      case rgy26 => (try dsimp only at hSw); first | (go_simp; done) | (go_simp; with_reducible rfl)
      try simp only [Act.put, List.setIfInBounds_toArray, List.set_cons_zero, List.set_cons_succ]
      refine rg_take (i := 28) (o := { dst := some 2, op := Op.assign (Operand.tmp 73), type := 4, pos := "law.go:44", after := #[{ on := 27, ground := Ground.data }, { on := 25, ground := Ground.chain }, { on := 0, ground := Ground.phase }, { on := 1, ground := Ground.phase }, { on := 2, ground := Ground.phase }, { on := 3, ground := Ground.phase }, { on := 4, ground := Ground.phase }, { on := 5, ground := Ground.phase }, { on := 6, ground := Ground.phase }, { on := 7, ground := Ground.phase }, { on := 8, ground := Ground.phase }, { on := 9, ground := Ground.phase }, { on := 10, ground := Ground.phase }, { on := 11, ground := Ground.phase }, { on := 12, ground := Ground.phase }, { on := 13, ground := Ground.phase }, { on := 14, ground := Ground.phase }, { on := 15, ground := Ground.phase }, { on := 16, ground := Ground.phase }, { on := 17, ground := Ground.phase }, { on := 18, ground := Ground.phase }, { on := 19, ground := Ground.phase }, { on := 20, ground := Ground.phase }, { on := 21, ground := Ground.phase }, { on := 22, ground := Ground.phase }, { on := 23, ground := Ground.phase }, { on := 24, ground := Ground.phase }, { on := 25, ground := Ground.phase }, { on := 26, ground := Ground.phase }, { on := 27, ground := Ground.phase }], guard := none }) (v := ?rgv27) rfl (by kernel_rfl) (by kernel_rfl) (by kernel_rfl) (fun _ _ _ h => h) (by rfl) (fun w hSw => ?rgy27) hHeld ?_
      case rgy27 => (try dsimp only at hSw); first | (go_simp; done) | (go_simp; with_reducible rfl)
      try simp only [Act.put, List.setIfInBounds_toArray, List.set_cons_zero, List.set_cons_succ]
      clear hHeld
      refine wpAnyH_done (by kernel_rfl) ?_ _
      go_wp2
      rw [HR.out]
      exact ⟨rfl, HS5.out.trans HT.out⟩
end Go.Proofs.YteoffbglbpdekaaDoor.L
