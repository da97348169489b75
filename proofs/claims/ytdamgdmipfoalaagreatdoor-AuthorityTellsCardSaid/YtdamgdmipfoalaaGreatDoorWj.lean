/- Layer 13: the law AuthorityTells. -/
import Derived.Test.YtdamgdmipfoalaaGreatDoorVl
import Derived.Test.YtdamgdmipfoalaaGreatDoorWg
import Derived.Test.YtdamgdmipfoalaaGreatDoorFk
set_option linter.unusedVariables false
set_option linter.unusedSimpArgs false
namespace Go.Proofs.YtdamgdmipfoalaaGreatDoor.L
open Go.RowKit Go.Proofs

set_option maxRecDepth 100000 in
set_option maxHeartbeats 8000000 in
theorem tells13_any (M : Nat → Prop) (h : ByteArray) (p : Int) (m t : ByteArray) (n : Int) (v : Value) (xs : List (ByteArray × ByteArray)) (w : World) (hx : Rd fldK M w v xs) (hp0 : -9223372036854775808 ≤ p) (hp1 : p ≤ 9223372036854775807) (he : EnvP w) :
    Calls Tryz.prog 4 #[.string h, .int .i64 p, .agg #[.string m, .string t, .int .i64 n], v] w (TrueV w) := by
  obtain ⟨A, c, rfl, hle⟩ := hx.form
  have hcm := hx.at_.2.2.1
  unfold maxLen at hcm
  obtain ⟨R, hR⟩ : ∃ R, R = TrueV w := ⟨_, rfl⟩
  rw [← hR]
  have HR := Lib.hid hR
  have HM := Lib.hid he
  have HX := Lib.hid hx
  clear hR he hx
  by_cases hbig : ¬ (h.size ≤ 1000 ∧ m.size ≤ 1000 ∧ t.size ≤ 2000 ∧ xs.length ≤ 50)
  · have key : (decide ((1000 : Int) < (h.size : Int)) = true) ∨ (decide ((1000 : Int) < (h.size : Int)) = false ∧ decide ((1000 : Int) < (m.size : Int)) = true) ∨ (decide ((1000 : Int) < (h.size : Int)) = false ∧ decide ((1000 : Int) < (m.size : Int)) = false ∧ decide ((2000 : Int) < (t.size : Int)) = true) ∨
        (decide ((1000 : Int) < (h.size : Int)) = false ∧ decide ((1000 : Int) < (m.size : Int)) = false ∧ decide ((2000 : Int) < (t.size : Int)) = false ∧ decide ((50 : Int) < (xs.length : Int)) = true) := by
      simp only [decide_eq_true_eq, decide_eq_false_iff_not]
      omega
    clear hbig
    rcases key with h1 | ⟨h1, h2⟩ | ⟨h1, h2, h3⟩ | ⟨h1, h2, h3, h4⟩
    all_goals
      have HS0 := Lib.hid (Stp.refl (fun _ => False) w)
      go_enter Tryz.func4, Tryz.ntmps4
      go_wp2_with (go_at_call 5; refine stopc ?_)
      refine Stop.go ?_
      refine (small13_any _ (HM.out.step (HS0.out.alloc _))).mono ?_
      rintro e w1 ⟨he, hs1⟩
      subst he
      have HS1 := Lib.hid ((HS0.out.alloc _).trans hs1)
      have HBQ := Lib.hid (show w1.heap[w.heap.size]? = some (.cells #[.string m, .string t, .int .i64 n] 28 (0, 0)) from hs1.blk (heap_alloc_new w _) id)
      clear hs1
      have kQ0 : w1.cell? ⟨w.heap.size, 0, none⟩ = some (.string m) := blk_cell (j := 0) HBQ.out
      have kQ1 : w1.cell? ⟨w.heap.size, 1, none⟩ = some (.string t) := blk_cell (j := 1) HBQ.out
      have kQ2 : w1.cell? ⟨w.heap.size, 2, none⟩ = some (.int .i64 n) := blk_cell (j := 2) HBQ.out
      have ltQ := blk_lt HBQ.out
      go_wp2
      rw [HR.out]
      exact ⟨rfl, HS1.out⟩
  · obtain ⟨l1, l2, l3, l4⟩ := Classical.not_not.1 hbig
    have h1 : decide ((1000 : Int) < (h.size : Int)) = false := decide_eq_false (by omega)
    have h2 : decide ((1000 : Int) < (m.size : Int)) = false := decide_eq_false (by omega)
    have h3 : decide ((2000 : Int) < (t.size : Int)) = false := decide_eq_false (by omega)
    have h4 : decide ((50 : Int) < (xs.length : Int)) = false := decide_eq_false (by omega)
    clear hbig
    have HS0 := Lib.hid (Stp.refl (fun _ => False) w)
    go_enter Tryz.func4, Tryz.ntmps4
    go_wp2_with (go_at_call 5; refine stopc ?_)
    refine Stop.go ?_
    refine (small13_any _ (HM.out.step (HS0.out.alloc _))).mono ?_
    rintro e w1 ⟨he, hs1⟩
    subst he
    have HS1 := Lib.hid ((HS0.out.alloc _).trans hs1)
    have HBQ := Lib.hid (show w1.heap[w.heap.size]? = some (.cells #[.string m, .string t, .int .i64 n] 28 (0, 0)) from hs1.blk (heap_alloc_new w _) id)
    clear hs1
    have kQ0 : w1.cell? ⟨w.heap.size, 0, none⟩ = some (.string m) := blk_cell (j := 0) HBQ.out
    have kQ1 : w1.cell? ⟨w.heap.size, 1, none⟩ = some (.string t) := blk_cell (j := 1) HBQ.out
    have kQ2 : w1.cell? ⟨w.heap.size, 2, none⟩ = some (.int .i64 n) := blk_cell (j := 2) HBQ.out
    have ltQ := blk_lt HBQ.out
    go_wp2
    go_loopg [10] xs.length (fun gf i wr => ∃ k : Nat, k + gf = xs.length ∧ i = .int .i64 k ∧ (∀ j (hj : j < xs.length), j < k → (xs[j]).2.size ≤ 500) ∧ wr = w1)
    case atStart => exact ⟨0, by omega, rfl, fun j hj h => absurd h (by omega), rfl⟩
    case round =>
      obtain ⟨k, hk, rfl, hall, hw⟩ := hrel
      obtain rfl := hw.symm
      have HALL := Lib.hid hall
      clear hall hw
      by_cases hlt : k < xs.length
      · obtain ⟨ad, rfl, -, c0, c1⟩ := pair_cell (HX.out.stp0 HS1.out) k hlt
        obtain ⟨X, hXX⟩ : ∃ X, X = (xs[k]).1 := ⟨_, rfl⟩
        obtain ⟨Y, hYY⟩ : ∃ Y, Y = (xs[k]).2 := ⟨_, rfl⟩
        rw [← hXX] at c0
        rw [← hYY] at c1
        have hin : (k : Int) < (xs.length : Int) := by omega
        have hw : IntKind.i64.wrap ((k : Int) + 1) = (k : Int) + 1 := IntWalk.i64_in _ (by omega)
        have HYY := Lib.hid hYY
        clear hXX hYY
        by_cases g1 : 300 < X.size
        · have d1 : decide ((300 : Int) < (X.size : Int)) = true := decide_eq_true (by omega)
          clear g1
          go_wp2
          rw [HR.out]
          exact ⟨rfl, HS1.out⟩
        · have d1 : decide ((300 : Int) < (X.size : Int)) = false := decide_eq_false (by omega)
          clear g1
          by_cases g2 : 500 < Y.size
          · have d2 : decide ((500 : Int) < (Y.size : Int)) = true := decide_eq_true (by omega)
            clear g2
            go_wp2
            rw [HR.out]
            exact ⟨rfl, HS1.out⟩
          · have d2 : decide ((500 : Int) < (Y.size : Int)) = false := decide_eq_false (by omega)
            have HY : Hid (Y.size ≤ 500) := Lib.hid (by omega)
            clear g2
            obtain ⟨g', rfl⟩ : ∃ g', gk = g' + 1 := ⟨gk - 1, by omega⟩
            go_wp2
            go_roundg g'
            case measure => omega
            case rel =>
              refine ⟨k + 1, by omega, by go_num, fun j hj h1 => ?_, rfl⟩
              by_cases hjk : j = k
              · subst hjk
                rw [← HYY.out]
                exact HY.out
              · exact HALL.out j hj (by omega)
      · have hz : ∀ x ∈ xs, x.2.size < 4294967280 := fun x hx => by
          obtain ⟨j, hj, rfl⟩ := List.mem_iff_getElem.1 hx
          have := HALL.out j hj (by omega)
          omega
        have hfs := find_size hostL xs 4294967280 (by decide) hz
        have cP := fun W hW => hprint_any h p W (by omega) hp0 hp1 hW
        have cPR := fun W => hprintR_any h p W (by omega) hp0 hp1
        have cO : ∀ W (hs : Stp (fun _ => False) w W), EnvP W → Calls Tryz.prog 10 #[.agg #[.string m, .string t, .int .i64 n], .slice A xs.length c] W (HpP W (ofS m.data.toList t.data.toList (flS xs))) := fun W hs hW => of_any M _ xs m t n W (HX.out.stp0 hs) (by omega) hfs (by omega) hW
        have cOR : ∀ W (hs : Stp (fun _ => False) w W), Calls Tryz.prog 11 #[.agg #[.string m, .string t, .int .i64 n], .slice A xs.length c] W (HpP W (ofS m.data.toList t.data.toList (flS xs))) := fun W hs => ofR_any M _ xs m t n W (HX.out.stp0 hs) (by omega) hfs (by omega)
        unfold StrB2 at cP cPR
        unfold HpP at cO cOR
        obtain ⟨q1, hq1⟩ : ∃ q, q = printH3 h.data.toList p := ⟨_, rfl⟩
        obtain ⟨q2, hq2⟩ : ∃ q, q = ofS m.data.toList t.data.toList (flS xs) := ⟨_, rfl⟩
        rw [← hq1] at cP cPR
        rw [← hq2] at cO cOR
        obtain ⟨b1, f1⟩ := q1
        obtain ⟨b2, p2, e2⟩ := q2
        obtain ⟨B1, hB1⟩ : ∃ B, B = strB b1 := ⟨_, rfl⟩
        obtain ⟨B2, hB2⟩ : ∃ B, B = strB b2 := ⟨_, rfl⟩
        simp only [← hB1] at cP cPR
        simp only [← hB2] at cO cOR
        have r1 : (B1.toList == B1.toList) = true := by simp
        have r2 : (B2.toList == B2.toList) = true := by simp
        have r3 : (f1 == f1) = true := by simp
        clear hz hfs hq1 hq2 hB1 hB2 HALL
        go_wp2_with (go_at_call 8; refine stopc ?_)
        refine Stop.go ?_
        refine (cP _ (HM.out.step HS1.out)).mono ?_
        rintro e w2 ⟨he, hs2⟩
        subst he
        have HS2 := Lib.hid (HS1.out.trans hs2)
        replace HBQ := Lib.hid (hs2.blk HBQ.out id)
        clear hs2 kQ0 kQ1 kQ2 ltQ
        have kQ0 : w2.cell? ⟨w.heap.size, 0, none⟩ = some (.string m) := blk_cell (j := 0) HBQ.out
        have kQ1 : w2.cell? ⟨w.heap.size, 1, none⟩ = some (.string t) := blk_cell (j := 1) HBQ.out
        have kQ2 : w2.cell? ⟨w.heap.size, 2, none⟩ = some (.int .i64 n) := blk_cell (j := 2) HBQ.out
        have ltQ := blk_lt HBQ.out
        go_wp2_with (go_at_call 9; refine stopc ?_)
        refine Stop.go ?_
        refine (cPR _).mono ?_
        rintro e w3 ⟨he, hs3⟩
        subst he
        have HS3 := Lib.hid (HS2.out.trans hs3)
        replace HBQ := Lib.hid (hs3.blk HBQ.out id)
        clear hs3 kQ0 kQ1 kQ2 ltQ
        have kQ0 : w3.cell? ⟨w.heap.size, 0, none⟩ = some (.string m) := blk_cell (j := 0) HBQ.out
        have kQ1 : w3.cell? ⟨w.heap.size, 1, none⟩ = some (.string t) := blk_cell (j := 1) HBQ.out
        have kQ2 : w3.cell? ⟨w.heap.size, 2, none⟩ = some (.int .i64 n) := blk_cell (j := 2) HBQ.out
        have ltQ := blk_lt HBQ.out
        go_wp2_with (go_at_call 10; refine stopc ?_)
        refine Stop.go ?_
        refine (cO _ HS3.out (HM.out.step HS3.out)).mono ?_
        rintro e w4 ⟨he, hs4⟩
        subst he
        have HS4 := Lib.hid (HS3.out.trans hs4)
        replace HBQ := Lib.hid (hs4.blk HBQ.out id)
        clear hs4 kQ0 kQ1 kQ2 ltQ
        have kQ0 : w4.cell? ⟨w.heap.size, 0, none⟩ = some (.string m) := blk_cell (j := 0) HBQ.out
        have kQ1 : w4.cell? ⟨w.heap.size, 1, none⟩ = some (.string t) := blk_cell (j := 1) HBQ.out
        have kQ2 : w4.cell? ⟨w.heap.size, 2, none⟩ = some (.int .i64 n) := blk_cell (j := 2) HBQ.out
        have ltQ := blk_lt HBQ.out
        go_wp2_with (go_at_call 11; refine stopc ?_)
        refine Stop.go ?_
        refine (cOR _ HS4.out).mono ?_
        rintro e w5 ⟨he, hs5⟩
        subst he
        have HS5 := Lib.hid (HS4.out.trans hs5)
        replace HBQ := Lib.hid (hs5.blk HBQ.out id)
        clear hs5 kQ0 kQ1 kQ2 ltQ
        have kQ0 : w5.cell? ⟨w.heap.size, 0, none⟩ = some (.string m) := blk_cell (j := 0) HBQ.out
        have kQ1 : w5.cell? ⟨w.heap.size, 1, none⟩ = some (.string t) := blk_cell (j := 1) HBQ.out
        have kQ2 : w5.cell? ⟨w.heap.size, 2, none⟩ = some (.int .i64 n) := blk_cell (j := 2) HBQ.out
        have ltQ := blk_lt HBQ.out
        go_wp2
        rw [HR.out]
        exact ⟨rfl, HS5.out⟩
end Go.Proofs.YtdamgdmipfoalaaGreatDoor.L
