/- Layer 12: the laws FieldTells, FieldBlanks. -/
import Derived.Test.YteoffbglbpdekaaDoorFf
set_option linter.unusedVariables false
set_option linter.unusedSimpArgs false
namespace Go.Proofs.YteoffbglbpdekaaDoor.L
open Go.RowKit Go.Proofs

set_option maxRecDepth 100000 in
set_option maxHeartbeats 8000000 in
theorem tells12_law (M : Nat → Prop) (v : Value) (xs : List (ByteArray × ByteArray)) (nm : ByteArray) (w : World) (hx : Rd fldK M w v xs) (hn : nm.size ≤ 9223372036854775807) (hm : MaxL w)
    (hxs : ∀ x ∈ xs, x.1.size ≤ maxLen ∧ x.2.size ≤ maxLen) :
    Calls Tryd.prog 4 #[v, .string nm] w (TrueV w) := by
  obtain ⟨A, c, rfl, hle⟩ := hx.form
  have hcm := hx.at_.2.2.1
  unfold maxLen at hcm
  have HX := Lib.hid hx
  clear hx
  obtain ⟨R, hR⟩ : ∃ R, R = TrueV w := ⟨_, rfl⟩
  rw [← hR]
  have HR := Lib.hid hR
  have HM := Lib.hid hm
  have HXS := Lib.hid hxs
  clear hR hm hxs
  by_cases hg : xs.length ≤ 50 ∧ nm.size ≤ 200
  · obtain ⟨h1, h2⟩ := hg
    have HS0 := Lib.hid (Stp.refl (fun _ => False) w)
    go_enter Tryd.func4, Tryd.ntmps4
    go_wp2_with (go_at_call 19; refine stopc ?_)
    refine Stop.go ?_
    refine (small12_any _ HM.out).mono ?_
    rintro e w1 ⟨he, hs1⟩
    subst he
    have HS1 := Lib.hid (HS0.out.trans hs1)
    clear hs1
    go_wp2
    go_loopg [6] xs.length (fun gf i wr => ∃ k : Nat, k + gf = xs.length ∧ i = .int .i64 k ∧ Stp (fun _ => False) w wr)
    case atStart => exact ⟨0, by omega, rfl, HS1.out⟩
    case round =>
      obtain ⟨k, hk, rfl, hs⟩ := hrel
      have HS := Lib.hid hs
      clear hs
      by_cases hlt : k < xs.length
      · obtain ⟨g', rfl⟩ : ∃ g', gk = g' + 1 := ⟨gk - 1, by omega⟩
        obtain ⟨ad, rfl, -, c0, c1⟩ := pair_cell (HX.out.stp0 HS.out) k hlt
        have hsz := HXS.out xs[k] (List.getElem_mem hlt)
        obtain ⟨X, hX⟩ : ∃ X, X = (xs[k]).1 := ⟨_, rfl⟩
        obtain ⟨Y, hY⟩ : ∃ Y, Y = (xs[k]).2 := ⟨_, rfl⟩
        rw [← hX] at c0 hsz
        rw [← hY] at c1 hsz
        obtain ⟨z0, z1⟩ := hsz
        unfold maxLen at z0 z1
        clear hX hY
        by_cases g1 : X.size ≤ 500
        · by_cases g2 : Y.size ≤ 1000
          · have p1 := fun W => fprint_any X Y W (by omega) (by omega)
            have p2 := fun W => fprintR_any X Y W (by omega) (by omega) (by omega)
            obtain ⟨⟨l, b⟩, hr⟩ : ∃ r, r = printF X.data.toList Y.data.toList := ⟨_, rfl⟩
            rw [← hr] at p1 p2
            clear hr
            obtain ⟨L, hL⟩ : ∃ L, L = strB l := ⟨_, rfl⟩
            have p1' : ∀ W, Calls Tryd.prog 22 #[.agg #[.string X, .string Y]] W fun e w' => e = .returned (.tuple #[.string L, .bool b]) ∧ Stp (fun _ => False) W w' := fun W => by rw [hL]; exact p1 W
            have p2' : ∀ W, Calls Tryd.prog 23 #[.agg #[.string X, .string Y]] W fun e w' => e = .returned (.tuple #[.string L, .bool b]) ∧ Stp (fun _ => False) W w' := fun W => by rw [hL]; exact p2 W
            clear hL p1 p2
            go_wp2_with (go_at_call 22; refine stopc ?_)
            refine Stop.go ?_
            refine (p1' _).mono ?_
            rintro e w2 ⟨rfl, hs2⟩
            have d0 := hs2.cell c0 id
            have d1 := hs2.cell c1 id
            have HS2 := Lib.hid (HS.out.trans hs2)
            clear hs2 c0 c1
            go_wp2_with (go_at_call 23; refine stopc ?_)
            refine Stop.go ?_
            refine (p2' _).mono ?_
            rintro e w3 ⟨rfl, hs3⟩
            have HS3 := Lib.hid (HS2.out.trans hs3)
            clear hs3 d0 d1
            go_wp2
            go_roundg g'
            case measure => omega
            case rel => exact ⟨k + 1, by omega, by go_num, HS3.out⟩
          · have g2' : 1000 < Y.size := by omega
            go_wp2
            rw [HR.out]
            exact ⟨rfl, HS.out⟩
        · have g1' : 500 < X.size := by omega
          go_wp2
          rw [HR.out]
          exact ⟨rfl, HS.out⟩
      · have f1 := fun W (hs : Stp (fun _ => False) w W) => find_any M _ xs nm W (HX.out.stp0 hs) hn (by omega)
        have f2 := fun W (hs : Stp (fun _ => False) w W) => findR_any M _ xs nm W (HX.out.stp0 hs) hn (by omega)
        obtain ⟨⟨t, q⟩, hr⟩ : ∃ r, r = findF (lowS nm.data.toList) (flS xs) := ⟨_, rfl⟩
        rw [← hr] at f1 f2
        clear hr
        obtain ⟨T, hT⟩ : ∃ T, T = strB t := ⟨_, rfl⟩
        have f1' : ∀ W (hs : Stp (fun _ => False) w W), Calls Tryd.prog 24 #[.slice A xs.length c, .string nm] W fun e w' => e = .returned (.tuple #[.string T, .int .i64 (q : Int)]) ∧ Stp (fun _ => False) W w' := fun W hs => by rw [hT]; exact f1 W hs
        have f2' : ∀ W (hs : Stp (fun _ => False) w W), Calls Tryd.prog 25 #[.slice A xs.length c, .string nm] W fun e w' => e = .returned (.tuple #[.string T, .int .i64 (q : Int)]) ∧ Stp (fun _ => False) W w' := fun W hs => by rw [hT]; exact f2 W hs
        clear f1 f2 hT
        go_wp2_with (go_at_call 24; refine stopc ?_)
        refine Stop.go ?_
        refine (f1' _ HS.out).mono ?_
        rintro e w2 ⟨rfl, hs2⟩
        have HS2 := Lib.hid (HS.out.trans hs2)
        clear hs2
        go_wp2_with (go_at_call 25; refine stopc ?_)
        refine Stop.go ?_
        refine (f2' _ HS2.out).mono ?_
        rintro e w3 ⟨rfl, hs3⟩
        have HS3 := Lib.hid (HS2.out.trans hs3)
        clear hs3
        go_wp2
        rw [HR.out]
        exact ⟨rfl, HS3.out⟩
  · have key : 50 < xs.length ∨ (xs.length ≤ 50 ∧ 200 < nm.size) := by omega
    clear hg
    rcases key with k1 | ⟨k1, k2⟩
    all_goals
      have HS0 := Lib.hid (Stp.refl (fun _ => False) w)
      go_enter Tryd.func4, Tryd.ntmps4
      go_wp2_with (go_at_call 19; refine stopc ?_)
      refine Stop.go ?_
      refine (small12_any _ HM.out).mono ?_
      rintro e w1 ⟨he, hs1⟩
      subst he
      have HS1 := Lib.hid (HS0.out.trans hs1)
      clear hs1
      go_wp2
      rw [HR.out]
      exact ⟨rfl, HS1.out⟩

def blankT (k : Nat) : List UInt8 := (List.replicate k [(32 : UInt8), 9]).flatten
theorem blankT_snoc (k : Nat) : blankT k ++ [32, 9] = blankT (k + 1) := by
  unfold blankT
  rw [List.replicate_succ', List.flatten_append]
  simp
theorem blankT_len (k : Nat) : (blankT k).length = 2 * k := by
  induction k with
  | zero => rfl
  | succ k ih => rw [← blankT_snoc, List.length_append, ih]; simp; omega
theorem blankT_bl (k : Nat) : (blankT k).all isBl = true := by
  induction k with
  | zero => rfl
  | succ k ih =>
    rw [← blankT_snoc, List.all_append, ih]
    decide
theorem sB_append (x y : List UInt8) : strB x ++ strB y = strB (x ++ y) := by
  apply ByteArray.ext
  simp [strB]
theorem sB_back (s : ByteArray) : s = strB s.data.toList := (strB_of' s).symm

set_option maxRecDepth 100000 in
set_option maxHeartbeats 8000000 in
theorem blanks12_law (nm tx : ByteArray) (n : Int) (w : World) (hm : MaxL w) (wn : nm.size ≤ 9223372036854775807) (wt : tx.size ≤ 9223372036854775807) (wi : -9223372036854775808 ≤ n ∧ n ≤ 9223372036854775807) :
    Calls Tryd.prog 6 #[.string nm, .string tx, .int .i64 n] w (TrueV w) := by
  obtain ⟨R, hR⟩ : ∃ R, R = TrueV w := ⟨_, rfl⟩
  rw [← hR]
  have HR := Lib.hid hR
  have HM := Lib.hid hm
  clear hR hm
  by_cases hg : nm.size ≤ 500 ∧ tx.size ≤ 500 ∧ 0 ≤ n ∧ n ≤ 20
  · obtain ⟨h1, h2, n0, n1⟩ := hg
    obtain ⟨N, rfl⟩ := Int.eq_ofNat_of_zero_le n0
    have hN : N ≤ 20 := by omega
    have HS0 := Lib.hid (Stp.refl (fun _ => False) w)
    go_enter Tryd.func6, Tryd.ntmps6
    go_wp2_with (go_at_call 19; refine stopc ?_)
    refine Stop.go ?_
    refine (small12_any _ HM.out).mono ?_
    rintro e w1 ⟨he, hs1⟩
    subst he
    have HS1 := Lib.hid (HS0.out.trans hs1)
    clear hs1
    go_wp2
    go_loopg [8] nm.size (fun gf i wr => ∃ k : Nat, k + gf = nm.size ∧ i = .int .i64 k ∧ (∀ j (hj : j < nm.size), j < k → nm[j] ≠ 58) ∧ wr = w1)
    case atStart => exact ⟨0, by omega, rfl, fun j hj h => absurd h (by omega), rfl⟩
    case round =>
      obtain ⟨k, hk, rfl, hall, hw⟩ := hrel
      obtain rfl := hw.symm
      have HALL := Lib.hid hall
      clear hall hw
      by_cases hlt : k < nm.size
      · obtain ⟨g', rfl⟩ : ∃ g', gk = g' + 1 := ⟨gk - 1, by omega⟩
        have i58 : (((nm[k]).toNat : Int) == 58) = decide (nm[k] = 58) := by
          rw [Bool.eq_iff_iff, beq_iff_eq, decide_eq_true_eq]
          have e58 : (58 : UInt8).toNat = 58 := rfl
          constructor
          · intro h
            apply UInt8.toNat_inj.1
            omega
          · intro h
            rw [h]
            rfl
        by_cases h58 : nm[k] = 58
        · rw [show decide (nm[k] = 58) = true by simpa using h58] at i58
          clear h58
          go_wp2
          rw [HR.out]
          exact ⟨rfl, HS1.out⟩
        · rw [show decide (nm[k] = 58) = false by simpa using h58] at i58
          have H58 := Lib.hid h58
          clear h58
          go_wp2
          go_roundg g'
          case measure => omega
          case rel =>
            refine ⟨k + 1, by omega, by go_num, fun j hj hx => ?_, rfl⟩
            by_cases e : j = k
            · subst e
              exact H58.out
            · exact HALL.out j hj (by omega)
      · have hno : (58 : UInt8) ∉ nm.data.toList := by
          intro hmem
          obtain ⟨j, hj, he⟩ := List.mem_iff_getElem.1 hmem
          rw [size_list] at hj
          exact HALL.out j hj (by omega) he
        have HNO := Lib.hid hno
        clear hno HALL
        go_wp2
        go_loopg [9, 10] N (fun gf b i wr => ∃ j : Nat, j + gf = N ∧ i = .int .i64 j ∧ b = .string (strB (blankT j)) ∧ wr = w1)
        case atStart => exact ⟨0, by omega, rfl, rfl, rfl⟩
        case round =>
          obtain ⟨j, hj, rfl, rfl, hw⟩ := hrel
          obtain rfl := hw.symm
          clear hw
          obtain ⟨B, hB⟩ : ∃ B, B = strB (blankT j) := ⟨_, rfl⟩
          rw [← hB]
          have hBs : B.size ≤ 40 := by rw [hB, sB_size, blankT_len]; omega
          by_cases hlt2 : j < N
          · obtain ⟨g', rfl⟩ : ∃ g', gk = g' + 1 := ⟨gk - 1, by omega⟩
            have HB := Lib.hid hB
            clear hB
            go_wp2
            go_roundg g'
            case measure => omega
            case rel =>
              refine ⟨j + 1, by omega, by go_num, ?_, rfl⟩
              rw [HB.out]
              congr 1
              rw [← blankT_snoc, ← sB_append]
              rfl
          · have hbd : B.data.toList = blankT j := by rw [hB, sB_data]
            obtain ⟨a, b, e, hp⟩ : ∃ a b e, parseF (nm.data.toList ++ 58 :: tx.data.toList) = (a, b, e) := ⟨_, _, _, rfl⟩
            have hp2 := (parse_blanks nm.data.toList tx.data.toList (blankT j) HNO.out (blankT_bl j)).trans hp
            have q1 : (nm ++ ⟨#[58]⟩ ++ tx).data.toList = nm.data.toList ++ 58 :: tx.data.toList := by simp
            have cl := fun W => lower_any nm W wn
            obtain ⟨X, hX⟩ : ∃ X, X = strB (lowS nm.data.toList) := ⟨_, rfl⟩
            rw [← hX] at cl
            have hXs : X.size ≤ 500 := by rw [hX, sB_size, lowS_len, size_list]; omega
            have q2 : (X ++ ⟨#[58]⟩ ++ B ++ tx ++ B).data.toList = lowS nm.data.toList ++ 58 :: (blankT j ++ tx.data.toList ++ blankT j) := by
              have hXd : X.data.toList = lowS nm.data.toList := by rw [hX, sB_data]
              simp only [ByteArray.data_append, Array.toList_append, hXd, hbd]
              simp
            have s58 : (⟨#[58]⟩ : ByteArray).size = 1 := rfl
            have z1 : (nm ++ ⟨#[58]⟩ ++ tx).size < 4294967281 := by rw [ByteArray.size_append, ByteArray.size_append, s58]; omega
            have z2 : (X ++ ⟨#[58]⟩ ++ B ++ tx ++ B).size < 4294967281 := by rw [ByteArray.size_append, ByteArray.size_append, ByteArray.size_append, ByteArray.size_append, s58]; omega
            have c1 := fun W hW => fparse_v _ W z1 hW a b e (by rw [q1]; exact hp)
            have c2 := fun W hW => fparse_v _ W z2 hW a b e (by rw [q2]; exact hp2)
            obtain ⟨P, hP⟩ : ∃ P, P = strB a := ⟨_, rfl⟩
            obtain ⟨Q, hQ⟩ : ∃ Q, Q = strB b := ⟨_, rfl⟩
            rw [← hP, ← hQ] at c1 c2
            clear hB hbd hp hp2 q1 q2 hX hP hQ s58 z1 z2
            go_wp2_with (go_at_call 20; refine stopc ?_)
            refine Stop.go ?_
            refine (c1 _ (HM.out.step HS1.out)).mono ?_
            rintro e w2 ⟨he, hs2⟩
            subst he
            have HS2 := Lib.hid (HS1.out.trans hs2)
            clear hs2
            go_wp2_with (go_at_call 26; refine stopc ?_)
            refine Stop.go ?_
            refine (cl _).mono ?_
            rintro e w3 ⟨he, hs3⟩
            subst he
            have HS3 := Lib.hid ((HS2.out.alloc _).trans hs3)
            have HBF := Lib.hid (show w3.heap[w2.heap.size]? = some (.cells #[.string P, .string Q] 24 (0, 0)) from hs3.blk (heap_alloc_new w2 _) id)
            clear hs3
            have kF0 : w3.cell? ⟨w2.heap.size, 0, none⟩ = some (.string P) := blk_cell (j := 0) HBF.out
            have kF1 : w3.cell? ⟨w2.heap.size, 1, none⟩ = some (.string Q) := blk_cell (j := 1) HBF.out
            have ltF := blk_lt HBF.out
            go_wp2_with (go_at_call 20; refine stopc ?_)
            refine Stop.go ?_
            refine (c2 _ (HM.out.step HS3.out)).mono ?_
            rintro e w4 ⟨he, hs4⟩
            subst he
            have HS4 := Lib.hid (HS3.out.trans hs4)
            replace HBF := Lib.hid (hs4.blk HBF.out id)
            clear hs4 kF0 kF1 ltF
            have kF0 : w4.cell? ⟨w2.heap.size, 0, none⟩ = some (.string P) := blk_cell (j := 0) HBF.out
            have kF1 : w4.cell? ⟨w2.heap.size, 1, none⟩ = some (.string Q) := blk_cell (j := 1) HBF.out
            have ltF := blk_lt HBF.out
            go_wp2
            rw [HR.out]
            exact ⟨rfl, HS4.out.alloc _⟩
  · have key : 500 < nm.size ∨ (nm.size ≤ 500 ∧ (500 < tx.size ∨ (tx.size ≤ 500 ∧ (n < 0 ∨ (0 ≤ n ∧ 20 < n))))) := by omega
    clear hg
    rcases key with k1 | ⟨k1, k2 | ⟨k2, k3 | ⟨k3, k4⟩⟩⟩
    all_goals
      have HS0 := Lib.hid (Stp.refl (fun _ => False) w)
      go_enter Tryd.func6, Tryd.ntmps6
      go_wp2_with (go_at_call 19; refine stopc ?_)
      refine Stop.go ?_
      refine (small12_any _ HM.out).mono ?_
      rintro e w1 ⟨he, hs1⟩
      subst he
      have HS1 := Lib.hid (HS0.out.trans hs1)
      clear hs1
      go_wp2
      rw [HR.out]
      exact ⟨rfl, HS1.out⟩
end Go.Proofs.YteoffbglbpdekaaDoor.L
