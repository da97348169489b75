/- Layer 12: the laws FieldParses, FieldBack. -/
import Derived.Test.YteoffbglbpdekaaDoorFe
set_option linter.unusedVariables false
set_option linter.unusedSimpArgs false
namespace Go.Proofs.YteoffbglbpdekaaDoor.L
open Go.RowKit Go.Proofs

theorem fparseR_v (s : ByteArray) (w : World) (hs : s.size < 4294967281) (n t : List UInt8) (e : Int) (h : parseF s.data.toList = (n, t, e)) :
    Calls Tryd.prog 21 #[.string s] w fun e' w' => e' = .returned (.tuple #[.agg #[.string (strB n), .string (strB t)], .int .i64 e]) ∧ Stp (fun _ => False) w w' := by
  have := fparseR_any s w hs
  rw [h] at this
  exact this

set_option maxRecDepth 100000 in
set_option maxHeartbeats 8000000 in
theorem parses12_law (s : ByteArray) (w : World) (ws : s.size ≤ 9223372036854775807) (hm : MaxL w) : Calls Tryd.prog 3 #[.string s] w (TrueV w) := by
  obtain ⟨R, hR⟩ : ∃ R, R = TrueV w := ⟨_, rfl⟩
  rw [← hR]
  have HR := Lib.hid hR
  have HM := Lib.hid hm
  clear hR hm
  by_cases h1 : s.size ≤ 5000
  · obtain ⟨n, t, e, hp⟩ : ∃ n t e, parseF s.data.toList = (n, t, e) := ⟨_, _, _, rfl⟩
    have c1 := fun W hW => fparse_v s W (by omega) hW n t e hp
    have c2 := fun W => fparseR_v s W (by omega) n t e hp
    obtain ⟨x, hx⟩ : ∃ x, x = strB n := ⟨_, rfl⟩
    obtain ⟨y, hy⟩ : ∃ y, y = strB t := ⟨_, rfl⟩
    rw [← hx, ← hy] at c1 c2
    clear hx hy hp
    have HS0 := Lib.hid (Stp.refl (fun _ => False) w)
    go_enter Tryd.func3, Tryd.ntmps3
    go_wp2_with (go_at_call 19; refine stopc ?_)
    refine Stop.go ?_
    refine (small12_any _ HM.out).mono ?_
    rintro e w1 ⟨he, hs1⟩
    subst he
    have HS1 := Lib.hid (HS0.out.trans hs1)
    clear hs1
    go_wp2_with (go_at_call 20; refine stopc ?_)
    refine Stop.go ?_
    refine (c1 _ (HM.out.step HS1.out)).mono ?_
    rintro e w2 ⟨he, hs2⟩
    subst he
    have HS2 := Lib.hid (HS1.out.trans hs2)
    clear hs2
    go_wp2_with (go_at_call 21; refine stopc ?_)
    refine Stop.go ?_
    refine (c2 _).mono ?_
    rintro e w3 ⟨he, hs3⟩
    subst he
    have HS3 := Lib.hid ((HS2.out.alloc _).trans hs3)
    have HBF := Lib.hid (show w3.heap[w2.heap.size]? = some (.cells #[.string x, .string y] 24 (0, 0)) from hs3.blk (heap_alloc_new w2 _) id)
    clear hs3
    have kF0 : w3.cell? ⟨w2.heap.size, 0, none⟩ = some (.string x) := blk_cell (j := 0) HBF.out
    have kF1 : w3.cell? ⟨w2.heap.size, 1, none⟩ = some (.string y) := blk_cell (j := 1) HBF.out
    have ltF := blk_lt HBF.out
    go_wp2
    rw [HR.out]
    exact ⟨rfl, HS3.out.alloc _⟩
  · have h1' : 5000 < s.size := by omega
    have HS0 := Lib.hid (Stp.refl (fun _ => False) w)
    go_enter Tryd.func3, Tryd.ntmps3
    go_wp2_with (go_at_call 19; refine stopc ?_)
    refine Stop.go ?_
    refine (small12_any _ HM.out).mono ?_
    rintro e w1 ⟨he, hs1⟩
    subst he
    have HS1 := Lib.hid (HS0.out.trans hs1)
    clear hs1
    go_wp2
    rw [HR.out]
    exact ⟨rfl, HS1.out⟩

theorem lowS_le (l : List UInt8) : (lowS l).length = l.length := lowS_len l
theorem trimS_le (l : List UInt8) : (trimS l).length ≤ l.length := by
  obtain ⟨a, b, he, -, -⟩ := trim_parts l
  have := congrArg List.length he
  rw [List.length_append, List.length_append] at this
  omega
theorem parseF_len (l : List UInt8) : (parseF l).1.length ≤ l.length ∧ (parseF l).2.1.length ≤ l.length := by
  have hc := cutC_len 58 l
  unfold parseF
  split
  · split
    · exact ⟨Nat.zero_le _, Nat.zero_le _⟩
    · exact ⟨by simp only; rw [lowS_len]; exact hc.1, Nat.le_trans (trimS_le _) hc.2⟩
  · exact ⟨Nat.zero_le _, Nat.zero_le _⟩
theorem line_size (n t : ByteArray) : (strB (lineF n.data.toList t.data.toList)).size = n.size + t.size + 2 := by
  rw [sB_size, lineF, List.length_append, List.length_append, size_list, size_list]
  simp
  omega
set_option maxRecDepth 100000 in
set_option maxHeartbeats 8000000 in
theorem back12_law (n t s : ByteArray) (w : World) (hm : MaxL w) (wn : n.size ≤ 9223372036854775807) (wt : t.size ≤ 9223372036854775807) (ws : s.size ≤ 9223372036854775807) :
    Calls Tryd.prog 5 #[.agg #[.string n, .string t], .string s] w (TrueV w) := by
  obtain ⟨R, hR⟩ : ∃ R, R = TrueV w := ⟨_, rfl⟩
  rw [← hR]
  have HR := Lib.hid hR
  have HM := Lib.hid hm
  clear hR hm
  by_cases hg : n.size ≤ 1000 ∧ t.size ≤ 3000 ∧ s.size ≤ 3000
  · obtain ⟨h1, h2, h3⟩ := hg
    have cp := fun W => fprint_any n t W (by omega) (by omega)
    obtain ⟨a, b, e, hs⟩ : ∃ a b e, parseF s.data.toList = (a, b, e) := ⟨_, _, _, rfl⟩
    have c2 := fun W hW => fparse_v s W (by omega) hW a b e hs
    have hpl := parse_line n.data.toList t.data.toList
    have c1 := fun W hW (hok : okF n.data.toList t.data.toList = true) => fparse_v (strB (lineF n.data.toList t.data.toList)) W (by rw [line_size]; omega) hW n.data.toList t.data.toList 0 (by rw [sB_data]; exact hpl hok)
    rw [strB_of', strB_of'] at c1
    have hla : a.length ≤ s.size ∧ b.length ≤ s.size := by
      have h := parseF_len s.data.toList
      rw [hs, size_list] at h
      exact h
    obtain ⟨hla, hlb⟩ := hla
    have cq := fun W => fprint_any (strB a) (strB b) W (by rw [sB_size]; omega) (by rw [sB_size]; omega)
    rw [sB_data, sB_data] at cq
    have hboth : ∀ (P : Prop), (okF n.data.toList t.data.toList = true → P) → (okF n.data.toList t.data.toList = false → P) → P := fun P f g => by
      cases h : okF n.data.toList t.data.toList with
      | true => exact f h
      | false => exact g h
    by_cases he : e = 0
    · subst he
      have hok2 := parse_ok _ _ _ hs
      have hpl2 := parse_line a b hok2
      have c3 := fun W hW => fparse_v (strB (lineF a b)) W (by rw [sB_size, lineF, List.length_append, List.length_append]; simp; omega) hW a b 0 (by rw [sB_data]; exact hpl2)
      have hpr2 : printF a b = (lineF a b, true) := if_pos hok2
      rw [hpr2] at cq
      obtain ⟨A, hA⟩ : ∃ A, A = strB a := ⟨_, rfl⟩
      obtain ⟨B, hB⟩ : ∃ B, B = strB b := ⟨_, rfl⟩
      obtain ⟨Q, hQ⟩ : ∃ Q, Q = strB (lineF a b) := ⟨_, rfl⟩
      rw [← hA, ← hB] at c2 c3 cq
      have cq' : ∀ W, Calls Tryd.prog 22 #[.agg #[.string A, .string B]] W fun e w' => e = .returned (.tuple #[.string Q, .bool true]) ∧ Stp (fun _ => False) W w' := fun W => by rw [hQ]; exact cq W
      rw [← hQ] at c3
      clear hA hB hQ cq hs hok2 hpl2 hpr2 hla hlb hpl
      refine hboth _ (fun hok => ?_) (fun hok => ?_)
      · have hpr : printF n.data.toList t.data.toList = (lineF n.data.toList t.data.toList, true) := if_pos hok
        rw [hpr] at cp
        obtain ⟨L, hL⟩ : ∃ L, L = strB (lineF n.data.toList t.data.toList) := ⟨_, rfl⟩
        have cp' : ∀ W, Calls Tryd.prog 22 #[.agg #[.string n, .string t]] W fun e w' => e = .returned (.tuple #[.string L, .bool true]) ∧ Stp (fun _ => False) W w' := fun W => by rw [hL]; exact cp W
        rw [← hL] at c1
        have c1' := fun W hW => c1 W hW hok
        clear hL cp c1 hpr hok hboth
        have HS0 := Lib.hid (Stp.refl (fun _ => False) w)
        go_enter Tryd.func5, Tryd.ntmps5
        go_wp2_with (go_at_call 19; refine stopc ?_)
        refine Stop.go ?_
        refine (small12_any _ (HM.out.step (HS0.out.alloc _))).mono ?_
        rintro e w1 ⟨he, hs1⟩
        subst he
        have HS1 := Lib.hid ((HS0.out.alloc _).trans hs1)
        have HBF := Lib.hid (show w1.heap[w.heap.size]? = some (.cells #[.string n, .string t] 24 (0, 0)) from hs1.blk (heap_alloc_new w _) id)
        clear hs1
        have kF0 : w1.cell? ⟨w.heap.size, 0, none⟩ = some (.string n) := blk_cell (j := 0) HBF.out
        have kF1 : w1.cell? ⟨w.heap.size, 1, none⟩ = some (.string t) := blk_cell (j := 1) HBF.out
        have ltF := blk_lt HBF.out
        go_wp2_with (go_at_call 22; refine stopc ?_)
        refine Stop.go ?_
        refine (cp' _).mono ?_
        rintro e w2 ⟨he, hs2⟩
        subst he
        have HS2 := Lib.hid (HS1.out.trans hs2)
        replace HBF := Lib.hid (hs2.blk HBF.out id)
        clear hs2 kF0 kF1 ltF
        have kF0 : w2.cell? ⟨w.heap.size, 0, none⟩ = some (.string n) := blk_cell (j := 0) HBF.out
        have kF1 : w2.cell? ⟨w.heap.size, 1, none⟩ = some (.string t) := blk_cell (j := 1) HBF.out
        have ltF := blk_lt HBF.out
        go_wp2_with (go_at_call 20; refine stopc ?_)
        refine Stop.go ?_
        refine (c1' _ (HM.out.step HS2.out)).mono ?_
        rintro e w3 ⟨he, hs3⟩
        subst he
        have HS3 := Lib.hid (HS2.out.trans hs3)
        replace HBF := Lib.hid (hs3.blk HBF.out id)
        clear hs3 kF0 kF1 ltF
        have kF0 : w3.cell? ⟨w.heap.size, 0, none⟩ = some (.string n) := blk_cell (j := 0) HBF.out
        have kF1 : w3.cell? ⟨w.heap.size, 1, none⟩ = some (.string t) := blk_cell (j := 1) HBF.out
        have ltF := blk_lt HBF.out
        go_wp2_with (go_at_call 20; refine stopc ?_)
        refine Stop.go ?_
        refine (c2 _ (HM.out.step (HS3.out.alloc _))).mono ?_
        rintro e w4 ⟨he, hs4⟩
        subst he
        have HS4 := Lib.hid ((HS3.out.alloc _).trans hs4)
        replace HBF := Lib.hid (hs4.blk (((Stp.refl (fun _ => False) _).alloc _).blk HBF.out id) id)
        have HBX := Lib.hid (show w4.heap[w3.heap.size]? = some (.cells #[.string n, .string t] 24 (0, 0)) from hs4.blk (heap_alloc_new w3 _) id)
        clear hs4 kF0 kF1 ltF
        have kF0 : w4.cell? ⟨w.heap.size, 0, none⟩ = some (.string n) := blk_cell (j := 0) HBF.out
        have kF1 : w4.cell? ⟨w.heap.size, 1, none⟩ = some (.string t) := blk_cell (j := 1) HBF.out
        have ltF := blk_lt HBF.out
        have kX0 : w4.cell? ⟨w3.heap.size, 0, none⟩ = some (.string n) := blk_cell (j := 0) HBX.out
        have kX1 : w4.cell? ⟨w3.heap.size, 1, none⟩ = some (.string t) := blk_cell (j := 1) HBX.out
        have ltX := blk_lt HBX.out
        go_wp2_with (go_at_call 22; refine stopc ?_)
        refine Stop.go ?_
        refine (cq' _).mono ?_
        rintro e w5 ⟨he, hs5⟩
        subst he
        have HS5 := Lib.hid ((HS4.out.alloc _).trans hs5)
        replace HBF := Lib.hid (hs5.blk (((Stp.refl (fun _ => False) _).alloc _).blk HBF.out id) id)
        replace HBX := Lib.hid (hs5.blk (((Stp.refl (fun _ => False) _).alloc _).blk HBX.out id) id)
        have HBY := Lib.hid (show w5.heap[w4.heap.size]? = some (.cells #[.string A, .string B] 24 (0, 0)) from hs5.blk (heap_alloc_new w4 _) id)
        clear hs5 kF0 kF1 ltF kX0 kX1 ltX
        have kF0 : w5.cell? ⟨w.heap.size, 0, none⟩ = some (.string n) := blk_cell (j := 0) HBF.out
        have kF1 : w5.cell? ⟨w.heap.size, 1, none⟩ = some (.string t) := blk_cell (j := 1) HBF.out
        have ltF := blk_lt HBF.out
        have kX0 : w5.cell? ⟨w3.heap.size, 0, none⟩ = some (.string n) := blk_cell (j := 0) HBX.out
        have kX1 : w5.cell? ⟨w3.heap.size, 1, none⟩ = some (.string t) := blk_cell (j := 1) HBX.out
        have ltX := blk_lt HBX.out
        have kY0 : w5.cell? ⟨w4.heap.size, 0, none⟩ = some (.string A) := blk_cell (j := 0) HBY.out
        have kY1 : w5.cell? ⟨w4.heap.size, 1, none⟩ = some (.string B) := blk_cell (j := 1) HBY.out
        have ltY := blk_lt HBY.out
        go_wp2_with (go_at_call 20; refine stopc ?_)
        refine Stop.go ?_
        refine (c3 _ (HM.out.step HS5.out)).mono ?_
        rintro e w6 ⟨he, hs6⟩
        subst he
        have HS6 := Lib.hid (HS5.out.trans hs6)
        replace HBF := Lib.hid (hs6.blk HBF.out id)
        replace HBX := Lib.hid (hs6.blk HBX.out id)
        replace HBY := Lib.hid (hs6.blk HBY.out id)
        clear hs6 kF0 kF1 ltF kX0 kX1 ltX kY0 kY1 ltY
        have kF0 : w6.cell? ⟨w.heap.size, 0, none⟩ = some (.string n) := blk_cell (j := 0) HBF.out
        have kF1 : w6.cell? ⟨w.heap.size, 1, none⟩ = some (.string t) := blk_cell (j := 1) HBF.out
        have ltF := blk_lt HBF.out
        have kX0 : w6.cell? ⟨w3.heap.size, 0, none⟩ = some (.string n) := blk_cell (j := 0) HBX.out
        have kX1 : w6.cell? ⟨w3.heap.size, 1, none⟩ = some (.string t) := blk_cell (j := 1) HBX.out
        have ltX := blk_lt HBX.out
        have kY0 : w6.cell? ⟨w4.heap.size, 0, none⟩ = some (.string A) := blk_cell (j := 0) HBY.out
        have kY1 : w6.cell? ⟨w4.heap.size, 1, none⟩ = some (.string B) := blk_cell (j := 1) HBY.out
        have ltY := blk_lt HBY.out
        go_wp2
        rw [HR.out]
        exact ⟨rfl, HS6.out.alloc _⟩
      · have hpr : printF n.data.toList t.data.toList = ([], false) := if_neg (by rw [hok]; decide)
        rw [hpr] at cp
        clear hpr hok hboth c1
        have HS0 := Lib.hid (Stp.refl (fun _ => False) w)
        go_enter Tryd.func5, Tryd.ntmps5
        go_wp2_with (go_at_call 19; refine stopc ?_)
        refine Stop.go ?_
        refine (small12_any _ (HM.out.step (HS0.out.alloc _))).mono ?_
        rintro e w1 ⟨he, hs1⟩
        subst he
        have HS1 := Lib.hid ((HS0.out.alloc _).trans hs1)
        have HBF := Lib.hid (show w1.heap[w.heap.size]? = some (.cells #[.string n, .string t] 24 (0, 0)) from hs1.blk (heap_alloc_new w _) id)
        clear hs1
        have kF0 : w1.cell? ⟨w.heap.size, 0, none⟩ = some (.string n) := blk_cell (j := 0) HBF.out
        have kF1 : w1.cell? ⟨w.heap.size, 1, none⟩ = some (.string t) := blk_cell (j := 1) HBF.out
        have ltF := blk_lt HBF.out
        go_wp2_with (go_at_call 22; refine stopc ?_)
        refine Stop.go ?_
        refine (cp _).mono ?_
        rintro e w2 ⟨he, hs2⟩
        obtain rfl : e = .returned (.tuple #[.string ⟨#[]⟩, .bool false]) := he.trans (rfl)
        have HS2 := Lib.hid (HS1.out.trans hs2)
        replace HBF := Lib.hid (hs2.blk HBF.out id)
        clear hs2 he kF0 kF1 ltF
        have kF0 : w2.cell? ⟨w.heap.size, 0, none⟩ = some (.string n) := blk_cell (j := 0) HBF.out
        have kF1 : w2.cell? ⟨w.heap.size, 1, none⟩ = some (.string t) := blk_cell (j := 1) HBF.out
        have ltF := blk_lt HBF.out
        go_wp2_with (go_at_call 20; refine stopc ?_)
        refine Stop.go ?_
        refine (c2 _ (HM.out.step HS2.out)).mono ?_
        rintro e w3 ⟨he, hs3⟩
        subst he
        have HS3 := Lib.hid (HS2.out.trans hs3)
        replace HBF := Lib.hid (hs3.blk HBF.out id)
        clear hs3 kF0 kF1 ltF
        have kF0 : w3.cell? ⟨w.heap.size, 0, none⟩ = some (.string n) := blk_cell (j := 0) HBF.out
        have kF1 : w3.cell? ⟨w.heap.size, 1, none⟩ = some (.string t) := blk_cell (j := 1) HBF.out
        have ltF := blk_lt HBF.out
        go_wp2_with (go_at_call 22; refine stopc ?_)
        refine Stop.go ?_
        refine (cq' _).mono ?_
        rintro e w4 ⟨he, hs4⟩
        subst he
        have HS4 := Lib.hid ((HS3.out.alloc _).trans hs4)
        replace HBF := Lib.hid (hs4.blk (((Stp.refl (fun _ => False) _).alloc _).blk HBF.out id) id)
        have HBY := Lib.hid (show w4.heap[w3.heap.size]? = some (.cells #[.string A, .string B] 24 (0, 0)) from hs4.blk (heap_alloc_new w3 _) id)
        clear hs4 kF0 kF1 ltF
        have kF0 : w4.cell? ⟨w.heap.size, 0, none⟩ = some (.string n) := blk_cell (j := 0) HBF.out
        have kF1 : w4.cell? ⟨w.heap.size, 1, none⟩ = some (.string t) := blk_cell (j := 1) HBF.out
        have ltF := blk_lt HBF.out
        have kY0 : w4.cell? ⟨w3.heap.size, 0, none⟩ = some (.string A) := blk_cell (j := 0) HBY.out
        have kY1 : w4.cell? ⟨w3.heap.size, 1, none⟩ = some (.string B) := blk_cell (j := 1) HBY.out
        have ltY := blk_lt HBY.out
        go_wp2_with (go_at_call 20; refine stopc ?_)
        refine Stop.go ?_
        refine (c3 _ (HM.out.step HS4.out)).mono ?_
        rintro e w5 ⟨he, hs5⟩
        subst he
        have HS5 := Lib.hid (HS4.out.trans hs5)
        replace HBF := Lib.hid (hs5.blk HBF.out id)
        replace HBY := Lib.hid (hs5.blk HBY.out id)
        clear hs5 kF0 kF1 ltF kY0 kY1 ltY
        have kF0 : w5.cell? ⟨w.heap.size, 0, none⟩ = some (.string n) := blk_cell (j := 0) HBF.out
        have kF1 : w5.cell? ⟨w.heap.size, 1, none⟩ = some (.string t) := blk_cell (j := 1) HBF.out
        have ltF := blk_lt HBF.out
        have kY0 : w5.cell? ⟨w3.heap.size, 0, none⟩ = some (.string A) := blk_cell (j := 0) HBY.out
        have kY1 : w5.cell? ⟨w3.heap.size, 1, none⟩ = some (.string B) := blk_cell (j := 1) HBY.out
        have ltY := blk_lt HBY.out
        go_wp2
        rw [HR.out]
        exact ⟨rfl, HS5.out.alloc _⟩
    · have herr := parse_err s.data.toList (by rw [hs]; exact he)
      rw [hs] at herr
      obtain ⟨ha, hb⟩ := herr
      obtain rfl : a = [] := ha
      obtain rfl : b = [] := hb
      have c2' : ∀ W (hW : MaxL W), Calls Tryd.prog 20 #[.string s] W fun e' w' => e' = .returned (.tuple #[.agg #[.string ⟨#[]⟩, .string ⟨#[]⟩], .int .i64 e]) ∧ Stp (fun _ => False) W w' := fun W hW => c2 W hW
      have hne : (e != 0) = true := by simpa using he
      clear hs he c2 cq hla hlb hpl
      refine hboth _ (fun hok => ?_) (fun hok => ?_)
      · have hpr : printF n.data.toList t.data.toList = (lineF n.data.toList t.data.toList, true) := if_pos hok
        rw [hpr] at cp
        obtain ⟨L, hL⟩ : ∃ L, L = strB (lineF n.data.toList t.data.toList) := ⟨_, rfl⟩
        have cp' : ∀ W, Calls Tryd.prog 22 #[.agg #[.string n, .string t]] W fun e w' => e = .returned (.tuple #[.string L, .bool true]) ∧ Stp (fun _ => False) W w' := fun W => by rw [hL]; exact cp W
        rw [← hL] at c1
        have c1' := fun W hW => c1 W hW hok
        clear hL cp c1 hpr hok hboth
        have HS0 := Lib.hid (Stp.refl (fun _ => False) w)
        go_enter Tryd.func5, Tryd.ntmps5
        go_wp2_with (go_at_call 19; refine stopc ?_)
        refine Stop.go ?_
        refine (small12_any _ (HM.out.step (HS0.out.alloc _))).mono ?_
        rintro e w1 ⟨he, hs1⟩
        subst he
        have HS1 := Lib.hid ((HS0.out.alloc _).trans hs1)
        have HBF := Lib.hid (show w1.heap[w.heap.size]? = some (.cells #[.string n, .string t] 24 (0, 0)) from hs1.blk (heap_alloc_new w _) id)
        clear hs1
        have kF0 : w1.cell? ⟨w.heap.size, 0, none⟩ = some (.string n) := blk_cell (j := 0) HBF.out
        have kF1 : w1.cell? ⟨w.heap.size, 1, none⟩ = some (.string t) := blk_cell (j := 1) HBF.out
        have ltF := blk_lt HBF.out
        go_wp2_with (go_at_call 22; refine stopc ?_)
        refine Stop.go ?_
        refine (cp' _).mono ?_
        rintro e w2 ⟨he, hs2⟩
        subst he
        have HS2 := Lib.hid (HS1.out.trans hs2)
        replace HBF := Lib.hid (hs2.blk HBF.out id)
        clear hs2 kF0 kF1 ltF
        have kF0 : w2.cell? ⟨w.heap.size, 0, none⟩ = some (.string n) := blk_cell (j := 0) HBF.out
        have kF1 : w2.cell? ⟨w.heap.size, 1, none⟩ = some (.string t) := blk_cell (j := 1) HBF.out
        have ltF := blk_lt HBF.out
        go_wp2_with (go_at_call 20; refine stopc ?_)
        refine Stop.go ?_
        refine (c1' _ (HM.out.step HS2.out)).mono ?_
        rintro e w3 ⟨he, hs3⟩
        subst he
        have HS3 := Lib.hid (HS2.out.trans hs3)
        replace HBF := Lib.hid (hs3.blk HBF.out id)
        clear hs3 kF0 kF1 ltF
        have kF0 : w3.cell? ⟨w.heap.size, 0, none⟩ = some (.string n) := blk_cell (j := 0) HBF.out
        have kF1 : w3.cell? ⟨w.heap.size, 1, none⟩ = some (.string t) := blk_cell (j := 1) HBF.out
        have ltF := blk_lt HBF.out
        go_wp2_with (go_at_call 20; refine stopc ?_)
        refine Stop.go ?_
        refine (c2' _ (HM.out.step (HS3.out.alloc _))).mono ?_
        rintro e w4 ⟨he, hs4⟩
        subst he
        have HS4 := Lib.hid ((HS3.out.alloc _).trans hs4)
        replace HBF := Lib.hid (hs4.blk (((Stp.refl (fun _ => False) _).alloc _).blk HBF.out id) id)
        have HBX := Lib.hid (show w4.heap[w3.heap.size]? = some (.cells #[.string n, .string t] 24 (0, 0)) from hs4.blk (heap_alloc_new w3 _) id)
        clear hs4 kF0 kF1 ltF
        have kF0 : w4.cell? ⟨w.heap.size, 0, none⟩ = some (.string n) := blk_cell (j := 0) HBF.out
        have kF1 : w4.cell? ⟨w.heap.size, 1, none⟩ = some (.string t) := blk_cell (j := 1) HBF.out
        have ltF := blk_lt HBF.out
        have kX0 : w4.cell? ⟨w3.heap.size, 0, none⟩ = some (.string n) := blk_cell (j := 0) HBX.out
        have kX1 : w4.cell? ⟨w3.heap.size, 1, none⟩ = some (.string t) := blk_cell (j := 1) HBX.out
        have ltX := blk_lt HBX.out
        go_wp2
        rw [HR.out]
        exact ⟨rfl, (HS4.out.alloc _).alloc _⟩
      · have hpr : printF n.data.toList t.data.toList = ([], false) := if_neg (by rw [hok]; decide)
        rw [hpr] at cp
        clear hpr hok hboth c1
        have HS0 := Lib.hid (Stp.refl (fun _ => False) w)
        go_enter Tryd.func5, Tryd.ntmps5
        go_wp2_with (go_at_call 19; refine stopc ?_)
        refine Stop.go ?_
        refine (small12_any _ (HM.out.step (HS0.out.alloc _))).mono ?_
        rintro e w1 ⟨he, hs1⟩
        subst he
        have HS1 := Lib.hid ((HS0.out.alloc _).trans hs1)
        have HBF := Lib.hid (show w1.heap[w.heap.size]? = some (.cells #[.string n, .string t] 24 (0, 0)) from hs1.blk (heap_alloc_new w _) id)
        clear hs1
        have kF0 : w1.cell? ⟨w.heap.size, 0, none⟩ = some (.string n) := blk_cell (j := 0) HBF.out
        have kF1 : w1.cell? ⟨w.heap.size, 1, none⟩ = some (.string t) := blk_cell (j := 1) HBF.out
        have ltF := blk_lt HBF.out
        go_wp2_with (go_at_call 22; refine stopc ?_)
        refine Stop.go ?_
        refine (cp _).mono ?_
        rintro e w2 ⟨he, hs2⟩
        obtain rfl : e = .returned (.tuple #[.string ⟨#[]⟩, .bool false]) := he.trans (rfl)
        have HS2 := Lib.hid (HS1.out.trans hs2)
        replace HBF := Lib.hid (hs2.blk HBF.out id)
        clear hs2 he kF0 kF1 ltF
        have kF0 : w2.cell? ⟨w.heap.size, 0, none⟩ = some (.string n) := blk_cell (j := 0) HBF.out
        have kF1 : w2.cell? ⟨w.heap.size, 1, none⟩ = some (.string t) := blk_cell (j := 1) HBF.out
        have ltF := blk_lt HBF.out
        go_wp2_with (go_at_call 20; refine stopc ?_)
        refine Stop.go ?_
        refine (c2' _ (HM.out.step HS2.out)).mono ?_
        rintro e w3 ⟨he, hs3⟩
        subst he
        have HS3 := Lib.hid (HS2.out.trans hs3)
        replace HBF := Lib.hid (hs3.blk HBF.out id)
        clear hs3 kF0 kF1 ltF
        have kF0 : w3.cell? ⟨w.heap.size, 0, none⟩ = some (.string n) := blk_cell (j := 0) HBF.out
        have kF1 : w3.cell? ⟨w.heap.size, 1, none⟩ = some (.string t) := blk_cell (j := 1) HBF.out
        have ltF := blk_lt HBF.out
        go_wp2
        rw [HR.out]
        exact ⟨rfl, (HS3.out.alloc _).alloc _⟩
  · have key : 1000 < n.size ∨ (n.size ≤ 1000 ∧ (3000 < t.size ∨ (t.size ≤ 3000 ∧ 3000 < s.size))) := by omega
    clear hg
    rcases key with k1 | ⟨k1, k2 | ⟨k2, k3⟩⟩
    all_goals
      have HS0 := Lib.hid (Stp.refl (fun _ => False) w)
      go_enter Tryd.func5, Tryd.ntmps5
      go_wp2_with (go_at_call 19; refine stopc ?_)
      refine Stop.go ?_
      refine (small12_any _ (HM.out.step (HS0.out.alloc _))).mono ?_
      rintro e w1 ⟨he, hs1⟩
      subst he
      have HS1 := Lib.hid ((HS0.out.alloc _).trans hs1)
      have HBF := Lib.hid (show w1.heap[w.heap.size]? = some (.cells #[.string n, .string t] 24 (0, 0)) from hs1.blk (heap_alloc_new w _) id)
      clear hs1
      have kF0 : w1.cell? ⟨w.heap.size, 0, none⟩ = some (.string n) := blk_cell (j := 0) HBF.out
      have kF1 : w1.cell? ⟨w.heap.size, 1, none⟩ = some (.string t) := blk_cell (j := 1) HBF.out
      have ltF := blk_lt HBF.out
      go_wp2
      rw [HR.out]
      exact ⟨rfl, HS1.out⟩
end Go.Proofs.YteoffbglbpdekaaDoor.L
