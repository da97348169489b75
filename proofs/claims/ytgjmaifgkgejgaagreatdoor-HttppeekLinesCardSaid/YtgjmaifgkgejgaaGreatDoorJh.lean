/- Layer 16: the document's way. -/
import Derived.Test.YtgjmaifgkgejgaaGreatDoorJa
import Derived.Test.YtgjmaifgkgejgaaGreatDoorNc
import Derived.Test.YtgjmaifgkgejgaaGreatDoorWg
set_option linter.unusedVariables false
set_option linter.unusedSimpArgs false
namespace Go.Proofs.YtgjmaifgkgejgaaGreatDoor.L
open Go.RowKit Go.Proofs

def vdJ (v : Vd) : Value := .agg #[.int .i64 v.st, .int .i64 0, .int .i64 0, .int .i64 v.rs, .string (strB v.ho), .int .i64 v.po, .bool false, .string ⟨#[]⟩, .slice none 0 0, .slice none 0 0, .bool false]
def VdJP (w : World) (v : Vd) (e : Ending) (w' : World) : Prop := e = .returned (vdJ v) ∧ Stp (fun _ => False) w w'
/-- A verdict stored into a fresh block, cell by cell. -/
theorem vd_set {w : World} {g : Nat} (h : w.heap[g]? = some (.cells vd0 31 (0, 0))) (v0 v1 v2 v3 v4 v5 v6 v7 v8 v9 v10 : Value) : (((((((((((w.setCell ⟨g, 0, none⟩ v0).setCell ⟨g, 1, none⟩ v1).setCell ⟨g, 2, none⟩ v2).setCell ⟨g, 3, none⟩ v3).setCell ⟨g, 4, none⟩ v4).setCell ⟨g, 5, none⟩ v5).setCell ⟨g, 6, none⟩ v6).setCell ⟨g, 7, none⟩ v7).setCell ⟨g, 8, none⟩ v8).setCell ⟨g, 9, none⟩ v9).setCell ⟨g, 10, none⟩ v10).heap[g]? = some (.cells #[v0, v1, v2, v3, v4, v5, v6, v7, v8, v9, v10] 31 (0, 0)) := by
  have h2 := (blk_set (blk_set (blk_set (blk_set (blk_set (blk_set (blk_set (blk_set (blk_set (blk_set (blk_set h 0 v0) 1 v1) 2 v2) 3 v3) 4 v4) 5 v5) 6 v6) 7 v7) 8 v8) 9 v9) 10 v10)
  simp only [vd0, List.setIfInBounds_toArray, List.set_cons_zero, List.set_cons_succ] at h2
  exact h2
theorem vd_stp (w : World) (g : Nat) (v0 v1 v2 v3 v4 v5 v6 v7 v8 v9 v10 : Value) : Stp (fun k => k = g) w (((((((((((w.setCell ⟨g, 0, none⟩ v0).setCell ⟨g, 1, none⟩ v1).setCell ⟨g, 2, none⟩ v2).setCell ⟨g, 3, none⟩ v3).setCell ⟨g, 4, none⟩ v4).setCell ⟨g, 5, none⟩ v5).setCell ⟨g, 6, none⟩ v6).setCell ⟨g, 7, none⟩ v7).setCell ⟨g, 8, none⟩ v8).setCell ⟨g, 9, none⟩ v9).setCell ⟨g, 10, none⟩ v10) := ((((((((((((Stp.refl (fun k => k = g) w).setg 0 v0).setg 1 v1).setg 2 v2).setg 3 v3).setg 4 v4).setg 5 v5).setg 6 v6).setg 7 v7).setg 8 v8).setg 9 v9).setg 10 v10)
set_option maxRecDepth 100000 in
set_option maxHeartbeats 8000000 in
theorem judgeR_any (M : Nat → Prop) (v : Value) (xs : List (ByteArray × ByteArray)) (m t : ByteArray) (n : Int) (w : World) (hx : Rd fldK M w v xs) (hl : xs.length ≤ 1000000) (hz : (findF hostL (flS xs)).1.length ≤ 1000000) (ht : t.size ≤ 8000) :
    Calls Tryz.prog 21 #[.agg #[.string m, .string t, .int .i64 n], v] w (VdJP w (judgeH ⟨m.data.toList, t.data.toList, n⟩ (flS xs))) := by
  obtain ⟨R, hR⟩ : ∃ R, R = VdJP w (judgeH ⟨m.data.toList, t.data.toList, n⟩ (flS xs)) := ⟨_, rfl⟩
  rw [← hR]
  have HR := Lib.hid hR
  have cO := fun W hs => ofR_any M v xs m t n W (hx.stp0 hs) (by omega) (by omega) (by omega)
  have hol : (ofS m.data.toList t.data.toList (flS xs)).1.length ≤ 1000000 + 200 := ofS_len _ _ _ _ hz (by rw [size_list]; omega)
  obtain ⟨q, hq⟩ : ∃ q, q = ofS m.data.toList t.data.toList (flS xs) := ⟨_, rfl⟩
  unfold HpP at cO
  rw [← hq] at cO hol
  have HQ := Lib.hid hq
  obtain ⟨h0, p0, e0⟩ := q
  obtain ⟨H0, hH0⟩ : ∃ H, H = strB h0 := ⟨_, rfl⟩
  have hH0d : H0.data.toList = h0 := by rw [hH0]; simp [strB]
  have hH0s : H0.size < 4294967280 := by rw [hH0, strB_size]; simp only at hol; omega
  simp only [← hH0] at cO
  have cN := fun W => normR_any H0 W hH0s
  rw [hH0d] at cN
  obtain ⟨r, hr⟩ : ∃ r, r = normN h0 := ⟨_, rfl⟩
  unfold NormP at cN
  rw [← hr] at cN
  have HRR := Lib.hid hr
  obtain ⟨n1, e1⟩ := r
  obtain ⟨N1, hN1⟩ : ∃ H, H = strB n1 := ⟨_, rfl⟩
  simp only [← hN1] at cN
  have HN1 := Lib.hid hN1
  have HJ0 : Hid (judgeH ⟨m.data.toList, t.data.toList, n⟩ (flS xs) = if e0 ≠ 0 then .bad e0 else if e1 ≠ 0 then .bad e1 else ⟨1, 0, n1, p0⟩) := Lib.hid (by
    unfold judgeH
    simp only
    rw [← hq]
    simp only
    rw [← hr])
  obtain ⟨A, c, rfl, hle⟩ := hx.form
  have HX := Lib.hid hx
  clear hR hx hq hH0 hH0d hr hN1 hol
  by_cases h0e : e0 = 0
  · subst h0e
    by_cases h1e : e1 = 0
    · subst h1e
      have HJ : Hid (judgeH ⟨m.data.toList, t.data.toList, n⟩ (flS xs) = ⟨1, 0, n1, p0⟩) := Lib.hid (by rw [HJ0.out, if_neg (by decide), if_neg (by decide)])
      have HS0 := Lib.hid (Stp.refl (fun _ => False) w)
      go_enter Tryz.func21, Tryz.ntmps21
      go_wp2_with (go_at_call 48; refine stopc ?_)
      refine Stop.go ?_
      refine (cO _ ((HS0.out.alloc _).alloc _)).mono ?_
      rintro e w1 ⟨he, hs1⟩
      subst he
      have HS1 := Lib.hid (((HS0.out.alloc _).alloc _).trans hs1)
      have HBA := Lib.hid (show w1.heap[w.heap.size]? = some (.cells #[.string m, .string t, .int .i64 n] 40 (0, 0)) from hs1.blk (((Stp.refl (fun _ => False) _).alloc _).blk (heap_alloc_new w _) id) id)
      have HBB := Lib.hid (show w1.heap[w.heap.size + 1]? = some (.cells #[.int .i64 0, .int .i64 0, .int .i64 0, .int .i64 0, .string ⟨#[]⟩, .int .i64 0, .bool false, .string ⟨#[]⟩, .slice none 0 0, .slice none 0 0, .bool false] 31 (0, 0)) from by have h := hs1.blk (heap_alloc_new (w.alloc (.cells #[.string m, .string t, .int .i64 n] 40)) _) id; simpa using h)
      clear hs1
      have kA0 : w1.cell? ⟨w.heap.size, 0, none⟩ = some (.string m) := blk_cell (j := 0) HBA.out
      have kA1 : w1.cell? ⟨w.heap.size, 1, none⟩ = some (.string t) := blk_cell (j := 1) HBA.out
      have kA2 : w1.cell? ⟨w.heap.size, 2, none⟩ = some (.int .i64 n) := blk_cell (j := 2) HBA.out
      have ltA := blk_lt HBA.out
      have kB0 : w1.cell? ⟨w.heap.size + 1, 0, none⟩ = some (.int .i64 0) := blk_cell (j := 0) HBB.out
      have kB1 : w1.cell? ⟨w.heap.size + 1, 1, none⟩ = some (.int .i64 0) := blk_cell (j := 1) HBB.out
      have kB2 : w1.cell? ⟨w.heap.size + 1, 2, none⟩ = some (.int .i64 0) := blk_cell (j := 2) HBB.out
      have kB3 : w1.cell? ⟨w.heap.size + 1, 3, none⟩ = some (.int .i64 0) := blk_cell (j := 3) HBB.out
      have kB4 : w1.cell? ⟨w.heap.size + 1, 4, none⟩ = some (.string ⟨#[]⟩) := blk_cell (j := 4) HBB.out
      have kB5 : w1.cell? ⟨w.heap.size + 1, 5, none⟩ = some (.int .i64 0) := blk_cell (j := 5) HBB.out
      have kB6 : w1.cell? ⟨w.heap.size + 1, 6, none⟩ = some (.bool false) := blk_cell (j := 6) HBB.out
      have kB7 : w1.cell? ⟨w.heap.size + 1, 7, none⟩ = some (.string ⟨#[]⟩) := blk_cell (j := 7) HBB.out
      have kB8 : w1.cell? ⟨w.heap.size + 1, 8, none⟩ = some (.slice none 0 0) := blk_cell (j := 8) HBB.out
      have kB9 : w1.cell? ⟨w.heap.size + 1, 9, none⟩ = some (.slice none 0 0) := blk_cell (j := 9) HBB.out
      have kB10 : w1.cell? ⟨w.heap.size + 1, 10, none⟩ = some (.bool false) := blk_cell (j := 10) HBB.out
      have ltB := blk_lt HBB.out
      go_wp2_with (go_at_call 49; refine stopc ?_)
      refine Stop.go ?_
      refine (cN _).mono ?_
      rintro e w2 ⟨he, hs2⟩
      subst he
      have HS2 := Lib.hid (HS1.out.trans hs2)
      replace HBA := Lib.hid (hs2.blk HBA.out id)
      replace HBB := Lib.hid (hs2.blk HBB.out id)
      clear hs2 kA0 kA1 kA2 ltA kB0 kB1 kB2 kB3 kB4 kB5 kB6 kB7 kB8 kB9 kB10 ltB
      have kA0 : w2.cell? ⟨w.heap.size, 0, none⟩ = some (.string m) := blk_cell (j := 0) HBA.out
      have kA1 : w2.cell? ⟨w.heap.size, 1, none⟩ = some (.string t) := blk_cell (j := 1) HBA.out
      have kA2 : w2.cell? ⟨w.heap.size, 2, none⟩ = some (.int .i64 n) := blk_cell (j := 2) HBA.out
      have ltA := blk_lt HBA.out
      have kB0 : w2.cell? ⟨w.heap.size + 1, 0, none⟩ = some (.int .i64 0) := blk_cell (j := 0) HBB.out
      have kB1 : w2.cell? ⟨w.heap.size + 1, 1, none⟩ = some (.int .i64 0) := blk_cell (j := 1) HBB.out
      have kB2 : w2.cell? ⟨w.heap.size + 1, 2, none⟩ = some (.int .i64 0) := blk_cell (j := 2) HBB.out
      have kB3 : w2.cell? ⟨w.heap.size + 1, 3, none⟩ = some (.int .i64 0) := blk_cell (j := 3) HBB.out
      have kB4 : w2.cell? ⟨w.heap.size + 1, 4, none⟩ = some (.string ⟨#[]⟩) := blk_cell (j := 4) HBB.out
      have kB5 : w2.cell? ⟨w.heap.size + 1, 5, none⟩ = some (.int .i64 0) := blk_cell (j := 5) HBB.out
      have kB6 : w2.cell? ⟨w.heap.size + 1, 6, none⟩ = some (.bool false) := blk_cell (j := 6) HBB.out
      have kB7 : w2.cell? ⟨w.heap.size + 1, 7, none⟩ = some (.string ⟨#[]⟩) := blk_cell (j := 7) HBB.out
      have kB8 : w2.cell? ⟨w.heap.size + 1, 8, none⟩ = some (.slice none 0 0) := blk_cell (j := 8) HBB.out
      have kB9 : w2.cell? ⟨w.heap.size + 1, 9, none⟩ = some (.slice none 0 0) := blk_cell (j := 9) HBB.out
      have kB10 : w2.cell? ⟨w.heap.size + 1, 10, none⟩ = some (.bool false) := blk_cell (j := 10) HBB.out
      have ltB := blk_lt HBB.out
      have f0 := blk_free HBB.out 0
      have f1 := blk_free HBB.out 1
      have f2 := blk_free HBB.out 2
      have f3 := blk_free HBB.out 3
      have f4 := blk_free HBB.out 4
      have f5 := blk_free HBB.out 5
      have f6 := blk_free HBB.out 6
      have f7 := blk_free HBB.out 7
      have f8 := blk_free HBB.out 8
      have f9 := blk_free HBB.out 9
      have f10 := blk_free HBB.out 10
      go_wp2
      refine bodyPost_ret (results_cell_row rfl _ _ (w.heap.size + 1) _ _ _ _ rfl (vd_set HBB.out _ _ _ _ _ _ _ _ _ _ _) Tryz.underlying31 rfl size_vd) rfl ?_
      rw [HR.out, HJ.out]
      exact ⟨by rw [HN1.out]; rfl, HS2.out.then_ (vd_stp w2 (w.heap.size + 1) _ _ _ _ _ _ _ _ _ _ _) (fun k hk h => by omega)⟩
    · have hne : (e1 != 0) = true := by simpa using h1e
      have HJ : Hid (judgeH ⟨m.data.toList, t.data.toList, n⟩ (flS xs) = .bad e1) := Lib.hid (by rw [HJ0.out, if_neg (by decide), if_pos h1e])
      clear h1e
      have HS0 := Lib.hid (Stp.refl (fun _ => False) w)
      go_enter Tryz.func21, Tryz.ntmps21
      go_wp2_with (go_at_call 48; refine stopc ?_)
      refine Stop.go ?_
      refine (cO _ ((HS0.out.alloc _).alloc _)).mono ?_
      rintro e w1 ⟨he, hs1⟩
      subst he
      have HS1 := Lib.hid (((HS0.out.alloc _).alloc _).trans hs1)
      have HBA := Lib.hid (show w1.heap[w.heap.size]? = some (.cells #[.string m, .string t, .int .i64 n] 40 (0, 0)) from hs1.blk (((Stp.refl (fun _ => False) _).alloc _).blk (heap_alloc_new w _) id) id)
      have HBB := Lib.hid (show w1.heap[w.heap.size + 1]? = some (.cells #[.int .i64 0, .int .i64 0, .int .i64 0, .int .i64 0, .string ⟨#[]⟩, .int .i64 0, .bool false, .string ⟨#[]⟩, .slice none 0 0, .slice none 0 0, .bool false] 31 (0, 0)) from by have h := hs1.blk (heap_alloc_new (w.alloc (.cells #[.string m, .string t, .int .i64 n] 40)) _) id; simpa using h)
      clear hs1
      have kA0 : w1.cell? ⟨w.heap.size, 0, none⟩ = some (.string m) := blk_cell (j := 0) HBA.out
      have kA1 : w1.cell? ⟨w.heap.size, 1, none⟩ = some (.string t) := blk_cell (j := 1) HBA.out
      have kA2 : w1.cell? ⟨w.heap.size, 2, none⟩ = some (.int .i64 n) := blk_cell (j := 2) HBA.out
      have ltA := blk_lt HBA.out
      have kB0 : w1.cell? ⟨w.heap.size + 1, 0, none⟩ = some (.int .i64 0) := blk_cell (j := 0) HBB.out
      have kB1 : w1.cell? ⟨w.heap.size + 1, 1, none⟩ = some (.int .i64 0) := blk_cell (j := 1) HBB.out
      have kB2 : w1.cell? ⟨w.heap.size + 1, 2, none⟩ = some (.int .i64 0) := blk_cell (j := 2) HBB.out
      have kB3 : w1.cell? ⟨w.heap.size + 1, 3, none⟩ = some (.int .i64 0) := blk_cell (j := 3) HBB.out
      have kB4 : w1.cell? ⟨w.heap.size + 1, 4, none⟩ = some (.string ⟨#[]⟩) := blk_cell (j := 4) HBB.out
      have kB5 : w1.cell? ⟨w.heap.size + 1, 5, none⟩ = some (.int .i64 0) := blk_cell (j := 5) HBB.out
      have kB6 : w1.cell? ⟨w.heap.size + 1, 6, none⟩ = some (.bool false) := blk_cell (j := 6) HBB.out
      have kB7 : w1.cell? ⟨w.heap.size + 1, 7, none⟩ = some (.string ⟨#[]⟩) := blk_cell (j := 7) HBB.out
      have kB8 : w1.cell? ⟨w.heap.size + 1, 8, none⟩ = some (.slice none 0 0) := blk_cell (j := 8) HBB.out
      have kB9 : w1.cell? ⟨w.heap.size + 1, 9, none⟩ = some (.slice none 0 0) := blk_cell (j := 9) HBB.out
      have kB10 : w1.cell? ⟨w.heap.size + 1, 10, none⟩ = some (.bool false) := blk_cell (j := 10) HBB.out
      have ltB := blk_lt HBB.out
      go_wp2_with (go_at_call 49; refine stopc ?_)
      refine Stop.go ?_
      refine (cN _).mono ?_
      rintro e w2 ⟨he, hs2⟩
      subst he
      have HS2 := Lib.hid (HS1.out.trans hs2)
      replace HBA := Lib.hid (hs2.blk HBA.out id)
      replace HBB := Lib.hid (hs2.blk HBB.out id)
      clear hs2 kA0 kA1 kA2 ltA kB0 kB1 kB2 kB3 kB4 kB5 kB6 kB7 kB8 kB9 kB10 ltB
      have kA0 : w2.cell? ⟨w.heap.size, 0, none⟩ = some (.string m) := blk_cell (j := 0) HBA.out
      have kA1 : w2.cell? ⟨w.heap.size, 1, none⟩ = some (.string t) := blk_cell (j := 1) HBA.out
      have kA2 : w2.cell? ⟨w.heap.size, 2, none⟩ = some (.int .i64 n) := blk_cell (j := 2) HBA.out
      have ltA := blk_lt HBA.out
      have kB0 : w2.cell? ⟨w.heap.size + 1, 0, none⟩ = some (.int .i64 0) := blk_cell (j := 0) HBB.out
      have kB1 : w2.cell? ⟨w.heap.size + 1, 1, none⟩ = some (.int .i64 0) := blk_cell (j := 1) HBB.out
      have kB2 : w2.cell? ⟨w.heap.size + 1, 2, none⟩ = some (.int .i64 0) := blk_cell (j := 2) HBB.out
      have kB3 : w2.cell? ⟨w.heap.size + 1, 3, none⟩ = some (.int .i64 0) := blk_cell (j := 3) HBB.out
      have kB4 : w2.cell? ⟨w.heap.size + 1, 4, none⟩ = some (.string ⟨#[]⟩) := blk_cell (j := 4) HBB.out
      have kB5 : w2.cell? ⟨w.heap.size + 1, 5, none⟩ = some (.int .i64 0) := blk_cell (j := 5) HBB.out
      have kB6 : w2.cell? ⟨w.heap.size + 1, 6, none⟩ = some (.bool false) := blk_cell (j := 6) HBB.out
      have kB7 : w2.cell? ⟨w.heap.size + 1, 7, none⟩ = some (.string ⟨#[]⟩) := blk_cell (j := 7) HBB.out
      have kB8 : w2.cell? ⟨w.heap.size + 1, 8, none⟩ = some (.slice none 0 0) := blk_cell (j := 8) HBB.out
      have kB9 : w2.cell? ⟨w.heap.size + 1, 9, none⟩ = some (.slice none 0 0) := blk_cell (j := 9) HBB.out
      have kB10 : w2.cell? ⟨w.heap.size + 1, 10, none⟩ = some (.bool false) := blk_cell (j := 10) HBB.out
      have ltB := blk_lt HBB.out
      have f0 := blk_free HBB.out 0
      have f1 := blk_free HBB.out 1
      have f2 := blk_free HBB.out 2
      have f3 := blk_free HBB.out 3
      have f4 := blk_free HBB.out 4
      have f5 := blk_free HBB.out 5
      have f6 := blk_free HBB.out 6
      have f7 := blk_free HBB.out 7
      have f8 := blk_free HBB.out 8
      have f9 := blk_free HBB.out 9
      have f10 := blk_free HBB.out 10
      go_wp2
      refine bodyPost_ret (results_cell_row rfl _ _ (w.heap.size + 1) _ _ _ _ rfl (vd_set HBB.out _ _ _ _ _ _ _ _ _ _ _) Tryz.underlying31 rfl size_vd) rfl ?_
      rw [HR.out, HJ.out]
      exact ⟨rfl, HS2.out.then_ (vd_stp w2 (w.heap.size + 1) _ _ _ _ _ _ _ _ _ _ _) (fun k hk h => by omega)⟩
  · have hne : (e0 != 0) = true := by simpa using h0e
    have HJ : Hid (judgeH ⟨m.data.toList, t.data.toList, n⟩ (flS xs) = .bad e0) := Lib.hid (by rw [HJ0.out, if_pos h0e])
    clear h0e
    focus
      have HS0 := Lib.hid (Stp.refl (fun _ => False) w)
      go_enter Tryz.func21, Tryz.ntmps21
      go_wp2_with (go_at_call 48; refine stopc ?_)
      refine Stop.go ?_
      refine (cO _ ((HS0.out.alloc _).alloc _)).mono ?_
      rintro e w1 ⟨he, hs1⟩
      subst he
      have HS1 := Lib.hid (((HS0.out.alloc _).alloc _).trans hs1)
      have HBA := Lib.hid (show w1.heap[w.heap.size]? = some (.cells #[.string m, .string t, .int .i64 n] 40 (0, 0)) from hs1.blk (((Stp.refl (fun _ => False) _).alloc _).blk (heap_alloc_new w _) id) id)
      have HBB := Lib.hid (show w1.heap[w.heap.size + 1]? = some (.cells #[.int .i64 0, .int .i64 0, .int .i64 0, .int .i64 0, .string ⟨#[]⟩, .int .i64 0, .bool false, .string ⟨#[]⟩, .slice none 0 0, .slice none 0 0, .bool false] 31 (0, 0)) from by have h := hs1.blk (heap_alloc_new (w.alloc (.cells #[.string m, .string t, .int .i64 n] 40)) _) id; simpa using h)
      clear hs1
      have kA0 : w1.cell? ⟨w.heap.size, 0, none⟩ = some (.string m) := blk_cell (j := 0) HBA.out
      have kA1 : w1.cell? ⟨w.heap.size, 1, none⟩ = some (.string t) := blk_cell (j := 1) HBA.out
      have kA2 : w1.cell? ⟨w.heap.size, 2, none⟩ = some (.int .i64 n) := blk_cell (j := 2) HBA.out
      have ltA := blk_lt HBA.out
      have kB0 : w1.cell? ⟨w.heap.size + 1, 0, none⟩ = some (.int .i64 0) := blk_cell (j := 0) HBB.out
      have kB1 : w1.cell? ⟨w.heap.size + 1, 1, none⟩ = some (.int .i64 0) := blk_cell (j := 1) HBB.out
      have kB2 : w1.cell? ⟨w.heap.size + 1, 2, none⟩ = some (.int .i64 0) := blk_cell (j := 2) HBB.out
      have kB3 : w1.cell? ⟨w.heap.size + 1, 3, none⟩ = some (.int .i64 0) := blk_cell (j := 3) HBB.out
      have kB4 : w1.cell? ⟨w.heap.size + 1, 4, none⟩ = some (.string ⟨#[]⟩) := blk_cell (j := 4) HBB.out
      have kB5 : w1.cell? ⟨w.heap.size + 1, 5, none⟩ = some (.int .i64 0) := blk_cell (j := 5) HBB.out
      have kB6 : w1.cell? ⟨w.heap.size + 1, 6, none⟩ = some (.bool false) := blk_cell (j := 6) HBB.out
      have kB7 : w1.cell? ⟨w.heap.size + 1, 7, none⟩ = some (.string ⟨#[]⟩) := blk_cell (j := 7) HBB.out
      have kB8 : w1.cell? ⟨w.heap.size + 1, 8, none⟩ = some (.slice none 0 0) := blk_cell (j := 8) HBB.out
      have kB9 : w1.cell? ⟨w.heap.size + 1, 9, none⟩ = some (.slice none 0 0) := blk_cell (j := 9) HBB.out
      have kB10 : w1.cell? ⟨w.heap.size + 1, 10, none⟩ = some (.bool false) := blk_cell (j := 10) HBB.out
      have ltB := blk_lt HBB.out
      have f0 := blk_free HBB.out 0
      have f1 := blk_free HBB.out 1
      have f2 := blk_free HBB.out 2
      have f3 := blk_free HBB.out 3
      have f4 := blk_free HBB.out 4
      have f5 := blk_free HBB.out 5
      have f6 := blk_free HBB.out 6
      have f7 := blk_free HBB.out 7
      have f8 := blk_free HBB.out 8
      have f9 := blk_free HBB.out 9
      have f10 := blk_free HBB.out 10
      go_wp2
      refine bodyPost_ret (results_cell_row rfl _ _ (w.heap.size + 1) _ _ _ _ rfl (vd_set HBB.out _ _ _ _ _ _ _ _ _ _ _) Tryz.underlying31 rfl size_vd) rfl ?_
      rw [HR.out, HJ.out]
      exact ⟨rfl, HS1.out.then_ (vd_stp w1 (w.heap.size + 1) _ _ _ _ _ _ _ _ _ _ _) (fun k hk h => by omega)⟩
end Go.Proofs.YtgjmaifgkgejgaaGreatDoor.L
