/- Layer 22: the laws AnswerReads, AnswerWhy, walked. -/
import Derived.Test.YtkpfkdcfakhmjaaDoorQf
set_option linter.unusedVariables false
set_option linter.unusedSimpArgs false
namespace Go.Proofs.YtkpfkdcfakhmjaaDoor.L
open Go.RowKit Go.Proofs

set_option maxRecDepth 100000 in
set_option maxHeartbeats 4000000 in
theorem reads_law (M : Nat → Prop) (v : Value) (b : List UInt8) (w : World) (hb : Rd u8 M w v b) (ht : TabP w) :
    Calls Tryd.prog 4 #[v] w (smallV true w) := by
  obtain ⟨A, c, rfl, hle⟩ := hb.form
  obtain ⟨n, hn⟩ : ∃ n, n = b.length := ⟨_, rfl⟩
  rw [← hn] at hb hle ⊢
  obtain ⟨R, hR⟩ : ∃ R, R = smallV true w := ⟨_, rfl⟩
  rw [← hR]
  obtain ⟨g, hg⟩ : ∃ g, g = decide (2000 < (n : Int)) := ⟨_, rfl⟩
  have hg' := hg.symm
  have HR := Lib.hid hR
  have HB := Lib.hid hb
  have HN := Lib.hid hn
  have HT := Lib.hid ht
  have HG := Lib.hid hg
  clear hR hb hn ht hg
  go_enter Tryd.func4, Tryd.ntmps4
  go_wp2_with (go_at_call 8; refine stopc ?_)
  refine Stop.go ?_
  refine (small22_any _ HT.out).mono ?_
  rintro e w1 ⟨rfl, hs1⟩
  have HS1 := Lib.hid hs1
  clear hs1
  cases g with
  | true =>
    go_wp2
    rw [HR.out]
    exact ⟨rfl, HS1.out⟩
  | false =>
    obtain ⟨p, q, o, hv⟩ : ∃ p q o, readV b = .tuple #[.int .i64 p, .int .i64 q, .bool o] := ⟨_, _, _, rfl⟩
    have HV := Lib.hid hv
    clear hv
    go_wp2_with (go_at_call 15; refine stopc ?_)
    refine Stop.go ?_
    refine (read_any M _ b _ (HB.out.stp0 HS1.out) (HT.out.step HS1.out)).mono ?_
    rintro e w2 ⟨he, hs2⟩
    rw [HV.out] at he
    subst he
    have HS2 := Lib.hid (HS1.out.trans hs2)
    clear hs2
    go_wp2_with (go_at_call 16; refine stopc ?_)
    refine Stop.go ?_
    refine (readR_any M _ b _ (HB.out.stp0 HS2.out)).mono ?_
    rintro e w3 ⟨he, hs3⟩
    rw [HV.out] at he
    subst he
    have HS3 := Lib.hid (HS2.out.trans hs3)
    clear hs3
    have e1 : (p == p) = true := by simp
    have e2 : (q == q) = true := by simp
    have e3 : (o == o) = true := by simp
    go_wp2
    rw [HR.out]
    exact ⟨rfl, HS3.out⟩

theorem alert4 (r : Int) : (alertS r 4 = 112 ∧ r ≠ 5) ∨ (alertS r 4 = 70 ∧ r = 5) ∨ (alertS r 4 = 22 ∧ r ≠ 5) ∨ (alertS r 4 = 50 ∧ r ≠ 5) := by
  unfold alertS
  (repeat' split) <;> first | omega | (have := (by assumption : r = 9 ∨ r = 8); omega) | (have := (by assumption : r = 2 ∨ r = 6); omega)

set_option maxRecDepth 100000 in
set_option maxHeartbeats 4000000 in
theorem why_law (cv : Array Value) (p r y : Int) (w : World) (hv : IsVd cv p r) (ht : TabP w) :
    Calls Tryd.prog 6 #[.agg cv, .int .i64 y] w (smallV true w) := by
  have HV := Lib.hid hv
  obtain ⟨hs, h1, h3⟩ := hv
  obtain ⟨R, hR⟩ : ∃ R, R = smallV true w := ⟨_, rfl⟩
  rw [← hR]
  have hz : (Tryd.prog.info? 28).map (·.size) = some cv.size := by rw [hs]; kernel_rfl
  have hb := heap_alloc_new w (.cells cv 28)
  have hs0 := (Stp.refl (fun _ => False) w).alloc (.cells cv 28)
  have hc3 : cv[3]? = some (.int .i64 r) := by rw [Array.getElem?_eq_getElem (by omega), h3]
  have HZ := Lib.hid hz
  have HB := Lib.hid hb
  have HS0 := Lib.hid hs0
  have HR := Lib.hid hR
  have HT := Lib.hid ht
  have H1 := Lib.hid h1
  have H3 := Lib.hid h3
  have HC3 := Lib.hid hc3
  clear hz hb hs0 hR ht h1 h3 hc3
  have HS := Lib.hid hs
  go_enter Tryd.func6, Tryd.ntmps6
  go_wp2_with (go_at_call 8; refine stopc ?_)
  refine Stop.go ?_
  refine (small22_any _ (HT.out.step HS0.out)).mono ?_
  rintro e w1 ⟨rfl, hs1⟩
  have HS1 := Lib.hid (HS0.out.trans hs1)
  have HB1 := Lib.hid (hs1.blk HB.out id)
  clear hs1
  go_wp2_with (with_reducible refine stop (N := 8) rfl ?_)
  refine Stop.go ?_
  refine wpList_load_row rfl _ _ rfl w.heap.size rfl _ cv (0, 0) _ HB1.out Tryd.underlying28 rfl HZ.out ?_
  go_wp2_with (go_at_call 9; refine stopc ?_)
  refine Stop.go ?_
  refine (alert_any cv p r false y 0 _ HV.out).mono ?_
  rintro e w2 ⟨rfl, hs2⟩
  have HS2 := Lib.hid (HS1.out.trans hs2)
  have hcell : w2.cell? ⟨w.heap.size, 3, none⟩ = some (.int .i64 r) := by
    rw [blk_cell (j := 3) (hs2.blk HB1.out id), HC3.out]
  clear hs2
  obtain ⟨n, hn⟩ : ∃ n, n = alertS r y := ⟨_, rfl⟩
  rw [← hn]
  by_cases y4 : y = 4
  · subst y4
    rcases alert4 r with ⟨ha, h5⟩ | ⟨ha, h5⟩ | ⟨ha, h5⟩ | ⟨ha, h5⟩ <;> (
      rw [ha] at hn
      subst hn
      first
        | have hr5 : (r == 5) = true := by simpa using h5
        | have hr5 : (r == 5) = false := by simpa using h5
      clear ha h5
      go_wp2
      rw [HR.out]
      exact ⟨rfl, HS2.out⟩)
  · have hy4 : (y == 4) = false := by simpa using y4
    by_cases y2 : y = 2
    · have e1 : n = 112 := by rw [hn, y2]; rfl
      subst e1
      have hy2 : (y == 2) = true := by simpa using y2
      have hy2' : (y != 2) = false := by simpa using y2
      clear hn y2 y4
      go_wp2
      rw [HR.out]
      exact ⟨rfl, HS2.out⟩
    · have e1 : n = 49 := by rw [hn]; simp [alertS, y2, y4]
      subst e1
      have hy2 : (y == 2) = false := by simpa using y2
      have hy2' : (y != 2) = true := by simpa using y2
      clear hn y2 y4
      go_wp2
      rw [HR.out]
      exact ⟨rfl, HS2.out⟩
end Go.Proofs.YtkpfkdcfakhmjaaDoor.L
