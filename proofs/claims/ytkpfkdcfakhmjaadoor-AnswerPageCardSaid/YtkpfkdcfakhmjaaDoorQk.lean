/- Layer 22: the law AnswerPage. -/
import Derived.Test.YtkpfkdcfakhmjaaDoorQi
import Derived.Test.YtkpfkdcfakhmjaaDoorFa
import Derived.Test.YtkpfkdcfakhmjaaDoorTx
set_option linter.unusedVariables false
set_option linter.unusedSimpArgs false
namespace Go.Proofs.YtkpfkdcfakhmjaaDoor.L
open Go.RowKit Go.Proofs

theorem sB_extract (s : ByteArray) (a b : Nat) : s.extract a b = strB ((s.data.toList.take b).drop a) := by
  rw [Lib.extract_eq]
  unfold strB
  rw [List.drop_take]
theorem byteIs (c d : UInt8) : ((c.toNat : Int) == (d.toNat : Int)) = decide (c = d) := by
  rw [Bool.eq_iff_iff, beq_iff_eq, decide_eq_true_eq]
  constructor
  · intro h
    apply UInt8.toNat_inj.1
    omega
  · intro h
    rw [h]
def nmCl : List UInt8 := [99, 111, 110, 116, 101, 110, 116, 45, 108, 101, 110, 103, 116, 104]
def nmCc : List UInt8 := [99, 111, 110, 110, 101, 99, 116, 105, 111, 110]
def txCc : List UInt8 := [99, 108, 111, 115, 101]
def PageS (g1 g2 gd g : Nat) (L0 : ByteArray) (y u : Int) (w : World) : Prop :=
  w.heap[g1]? = some (.cells #[.string (strB nmCl), .string (strB [48])] 42 (0, 0)) ∧ w.heap[g2]? = some (.cells #[.string (strB nmCc), .string (strB txCc)] 42 (0, 0)) ∧
  w.heap[gd]? = some (.cells #[.bool false, .int .i64 y, .int .i64 u] 30 (0, 0)) ∧ w.cell? ⟨g, 0, none⟩ = some (.string L0)
theorem PageS.step {g1 g2 gd g : Nat} {L0 : ByteArray} {y u : Int} {w w' : World} (h : PageS g1 g2 gd g L0 y u w) (hs : Stp (fun _ => False) w w') : PageS g1 g2 gd g L0 y u w' :=
  ⟨hs.blk h.1 id, hs.blk h.2.1 id, hs.blk h.2.2.1 id, hs.cell h.2.2.2 id⟩
theorem info_str : (Tryd.prog.info? 9).map (fun i => (i.zero, i.size, i.bytes)) = some (some (.string ⟨#[]⟩), 1, 16) := by kernel_rfl
/-- ref04.Text of a number that is not negative. -/
theorem text04_any (n : Nat) (w : World) (h : n ≤ 9223372036854775807) :
    Calls Tryd.prog 18 #[.int .i64 (n : Int)] w fun e w' => e = .returned (.string (strB (Lib.decDigits n))) ∧ w' = w := by
  obtain ⟨R, hR⟩ : ∃ R : ByteArray, R = strB (Lib.decDigits n) := ⟨_, rfl⟩
  have c1 := fun W => text_any n W h
  rw [← hR] at c1 ⊢
  clear hR
  go_enter Tryd.func18, Tryd.ntmps18
  go_wp2_with (go_at_call 28; refine stopc ?_)
  refine Stop.go ?_
  refine (c1 _).mono ?_
  rintro e w1 ⟨rfl, rfl⟩
  go_wp2
  go_ret
  exact ⟨rfl, rfl⟩

/-- The lines of a page, up to place i: those that have ended, and where the next one begins. -/
def linesS (b : List UInt8) : Nat → List ByteArray × Nat
  | 0 => ([], 0)
  | i + 1 => if b[i]? = some 13 ∧ b[i + 1]? = some 10 then ((linesS b i).1 ++ [strB ((b.take i).drop (linesS b i).2)], i + 2) else linesS b i
theorem linesS_le (b : List UInt8) (i : Nat) : (linesS b i).2 ≤ i + 1 ∧ (linesS b i).1.length ≤ i := by
  induction i with
  | zero => simp [linesS]
  | succ i ih =>
    rw [linesS]
    split
    · simp
      omega
    · omega
/-- No line begins behind where one ended by less than nothing. -/
theorem linesS_from (b : List UInt8) (i : Nat) : (linesS b i).2 ≤ i ∨ b[i]? = some 10 := by
  induction i with
  | zero => simp [linesS]
  | succ i ih =>
    rw [linesS]
    split
    · rename_i h
      exact .inr h.2
    · have := (linesS_le b i).1
      exact .inl (by omega)
def line400 : List UInt8 := [72, 84, 84, 80, 47, 49, 46, 49, 32, 52, 48, 48, 32, 66, 97, 100, 32, 82, 101, 113, 117, 101, 115, 116]
def line403 : List UInt8 := [72, 84, 84, 80, 47, 49, 46, 49, 32, 52, 48, 51, 32, 70, 111, 114, 98, 105, 100, 100, 101, 110]
def lineCl : List UInt8 := [67, 111, 110, 116, 101, 110, 116, 45, 76, 101, 110, 103, 116, 104, 58, 32, 48]
def lineCc : List UInt8 := [67, 111, 110, 110, 101, 99, 116, 105, 111, 110, 58, 32, 99, 108, 111, 115, 101]
theorem lines400 : linesS page400 (page400.length - 1) = ([strB line400, strB lineCl, strB lineCc, strB []], page400.length) := by kernel_rfl
theorem lines403 : linesS page403 (page403.length - 1) = ([strB line403, strB lineCl, strB lineCc, strB []], page403.length) := by kernel_rfl
theorem parseCl : parseF lineCl = (nmCl, [48], 0) := by kernel_rfl
theorem parseCc : parseF lineCc = (nmCc, txCc, 0) := by kernel_rfl

set_option maxRecDepth 100000 in
set_option maxHeartbeats 8000000 in
theorem page_law (a : Bool) (y u : Int) (w : World) (ht : TabP w) (hm : MaxL w) :
    Calls Tryd.prog 7 #[.agg #[.bool a, .int .i64 y, .int .i64 u]] w (smallV true w) := by
  obtain ⟨R, hR⟩ : ∃ R, R = smallV true w := ⟨_, rfl⟩
  rw [← hR]
  have hs0 := (Stp.refl (fun _ => False) w).alloc (.cells #[.bool a, .int .i64 y, .int .i64 u] 30)
  have hb := heap_alloc_new w (.cells #[.bool a, .int .i64 y, .int .i64 u] 30)
  have hz := size_dc a y u
  have HZ := Lib.hid hz
  have HB := Lib.hid hb
  have HS0 := Lib.hid hs0
  have HR := Lib.hid hR
  have HT := Lib.hid ht
  have HM := Lib.hid hm
  clear hz hb hs0 hR ht hm
  by_cases hopen : a = true ∨ y = 5
  · have hof : ofS 2 0 a y = [] := by unfold ofS; rw [if_pos hopen]
    have co := fun W hW => of_any (vdA 2 0) 2 0 a y u W (vdA_is 2 0) hW
    rw [hof] at co
    clear hof
    have key : (a = true) ∨ (a = false ∧ y = 5) := by
      cases a
      · right; exact ⟨rfl, by simpa using hopen⟩
      · left; rfl
    clear hopen
    rcases key with rfl | ⟨rfl, rfl⟩
    all_goals
      go_enter Tryd.func7, Tryd.ntmps7
      go_wp2_with (go_at_call 8; refine stopc ?_)
      refine Stop.go ?_
      refine (small22_any _ (HT.out.step HS0.out)).mono ?_
      rintro e w1 ⟨rfl, hs1⟩
      have HS1 := Lib.hid (HS0.out.trans hs1)
      have HB1 := Lib.hid (hs1.blk HB.out id)
      clear hs1
      go_wp2_with (with_reducible refine stop (N := 14) rfl ?_)
      refine Stop.go ?_
      refine wpList_load_row rfl _ _ rfl w.heap.size rfl _ _ (0, 0) _ HB1.out Tryd.underlying30 rfl HZ.out ?_
      go_wp2_with (go_at_call 13; refine stopc ?_)
      refine Stop.go ?_
      refine (co _ (HT.out.step HS1.out)).mono ?_
      rintro e w2 ⟨va, rfl, hr2, -, hs2⟩
      obtain ⟨Aa, ca, rfl, -⟩ := hr2.form
      have hcv : (convert 34 9 (.slice Aa 0 ca)).run Tryd.prog w2 = .ok (.string ⟨#[]⟩) w2 := conv_of hr2
      have hb2 := hs2.blk HB1.out id
      have hc0 := blk_cell (j := 0) hb2
      have hc1 := blk_cell (j := 1) hb2
      have HS2 := Lib.hid (HS1.out.trans hs2)
      clear hs2 hr2 hb2
      go_wp2
      rw [HR.out]
      exact ⟨rfl, HS2.out⟩
  · have hof : ofS 2 0 a y = pageS (statusS y) := by unfold ofS; rw [if_neg hopen, if_neg (by decide), if_pos rfl]
    have co := fun W hW => of_any (vdA 2 0) 2 0 a y u W (vdA_is 2 0) hW
    have cst := fun W => status_any a y u W
    rw [hof] at co
    rw [not_or] at hopen
    obtain ⟨ha, hy⟩ := hopen
    obtain rfl : a = false := by simpa using ha
    have y5 : (y == 5) = false := by simpa using hy
    obtain ⟨st, l0, hst, hl0, hli⟩ : ∃ (st : Nat) (l0 : List UInt8), statusS y = st ∧ st ≤ 1000 ∧ linesS (pageS (statusS y)) ((pageS (statusS y)).length - 1) = ([strB l0, strB lineCl, strB lineCc, strB []], (pageS (statusS y)).length) ∧ 13 ≤ l0.length ∧ l0.length ≤ 100 ∧ l0.take 9 = [72, 84, 84, 80, 47, 49, 46, 49, 32] ∧ (l0.take 12).drop 9 = Lib.decDigits st ∧ 2 ≤ (pageS (statusS y)).length ∧ (pageS (statusS y)).length ≤ 1000 := by
      unfold statusS
      split
      · exact ⟨400, line400, rfl, by decide, lines400, by decide, by decide, by decide, by kernel_rfl, by decide, by decide⟩
      · exact ⟨403, line403, rfl, by decide, lines403, by decide, by decide, by decide, by kernel_rfl, by decide, by decide⟩
    obtain ⟨hli, h13, h100, h9, h12, hp2, hp1000⟩ := hli
    obtain ⟨pg, hpg⟩ : ∃ pg, pg = pageS (statusS y) := ⟨_, rfl⟩
    rw [← hpg] at co hli hp2 hp1000
    rw [hst] at cst
    clear hof ha hy hst hpg
    have HLI := Lib.hid hli
    have H9 := Lib.hid h9
    have H12 := Lib.hid h12
    clear hli h9 h12
    go_enter Tryd.func7, Tryd.ntmps7
    go_wp2_with (go_at_call 8; refine stopc ?_)
    refine Stop.go ?_
    refine (small22_any _ (HT.out.step HS0.out)).mono ?_
    rintro e w1 ⟨rfl, hs1⟩
    have HS1 := Lib.hid (HS0.out.trans hs1)
    have HB1 := Lib.hid (hs1.blk HB.out id)
    clear hs1
    go_wp2_with (with_reducible refine stop (N := 14) rfl ?_)
    refine Stop.go ?_
    refine wpList_load_row rfl _ _ rfl w.heap.size rfl _ _ (0, 0) _ HB1.out Tryd.underlying30 rfl HZ.out ?_
    go_wp2_with (go_at_call 13; refine stopc ?_)
    refine Stop.go ?_
    refine (co _ (HT.out.step HS1.out)).mono ?_
    rintro e w2 ⟨va, rfl, hr2, -, hs2⟩
    obtain ⟨Aa, ca, rfl, -⟩ := hr2.form
    obtain ⟨P, hP⟩ : ∃ P, P = strB pg := ⟨_, rfl⟩
    have hcv : (convert 34 9 (.slice Aa pg.length ca)).run Tryd.prog w2 = .ok (.string P) w2 := by rw [hP]; exact conv_of hr2
    have hb2 := hs2.blk HB1.out id
    have HB2 := Lib.hid hb2
    have hc0 := blk_cell (j := 0) hb2
    have hc1 := blk_cell (j := 1) hb2
    have HS2 := Lib.hid (HS1.out.trans hs2)
    have hPs : P.size = pg.length := by rw [hP, sB_size]
    have hPd : P.data.toList = pg := by rw [hP, sB_data]
    clear hs2 hr2 hb2 hP
    have HPS := Lib.hid hPs
    have HPD := Lib.hid hPd
    clear hPs hPd
    have hPs2 : P.size ≤ 1000 ∧ 2 ≤ P.size := by rw [HPS.out]; exact ⟨hp1000, hp2⟩
    obtain ⟨hPs2, hPs3⟩ := hPs2
    go_wp2
    go_loopg [5, 6, 7] P.size (fun gf v fr i wr => ∃ k : Nat, k + gf = P.size ∧ 1 ≤ gf ∧ i = .int .i64 k ∧ fr = .int .i64 ((linesS pg k).2 : Int) ∧ Own Value.string 9 w2.heap.size wr v (linesS pg k).1 ∧ Stp (fun _ => False) w2 wr)
    case atStart => exact ⟨0, by omega, by omega, rfl, rfl, Own.nil _ _ _ _, Stp.refl _ _⟩
    case round =>
      obtain ⟨k, hk, hg1, rfl, rfl, ho, hs⟩ := hrel
      have hle := linesS_le pg k
      have hfrom := linesS_from pg k
      obtain ⟨A5, c5, rfl, -⟩ := ho.form
      have HO := Lib.hid ho
      have HS := Lib.hid hs
      have HFROM := Lib.hid hfrom
      clear ho hs hfrom
      by_cases hlt : k + 1 < P.size
      · obtain ⟨g', rfl⟩ : ∃ g', gk = g' + 1 := ⟨gk - 1, by omega⟩
        have hk0 : k < P.size := by omega
        have g1 := get_list P k hk0
        have g2 := get_list P (k + 1) hlt
        rw [HPD.out] at g1 g2
        have hsn : linesS pg (k + 1) = if P[k] = 13 ∧ P[k + 1] = 10 then ((linesS pg k).1 ++ [strB ((pg.take k).drop (linesS pg k).2)], k + 2) else linesS pg k := by
          rw [linesS, g1, g2]
          simp
        obtain ⟨ls, hls⟩ : ∃ ls, ls = (linesS pg k).1 := ⟨_, rfl⟩
        obtain ⟨fr, hfr⟩ : ∃ fr, fr = (linesS pg k).2 := ⟨_, rfl⟩
        rw [← hls] at hle hsn HO ⊢
        rw [← hfr] at hle hsn HFROM ⊢
        have i13 := byteIs P[k] 13
        have i10 := byteIs P[k + 1] 10
        have e13 : ((13 : UInt8).toNat : Int) = 13 := rfl
        have e10 : ((10 : UInt8).toNat : Int) = 10 := rfl
        rw [e13] at i13
        rw [e10] at i10
        clear e13 e10
        by_cases h13 : P[k] = 13
        · rw [show decide (P[k] = 13) = true by simpa using h13] at i13
          have hfk : fr ≤ k := by
            rcases HFROM.out with h | h
            · exact h
            · rw [g1, h13] at h
              cases h
          by_cases h10 : P[k + 1] = 10
          · rw [show decide (P[k + 1] = 10) = true by simpa using h10] at i10
            rw [if_pos ⟨h13, h10⟩] at hsn
            have HSN := Lib.hid hsn
            have HX := Lib.hid (show strB ((pg.take k).drop fr) = P.extract fr k by rw [sB_extract, HPD.out])
            clear hsn hls hfr h13 h10 g1 g2
            obtain ⟨X, hX⟩ : ∃ X, X = P.extract fr k := ⟨_, rfl⟩
            go_wp2_with (with_reducible refine stop (N := 53) rfl ?_)
            refine Stop.go ?_
            rw [← hX]
            have HXX := Lib.hid (HX.out.trans hX.symm)
            clear hX
            refine wp_append1 Value.string X rfl rfl _ _ _ rfl Tryd.underlying23 info_str rfl (HO.out.stp0 ((Stp.refl _ _).alloc _)) rfl ⟨wr.heap.size, 0, none⟩ 1 rfl (by simp [World.cell?_alloc_mark]) (by omega) (by omega) (by have := HS.out.size; simp; omega) ?_
            intro v3 w3 ho3 hg3
            have HO3 := Lib.hid ho3
            have HS3 := Lib.hid ((HS.out.alloc _).own (HO.out.stp0 ((Stp.refl _ _).alloc _)) hg3)
            clear ho3 hg3
            go_wp2
            go_roundg g'
            case measure => omega
            case rel =>
              refine ⟨k + 1, by omega, by omega, by go_num, by rw [HSN.out]; go_num, ?_, HS3.out⟩
              rw [HSN.out]
              simp only
              rw [HXX.out]
              exact HO3.out
          · rw [show decide (P[k + 1] = 10) = false by simpa using h10] at i10
            rw [if_neg (fun h => h10 h.2)] at hsn
            have HSN := Lib.hid hsn
            have HLS := Lib.hid hls
            have HFR := Lib.hid hfr
            clear hsn hls hfr h13 h10 g1 g2
            go_wp2
            go_roundg g'
            case measure => omega
            case rel => exact ⟨k + 1, by omega, by omega, by go_num, by rw [HSN.out, HFR.out], by rw [HSN.out, ← HLS.out]; exact HO.out, HS.out⟩
        · rw [show decide (P[k] = 13) = false by simpa using h13] at i13
          rw [if_neg (fun h => h13 h.1)] at hsn
          have HSN := Lib.hid hsn
          have HLS := Lib.hid hls
          have HFR := Lib.hid hfr
          clear hsn hls hfr h13 g1 g2 i10
          go_wp2
          go_roundg g'
          case measure => omega
          case rel => exact ⟨k + 1, by omega, by omega, by go_num, by rw [HSN.out, HFR.out], by rw [HSN.out, ← HLS.out]; exact HO.out, HS.out⟩
      · obtain rfl : k = pg.length - 1 := by
          have := HPS.out
          omega
        have hlen : (linesS pg (pg.length - 1)).1.length = 4 := by rw [HLI.out]; rfl
        have hfr : (linesS pg (pg.length - 1)).2 = pg.length := by rw [HLI.out]
        rw [hlen] at HO ⊢
        rw [hfr]
        rw [HLI.out] at HO
        clear hlen hfr hle HFROM
        obtain ⟨g, rfl, -, hge, hg⟩ := HO.out.at_ (show 0 < 4 by decide)
        obtain ⟨L0, hL0⟩ : ∃ L0, L0 = strB l0 := ⟨_, rfl⟩
        have hz0 : L0.size ≤ 100 := by rw [hL0, sB_size]; exact h100
        have hz1 : 13 ≤ L0.size := by rw [hL0, sB_size]; exact h13
        have hx9 : L0.extract 0 9 = ⟨#[72, 84, 84, 80, 47, 49, 46, 49, 32]⟩ := by rw [sB_extract, hL0, sB_data, List.drop_zero, H9.out]; rfl
        have hx12 : L0.extract 9 12 = strB (Lib.decDigits st) := by rw [sB_extract, hL0, sB_data, H12.out]
        have ho := HO.out
        rw [← hL0] at ho
        have HO2 := Lib.hid ho
        clear hL0 ho
        have k0 : wr.cell? ⟨g, 0, none⟩ = some (.string L0) := HO2.out.cellAt 0 (show 0 < 4 by decide)
        have k1 : wr.cell? ⟨g, 1, none⟩ = some (.string (strB lineCl)) := HO2.out.cellAt 1 (show 1 < 4 by decide)
        have k2 : wr.cell? ⟨g, 2, none⟩ = some (.string (strB lineCc)) := HO2.out.cellAt 2 (show 2 < 4 by decide)
        have k3 : wr.cell? ⟨g, 3, none⟩ = some (.string ⟨#[]⟩) := HO2.out.cellAt 3 (show 3 < 4 by decide)
        have hpe : ((pg.length : Int) != (P.size : Int)) = false := by rw [HPS.out]; simp
        have K0 := Lib.hid k0
        have K1 := Lib.hid k1
        have K2 := Lib.hid k2
        have HX12 := Lib.hid hx12
        have HSW := Lib.hid (HS2.out.trans (HS.out.mono (T := fun _ => False) (fun _ _ h => h)))
        have c1 := fun W hW => fparse_any (strB lineCl) W (by rw [sB_size]; decide) hW
        have c2 := fun W hW => fparse_any (strB lineCc) W (by rw [sB_size]; decide) hW
        rw [sB_data, parseCl] at c1
        rw [sB_data, parseCc] at c2
        clear hx12
        go_wp2_with (go_at_call 17; refine stopc ?_)
        refine Stop.go ?_
        refine (c1 _ (HM.out.step HSW.out)).mono ?_
        rintro e w5 ⟨rfl, hs5⟩
        have HS5 := Lib.hid hs5
        have k2' := hs5.cell k2 id
        have hg5 : g < w5.heap.size := Nat.lt_of_lt_of_le hg hs5.size
        clear hs5 k0 k1 k2 k3
        go_wp2_with (go_at_call 17; refine stopc ?_)
        refine Stop.go ?_
        refine (c2 _ (HM.out.step ((HSW.out.trans HS5.out).alloc _))).mono ?_
        rintro e w6 ⟨rfl, hs6⟩
        have HS6 := Lib.hid hs6
        clear hs6 k2'
        go_wp2_with fail
        have hb1 := heap_alloc_new w5 (.cells #[.string (strB nmCl), .string (strB [48])] 42)
        have hb2 := heap_alloc_new w6 (.cells #[.string (strB nmCc), .string (strB txCc)] 42)
        have hP : PageS w5.heap.size w6.heap.size w.heap.size g L0 y u (w6.alloc (.cells #[.string (strB nmCc), .string (strB txCc)] 42)) :=
          ⟨((Stp.refl (fun _ => False) w6).alloc _).blk (HS6.out.blk hb1 id) id, hb2,
           ((((HS.out.trans HS5.out).alloc _).trans HS6.out).alloc _).blk HB2.out id,
           ((((HS5.out).alloc _).trans HS6.out).alloc _).cell K0.out id⟩
        have HK := Lib.hid (fun w' (h : Stp (fun _ => False) (w6.alloc (.cells #[.string (strB nmCc), .string (strB txCc)] 42)) w') => hP.step h)
        have HSE := Lib.hid ((((HSW.out.trans HS5.out).alloc _).trans HS6.out).alloc (.cells #[.string (strB nmCc), .string (strB txCc)] 42))
        clear hb1 hb2 hP
        have q1 : ((L0.extract 9 12).toList == (strB (Lib.decDigits st)).toList) = true := by rw [HX12.out]; simp
        obtain ⟨T, hT⟩ : ∃ T, T = strB (Lib.decDigits st) := ⟨_, rfl⟩
        have ctx := fun W => text04_any st W (by omega)
        rw [← hT] at q1 ctx
        clear hT
        have z12 : (12 : Int) ≤ (L0.size : Int) := by omega
        have m1 : (strB nmCl).toList = [99, 111, 110, 116, 101, 110, 116, 45, 108, 101, 110, 103, 116, 104] := by rw [ByteArray.toList_eq]; rfl
        have m2 : (strB [48]).toList = [48] := by rw [ByteArray.toList_eq]; rfl
        have m3 : (strB nmCc).toList = [99, 111, 110, 110, 101, 99, 116, 105, 111, 110] := by rw [ByteArray.toList_eq]; rfl
        have m4 : (strB txCc).toList = [99, 108, 111, 115, 101] := by rw [ByteArray.toList_eq]; rfl
        refine wp_region_held_drew (S := (fun w' => PageS w5.heap.size w6.heap.size w.heap.size g L0 y u w')) (by kernel_rfl) (HK.out _ (Stp.refl _ _).drew) (fun hHeld => ?_)
        try (change wpAnyH _ _ _ _ _ _ _ _ (World.drew _))
        refine rg_take (i := 0) (o := { dst := some 99, op := Op.move (Operand.tmp 3), type := 4, pos := "law.go:79", after := #[], guard := none }) (v := ?rgv1) rfl (by kernel_rfl) (by kernel_rfl) (by kernel_rfl) (fun _ _ _ h => h) (by rfl) (fun w hSw => ?rgy1) hHeld ?_
        case rgy1 => (try dsimp only at hSw); first | (go_simp; done) | (go_simp; with_reducible rfl)
        try simp only [Act.put, List.setIfInBounds_toArray, List.set_cons_zero, List.set_cons_succ]
        refine rg_take (i := 1) (o := { dst := some 100, op := Op.move (Operand.tmp 99), type := 4, pos := "law.go:79", after := #[{ on := 0, ground := Ground.data }], guard := none }) (v := ?rgv2) rfl (by kernel_rfl) (by kernel_rfl) (by kernel_rfl) (fun _ _ _ h => h) (by rfl) (fun w hSw => ?rgy2) hHeld ?_
        case rgy2 => (try dsimp only at hSw); first | (go_simp; done) | (go_simp; with_reducible rfl)
        try simp only [Act.put, List.setIfInBounds_toArray, List.set_cons_zero, List.set_cons_succ]
        refine rg_take (i := 2) (o := { dst := some 101, op := Op.move (Operand.tmp 9), type := 22, pos := "law.go:79", after := #[{ on := 1, ground := Ground.guard }], guard := some (1, true) }) (v := ?rgv3) rfl (by kernel_rfl) (by kernel_rfl) (by kernel_rfl) (fun _ _ _ h => h) (by rfl) (fun w hSw => ?rgy3) hHeld ?_
        case rgy3 => (try dsimp only at hSw); first | (go_simp; done) | (go_simp; with_reducible rfl)
        try simp only [Act.put, List.setIfInBounds_toArray, List.set_cons_zero, List.set_cons_succ]
        refine rg_take (i := 3) (o := { dst := some 102, op := Op.binOp BinOp.eql 22 (Operand.tmp 101) (Operand.const (Value.int IntKind.i64 0)) 22, type := 4, pos := "law.go:79", after := #[{ on := 2, ground := Ground.data }, { on := 1, ground := Ground.guard }], guard := some (1, true) }) (v := ?rgv4) rfl (by kernel_rfl) (by kernel_rfl) (by kernel_rfl) (fun _ _ _ h => h) (by rfl) (fun w hSw => ?rgy4) hHeld ?_
        case rgy4 => (try dsimp only at hSw); first | (go_simp; done) | (go_simp; with_reducible rfl)
        try simp only [Act.put, List.setIfInBounds_toArray, List.set_cons_zero, List.set_cons_succ]
        refine rg_take (i := 4) (o := { dst := some 103, op := Op.pick (Operand.tmp 100) (Operand.tmp 102) (Operand.const (Value.bool false)), type := 4, pos := "law.go:79", after := #[{ on := 1, ground := Ground.data }, { on := 3, ground := Ground.data }], guard := none }) (v := ?rgv5) rfl (by kernel_rfl) (by kernel_rfl) (by kernel_rfl) (fun _ _ _ h => h) (by rfl) (fun w hSw => ?rgy5) hHeld ?_
        case rgy5 => (try dsimp only at hSw); first | (go_simp; done) | (go_simp; with_reducible rfl)
        try simp only [Act.put, List.setIfInBounds_toArray, List.set_cons_zero, List.set_cons_succ]
        refine rg_take (i := 5) (o := { dst := some 104, op := Op.move (Operand.tmp 103), type := 4, pos := "law.go:79", after := #[{ on := 4, ground := Ground.data }, { on := 1, ground := Ground.chain }], guard := none }) (v := ?rgv6) rfl (by kernel_rfl) (by kernel_rfl) (by kernel_rfl) (fun _ _ _ h => h) (by rfl) (fun w hSw => ?rgy6) hHeld ?_
        case rgy6 => (try dsimp only at hSw); first | (go_simp; done) | (go_simp; with_reducible rfl)
        try simp only [Act.put, List.setIfInBounds_toArray, List.set_cons_zero, List.set_cons_succ]
        refine rg_take (i := 6) (o := { dst := some 105, op := Op.move (Operand.tmp 11), type := 22, pos := "law.go:79", after := #[{ on := 5, ground := Ground.guard }], guard := some (5, true) }) (v := ?rgv7) rfl (by kernel_rfl) (by kernel_rfl) (by kernel_rfl) (fun _ _ _ h => h) (by rfl) (fun w hSw => ?rgy7) hHeld ?_
        case rgy7 => (try dsimp only at hSw); first | (go_simp; done) | (go_simp; with_reducible rfl)
        try simp only [Act.put, List.setIfInBounds_toArray, List.set_cons_zero, List.set_cons_succ]
        refine rg_take (i := 7) (o := { dst := some 106, op := Op.binOp BinOp.eql 22 (Operand.tmp 105) (Operand.const (Value.int IntKind.i64 0)) 22, type := 4, pos := "law.go:79", after := #[{ on := 6, ground := Ground.data }, { on := 5, ground := Ground.guard }], guard := some (5, true) }) (v := ?rgv8) rfl (by kernel_rfl) (by kernel_rfl) (by kernel_rfl) (fun _ _ _ h => h) (by rfl) (fun w hSw => ?rgy8) hHeld ?_
        case rgy8 => (try dsimp only at hSw); first | (go_simp; done) | (go_simp; with_reducible rfl)
        try simp only [Act.put, List.setIfInBounds_toArray, List.set_cons_zero, List.set_cons_succ]
        refine rg_take (i := 8) (o := { dst := some 107, op := Op.pick (Operand.tmp 104) (Operand.tmp 106) (Operand.const (Value.bool false)), type := 4, pos := "law.go:79", after := #[{ on := 5, ground := Ground.data }, { on := 7, ground := Ground.data }], guard := none }) (v := ?rgv9) rfl (by kernel_rfl) (by kernel_rfl) (by kernel_rfl) (fun _ _ _ h => h) (by rfl) (fun w hSw => ?rgy9) hHeld ?_
        case rgy9 => (try dsimp only at hSw); first | (go_simp; done) | (go_simp; with_reducible rfl)
        try simp only [Act.put, List.setIfInBounds_toArray, List.set_cons_zero, List.set_cons_succ]
        refine rg_take (i := 9) (o := { dst := some 108, op := Op.move (Operand.tmp 107), type := 4, pos := "law.go:79", after := #[{ on := 8, ground := Ground.data }, { on := 5, ground := Ground.chain }], guard := none }) (v := ?rgv10) rfl (by kernel_rfl) (by kernel_rfl) (by kernel_rfl) (fun _ _ _ h => h) (by rfl) (fun w hSw => ?rgy10) hHeld ?_
        case rgy10 => (try dsimp only at hSw); first | (go_simp; done) | (go_simp; with_reducible rfl)
        try simp only [Act.put, List.setIfInBounds_toArray, List.set_cons_zero, List.set_cons_succ]
        refine rg_take (i := 10) (o := { dst := some 109, op := Op.load 42 (Operand.tmp 8), type := 42, pos := "law.go:79", after := #[{ on := 9, ground := Ground.guard }], guard := some (9, true) }) (v := (.agg #[.string (strB nmCl), .string (strB [48])])) rfl (by kernel_rfl) (by kernel_rfl) (by kernel_rfl) (fun _ _ _ h => h) (by rfl) (fun w hSw => exec_load _ _ (by rfl) _ (by rfl) _ _ (0, 0) _ hSw.1 Tryd.underlying42 rfl (by kernel_rfl)) hHeld ?_
        try simp only [Act.put, List.setIfInBounds_toArray, List.set_cons_zero, List.set_cons_succ]
        refine rg_take (i := 11) (o := { dst := some 110, op := Op.build 42 #[(0, Operand.const (Value.string { data := #[99, 111, 110, 116, 101, 110, 116, 45, 108, 101, 110, 103, 116, 104] })), (1, Operand.const (Value.string { data := #[48] }))], type := 42, pos := "law.go:79", after := #[{ on := 9, ground := Ground.guard }], guard := some (9, true) }) (v := ?rgv12) rfl (by kernel_rfl) (by kernel_rfl) (by kernel_rfl) (fun _ _ _ h => h) (by rfl) (fun w hSw => ?rgy12) hHeld ?_
        case rgy12 => (try dsimp only at hSw); first | (go_simp; done) | (go_simp; with_reducible rfl)
        try simp only [Act.put, List.setIfInBounds_toArray, List.set_cons_zero, List.set_cons_succ]
        refine rg_take (i := 12) (o := { dst := some 111, op := Op.binOp BinOp.eql 42 (Operand.tmp 109) (Operand.tmp 110) 42, type := 4, pos := "law.go:79", after := #[{ on := 10, ground := Ground.data }, { on := 11, ground := Ground.data }, { on := 9, ground := Ground.guard }], guard := some (9, true) }) (v := ?rgv13) rfl (by kernel_rfl) (by kernel_rfl) (by kernel_rfl) (fun _ _ _ h => h) (by rfl) (fun w hSw => ?rgy13) hHeld ?_
        case rgy13 => (try dsimp only at hSw); first | (go_simp; done) | (go_simp; with_reducible rfl)
        try simp only [Act.put, List.setIfInBounds_toArray, List.set_cons_zero, List.set_cons_succ]
        refine rg_take (i := 13) (o := { dst := some 112, op := Op.pick (Operand.tmp 108) (Operand.tmp 111) (Operand.const (Value.bool false)), type := 4, pos := "law.go:79", after := #[{ on := 9, ground := Ground.data }, { on := 12, ground := Ground.data }], guard := none }) (v := ?rgv14) rfl (by kernel_rfl) (by kernel_rfl) (by kernel_rfl) (fun _ _ _ h => h) (by rfl) (fun w hSw => ?rgy14) hHeld ?_
        case rgy14 => (try dsimp only at hSw); first | (go_simp; done) | (go_simp; with_reducible rfl)
        try simp only [Act.put, List.setIfInBounds_toArray, List.set_cons_zero, List.set_cons_succ]
        refine rg_take (i := 14) (o := { dst := some 113, op := Op.move (Operand.tmp 112), type := 4, pos := "law.go:79", after := #[{ on := 13, ground := Ground.data }, { on := 9, ground := Ground.chain }], guard := none }) (v := ?rgv15) rfl (by kernel_rfl) (by kernel_rfl) (by kernel_rfl) (fun _ _ _ h => h) (by rfl) (fun w hSw => ?rgy15) hHeld ?_
        case rgy15 => (try dsimp only at hSw); first | (go_simp; done) | (go_simp; with_reducible rfl)
        try simp only [Act.put, List.setIfInBounds_toArray, List.set_cons_zero, List.set_cons_succ]
        refine rg_take (i := 15) (o := { dst := some 114, op := Op.load 42 (Operand.tmp 10), type := 42, pos := "law.go:79", after := #[{ on := 14, ground := Ground.guard }], guard := some (14, true) }) (v := (.agg #[.string (strB nmCc), .string (strB txCc)])) rfl (by kernel_rfl) (by kernel_rfl) (by kernel_rfl) (fun _ _ _ h => h) (by rfl) (fun w hSw => exec_load _ _ (by rfl) _ (by rfl) _ _ (0, 0) _ hSw.2.1 Tryd.underlying42 rfl (by kernel_rfl)) hHeld ?_
        try simp only [Act.put, List.setIfInBounds_toArray, List.set_cons_zero, List.set_cons_succ]
        refine rg_take (i := 16) (o := { dst := some 115, op := Op.build 42 #[(0, Operand.const (Value.string { data := #[99, 111, 110, 110, 101, 99, 116, 105, 111, 110] })), (1, Operand.const (Value.string { data := #[99, 108, 111, 115, 101] }))], type := 42, pos := "law.go:79", after := #[{ on := 14, ground := Ground.guard }], guard := some (14, true) }) (v := ?rgv17) rfl (by kernel_rfl) (by kernel_rfl) (by kernel_rfl) (fun _ _ _ h => h) (by rfl) (fun w hSw => ?rgy17) hHeld ?_
        case rgy17 => (try dsimp only at hSw); first | (go_simp; done) | (go_simp; with_reducible rfl)
        try simp only [Act.put, List.setIfInBounds_toArray, List.set_cons_zero, List.set_cons_succ]
        refine rg_take (i := 17) (o := { dst := some 116, op := Op.binOp BinOp.eql 42 (Operand.tmp 114) (Operand.tmp 115) 42, type := 4, pos := "law.go:79", after := #[{ on := 15, ground := Ground.data }, { on := 16, ground := Ground.data }, { on := 14, ground := Ground.guard }], guard := some (14, true) }) (v := ?rgv18) rfl (by kernel_rfl) (by kernel_rfl) (by kernel_rfl) (fun _ _ _ h => h) (by rfl) (fun w hSw => ?rgy18) hHeld ?_
        case rgy18 => (try dsimp only at hSw); first | (go_simp; done) | (go_simp; with_reducible rfl)
        try simp only [Act.put, List.setIfInBounds_toArray, List.set_cons_zero, List.set_cons_succ]
        refine rg_take (i := 18) (o := { dst := some 117, op := Op.pick (Operand.tmp 113) (Operand.tmp 116) (Operand.const (Value.bool false)), type := 4, pos := "law.go:79", after := #[{ on := 14, ground := Ground.data }, { on := 17, ground := Ground.data }], guard := none }) (v := ?rgv19) rfl (by kernel_rfl) (by kernel_rfl) (by kernel_rfl) (fun _ _ _ h => h) (by rfl) (fun w hSw => ?rgy19) hHeld ?_
        case rgy19 => (try dsimp only at hSw); first | (go_simp; done) | (go_simp; with_reducible rfl)
        try simp only [Act.put, List.setIfInBounds_toArray, List.set_cons_zero, List.set_cons_succ]
        refine rg_take (i := 19) (o := { dst := some 118, op := Op.move (Operand.tmp 117), type := 4, pos := "law.go:79", after := #[{ on := 18, ground := Ground.data }, { on := 14, ground := Ground.chain }], guard := none }) (v := ?rgv20) rfl (by kernel_rfl) (by kernel_rfl) (by kernel_rfl) (fun _ _ _ h => h) (by rfl) (fun w hSw => ?rgy20) hHeld ?_
        case rgy20 => (try dsimp only at hSw); first | (go_simp; done) | (go_simp; with_reducible rfl)
        try simp only [Act.put, List.setIfInBounds_toArray, List.set_cons_zero, List.set_cons_succ]
        refine rg_take (i := 20) (o := { dst := some 119, op := Op.move (Operand.tmp 5), type := 23, pos := "law.go:79", after := #[{ on := 19, ground := Ground.guard }], guard := some (19, true) }) (v := ?rgv21) rfl (by kernel_rfl) (by kernel_rfl) (by kernel_rfl) (fun _ _ _ h => h) (by rfl) (fun w hSw => ?rgy21) hHeld ?_
        case rgy21 => (try dsimp only at hSw); first | (go_simp; done) | (go_simp; with_reducible rfl)
        try simp only [Act.put, List.setIfInBounds_toArray, List.set_cons_zero, List.set_cons_succ]
        refine rg_take (i := 21) (o := { dst := some 120, op := Op.indexAddr 23 (Operand.tmp 119) (Operand.const (Value.int IntKind.i64 0)), type := 0, pos := "law.go:79", after := #[{ on := 20, ground := Ground.data }, { on := 19, ground := Ground.guard }], guard := some (19, true) }) (v := ?rgv22) rfl (by kernel_rfl) (by kernel_rfl) (by kernel_rfl) (fun _ _ _ h => h) (by rfl) (fun w hSw => ?rgy22) hHeld ?_
        case rgy22 => (try dsimp only at hSw); first | (go_simp; done) | (go_simp; with_reducible rfl)
        try simp only [Act.put, List.setIfInBounds_toArray, List.set_cons_zero, List.set_cons_succ]
        refine rg_take (i := 22) (o := { dst := some 121, op := Op.load 9 (Operand.tmp 120), type := 9, pos := "law.go:79", after := #[{ on := 21, ground := Ground.data }, { on := 19, ground := Ground.guard }], guard := some (19, true) }) (v := ?rgv23) rfl (by kernel_rfl) (by kernel_rfl) (by kernel_rfl) (fun _ _ _ h => h) (by rfl) (fun w hSw => ?rgy23) hHeld ?_
        case rgy23 => (have hk := hSw.2.2.2; go_simp; with_reducible rfl)
        try simp only [Act.put, List.setIfInBounds_toArray, List.set_cons_zero, List.set_cons_succ]
        refine rg_take (i := 23) (o := { dst := some 122, op := Op.slice 9 (Operand.tmp 121) (some (Operand.const (Value.int IntKind.i64 9))) (some (Operand.const (Value.int IntKind.i64 12))) none, type := 9, pos := "law.go:79", after := #[{ on := 22, ground := Ground.data }, { on := 19, ground := Ground.guard }], guard := some (19, true) }) (v := ?rgv24) rfl (by kernel_rfl) (by kernel_rfl) (by kernel_rfl) (fun _ _ _ h => h) (by rfl) (fun w hSw => ?rgy24) hHeld ?_
        case rgy24 => (try dsimp only at hSw); first | (go_simp; done) | (go_simp; with_reducible rfl)
        try simp only [Act.put, List.setIfInBounds_toArray, List.set_cons_zero, List.set_cons_succ]
        refine rg_take (i := 24) (o := { dst := some 123, op := Op.load 30 (Operand.tmp 1), type := 30, pos := "law.go:79", after := #[{ on := 19, ground := Ground.guard }], guard := some (19, true) }) (v := (.agg #[.bool false, .int .i64 y, .int .i64 u])) rfl (by kernel_rfl) (by kernel_rfl) (by kernel_rfl) (fun _ _ _ h => h) (by rfl) (fun w hSw => exec_load _ _ (by rfl) _ (by rfl) _ _ (0, 0) _ hSw.2.2.1 Tryd.underlying30 rfl (size_dc _ _ _)) hHeld ?_
        try simp only [Act.put, List.setIfInBounds_toArray, List.set_cons_zero, List.set_cons_succ]
        refine wpAnyH_ready (rs := [25]) (by kernel_rfl) (by simp) ?_
        refine (AllReadyH.cons (o := { dst := some 124, op := Op.call { callee := Callee.value (Operand.func 11), args := #[Operand.tmp 123], argTypes := #[30] }, type := 3, pos := "law.go:79", after := #[{ on := 24, ground := Ground.data }, { on := 19, ground := Ground.chain }, { on := 19, ground := Ground.guard }], guard := some (19, true) }) rfl (fun K hK => ?_) AllReadyH.nil)
        go_simp
        refine (cst _).mono ?_
        rintro e w7 ⟨rfl, hs7⟩
        have HS7 := Lib.hid ((Stp.refl (fun _ => False) (w6.alloc (.cells #[.string (strB nmCc), .string (strB txCc)] 42))).drew.trans hs7)
        clear hs7
        show K _ _
        clear hHeld
        refine hK.out _ _ (HK.out _ HS7.out) (fun hHeld => ?_)
        clear hK K
        try simp only [Act.put, List.setIfInBounds_toArray, List.set_cons_zero, List.set_cons_succ]
        refine wpAnyH_ready (rs := [26]) (by kernel_rfl) (by simp) ?_
        refine (AllReadyH.cons (o := { dst := some 125, op := Op.call { callee := Callee.value (Operand.func 18), args := #[Operand.tmp 124], argTypes := #[3] }, type := 9, pos := "law.go:79", after := #[{ on := 25, ground := Ground.data }, { on := 25, ground := Ground.chain }, { on := 19, ground := Ground.guard }], guard := some (19, true) }) rfl (fun K hK => ?_) AllReadyH.nil)
        go_simp
        refine (ctx _).mono ?_
        rintro e w8 ⟨rfl, hw⟩
        obtain rfl := hw.symm
        clear hw
        show K _ _
        clear hHeld
        refine hK.out _ _ (HK.out _ HS7.out) (fun hHeld => ?_)
        clear hK K
        try simp only [Act.put, List.setIfInBounds_toArray, List.set_cons_zero, List.set_cons_succ]
        refine rg_take (i := 27) (o := { dst := some 126, op := Op.binOp BinOp.eql 9 (Operand.tmp 122) (Operand.tmp 125) 9, type := 4, pos := "law.go:79", after := #[{ on := 23, ground := Ground.data }, { on := 26, ground := Ground.data }, { on := 19, ground := Ground.guard }], guard := some (19, true) }) (v := ?rgv26) rfl (by kernel_rfl) (by kernel_rfl) (by kernel_rfl) (fun _ _ _ h => h) (by rfl) (fun w hSw => ?rgy26) hHeld ?_
        case rgy26 => (try dsimp only at hSw); first | (go_simp; done) | (go_simp; with_reducible rfl)
        try simp only [Act.put, List.setIfInBounds_toArray, List.set_cons_zero, List.set_cons_succ]
        refine rg_take (i := 28) (o := { dst := some 127, op := Op.pick (Operand.tmp 118) (Operand.tmp 126) (Operand.const (Value.bool false)), type := 4, pos := "law.go:79", after := #[{ on := 19, ground := Ground.data }, { on := 27, ground := Ground.data }], guard := none }) (v := ?rgv27) rfl (by kernel_rfl) (by kernel_rfl) (by kernel_rfl) (fun _ _ _ h => h) (by rfl) (fun w hSw => ?rgy27) hHeld ?_
        case rgy27 => (try dsimp only at hSw); first | (go_simp; done) | (go_simp; with_reducible rfl)
        try simp only [Act.put, List.setIfInBounds_toArray, List.set_cons_zero, List.set_cons_succ]
        refine rg_take (i := 29) (o := { dst := some 2, op := Op.assign (Operand.tmp 127), type := 4, pos := "law.go:79", after := #[{ on := 28, ground := Ground.data }, { on := 26, ground := Ground.chain }, { on := 0, ground := Ground.phase }, { on := 1, ground := Ground.phase }, { on := 2, ground := Ground.phase }, { on := 3, ground := Ground.phase }, { on := 4, ground := Ground.phase }, { on := 5, ground := Ground.phase }, { on := 6, ground := Ground.phase }, { on := 7, ground := Ground.phase }, { on := 8, ground := Ground.phase }, { on := 9, ground := Ground.phase }, { on := 10, ground := Ground.phase }, { on := 11, ground := Ground.phase }, { on := 12, ground := Ground.phase }, { on := 13, ground := Ground.phase }, { on := 14, ground := Ground.phase }, { on := 15, ground := Ground.phase }, { on := 16, ground := Ground.phase }, { on := 17, ground := Ground.phase }, { on := 18, ground := Ground.phase }, { on := 19, ground := Ground.phase }, { on := 20, ground := Ground.phase }, { on := 21, ground := Ground.phase }, { on := 22, ground := Ground.phase }, { on := 23, ground := Ground.phase }, { on := 24, ground := Ground.phase }, { on := 25, ground := Ground.phase }, { on := 26, ground := Ground.phase }, { on := 27, ground := Ground.phase }, { on := 28, ground := Ground.phase }], guard := none }) (v := ?rgv28) rfl (by kernel_rfl) (by kernel_rfl) (by kernel_rfl) (fun _ _ _ h => h) (by rfl) (fun w hSw => ?rgy28) hHeld ?_
        case rgy28 => (try dsimp only at hSw); first | (go_simp; done) | (go_simp; with_reducible rfl)
        try simp only [Act.put, List.setIfInBounds_toArray, List.set_cons_zero, List.set_cons_succ]
        clear hHeld
        refine wpAnyH_done (by kernel_rfl) ?_ _
        go_wp2
        rw [HR.out]
        exact ⟨rfl, HSE.out.trans HS7.out⟩
end Go.Proofs.YtkpfkdcfakhmjaaDoor.L
