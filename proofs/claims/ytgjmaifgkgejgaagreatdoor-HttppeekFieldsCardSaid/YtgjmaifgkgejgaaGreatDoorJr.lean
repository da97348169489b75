/- Layer 16: the law HttppeekFields. -/
import Derived.Test.YtgjmaifgkgejgaaGreatDoorJo
set_option linter.unusedVariables false
set_option linter.unusedSimpArgs false
namespace Go.Proofs.YtgjmaifgkgejgaaGreatDoor.L
open Go.RowKit Go.Proofs

set_option maxRecDepth 100000 in
set_option maxHeartbeats 16000000 in
theorem fields16_any (M : Nat → Prop) (m t : ByteArray) (n : Int) (v : Value) (xs : List (ByteArray × ByteArray)) (fn ft : ByteArray) (w : World) (hx : Rd fldK M w v xs) (he : EnvP w) (hm : m.size ≤ 9223372036854775807) (ht : t.size ≤ 9223372036854775807) (hxz : ∀ x ∈ xs, x.1.size ≤ 140737488351232 ∧ x.2.size ≤ 140737488351232) (hfn : fn.size ≤ 140737488351232) (hft : ft.size ≤ 140737488351232) :
    Calls Tryz.prog 8 #[.agg #[.string m, .string t, .int .i64 n], v, .agg #[.string fn, .string ft]] w (TrueV w) := by
  obtain ⟨A, cp, rfl, hle⟩ := hx.form
  have hcm := hx.at_.2.2.1
  unfold maxLen at hcm
  obtain ⟨R, hR⟩ : ∃ R, R = TrueV w := ⟨_, rfl⟩
  rw [← hR]
  have HR := Lib.hid hR
  have HM := Lib.hid he
  have HX := Lib.hid hx
  have HXZ := Lib.hid hxz
  have cP := fun W => qprint_any m t n W hm ht
  have cF := fun W => fprint_any fn ft W hfn hft
  obtain ⟨q, hq⟩ : ∃ q : Rq, q = ⟨m.data.toList, t.data.toList, n⟩ := ⟨_, rfl⟩
  rw [← hq] at cP
  unfold StrB2 at cP cF
  obtain ⟨pr, hpr⟩ : ∃ p, p = printRq q := ⟨_, rfl⟩
  obtain ⟨fr, hfr⟩ : ∃ p, p = printF fn.data.toList ft.data.toList := ⟨_, rfl⟩
  rw [← hpr] at cP
  rw [← hfr] at cF
  obtain ⟨pl, pb⟩ := pr
  obtain ⟨fl, fb⟩ := fr
  obtain ⟨PS, hPS⟩ : ∃ P, P = strB pl := ⟨_, rfl⟩
  obtain ⟨FS, hFS⟩ : ∃ P, P = strB fl := ⟨_, rfl⟩
  simp only [← hPS] at cP
  simp only [← hFS] at cF
  have HQQ := Lib.hid hq
  have HPR := Lib.hid hpr
  have HFR := Lib.hid hfr
  have HPS := Lib.hid hPS
  have HFS := Lib.hid hFS
  clear hR he hx hxz hq hpr hfr hPS hFS hm ht hfn hft
  by_cases hgood : (pb = true ∧ fb = true) ∧ (PS.size ≤ 2000 ∧ FS.size ≤ 500 ∧ xs.length ≤ 90) ∧ (fn.toList == [104, 111, 115, 116]) = false
  · obtain ⟨⟨rfl, rfl⟩, ⟨l1, l2, l3⟩, hhost⟩ := hgood
    have d1 : decide ((2000 : Int) < (PS.size : Int)) = false := decide_eq_false (by omega)
    have d2 : decide ((500 : Int) < (FS.size : Int)) = false := decide_eq_false (by omega)
    have d3 : decide ((90 : Int) < (xs.length : Int)) = false := decide_eq_false (by omega)
    have hok : okRq q ∧ pl = lineRq q := by
      have h := HPR.out
      unfold printRq at h
      by_cases ho : okRq q
      · rw [if_pos ho] at h
        exact ⟨ho, congrArg (·.1) h⟩
      · rw [if_neg ho] at h
        cases congrArg (·.2) h
    have hokf : okF fn.data.toList ft.data.toList = true ∧ fl = lineF fn.data.toList ft.data.toList := by
      have h := HFR.out
      unfold printF at h
      by_cases ho : okF fn.data.toList ft.data.toList = true
      · rw [if_pos ho] at h
        exact ⟨ho, congrArg (·.1) h⟩
      · rw [if_neg ho] at h
        cases congrArg (·.2) h
    have HOK := Lib.hid (show okRq q ∧ PS.data.toList = lineRq q from ⟨hok.1, by rw [HPS.out, hok.2]; simp [strB]⟩)
    have HOF := Lib.hid (show okF fn.data.toList ft.data.toList = true ∧ FS.data.toList = lineF fn.data.toList ft.data.toList from ⟨hokf.1, by rw [HFS.out, hokf.2]; simp [strB]⟩)
    have HNH : Hid (fn.data.toList ≠ hostL) := Lib.hid (by
      intro h
      rw [list_eqb, h] at hhost
      cases hhost)
    clear hok hokf
    have HS0 := Lib.hid (Stp.refl (fun _ => False) w)
    go_enter Tryz.func8, Tryz.ntmps8
    go_wp2_with (go_at_call 9; refine stopc ?_)
    refine Stop.go ?_
    refine (small16_any _ (HM.out.step ((HS0.out.alloc _).alloc _))).mono ?_
    rintro e w1 ⟨he, hs1⟩
    subst he
    have HS1 := Lib.hid (((HS0.out.alloc _).alloc _).trans hs1)
    have HBQ := Lib.hid (show w1.heap[w.heap.size]? = some (.cells #[.string m, .string t, .int .i64 n] 40 (0, 0)) from hs1.blk (((Stp.refl (fun _ => False) _).alloc _).blk (heap_alloc_new w _) id) id)
    have HBF := Lib.hid (show w1.heap[w.heap.size + 1]? = some (.cells #[.string fn, .string ft] 46 (0, 0)) from by have h := hs1.blk (heap_alloc_new (w.alloc (.cells #[.string m, .string t, .int .i64 n] 40)) _) id; simpa using h)
    clear hs1
    have kQ0 : w1.cell? ⟨w.heap.size, 0, none⟩ = some (.string m) := blk_cell (j := 0) HBQ.out
    have kQ1 : w1.cell? ⟨w.heap.size, 1, none⟩ = some (.string t) := blk_cell (j := 1) HBQ.out
    have kQ2 : w1.cell? ⟨w.heap.size, 2, none⟩ = some (.int .i64 n) := blk_cell (j := 2) HBQ.out
    have ltQ := blk_lt HBQ.out
    have kF0 : w1.cell? ⟨w.heap.size + 1, 0, none⟩ = some (.string fn) := blk_cell (j := 0) HBF.out
    have kF1 : w1.cell? ⟨w.heap.size + 1, 1, none⟩ = some (.string ft) := blk_cell (j := 1) HBF.out
    have ltF := blk_lt HBF.out
    go_wp2_with (go_at_call 15; refine stopc ?_)
    refine Stop.go ?_
    refine (cP _).mono ?_
    rintro e w2 ⟨he, hs2⟩
    subst he
    have HS2 := Lib.hid (HS1.out.trans hs2)
    replace HBQ := Lib.hid (hs2.blk HBQ.out id)
    replace HBF := Lib.hid (hs2.blk HBF.out id)
    clear hs2 kQ0 kQ1 kQ2 ltQ kF0 kF1 ltF
    have kQ0 : w2.cell? ⟨w.heap.size, 0, none⟩ = some (.string m) := blk_cell (j := 0) HBQ.out
    have kQ1 : w2.cell? ⟨w.heap.size, 1, none⟩ = some (.string t) := blk_cell (j := 1) HBQ.out
    have kQ2 : w2.cell? ⟨w.heap.size, 2, none⟩ = some (.int .i64 n) := blk_cell (j := 2) HBQ.out
    have ltQ := blk_lt HBQ.out
    have kF0 : w2.cell? ⟨w.heap.size + 1, 0, none⟩ = some (.string fn) := blk_cell (j := 0) HBF.out
    have kF1 : w2.cell? ⟨w.heap.size + 1, 1, none⟩ = some (.string ft) := blk_cell (j := 1) HBF.out
    have ltF := blk_lt HBF.out
    go_wp2_with (go_at_call 16; refine stopc ?_)
    refine Stop.go ?_
    refine (cF _).mono ?_
    rintro e w3 ⟨he, hs3⟩
    subst he
    have HS3 := Lib.hid (HS2.out.trans hs3)
    replace HBQ := Lib.hid (hs3.blk HBQ.out id)
    replace HBF := Lib.hid (hs3.blk HBF.out id)
    clear hs3 kQ0 kQ1 kQ2 ltQ kF0 kF1 ltF
    have kQ0 : w3.cell? ⟨w.heap.size, 0, none⟩ = some (.string m) := blk_cell (j := 0) HBQ.out
    have kQ1 : w3.cell? ⟨w.heap.size, 1, none⟩ = some (.string t) := blk_cell (j := 1) HBQ.out
    have kQ2 : w3.cell? ⟨w.heap.size, 2, none⟩ = some (.int .i64 n) := blk_cell (j := 2) HBQ.out
    have ltQ := blk_lt HBQ.out
    have kF0 : w3.cell? ⟨w.heap.size + 1, 0, none⟩ = some (.string fn) := blk_cell (j := 0) HBF.out
    have kF1 : w3.cell? ⟨w.heap.size + 1, 1, none⟩ = some (.string ft) := blk_cell (j := 1) HBF.out
    have ltF := blk_lt HBF.out
    go_wp2
    go_loopg [12, 13, 14, 15] xs.length (fun gf s i _ _ wr => ∃ (k : Nat) (S : ByteArray), k + gf = xs.length ∧ i = .int .i64 k ∧ s = .string S ∧ S.data.toList = linesF (flS (xs.take k)) ∧ fineF (flS (xs.take k)) ∧ Stp (fun _ => False) w wr)
    case atStart => exact ⟨0, _, by omega, rfl, rfl, by simp [linesF, flatL, flS], fun f hf => by simp [flS] at hf, HS3.out⟩
    case round =>
      obtain ⟨k, S, hk, rfl, rfl, hs, hf, hst⟩ := hrel
      have hSz : S.size ≤ 100000 := by
        have h1 := hf.len
        have h2 := congrArg List.length hs
        rw [size_list] at h2
        have h3 : (flS (xs.take k)).length ≤ 100 := by simp [flS]; omega
        omega
      have HS := Lib.hid hs
      have HF := Lib.hid hf
      have HST := Lib.hid hst
      clear hs hf hst
      by_cases hlt : k < xs.length
      · obtain ⟨ad, rfl, -, c0, c1⟩ := pair_cell (HX.out.stp0 HST.out) k hlt
        obtain ⟨fN, hfN⟩ : ∃ X, X = (xs[k]).1 := ⟨_, rfl⟩
        obtain ⟨fT, hfT⟩ : ∃ X, X = (xs[k]).2 := ⟨_, rfl⟩
        rw [← hfN] at c0
        rw [← hfT] at c1
        have hz := HXZ.out _ (List.getElem_mem hlt)
        rw [← hfN, ← hfT] at hz
        have cF := fun W => fprint_any fN fT W hz.1 hz.2
        unfold StrB2 at cF
        have hin : (k : Int) < (xs.length : Int) := by omega
        have hw : IntKind.i64.wrap ((k : Int) + 1) = (k : Int) + 1 := IntWalk.i64_in _ (by omega)
        have HTK := Lib.hid (flS_take xs k hlt)
        have HNT := Lib.hid (And.intro hfN hfT)
        clear hfN hfT hz
        by_cases hfo : okF fN.data.toList fT.data.toList = true
        · have hpr : printF fN.data.toList fT.data.toList = (lineF fN.data.toList fT.data.toList, true) := if_pos hfo
          rw [hpr] at cF
          obtain ⟨F0, hF0⟩ : ∃ L, L = strB (lineF fN.data.toList fT.data.toList) := ⟨_, rfl⟩
          simp only [← hF0] at cF
          have hF0d : F0.data.toList = lineF fN.data.toList fT.data.toList := by rw [hF0]; simp [strB]
          have HF0 := Lib.hid hF0d
          have HFO := Lib.hid hfo
          clear hpr hF0 hF0d hfo
          by_cases h5 : F0.size ≤ 500
          · have d5 : decide ((500 : Int) < (F0.size : Int)) = false := decide_eq_false (by omega)
            go_wp2_with (go_at_call 16; refine stopc ?_)
            refine Stop.go ?_
            refine (cF _).mono ?_
            rintro e w3 ⟨rfl, hs3⟩
            have HS3 := Lib.hid (HST.out.trans hs3)
            clear hs3
            obtain ⟨g', rfl⟩ : ∃ g', gk = g' + 1 := ⟨gk - 1, by omega⟩
            go_wp2
            go_roundg g'
            case measure => omega
            case rel =>
              refine ⟨k + 1, _, by omega, by go_num, rfl, ?_, ?_, HS3.out⟩
              · rw [HTK.out, ← HNT.out.1, ← HNT.out.2, linesF_snoc]
                simp only [ByteArray.data_append, Array.toList_append, HS.out, HF0.out]
                try simp only [List.append_assoc]
              · rw [HTK.out, ← HNT.out.1, ← HNT.out.2]
                exact HF.out.snoc HFO.out (by rw [← HF0.out, size_list]; exact h5)
          · have d5 : decide ((500 : Int) < (F0.size : Int)) = true := decide_eq_true (by omega)
            clear h5
            go_wp2_with (go_at_call 16; refine stopc ?_)
            refine Stop.go ?_
            refine (cF _).mono ?_
            rintro e w3 ⟨rfl, hs3⟩
            have HS3 := Lib.hid (HST.out.trans hs3)
            clear hs3
            go_wp2
            rw [HR.out]
            exact ⟨rfl, HS3.out⟩
        · have hpr : printF fN.data.toList fT.data.toList = ([], false) := if_neg hfo
          rw [hpr] at cF
          clear hpr hfo
          go_wp2_with (go_at_call 16; refine stopc ?_)
          refine Stop.go ?_
          refine (cF _).mono ?_
          rintro e w3 ⟨rfl, hs3⟩
          have HS3 := Lib.hid (HST.out.trans hs3)
          clear hs3
          go_wp2
          rw [HR.out]
          exact ⟨rfl, HS3.out⟩
      · have htk : xs.take k = xs := List.take_of_length_le (by omega)
        rw [htk] at HS HF
        have hln := lines_all q (flS xs) HOK.out.1 HF.out (by simp [flS]; omega)
        have hfine2 : fineF ((fn.data.toList, ft.data.toList) :: flS xs) := by
          intro x hx
          rcases List.mem_cons.1 hx with rfl | hx
          · exact ⟨HOF.out.1, by rw [← HOF.out.2, size_list]; exact l2⟩
          · exact HF.out x hx
        have hln2 := lines_all q ((fn.data.toList, ft.data.toList) :: flS xs) HOK.out.1 hfine2 (by simp [flS]; omega)
        rw [judge_more q (flS xs) (fn.data.toList, ft.data.toList) HNH.out] at hln2
        have e2 : (⟨#[13, 10]⟩ : ByteArray).size = 2 := rfl
        obtain ⟨E, hE⟩ : ∃ E : ByteArray, E = ⟨#[13, 10]⟩ := ⟨_, rfl⟩
        have hEd : E.data.toList = [13, 10] := by rw [hE]
        have hEs : E.size = 2 := by rw [hE]; rfl
        have hb1 : (PS ++ E ++ S ++ E : ByteArray).data.toList = lineRq q ++ [13, 10] ++ linesF (flS xs) ++ [13, 10] := by
          simp only [ByteArray.data_append, Array.toList_append, HS.out, HOK.out.2, hEd]
        have hb2 : (PS ++ E ++ FS ++ E ++ S ++ E : ByteArray).data.toList = lineRq q ++ [13, 10] ++ linesF ((fn.data.toList, ft.data.toList) :: flS xs) ++ [13, 10] := by
          have e : linesF ((fn.data.toList, ft.data.toList) :: flS xs) = lineF fn.data.toList ft.data.toList ++ [13, 10] ++ linesF (flS xs) := rfl
          rw [e]
          simp only [ByteArray.data_append, Array.toList_append, HS.out, HOK.out.2, HOF.out.2, hEd, List.append_assoc]
        have hz1 : (PS ++ E ++ S ++ E : ByteArray).size = PS.size + S.size + 4 := by simp [hEs]; omega
        have hz2 : (PS ++ E ++ FS ++ E ++ S ++ E : ByteArray).size = PS.size + S.size + FS.size + 6 := by simp [hEs]; omega
        obtain ⟨⟨st, rs, ho, po⟩, hjd⟩ : ∃ j, j = judgeH q (flS xs) := ⟨_, rfl⟩
        have hst0 : st ≠ 0 := by
          rcases judge_cases q (flS xs) with ⟨h, -⟩ | ⟨e, -, h⟩
          · rw [← hjd] at h
            simp only at h
            omega
          · rw [← hjd] at h
            have := congrArg Vd.st h
            simp only [Vd.bad] at this
            omega
        obtain ⟨H, hH⟩ : ∃ H, H = strB ho := ⟨_, rfl⟩
        obtain ⟨u, hu⟩ : ∃ u, u = PS.size + S.size + 4 := ⟨_, rfl⟩
        obtain ⟨u2, hu2⟩ : ∃ u, u = PS.size + S.size + FS.size + 6 := ⟨_, rfl⟩
        have hl1 : (lineRq q ++ [13, 10] ++ linesF (flS xs)).length + 2 = u := by
          have h9 := congrArg List.length hb1
          rw [size_list, hz1] at h9
          simp only [List.length_append, List.length_cons, List.length_nil] at h9 ⊢
          omega
        have hl2 : (lineRq q ++ [13, 10] ++ linesF ((fn.data.toList, ft.data.toList) :: flS xs)).length + 2 = u2 := by
          have h9 := congrArg List.length hb2
          rw [size_list, hz2] at h9
          simp only [List.length_append, List.length_cons, List.length_nil] at h9 ⊢
          omega
        rw [hl1, ← hjd] at hln
        rw [hl2, ← hjd] at hln2
        have HLN := Lib.hid hln
        have HLN2 := Lib.hid hln2
        have HH := Lib.hid hH
        have HE := Lib.hid hE
        have HB1 := Lib.hid hb1
        have HB2 := Lib.hid hb2
        rw [hE] at hb1 hb2 hz1 hz2
        obtain ⟨X1, hX1⟩ : ∃ X, (PS ++ ⟨#[13, 10]⟩ ++ S ++ ⟨#[13, 10]⟩ : ByteArray) = X := ⟨_, rfl⟩
        obtain ⟨X2, hX2⟩ : ∃ X, (PS ++ ⟨#[13, 10]⟩ ++ FS ++ ⟨#[13, 10]⟩ ++ S ++ ⟨#[13, 10]⟩ : ByteArray) = X := ⟨_, rfl⟩
        rw [hX1] at hb1 hz1
        rw [hX2] at hb2 hz2
        have hn1 : IntKind.i64.wrap ((u : Int) + (FS.size : Int)) = (u : Int) + (FS.size : Int) := IntWalk.i64_in _ (by omega)
        have hn2 : IntKind.i64.wrap ((u : Int) + (FS.size : Int) + 2) = (u2 : Int) := by rw [IntWalk.i64_in _ (by omega)]; omega
        have hne : (st != 0) = true := by simpa using hst0
        have hss : (st == st) = true := by simp
        have hrr : (rs == rs) = true := by simp
        have hpp : (po == po) = true := by simp
        have hHH : (H.toList == H.toList) = true := by simp
        have HBD := Lib.hid (And.intro hb1 hb2)
        have HZD := Lib.hid (And.intro hz1 hz2)
        have hzle1 : X1.size ≤ 9223372036854775807 := by omega
        have hzle2 : X2.size ≤ 9223372036854775807 := by omega
        have hul : u ≤ 1000000 ∧ u2 ≤ 1000000 ∧ X1.size ≤ 1000000 ∧ X2.size ≤ 1000000 := by omega
        have HUL := Lib.hid hul
        clear hln hln2 hH hE hEd hEs hb1 hb2 hz1 hz2 hfine2 htk hjd hst0 hu hu2 hl1 hl2 hul
        go_wp2_with (with_reducible refine stop (N := 87) rfl ?_)
        refine Stop.go ?_
        refine wp_bytesRd rfl _ _ _ rfl Tryz.underlying9 Tryz.underlying22 Tryz.underlying5 rfl hzle1 ?_
        intro W2 c hrd hsW
        rw [HBD.out.1] at hrd
        obtain ⟨z1, hz1⟩ : ∃ z, z = X1.size := ⟨_, rfl⟩
        rw [← hz1] at hrd ⊢
        have HSW := Lib.hid (HST.out.trans hsW)
        replace HM := Lib.hid (HM.out.step HSW.out)
        have cA : Calls Tryz.prog 11 #[.slice (some ⟨wr.heap.size, 0, none⟩) z1 c] W2 fun e w' => e = .returned (.agg #[.int .i64 st, .int .i64 2, .int .i64 (u : Int), .int .i64 rs, .string H, .int .i64 po, .bool false, .string ⟨#[]⟩, .slice none 0 0, .slice none 0 0, .bool false]) ∧ Stp (fun _ => False) W2 w' := by
          have h := pall_any (fun _ => False) (.slice (some ⟨wr.heap.size, 0, none⟩) z1 c) _ W2 hrd (by rw [← HBD.out.1, size_list]; exact HUL.out.2.2.1) HM.out
          unfold AllP at h
          rw [HLN.out] at h
          rw [HH.out]
          exact h
        clear hrd hsW hz1
        have HS0 := Lib.hid (Stp.refl (fun _ => False) W2)
        go_wp2_with (go_at_call 11; refine stopc ?_)
        refine Stop.go ?_
        refine (cA).mono ?_
        rintro e w1 ⟨he, hs1⟩
        subst he
        have HS1 := Lib.hid (HS0.out.trans hs1)
        clear hs1
        go_wp2_with (with_reducible refine stop (N := 97) rfl ?_)
        refine Stop.go ?_
        have HHV := Lib.hid (heap_alloc_new w1 (.cells #[.int .i64 st, .int .i64 2, .int .i64 (u : Int), .int .i64 rs, .string H, .int .i64 po, .bool false, .string ⟨#[]⟩, .slice none 0 0, .slice none 0 0, .bool false] 31))
        refine wp_bytesRd rfl _ _ _ rfl Tryz.underlying9 Tryz.underlying22 Tryz.underlying5 rfl hzle2 ?_
        intro W4 c2 hrd2 hsW2
        rw [HBD.out.2] at hrd2
        obtain ⟨z2, hz2⟩ : ∃ z, z = X2.size := ⟨_, rfl⟩
        rw [← hz2] at hrd2 ⊢
        have HBV := Lib.hid (hsW2.blk HHV.out id)
        have HSX := Lib.hid ((HSW.out.trans (HS1.out.alloc (.cells #[.int .i64 st, .int .i64 2, .int .i64 (u : Int), .int .i64 rs, .string H, .int .i64 po, .bool false, .string ⟨#[]⟩, .slice none 0 0, .slice none 0 0, .bool false] 31))).trans hsW2)
        replace HM := Lib.hid (HM.out.step ((HS1.out.alloc (.cells #[.int .i64 st, .int .i64 2, .int .i64 (u : Int), .int .i64 rs, .string H, .int .i64 po, .bool false, .string ⟨#[]⟩, .slice none 0 0, .slice none 0 0, .bool false] 31)).trans hsW2))
        obtain ⟨gb, hgb⟩ : ∃ n, n = (w1.alloc (.cells #[.int .i64 st, .int .i64 2, .int .i64 (u : Int), .int .i64 rs, .string H, .int .i64 po, .bool false, .string ⟨#[]⟩, .slice none 0 0, .slice none 0 0, .bool false] 31)).heap.size := ⟨_, rfl⟩
        have hgb2 : gb = w1.heap.size + 1 := by rw [hgb]; simp
        rw [← hgb] at hrd2
        obtain ⟨bv, hbv⟩ : ∃ n, n = w1.heap.size := ⟨_, rfl⟩
        rw [← hbv] at HBV hgb2
        have cB : Calls Tryz.prog 11 #[.slice (some ⟨gb, 0, none⟩) z2 c2] W4 fun e w' => e = .returned (.agg #[.int .i64 st, .int .i64 2, .int .i64 (u2 : Int), .int .i64 rs, .string H, .int .i64 po, .bool false, .string ⟨#[]⟩, .slice none 0 0, .slice none 0 0, .bool false]) ∧ Stp (fun _ => False) W4 w' := by
          have h := pall_any (fun _ => False) (.slice (some ⟨gb, 0, none⟩) z2 c2) _ W4 hrd2 (by rw [← HBD.out.2, size_list]; exact HUL.out.2.2.2) HM.out
          unfold AllP at h
          rw [HLN2.out] at h
          rw [HH.out]
          exact h
        simp only [← hgb, ← hbv]
        clear hrd2 hsW2 hz2 cA hgb hgb2 hbv HS1 HS0
        have HS0 := Lib.hid (Stp.refl (fun _ => False) W4)
        go_wp2_with (go_at_call 11; refine stopc ?_)
        refine Stop.go ?_
        refine (cB).mono ?_
        rintro e w1 ⟨he, hs1⟩
        subst he
        have HS1 := Lib.hid (HS0.out.trans hs1)
        replace HBV := Lib.hid (hs1.blk HBV.out id)
        clear hs1
        have kV0 : w1.cell? ⟨bv, 0, none⟩ = some (.int .i64 st) := blk_cell (j := 0) HBV.out
        have kV1 : w1.cell? ⟨bv, 1, none⟩ = some (.int .i64 2) := blk_cell (j := 1) HBV.out
        have kV2 : w1.cell? ⟨bv, 2, none⟩ = some (.int .i64 (u : Int)) := blk_cell (j := 2) HBV.out
        have kV3 : w1.cell? ⟨bv, 3, none⟩ = some (.int .i64 rs) := blk_cell (j := 3) HBV.out
        have kV4 : w1.cell? ⟨bv, 4, none⟩ = some (.string H) := blk_cell (j := 4) HBV.out
        have kV5 : w1.cell? ⟨bv, 5, none⟩ = some (.int .i64 po) := blk_cell (j := 5) HBV.out
        have kV6 : w1.cell? ⟨bv, 6, none⟩ = some (.bool false) := blk_cell (j := 6) HBV.out
        have kV7 : w1.cell? ⟨bv, 7, none⟩ = some (.string ⟨#[]⟩) := blk_cell (j := 7) HBV.out
        have kV8 : w1.cell? ⟨bv, 8, none⟩ = some (.slice none 0 0) := blk_cell (j := 8) HBV.out
        have kV9 : w1.cell? ⟨bv, 9, none⟩ = some (.slice none 0 0) := blk_cell (j := 9) HBV.out
        have kV10 : w1.cell? ⟨bv, 10, none⟩ = some (.bool false) := blk_cell (j := 10) HBV.out
        have ltV := blk_lt HBV.out
        go_wp2
        rw [HR.out]
        exact ⟨rfl, HSX.out.trans (HS1.out.alloc _)⟩
  · have key : (pb = false) ∨ (pb = true ∧ fb = false) ∨ (pb = true ∧ fb = true ∧ decide ((2000 : Int) < (PS.size : Int)) = true) ∨ (pb = true ∧ fb = true ∧ decide ((2000 : Int) < (PS.size : Int)) = false ∧ decide ((500 : Int) < (FS.size : Int)) = true) ∨ (pb = true ∧ fb = true ∧ decide ((2000 : Int) < (PS.size : Int)) = false ∧ decide ((500 : Int) < (FS.size : Int)) = false ∧ decide ((90 : Int) < (xs.length : Int)) = true) ∨ (pb = true ∧ fb = true ∧ decide ((2000 : Int) < (PS.size : Int)) = false ∧ decide ((500 : Int) < (FS.size : Int)) = false ∧ decide ((90 : Int) < (xs.length : Int)) = false ∧ (fn.toList == [104, 111, 115, 116]) = true) := by
      have hx1 : ∀ b : Bool, b = true ∨ b = false := fun b => by cases b <;> simp
      rcases hx1 pb with h0 | h0
      · rcases hx1 fb with h1 | h1
        · by_cases a1 : 2000 < PS.size
          · exact Or.inr (Or.inr (Or.inl ⟨h0, h1, decide_eq_true (by omega)⟩))
          · by_cases a2 : 500 < FS.size
            · exact Or.inr (Or.inr (Or.inr (Or.inl ⟨h0, h1, decide_eq_false (by omega), decide_eq_true (by omega)⟩)))
            · by_cases a3 : 90 < xs.length
              · exact Or.inr (Or.inr (Or.inr (Or.inr (Or.inl ⟨h0, h1, decide_eq_false (by omega), decide_eq_false (by omega), decide_eq_true (by omega)⟩))))
              · rcases hx1 (fn.toList == [104, 111, 115, 116]) with h5 | h5
                · exact Or.inr (Or.inr (Or.inr (Or.inr (Or.inr ⟨h0, h1, decide_eq_false (by omega), decide_eq_false (by omega), decide_eq_false (by omega), h5⟩))))
                · exact absurd ⟨⟨h0, h1⟩, ⟨by omega, by omega, by omega⟩, h5⟩ hgood
        · exact Or.inr (Or.inl ⟨h0, h1⟩)
      · exact Or.inl h0
    clear hgood
    rcases key with h0 | ⟨h0, h1⟩ | ⟨h0, h1, h2⟩ | ⟨h0, h1, h2, h3⟩ | ⟨h0, h1, h2, h3, h4⟩ | ⟨h0, h1, h2, h3, h4, h5⟩
    all_goals
      try subst h0
      try subst h1
      have HS0 := Lib.hid (Stp.refl (fun _ => False) w)
      go_enter Tryz.func8, Tryz.ntmps8
      go_wp2_with (go_at_call 9; refine stopc ?_)
      refine Stop.go ?_
      refine (small16_any _ (HM.out.step ((HS0.out.alloc _).alloc _))).mono ?_
      rintro e w1 ⟨he, hs1⟩
      subst he
      have HS1 := Lib.hid (((HS0.out.alloc _).alloc _).trans hs1)
      have HBQ := Lib.hid (show w1.heap[w.heap.size]? = some (.cells #[.string m, .string t, .int .i64 n] 40 (0, 0)) from hs1.blk (((Stp.refl (fun _ => False) _).alloc _).blk (heap_alloc_new w _) id) id)
      have HBF := Lib.hid (show w1.heap[w.heap.size + 1]? = some (.cells #[.string fn, .string ft] 46 (0, 0)) from by have h := hs1.blk (heap_alloc_new (w.alloc (.cells #[.string m, .string t, .int .i64 n] 40)) _) id; simpa using h)
      clear hs1
      have kQ0 : w1.cell? ⟨w.heap.size, 0, none⟩ = some (.string m) := blk_cell (j := 0) HBQ.out
      have kQ1 : w1.cell? ⟨w.heap.size, 1, none⟩ = some (.string t) := blk_cell (j := 1) HBQ.out
      have kQ2 : w1.cell? ⟨w.heap.size, 2, none⟩ = some (.int .i64 n) := blk_cell (j := 2) HBQ.out
      have ltQ := blk_lt HBQ.out
      have kF0 : w1.cell? ⟨w.heap.size + 1, 0, none⟩ = some (.string fn) := blk_cell (j := 0) HBF.out
      have kF1 : w1.cell? ⟨w.heap.size + 1, 1, none⟩ = some (.string ft) := blk_cell (j := 1) HBF.out
      have ltF := blk_lt HBF.out
      go_wp2_with (go_at_call 15; refine stopc ?_)
      refine Stop.go ?_
      refine (cP _).mono ?_
      rintro e w2 ⟨he, hs2⟩
      subst he
      have HS2 := Lib.hid (HS1.out.trans hs2)
      replace HBQ := Lib.hid (hs2.blk HBQ.out id)
      replace HBF := Lib.hid (hs2.blk HBF.out id)
      clear hs2 kQ0 kQ1 kQ2 ltQ kF0 kF1 ltF
      have kQ0 : w2.cell? ⟨w.heap.size, 0, none⟩ = some (.string m) := blk_cell (j := 0) HBQ.out
      have kQ1 : w2.cell? ⟨w.heap.size, 1, none⟩ = some (.string t) := blk_cell (j := 1) HBQ.out
      have kQ2 : w2.cell? ⟨w.heap.size, 2, none⟩ = some (.int .i64 n) := blk_cell (j := 2) HBQ.out
      have ltQ := blk_lt HBQ.out
      have kF0 : w2.cell? ⟨w.heap.size + 1, 0, none⟩ = some (.string fn) := blk_cell (j := 0) HBF.out
      have kF1 : w2.cell? ⟨w.heap.size + 1, 1, none⟩ = some (.string ft) := blk_cell (j := 1) HBF.out
      have ltF := blk_lt HBF.out
      go_wp2_with (go_at_call 16; refine stopc ?_)
      refine Stop.go ?_
      refine (cF _).mono ?_
      rintro e w3 ⟨he, hs3⟩
      subst he
      have HS3 := Lib.hid (HS2.out.trans hs3)
      replace HBQ := Lib.hid (hs3.blk HBQ.out id)
      replace HBF := Lib.hid (hs3.blk HBF.out id)
      clear hs3 kQ0 kQ1 kQ2 ltQ kF0 kF1 ltF
      have kQ0 : w3.cell? ⟨w.heap.size, 0, none⟩ = some (.string m) := blk_cell (j := 0) HBQ.out
      have kQ1 : w3.cell? ⟨w.heap.size, 1, none⟩ = some (.string t) := blk_cell (j := 1) HBQ.out
      have kQ2 : w3.cell? ⟨w.heap.size, 2, none⟩ = some (.int .i64 n) := blk_cell (j := 2) HBQ.out
      have ltQ := blk_lt HBQ.out
      have kF0 : w3.cell? ⟨w.heap.size + 1, 0, none⟩ = some (.string fn) := blk_cell (j := 0) HBF.out
      have kF1 : w3.cell? ⟨w.heap.size + 1, 1, none⟩ = some (.string ft) := blk_cell (j := 1) HBF.out
      have ltF := blk_lt HBF.out
      go_wp2
      rw [HR.out]
      exact ⟨rfl, HS3.out⟩
end Go.Proofs.YtgjmaifgkgejgaaGreatDoor.L
