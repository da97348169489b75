/- Layer 16: the law HttppeekLines. -/
import Derived.Test.YtgjmaifgkgejgaaGreatDoorJk
import Derived.Test.YtgjmaifgkgejgaaGreatDoorRz
set_option linter.unusedVariables false
set_option linter.unusedSimpArgs false
namespace Go.Proofs.YtgjmaifgkgejgaaGreatDoor.L
open Go.RowKit Go.Proofs

/-- The lines of fields. -/
def linesF (fs : List (List UInt8 × List UInt8)) : List UInt8 := flatL (fs.map fun f : List UInt8 × List UInt8 => lineF f.1 f.2)
theorem linesF_snoc (fs : List (List UInt8 × List UInt8)) (f : List UInt8 × List UInt8) : linesF (fs ++ [f]) = linesF fs ++ lineF f.1 f.2 ++ [13, 10] := by
  unfold linesF
  rw [List.map_append, List.map_cons, List.map_nil, flat_snoc, List.append_assoc]
theorem flS_take (xs : List (ByteArray × ByteArray)) (k : Nat) (h : k < xs.length) : flS (xs.take (k + 1)) = flS (xs.take k) ++ [(xs[k].1.data.toList, xs[k].2.data.toList)] := by
  rw [List.take_succ_eq_append_getElem h]
  unfold flS
  rw [List.map_append, List.map_cons, List.map_nil]
/-- Fields of which each can be printed, and is not too long. -/
def fineF (fs : List (List UInt8 × List UInt8)) : Prop := ∀ f ∈ fs, okF f.1 f.2 = true ∧ (lineF f.1 f.2).length ≤ 500
theorem fineF.snoc {fs : List (List UInt8 × List UInt8)} {f : List UInt8 × List UInt8} (h : fineF fs) (h1 : okF f.1 f.2 = true) (h2 : (lineF f.1 f.2).length ≤ 500) : fineF (fs ++ [f]) := by
  intro x hx
  rcases List.mem_append.1 hx with hx | hx
  · exact h x hx
  · rw [List.mem_singleton.1 hx]
    exact ⟨h1, h2⟩
theorem fineF.len {fs : List (List UInt8 × List UInt8)} (h : fineF fs) : (linesF fs).length ≤ 502 * fs.length := by
  induction fs with
  | nil => simp [linesF, flatL]
  | cons f fs ih =>
    have h1 := ih fun x hx => h x (List.mem_cons_of_mem _ hx)
    have h2 := (h f List.mem_cons_self).2
    have e : linesF (f :: fs) = lineF f.1 f.2 ++ [13, 10] ++ linesF fs := rfl
    rw [e, List.length_append, List.length_append, List.length_cons]
    simp only [List.length_cons, List.length_nil]
    omega
theorem fineF.tx {fs : List (List UInt8 × List UInt8)} (h : fineF fs) (nm : List UInt8) : (findF nm fs).1.length ≤ 500 := by
  refine findF_tx _ _ _ fun x hx => ?_
  have := (h x hx).2
  unfold lineF at this
  simp only [List.length_append] at this
  omega
theorem lines_all (q : Rq) (fs : List (List UInt8 × List UInt8)) (hq : okRq q) (hf : fineF fs) (hl : fs.length ≤ 100) : allH (lineRq q ++ [13, 10] ++ linesF fs ++ [13, 10]) = (judgeH q fs, (lineRq q ++ [13, 10] ++ linesF fs).length + 2) :=
  all_lines q fs hq (fun f h => (hf f h).1) hl
set_option maxRecDepth 100000 in
set_option maxHeartbeats 16000000 in
theorem lines16_any (M : Nat → Prop) (m t : ByteArray) (n : Int) (v : Value) (xs : List (ByteArray × ByteArray)) (w : World) (hx : Rd fldK M w v xs) (he : EnvP w) (hm : m.size ≤ 9223372036854775807) (ht : t.size ≤ 9223372036854775807) (hxz : ∀ x ∈ xs, x.1.size ≤ 140737488351232 ∧ x.2.size ≤ 140737488351232) :
    Calls Tryz.prog 7 #[.agg #[.string m, .string t, .int .i64 n], v] w (TrueV w) := by
  obtain ⟨A, cp, rfl, hle⟩ := hx.form
  have hcm := hx.at_.2.2.1
  unfold maxLen at hcm
  obtain ⟨R, hR⟩ : ∃ R, R = TrueV w := ⟨_, rfl⟩
  rw [← hR]
  have HR := Lib.hid hR
  have HM := Lib.hid he
  have HX := Lib.hid hx
  have HXZ := Lib.hid hxz
  have cP := fun W => qprint_any m t n W hm ht
  obtain ⟨q, hq⟩ : ∃ q : Rq, q = ⟨m.data.toList, t.data.toList, n⟩ := ⟨_, rfl⟩
  rw [← hq] at cP
  unfold StrB2 at cP
  have HQQ := Lib.hid hq
  clear hR he hx hxz hq
  by_cases hok : okRq q
  · have hpr : printRq q = (lineRq q, true) := if_pos hok
    rw [hpr] at cP
    obtain ⟨L0, hL0⟩ : ∃ L, L = strB (lineRq q) := ⟨_, rfl⟩
    simp only [← hL0] at cP
    have hL0d : L0.data.toList = lineRq q := by rw [hL0]; simp [strB]
    have HL0 := Lib.hid hL0d
    have HOK := Lib.hid hok
    clear hpr hL0 hL0d hok
    by_cases hbig : L0.size ≤ 2000 ∧ xs.length ≤ 100
    · obtain ⟨l1, l2⟩ := hbig
      have d1 : decide ((2000 : Int) < (L0.size : Int)) = false := decide_eq_false (by omega)
      have d2 : decide ((100 : Int) < (xs.length : Int)) = false := decide_eq_false (by omega)
      have HS0 := Lib.hid (Stp.refl (fun _ => False) w)
      go_enter Tryz.func7, Tryz.ntmps7
      go_wp2_with (go_at_call 9; refine stopc ?_)
      refine Stop.go ?_
      refine (small16_any _ (HM.out.step (HS0.out.alloc _))).mono ?_
      rintro e w1 ⟨he, hs1⟩
      subst he
      have HS1 := Lib.hid ((HS0.out.alloc _).trans hs1)
      have HBQ := Lib.hid (show w1.heap[w.heap.size]? = some (.cells #[.string m, .string t, .int .i64 n] 40 (0, 0)) from hs1.blk (heap_alloc_new w _) id)
      clear hs1
      have kQ0 : w1.cell? ⟨w.heap.size, 0, none⟩ = some (.string m) := blk_cell (j := 0) HBQ.out
      have kQ1 : w1.cell? ⟨w.heap.size, 1, none⟩ = some (.string t) := blk_cell (j := 1) HBQ.out
      have kQ2 : w1.cell? ⟨w.heap.size, 2, none⟩ = some (.int .i64 n) := blk_cell (j := 2) HBQ.out
      have ltQ := blk_lt HBQ.out
      go_wp2_with (go_at_call 15; refine stopc ?_)
      refine Stop.go ?_
      refine (cP _).mono ?_
      rintro e w2 ⟨he, hs2⟩
      subst he
      have HS2 := Lib.hid (HS1.out.trans hs2)
      replace HBQ := Lib.hid (hs2.blk HBQ.out id)
      clear hs2 kQ0 kQ1 kQ2 ltQ
      have kQ0 : w2.cell? ⟨w.heap.size, 0, none⟩ = some (.string m) := blk_cell (j := 0) HBQ.out
      have kQ1 : w2.cell? ⟨w.heap.size, 1, none⟩ = some (.string t) := blk_cell (j := 1) HBQ.out
      have kQ2 : w2.cell? ⟨w.heap.size, 2, none⟩ = some (.int .i64 n) := blk_cell (j := 2) HBQ.out
      have ltQ := blk_lt HBQ.out
      go_wp2
      go_loopg [6, 8, 9, 10] xs.length (fun gf s i _ _ wr => ∃ (k : Nat) (S : ByteArray), k + gf = xs.length ∧ i = .int .i64 k ∧ s = .string S ∧ S.data.toList = lineRq q ++ [13, 10] ++ linesF (flS (xs.take k)) ∧ fineF (flS (xs.take k)) ∧ wr.heap[w.heap.size]? = some (.cells #[.string m, .string t, .int .i64 n] 40 (0, 0)) ∧ Stp (fun _ => False) w wr)
      case atStart => exact ⟨0, _, by omega, rfl, rfl, by simp [linesF, flatL, flS, HL0.out], fun f hf => by simp [flS] at hf, HBQ.out, HS2.out⟩
      case round =>
        obtain ⟨k, S, hk, rfl, rfl, hs, hf, hq, hst⟩ := hrel
        have hSz : S.size ≤ 100000 := by
          have h1 := hf.len
          have h2 := congrArg List.length hs
          simp only [List.length_append, List.length_cons, List.length_nil] at h2
          rw [← HL0.out, size_list, size_list] at h2
          have h3 : (flS (xs.take k)).length ≤ 100 := by simp [flS]; omega
          omega
        have HS := Lib.hid hs
        have HF := Lib.hid hf
        have HST := Lib.hid hst
        clear hs hf hst
        have hBQ := Lib.hid hq
        clear hq
        by_cases hlt : k < xs.length
        · obtain ⟨ad, rfl, -, c0, c1⟩ := pair_cell (HX.out.stp0 HST.out) k hlt
          obtain ⟨fN, hfN⟩ : ∃ X, X = (xs[k]).1 := ⟨_, rfl⟩
          obtain ⟨fT, hfT⟩ : ∃ X, X = (xs[k]).2 := ⟨_, rfl⟩
          rw [← hfN] at c0
          rw [← hfT] at c1
          have hz := HXZ.out _ (List.getElem_mem hlt)
          rw [← hfN, ← hfT] at hz
          have cF := fun W => fprint_any fN fT W hz.1 hz.2
          unfold StrB2 at cF
          have hin : (k : Int) < (xs.length : Int) := by omega
          have hw : IntKind.i64.wrap ((k : Int) + 1) = (k : Int) + 1 := IntWalk.i64_in _ (by omega)
          have HTK := Lib.hid (flS_take xs k hlt)
          have HNT := Lib.hid (And.intro hfN hfT)
          clear hfN hfT hz
          by_cases hfo : okF fN.data.toList fT.data.toList = true
          · have hpr : printF fN.data.toList fT.data.toList = (lineF fN.data.toList fT.data.toList, true) := if_pos hfo
            rw [hpr] at cF
            obtain ⟨F0, hF0⟩ : ∃ L, L = strB (lineF fN.data.toList fT.data.toList) := ⟨_, rfl⟩
            simp only [← hF0] at cF
            have hF0d : F0.data.toList = lineF fN.data.toList fT.data.toList := by rw [hF0]; simp [strB]
            have HF0 := Lib.hid hF0d
            have HFO := Lib.hid hfo
            clear hpr hF0 hF0d hfo
            by_cases h5 : F0.size ≤ 500
            · have d5 : decide ((500 : Int) < (F0.size : Int)) = false := decide_eq_false (by omega)
              go_wp2_with (go_at_call 16; refine stopc ?_)
              refine Stop.go ?_
              refine (cF _).mono ?_
              rintro e w3 ⟨rfl, hs3⟩
              have HS3 := Lib.hid (HST.out.trans hs3)
              have HQ3 := Lib.hid (hs3.blk hBQ.out id)
              clear hs3
              obtain ⟨g', rfl⟩ : ∃ g', gk = g' + 1 := ⟨gk - 1, by omega⟩
              go_wp2
              go_roundg g'
              case measure => omega
              case rel =>
                refine ⟨k + 1, _, by omega, by go_num, rfl, ?_, ?_, HQ3.out, HS3.out⟩
                · rw [HTK.out, ← HNT.out.1, ← HNT.out.2, linesF_snoc]
                  simp only [ByteArray.data_append, Array.toList_append, HS.out, HF0.out]
                  simp only [List.append_assoc]
                · rw [HTK.out, ← HNT.out.1, ← HNT.out.2]
                  exact HF.out.snoc HFO.out (by rw [← HF0.out, size_list]; exact h5)
            · have d5 : decide ((500 : Int) < (F0.size : Int)) = true := decide_eq_true (by omega)
              clear h5
              go_wp2_with (go_at_call 16; refine stopc ?_)
              refine Stop.go ?_
              refine (cF _).mono ?_
              rintro e w3 ⟨rfl, hs3⟩
              have HS3 := Lib.hid (HST.out.trans hs3)
              clear hs3
              go_wp2
              rw [HR.out]
              exact ⟨rfl, HS3.out⟩
          · have hpr : printF fN.data.toList fT.data.toList = ([], false) := if_neg hfo
            rw [hpr] at cF
            clear hpr hfo
            go_wp2_with (go_at_call 16; refine stopc ?_)
            refine Stop.go ?_
            refine (cF _).mono ?_
            rintro e w3 ⟨rfl, hs3⟩
            have HS3 := Lib.hid (HST.out.trans hs3)
            clear hs3
            go_wp2
            rw [HR.out]
            exact ⟨rfl, HS3.out⟩
        · have htk : xs.take k = xs := List.take_of_length_le (by omega)
          rw [htk] at HS HF
          have hln := lines_all q (flS xs) HOK.out HF.out (by simp [flS]; omega)
          have HLN := Lib.hid hln
          clear hln htk
          go_wp2_with (with_reducible refine stop (N := 66) rfl ?_)
          refine Stop.go ?_
          refine wp_bytesRd rfl _ _ _ rfl Tryz.underlying9 Tryz.underlying22 Tryz.underlying5 rfl (by have : (⟨#[13, 10]⟩ : ByteArray).size = 2 := rfl; simp; omega) ?_
          intro W2 c hrd hsW
          have hb : (S ++ ⟨#[13, 10]⟩ : ByteArray).data.toList = lineRq q ++ [13, 10] ++ linesF (flS xs) ++ [13, 10] := by rw [← HS.out]; simp
          rw [hb] at hrd
          obtain ⟨z, hz⟩ : ∃ z, z = (S ++ ⟨#[13, 10]⟩ : ByteArray).size := ⟨_, rfl⟩
          have hz2 : z = S.size + 2 := by rw [hz]; simp; rfl
          rw [← hz] at hrd ⊢
          have HSW := Lib.hid (HST.out.trans hsW)
          have HBQ := Lib.hid (hsW.blk hBQ.out id)
          have HRD := Lib.hid hrd
          replace HM := Lib.hid (HM.out.step HSW.out)
          clear hrd hsW hz
          have hqm : q.m = m.data.toList := by rw [HQQ.out]
          have hqt : q.t = t.data.toList := by rw [HQQ.out]
          have hts : t.size ≤ 8000 := by
            obtain ⟨-, -, -, h⟩ := wrong_parts HOK.out.2
            rw [hqt, size_list] at h
            exact h
          have hftx := HF.out.tx hostL
          have cO := fun W hW hE => of_any M (.slice A xs.length cp) xs m t n W (HX.out.stp0 hW) (by omega) (by omega) (by omega) hE
          have hol : (ofS m.data.toList t.data.toList (flS xs)).1.length ≤ 1000000 + 200 := ofS_len _ _ _ _ (by omega) (by rw [size_list]; omega)
          obtain ⟨o, ho⟩ : ∃ o, o = ofS m.data.toList t.data.toList (flS xs) := ⟨_, rfl⟩
          unfold HpP at cO
          rw [← ho] at cO hol
          obtain ⟨h0, p0, e0⟩ := o
          obtain ⟨H0, hH0⟩ : ∃ H, H = strB h0 := ⟨_, rfl⟩
          have hH0d : H0.data.toList = h0 := by rw [hH0]; simp [strB]
          have hH0s : H0.size < 4294967280 := by rw [hH0, strB_size]; simp only at hol; omega
          simp only [← hH0] at cO
          have cN := fun W hE => norm_any H0 W hH0s hE
          rw [hH0d] at cN
          obtain ⟨r, hr⟩ : ∃ r, r = normN h0 := ⟨_, rfl⟩
          unfold NormP at cN
          rw [← hr] at cN
          obtain ⟨n1, e1⟩ := r
          obtain ⟨N1, hN1⟩ : ∃ H, H = strB n1 := ⟨_, rfl⟩
          simp only [← hN1] at cN
          have HJ : Hid (judgeH q (flS xs) = if e0 ≠ 0 then .bad e0 else if e1 ≠ 0 then .bad e1 else ⟨1, 0, n1, p0⟩) := Lib.hid (by
            unfold judgeH
            rw [hqm, hqt, ← ho]
            simp only
            rw [← hr])
          have HN1 := Lib.hid hN1
          have hnn : (N1.toList == N1.toList) = true := by simp
          have hzz : (S ++ ⟨#[13, 10]⟩ : ByteArray).size = z := by rw [hz2]; simp; rfl
          obtain ⟨u, hu⟩ : ∃ u, (lineRq q ++ [13, 10] ++ linesF (flS xs)).length + 2 = u := ⟨_, rfl⟩
          have hnum : IntKind.i64.wrap ((S.size : Int) + 2) = (u : Int) := by
            rw [IntWalk.i64_in _ (by omega), ← hu, ← HS.out, size_list]
            omega
          clear hqm hqt hts hftx hol ho hH0 hH0d hr hN1
          by_cases h0e : e0 = 0
          · subst h0e
            by_cases h1e : e1 = 0
            · subst h1e
              have cA : Calls Tryz.prog 11 #[.slice (some ⟨wr.heap.size, 0, none⟩) z c] W2 fun e w' => e = .returned (.agg #[.int .i64 1, .int .i64 2, .int .i64 (u : Int), .int .i64 0, .string N1, .int .i64 p0, .bool false, .string ⟨#[]⟩, .slice none 0 0, .slice none 0 0, .bool false]) ∧ Stp (fun _ => False) W2 w' := by
                have h := pall_any (fun _ => False) (.slice (some ⟨wr.heap.size, 0, none⟩) z c) _ W2 HRD.out (by rw [← hb, size_list, hzz, hz2]; omega) HM.out
                unfold AllP at h
                rw [HLN.out, hu, show judgeH q (flS xs) = ⟨1, 0, n1, p0⟩ by rw [HJ.out, if_neg (by decide), if_neg (by decide)]] at h
                rw [HN1.out]
                exact h
              clear hb hz2 hzz hu
              have HS0 := Lib.hid (Stp.refl (fun _ => False) W2)
              go_wp2_with (go_at_call 11; refine stopc ?_)
              refine Stop.go ?_
              refine (cA).mono ?_
              rintro e w1 ⟨he, hs1⟩
              subst he
              have HS1 := Lib.hid (HS0.out.trans hs1)
              replace HBQ := Lib.hid (hs1.blk HBQ.out id)
              clear hs1
              have kQ0 : w1.cell? ⟨w.heap.size, 0, none⟩ = some (.string m) := blk_cell (j := 0) HBQ.out
              have kQ1 : w1.cell? ⟨w.heap.size, 1, none⟩ = some (.string t) := blk_cell (j := 1) HBQ.out
              have kQ2 : w1.cell? ⟨w.heap.size, 2, none⟩ = some (.int .i64 n) := blk_cell (j := 2) HBQ.out
              have ltQ := blk_lt HBQ.out
              go_wp2_with (go_at_call 17; refine stopc ?_)
              refine Stop.go ?_
              refine (cO _ (HSW.out.trans ((HS1.out.alloc _))) (HM.out.step (HS1.out.alloc _))).mono ?_
              rintro e w2 ⟨he, hs2⟩
              subst he
              have HS2 := Lib.hid ((HS1.out.alloc _).trans hs2)
              replace HBQ := Lib.hid (hs2.blk (((Stp.refl (fun _ => False) _).alloc _).blk HBQ.out id) id)
              have HBV := Lib.hid (show w2.heap[w1.heap.size]? = some (.cells #[.int .i64 1, .int .i64 2, .int .i64 (u : Int), .int .i64 0, .string N1, .int .i64 p0, .bool false, .string ⟨#[]⟩, .slice none 0 0, .slice none 0 0, .bool false] 31 (0, 0)) from hs2.blk (heap_alloc_new w1 _) id)
              clear hs2 kQ0 kQ1 kQ2 ltQ
              have kQ0 : w2.cell? ⟨w.heap.size, 0, none⟩ = some (.string m) := blk_cell (j := 0) HBQ.out
              have kQ1 : w2.cell? ⟨w.heap.size, 1, none⟩ = some (.string t) := blk_cell (j := 1) HBQ.out
              have kQ2 : w2.cell? ⟨w.heap.size, 2, none⟩ = some (.int .i64 n) := blk_cell (j := 2) HBQ.out
              have ltQ := blk_lt HBQ.out
              have kV0 : w2.cell? ⟨w1.heap.size, 0, none⟩ = some (.int .i64 1) := blk_cell (j := 0) HBV.out
              have kV1 : w2.cell? ⟨w1.heap.size, 1, none⟩ = some (.int .i64 2) := blk_cell (j := 1) HBV.out
              have kV2 : w2.cell? ⟨w1.heap.size, 2, none⟩ = some (.int .i64 (u : Int)) := blk_cell (j := 2) HBV.out
              have kV3 : w2.cell? ⟨w1.heap.size, 3, none⟩ = some (.int .i64 0) := blk_cell (j := 3) HBV.out
              have kV4 : w2.cell? ⟨w1.heap.size, 4, none⟩ = some (.string N1) := blk_cell (j := 4) HBV.out
              have kV5 : w2.cell? ⟨w1.heap.size, 5, none⟩ = some (.int .i64 p0) := blk_cell (j := 5) HBV.out
              have kV6 : w2.cell? ⟨w1.heap.size, 6, none⟩ = some (.bool false) := blk_cell (j := 6) HBV.out
              have kV7 : w2.cell? ⟨w1.heap.size, 7, none⟩ = some (.string ⟨#[]⟩) := blk_cell (j := 7) HBV.out
              have kV8 : w2.cell? ⟨w1.heap.size, 8, none⟩ = some (.slice none 0 0) := blk_cell (j := 8) HBV.out
              have kV9 : w2.cell? ⟨w1.heap.size, 9, none⟩ = some (.slice none 0 0) := blk_cell (j := 9) HBV.out
              have kV10 : w2.cell? ⟨w1.heap.size, 10, none⟩ = some (.bool false) := blk_cell (j := 10) HBV.out
              have ltV := blk_lt HBV.out
              go_wp2_with (go_at_call 18; refine stopc ?_)
              refine Stop.go ?_
              refine (cN _ (HM.out.step HS2.out)).mono ?_
              rintro e w3 ⟨he, hs3⟩
              subst he
              have HS3 := Lib.hid (HS2.out.trans hs3)
              replace HBQ := Lib.hid (hs3.blk HBQ.out id)
              replace HBV := Lib.hid (hs3.blk HBV.out id)
              clear hs3 kQ0 kQ1 kQ2 ltQ kV0 kV1 kV2 kV3 kV4 kV5 kV6 kV7 kV8 kV9 kV10 ltV
              have kQ0 : w3.cell? ⟨w.heap.size, 0, none⟩ = some (.string m) := blk_cell (j := 0) HBQ.out
              have kQ1 : w3.cell? ⟨w.heap.size, 1, none⟩ = some (.string t) := blk_cell (j := 1) HBQ.out
              have kQ2 : w3.cell? ⟨w.heap.size, 2, none⟩ = some (.int .i64 n) := blk_cell (j := 2) HBQ.out
              have ltQ := blk_lt HBQ.out
              have kV0 : w3.cell? ⟨w1.heap.size, 0, none⟩ = some (.int .i64 1) := blk_cell (j := 0) HBV.out
              have kV1 : w3.cell? ⟨w1.heap.size, 1, none⟩ = some (.int .i64 2) := blk_cell (j := 1) HBV.out
              have kV2 : w3.cell? ⟨w1.heap.size, 2, none⟩ = some (.int .i64 (u : Int)) := blk_cell (j := 2) HBV.out
              have kV3 : w3.cell? ⟨w1.heap.size, 3, none⟩ = some (.int .i64 0) := blk_cell (j := 3) HBV.out
              have kV4 : w3.cell? ⟨w1.heap.size, 4, none⟩ = some (.string N1) := blk_cell (j := 4) HBV.out
              have kV5 : w3.cell? ⟨w1.heap.size, 5, none⟩ = some (.int .i64 p0) := blk_cell (j := 5) HBV.out
              have kV6 : w3.cell? ⟨w1.heap.size, 6, none⟩ = some (.bool false) := blk_cell (j := 6) HBV.out
              have kV7 : w3.cell? ⟨w1.heap.size, 7, none⟩ = some (.string ⟨#[]⟩) := blk_cell (j := 7) HBV.out
              have kV8 : w3.cell? ⟨w1.heap.size, 8, none⟩ = some (.slice none 0 0) := blk_cell (j := 8) HBV.out
              have kV9 : w3.cell? ⟨w1.heap.size, 9, none⟩ = some (.slice none 0 0) := blk_cell (j := 9) HBV.out
              have kV10 : w3.cell? ⟨w1.heap.size, 10, none⟩ = some (.bool false) := blk_cell (j := 10) HBV.out
              have ltV := blk_lt HBV.out
              go_wp2
              rw [HR.out]
              exact ⟨rfl, HSW.out.trans (HS3.out)⟩
            · have hne : (e1 != 0) = true := by simpa using h1e
              have hee : (e1 == e1) = true := by simp
              have HE := Lib.hid h1e
              clear h1e
              have cA : Calls Tryz.prog 11 #[.slice (some ⟨wr.heap.size, 0, none⟩) z c] W2 fun e w' => e = .returned (.agg #[.int .i64 2, .int .i64 2, .int .i64 (u : Int), .int .i64 e1, .string ⟨#[]⟩, .int .i64 0, .bool false, .string ⟨#[]⟩, .slice none 0 0, .slice none 0 0, .bool false]) ∧ Stp (fun _ => False) W2 w' := by
                have h := pall_any (fun _ => False) (.slice (some ⟨wr.heap.size, 0, none⟩) z c) _ W2 HRD.out (by rw [← hb, size_list, hzz, hz2]; omega) HM.out
                unfold AllP at h
                rw [HLN.out, hu, show judgeH q (flS xs) = .bad e1 by rw [HJ.out, if_neg (by decide), if_pos HE.out]] at h
                exact h
              clear hb hz2 hzz hu
              have HS0 := Lib.hid (Stp.refl (fun _ => False) W2)
              go_wp2_with (go_at_call 11; refine stopc ?_)
              refine Stop.go ?_
              refine (cA).mono ?_
              rintro e w1 ⟨he, hs1⟩
              subst he
              have HS1 := Lib.hid (HS0.out.trans hs1)
              replace HBQ := Lib.hid (hs1.blk HBQ.out id)
              clear hs1
              have kQ0 : w1.cell? ⟨w.heap.size, 0, none⟩ = some (.string m) := blk_cell (j := 0) HBQ.out
              have kQ1 : w1.cell? ⟨w.heap.size, 1, none⟩ = some (.string t) := blk_cell (j := 1) HBQ.out
              have kQ2 : w1.cell? ⟨w.heap.size, 2, none⟩ = some (.int .i64 n) := blk_cell (j := 2) HBQ.out
              have ltQ := blk_lt HBQ.out
              go_wp2_with (go_at_call 17; refine stopc ?_)
              refine Stop.go ?_
              refine (cO _ (HSW.out.trans ((HS1.out.alloc _))) (HM.out.step (HS1.out.alloc _))).mono ?_
              rintro e w2 ⟨he, hs2⟩
              subst he
              have HS2 := Lib.hid ((HS1.out.alloc _).trans hs2)
              replace HBQ := Lib.hid (hs2.blk (((Stp.refl (fun _ => False) _).alloc _).blk HBQ.out id) id)
              have HBV := Lib.hid (show w2.heap[w1.heap.size]? = some (.cells #[.int .i64 2, .int .i64 2, .int .i64 (u : Int), .int .i64 e1, .string ⟨#[]⟩, .int .i64 0, .bool false, .string ⟨#[]⟩, .slice none 0 0, .slice none 0 0, .bool false] 31 (0, 0)) from hs2.blk (heap_alloc_new w1 _) id)
              clear hs2 kQ0 kQ1 kQ2 ltQ
              have kQ0 : w2.cell? ⟨w.heap.size, 0, none⟩ = some (.string m) := blk_cell (j := 0) HBQ.out
              have kQ1 : w2.cell? ⟨w.heap.size, 1, none⟩ = some (.string t) := blk_cell (j := 1) HBQ.out
              have kQ2 : w2.cell? ⟨w.heap.size, 2, none⟩ = some (.int .i64 n) := blk_cell (j := 2) HBQ.out
              have ltQ := blk_lt HBQ.out
              have kV0 : w2.cell? ⟨w1.heap.size, 0, none⟩ = some (.int .i64 2) := blk_cell (j := 0) HBV.out
              have kV1 : w2.cell? ⟨w1.heap.size, 1, none⟩ = some (.int .i64 2) := blk_cell (j := 1) HBV.out
              have kV2 : w2.cell? ⟨w1.heap.size, 2, none⟩ = some (.int .i64 (u : Int)) := blk_cell (j := 2) HBV.out
              have kV3 : w2.cell? ⟨w1.heap.size, 3, none⟩ = some (.int .i64 e1) := blk_cell (j := 3) HBV.out
              have kV4 : w2.cell? ⟨w1.heap.size, 4, none⟩ = some (.string ⟨#[]⟩) := blk_cell (j := 4) HBV.out
              have kV5 : w2.cell? ⟨w1.heap.size, 5, none⟩ = some (.int .i64 0) := blk_cell (j := 5) HBV.out
              have kV6 : w2.cell? ⟨w1.heap.size, 6, none⟩ = some (.bool false) := blk_cell (j := 6) HBV.out
              have kV7 : w2.cell? ⟨w1.heap.size, 7, none⟩ = some (.string ⟨#[]⟩) := blk_cell (j := 7) HBV.out
              have kV8 : w2.cell? ⟨w1.heap.size, 8, none⟩ = some (.slice none 0 0) := blk_cell (j := 8) HBV.out
              have kV9 : w2.cell? ⟨w1.heap.size, 9, none⟩ = some (.slice none 0 0) := blk_cell (j := 9) HBV.out
              have kV10 : w2.cell? ⟨w1.heap.size, 10, none⟩ = some (.bool false) := blk_cell (j := 10) HBV.out
              have ltV := blk_lt HBV.out
              go_wp2_with (go_at_call 18; refine stopc ?_)
              refine Stop.go ?_
              refine (cN _ (HM.out.step HS2.out)).mono ?_
              rintro e w3 ⟨he, hs3⟩
              subst he
              have HS3 := Lib.hid (HS2.out.trans hs3)
              replace HBQ := Lib.hid (hs3.blk HBQ.out id)
              replace HBV := Lib.hid (hs3.blk HBV.out id)
              clear hs3 kQ0 kQ1 kQ2 ltQ kV0 kV1 kV2 kV3 kV4 kV5 kV6 kV7 kV8 kV9 kV10 ltV
              have kQ0 : w3.cell? ⟨w.heap.size, 0, none⟩ = some (.string m) := blk_cell (j := 0) HBQ.out
              have kQ1 : w3.cell? ⟨w.heap.size, 1, none⟩ = some (.string t) := blk_cell (j := 1) HBQ.out
              have kQ2 : w3.cell? ⟨w.heap.size, 2, none⟩ = some (.int .i64 n) := blk_cell (j := 2) HBQ.out
              have ltQ := blk_lt HBQ.out
              have kV0 : w3.cell? ⟨w1.heap.size, 0, none⟩ = some (.int .i64 2) := blk_cell (j := 0) HBV.out
              have kV1 : w3.cell? ⟨w1.heap.size, 1, none⟩ = some (.int .i64 2) := blk_cell (j := 1) HBV.out
              have kV2 : w3.cell? ⟨w1.heap.size, 2, none⟩ = some (.int .i64 (u : Int)) := blk_cell (j := 2) HBV.out
              have kV3 : w3.cell? ⟨w1.heap.size, 3, none⟩ = some (.int .i64 e1) := blk_cell (j := 3) HBV.out
              have kV4 : w3.cell? ⟨w1.heap.size, 4, none⟩ = some (.string ⟨#[]⟩) := blk_cell (j := 4) HBV.out
              have kV5 : w3.cell? ⟨w1.heap.size, 5, none⟩ = some (.int .i64 0) := blk_cell (j := 5) HBV.out
              have kV6 : w3.cell? ⟨w1.heap.size, 6, none⟩ = some (.bool false) := blk_cell (j := 6) HBV.out
              have kV7 : w3.cell? ⟨w1.heap.size, 7, none⟩ = some (.string ⟨#[]⟩) := blk_cell (j := 7) HBV.out
              have kV8 : w3.cell? ⟨w1.heap.size, 8, none⟩ = some (.slice none 0 0) := blk_cell (j := 8) HBV.out
              have kV9 : w3.cell? ⟨w1.heap.size, 9, none⟩ = some (.slice none 0 0) := blk_cell (j := 9) HBV.out
              have kV10 : w3.cell? ⟨w1.heap.size, 10, none⟩ = some (.bool false) := blk_cell (j := 10) HBV.out
              have ltV := blk_lt HBV.out
              go_wp2
              rw [HR.out]
              exact ⟨rfl, HSW.out.trans (HS3.out)⟩
          · have hne : (e0 != 0) = true := by simpa using h0e
            have hee : (e0 == e0) = true := by simp
            have HE := Lib.hid h0e
            clear h0e
            skip
            have cA : Calls Tryz.prog 11 #[.slice (some ⟨wr.heap.size, 0, none⟩) z c] W2 fun e w' => e = .returned (.agg #[.int .i64 2, .int .i64 2, .int .i64 (u : Int), .int .i64 e0, .string ⟨#[]⟩, .int .i64 0, .bool false, .string ⟨#[]⟩, .slice none 0 0, .slice none 0 0, .bool false]) ∧ Stp (fun _ => False) W2 w' := by
              have h := pall_any (fun _ => False) (.slice (some ⟨wr.heap.size, 0, none⟩) z c) _ W2 HRD.out (by rw [← hb, size_list, hzz, hz2]; omega) HM.out
              unfold AllP at h
              rw [HLN.out, hu, show judgeH q (flS xs) = .bad e0 by rw [HJ.out, if_pos HE.out]] at h
              exact h
            clear hb hz2 hzz hu
            have HS0 := Lib.hid (Stp.refl (fun _ => False) W2)
            go_wp2_with (go_at_call 11; refine stopc ?_)
            refine Stop.go ?_
            refine (cA).mono ?_
            rintro e w1 ⟨he, hs1⟩
            subst he
            have HS1 := Lib.hid (HS0.out.trans hs1)
            replace HBQ := Lib.hid (hs1.blk HBQ.out id)
            clear hs1
            have kQ0 : w1.cell? ⟨w.heap.size, 0, none⟩ = some (.string m) := blk_cell (j := 0) HBQ.out
            have kQ1 : w1.cell? ⟨w.heap.size, 1, none⟩ = some (.string t) := blk_cell (j := 1) HBQ.out
            have kQ2 : w1.cell? ⟨w.heap.size, 2, none⟩ = some (.int .i64 n) := blk_cell (j := 2) HBQ.out
            have ltQ := blk_lt HBQ.out
            go_wp2_with (go_at_call 17; refine stopc ?_)
            refine Stop.go ?_
            refine (cO _ (HSW.out.trans ((HS1.out.alloc _))) (HM.out.step (HS1.out.alloc _))).mono ?_
            rintro e w2 ⟨he, hs2⟩
            subst he
            have HS2 := Lib.hid ((HS1.out.alloc _).trans hs2)
            replace HBQ := Lib.hid (hs2.blk (((Stp.refl (fun _ => False) _).alloc _).blk HBQ.out id) id)
            have HBV := Lib.hid (show w2.heap[w1.heap.size]? = some (.cells #[.int .i64 2, .int .i64 2, .int .i64 (u : Int), .int .i64 e0, .string ⟨#[]⟩, .int .i64 0, .bool false, .string ⟨#[]⟩, .slice none 0 0, .slice none 0 0, .bool false] 31 (0, 0)) from hs2.blk (heap_alloc_new w1 _) id)
            clear hs2 kQ0 kQ1 kQ2 ltQ
            have kQ0 : w2.cell? ⟨w.heap.size, 0, none⟩ = some (.string m) := blk_cell (j := 0) HBQ.out
            have kQ1 : w2.cell? ⟨w.heap.size, 1, none⟩ = some (.string t) := blk_cell (j := 1) HBQ.out
            have kQ2 : w2.cell? ⟨w.heap.size, 2, none⟩ = some (.int .i64 n) := blk_cell (j := 2) HBQ.out
            have ltQ := blk_lt HBQ.out
            have kV0 : w2.cell? ⟨w1.heap.size, 0, none⟩ = some (.int .i64 2) := blk_cell (j := 0) HBV.out
            have kV1 : w2.cell? ⟨w1.heap.size, 1, none⟩ = some (.int .i64 2) := blk_cell (j := 1) HBV.out
            have kV2 : w2.cell? ⟨w1.heap.size, 2, none⟩ = some (.int .i64 (u : Int)) := blk_cell (j := 2) HBV.out
            have kV3 : w2.cell? ⟨w1.heap.size, 3, none⟩ = some (.int .i64 e0) := blk_cell (j := 3) HBV.out
            have kV4 : w2.cell? ⟨w1.heap.size, 4, none⟩ = some (.string ⟨#[]⟩) := blk_cell (j := 4) HBV.out
            have kV5 : w2.cell? ⟨w1.heap.size, 5, none⟩ = some (.int .i64 0) := blk_cell (j := 5) HBV.out
            have kV6 : w2.cell? ⟨w1.heap.size, 6, none⟩ = some (.bool false) := blk_cell (j := 6) HBV.out
            have kV7 : w2.cell? ⟨w1.heap.size, 7, none⟩ = some (.string ⟨#[]⟩) := blk_cell (j := 7) HBV.out
            have kV8 : w2.cell? ⟨w1.heap.size, 8, none⟩ = some (.slice none 0 0) := blk_cell (j := 8) HBV.out
            have kV9 : w2.cell? ⟨w1.heap.size, 9, none⟩ = some (.slice none 0 0) := blk_cell (j := 9) HBV.out
            have kV10 : w2.cell? ⟨w1.heap.size, 10, none⟩ = some (.bool false) := blk_cell (j := 10) HBV.out
            have ltV := blk_lt HBV.out
            go_wp2_with (go_at_call 18; refine stopc ?_)
            refine Stop.go ?_
            refine (cN _ (HM.out.step HS2.out)).mono ?_
            rintro e w3 ⟨he, hs3⟩
            subst he
            have HS3 := Lib.hid (HS2.out.trans hs3)
            replace HBQ := Lib.hid (hs3.blk HBQ.out id)
            replace HBV := Lib.hid (hs3.blk HBV.out id)
            clear hs3 kQ0 kQ1 kQ2 ltQ kV0 kV1 kV2 kV3 kV4 kV5 kV6 kV7 kV8 kV9 kV10 ltV
            have kQ0 : w3.cell? ⟨w.heap.size, 0, none⟩ = some (.string m) := blk_cell (j := 0) HBQ.out
            have kQ1 : w3.cell? ⟨w.heap.size, 1, none⟩ = some (.string t) := blk_cell (j := 1) HBQ.out
            have kQ2 : w3.cell? ⟨w.heap.size, 2, none⟩ = some (.int .i64 n) := blk_cell (j := 2) HBQ.out
            have ltQ := blk_lt HBQ.out
            have kV0 : w3.cell? ⟨w1.heap.size, 0, none⟩ = some (.int .i64 2) := blk_cell (j := 0) HBV.out
            have kV1 : w3.cell? ⟨w1.heap.size, 1, none⟩ = some (.int .i64 2) := blk_cell (j := 1) HBV.out
            have kV2 : w3.cell? ⟨w1.heap.size, 2, none⟩ = some (.int .i64 (u : Int)) := blk_cell (j := 2) HBV.out
            have kV3 : w3.cell? ⟨w1.heap.size, 3, none⟩ = some (.int .i64 e0) := blk_cell (j := 3) HBV.out
            have kV4 : w3.cell? ⟨w1.heap.size, 4, none⟩ = some (.string ⟨#[]⟩) := blk_cell (j := 4) HBV.out
            have kV5 : w3.cell? ⟨w1.heap.size, 5, none⟩ = some (.int .i64 0) := blk_cell (j := 5) HBV.out
            have kV6 : w3.cell? ⟨w1.heap.size, 6, none⟩ = some (.bool false) := blk_cell (j := 6) HBV.out
            have kV7 : w3.cell? ⟨w1.heap.size, 7, none⟩ = some (.string ⟨#[]⟩) := blk_cell (j := 7) HBV.out
            have kV8 : w3.cell? ⟨w1.heap.size, 8, none⟩ = some (.slice none 0 0) := blk_cell (j := 8) HBV.out
            have kV9 : w3.cell? ⟨w1.heap.size, 9, none⟩ = some (.slice none 0 0) := blk_cell (j := 9) HBV.out
            have kV10 : w3.cell? ⟨w1.heap.size, 10, none⟩ = some (.bool false) := blk_cell (j := 10) HBV.out
            have ltV := blk_lt HBV.out
            go_wp2
            rw [HR.out]
            exact ⟨rfl, HSW.out.trans (HS3.out)⟩
    · have key : (decide ((2000 : Int) < (L0.size : Int)) = true) ∨ (decide ((2000 : Int) < (L0.size : Int)) = false ∧ decide ((100 : Int) < (xs.length : Int)) = true) := by
        simp only [decide_eq_true_eq, decide_eq_false_iff_not]
        omega
      clear hbig
      rcases key with h1 | ⟨h1, h2⟩
      all_goals
        have HS0 := Lib.hid (Stp.refl (fun _ => False) w)
        go_enter Tryz.func7, Tryz.ntmps7
        go_wp2_with (go_at_call 9; refine stopc ?_)
        refine Stop.go ?_
        refine (small16_any _ (HM.out.step (HS0.out.alloc _))).mono ?_
        rintro e w1 ⟨he, hs1⟩
        subst he
        have HS1 := Lib.hid ((HS0.out.alloc _).trans hs1)
        have HBQ := Lib.hid (show w1.heap[w.heap.size]? = some (.cells #[.string m, .string t, .int .i64 n] 40 (0, 0)) from hs1.blk (heap_alloc_new w _) id)
        clear hs1
        have kQ0 : w1.cell? ⟨w.heap.size, 0, none⟩ = some (.string m) := blk_cell (j := 0) HBQ.out
        have kQ1 : w1.cell? ⟨w.heap.size, 1, none⟩ = some (.string t) := blk_cell (j := 1) HBQ.out
        have kQ2 : w1.cell? ⟨w.heap.size, 2, none⟩ = some (.int .i64 n) := blk_cell (j := 2) HBQ.out
        have ltQ := blk_lt HBQ.out
        go_wp2_with (go_at_call 15; refine stopc ?_)
        refine Stop.go ?_
        refine (cP _).mono ?_
        rintro e w2 ⟨he, hs2⟩
        subst he
        have HS2 := Lib.hid (HS1.out.trans hs2)
        replace HBQ := Lib.hid (hs2.blk HBQ.out id)
        clear hs2 kQ0 kQ1 kQ2 ltQ
        have kQ0 : w2.cell? ⟨w.heap.size, 0, none⟩ = some (.string m) := blk_cell (j := 0) HBQ.out
        have kQ1 : w2.cell? ⟨w.heap.size, 1, none⟩ = some (.string t) := blk_cell (j := 1) HBQ.out
        have kQ2 : w2.cell? ⟨w.heap.size, 2, none⟩ = some (.int .i64 n) := blk_cell (j := 2) HBQ.out
        have ltQ := blk_lt HBQ.out
        go_wp2
        rw [HR.out]
        exact ⟨rfl, HS2.out⟩
  · have hpr : printRq q = ([], false) := if_neg hok
    rw [hpr] at cP
    clear hpr hok
    have HS0 := Lib.hid (Stp.refl (fun _ => False) w)
    go_enter Tryz.func7, Tryz.ntmps7
    go_wp2_with (go_at_call 9; refine stopc ?_)
    refine Stop.go ?_
    refine (small16_any _ (HM.out.step (HS0.out.alloc _))).mono ?_
    rintro e w1 ⟨he, hs1⟩
    subst he
    have HS1 := Lib.hid ((HS0.out.alloc _).trans hs1)
    have HBQ := Lib.hid (show w1.heap[w.heap.size]? = some (.cells #[.string m, .string t, .int .i64 n] 40 (0, 0)) from hs1.blk (heap_alloc_new w _) id)
    clear hs1
    have kQ0 : w1.cell? ⟨w.heap.size, 0, none⟩ = some (.string m) := blk_cell (j := 0) HBQ.out
    have kQ1 : w1.cell? ⟨w.heap.size, 1, none⟩ = some (.string t) := blk_cell (j := 1) HBQ.out
    have kQ2 : w1.cell? ⟨w.heap.size, 2, none⟩ = some (.int .i64 n) := blk_cell (j := 2) HBQ.out
    have ltQ := blk_lt HBQ.out
    go_wp2_with (go_at_call 15; refine stopc ?_)
    refine Stop.go ?_
    refine (cP _).mono ?_
    rintro e w2 ⟨he, hs2⟩
    subst he
    have HS2 := Lib.hid (HS1.out.trans hs2)
    replace HBQ := Lib.hid (hs2.blk HBQ.out id)
    clear hs2 kQ0 kQ1 kQ2 ltQ
    have kQ0 : w2.cell? ⟨w.heap.size, 0, none⟩ = some (.string m) := blk_cell (j := 0) HBQ.out
    have kQ1 : w2.cell? ⟨w.heap.size, 1, none⟩ = some (.string t) := blk_cell (j := 1) HBQ.out
    have kQ2 : w2.cell? ⟨w.heap.size, 2, none⟩ = some (.int .i64 n) := blk_cell (j := 2) HBQ.out
    have ltQ := blk_lt HBQ.out
    go_wp2
    rw [HR.out]
    exact ⟨rfl, HS2.out⟩
end Go.Proofs.YtgjmaifgkgejgaaGreatDoor.L
