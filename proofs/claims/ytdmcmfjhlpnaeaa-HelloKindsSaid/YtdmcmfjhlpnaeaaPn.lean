/- What is laid is parsed as it was; bytes of which some are missing, or behind which more stands: plain laws. -/
import Derived.Test.YtdmcmfjhlpnaeaaPm
set_option linter.unusedVariables false
set_option linter.unusedSimpArgs false
namespace Go.Proofs.Ytdmcmfjhlpnaeaa.L
open Go.RowKit Go.Proofs

/-- The parts ahead of the extensions are read as they were laid. -/
theorem rds (h : Hl) (t : List UInt8) (hv : 0 ≤ h.ver ∧ h.ver ≤ 65535) (hr : h.rnd.length = 32) (h1 : h.ses.length < 256) (h2 : (flatN h.cip).length < 65536) (h3 : h.met.length < 256) :
    (rd1 (layA h ++ t)).1 = h.ver ∧ (rd2 (layA h ++ t)).1 = h.rnd ∧ (rd3 (layA h ++ t)).1 = h.ses ∧ (rd4 (layA h ++ t)).1 = flatN h.cip ∧ rd5 (layA h ++ t) = (h.met, (t, false)) := by
  obtain ⟨n, hn⟩ : ∃ n : Nat, h.ver = (n : Int) := ⟨h.ver.toNat, by omega⟩
  obtain ⟨R5, e5⟩ : ∃ R, R = be (h.met.length : Nat) (clampN 1) ++ h.met ++ t := ⟨_, rfl⟩
  obtain ⟨R4, e4⟩ : ∃ R, R = be ((flatN h.cip).length : Nat) (clampN 2) ++ flatN h.cip ++ R5 := ⟨_, rfl⟩
  obtain ⟨R3, e3⟩ : ∃ R, R = be (h.ses.length : Nat) (clampN 1) ++ h.ses ++ R4 := ⟨_, rfl⟩
  have hb : layA h ++ t = be (n : Int) (clampN 2) ++ (h.rnd ++ R3) := by
    rw [layA_eq h h1 h2 h3, e3, e4, e5, hn]
    simp only [List.append_assoc]
    rfl
  have r1 : rd1 (layA h ++ t) = ((n : Int), (h.rnd ++ R3, false)) := by
    unfold rd1
    rw [hb]
    exact rnum_be n 2 _ (by show n < 256 ^ 2; omega)
  have r2 : rd2 (layA h ++ t) = (h.rnd, (R3, false)) := by
    unfold rd2
    rw [r1]
    exact rtake_app _ _ _ (by rw [hr]; rfl)
  have r3 : rd3 (layA h ++ t) = (h.ses, (R4, false)) := by
    unfold rd3
    rw [r2, e3]
    exact rvec_be _ _ 1 h1
  have r4 : rd4 (layA h ++ t) = (flatN h.cip, (R5, false)) := by
    unfold rd4
    rw [r3, e4]
    exact rvec_be _ _ 2 h2
  have r5 : rd5 (layA h ++ t) = (h.met, (t, false)) := by
    unfold rd5
    rw [r4, e5]
    exact rvec_be _ _ 1 h3
  exact ⟨by rw [r1, hn], by rw [r2], by rw [r3], by rw [r4], r5⟩
theorem ok_parts (h : Hl) (ho : okP h = true) : (0 ≤ h.ver ∧ h.ver ≤ 65535) ∧ h.ses.length < 256 ∧ (flatN h.cip).length < 65536 ∧ h.met.length < 256 ∧ 0 < h.cip.length ∧ 0 < h.met.length ∧ h.cip.all twoB = true ∧ h.exs.all extB = true ∧ (flatX h.exs).length < 65536 ∧ wrongS h = 0 ∧ (h.has = true ∨ h.exs = []) := by
  simp only [okP, ok1, Bool.and_eq_true, decide_eq_true_eq, Bool.or_eq_true] at ho
  obtain ⟨⟨⟨⟨⟨⟨⟨⟨⟨a1, a2⟩, a3⟩, a4⟩, a5⟩, a6⟩, a7⟩, a8⟩, a9⟩, a10⟩ := ho
  obtain ⟨-, -, w3, -⟩ := wrong_zero h a5
  simp only [twoB, Bool.and_eq_true, decide_eq_true_eq] at a1
  refine ⟨a1, by omega, by omega, by omega, a2, a3, a7, a8, by omega, a5, ?_⟩
  rcases a6 with a6 | a6
  · exact .inl a6
  · exact .inr (List.eq_nil_of_length_eq_zero a6)
theorem fit_two (l : List Int) (h : l.all twoB = true) : fitV l = true := by simpa [fitV, twoB] using h
theorem laid_lay (h : Hl) (t : List UInt8) (ho : okP h = true) (hr : h.rnd.length = 32) :
    laidS (layA h ++ t) = if t.length = 0 then some { h with has := false, exs := [] } else if okX (layA h ++ t) then some { h with has := true, exs := (extS (rd6 (layA h ++ t)).1).1 } else none := by
  obtain ⟨p1, p2, p3, p4, p5, p6, p7, p8, p9, p10, p11⟩ := ok_parts h ho
  obtain ⟨q1, q2, q3, q4, q5⟩ := rds h t p1 hr p2 p3 p4
  have hF : okF (layA h ++ t) := by
    refine ⟨by rw [q5], ?_, ?_, ?_⟩
    · rw [q4, flatN_len]; omega
    · rw [q4, flatN_len]; omega
    · rw [q5]; simp only; omega
  have hh : hlF (layA h ++ t) = { h with has := false, exs := [] } := by
    unfold hlF
    rw [q1, q2, q3, q4, q5, twos_put _ (fit_two _ p7)]
    unfold rndS
    rw [if_pos hr]
  unfold laidS
  rw [if_pos hF, hh, q5]
theorem rd6_lay (h : Hl) (t : List UInt8) (ho : okP h = true) (hr : h.rnd.length = 32) : rd6 (layA h ++ t) = rvec (t, false) 2 := by
  obtain ⟨p1, p2, p3, p4, p5, p6, p7, p8, p9, p10, p11⟩ := ok_parts h ho
  obtain ⟨q1, q2, q3, q4, q5⟩ := rds h t p1 hr p2 p3 p4
  unfold rd6
  rw [q5]
theorem many_putX (l : List (Int × List UInt8)) (n : Nat) (hn : (flatX l).length ≤ n) (h : l.all extB = true) : many oneX n (flatX l, false) = (l, ([], false)) := by
  induction l generalizing n with
  | nil => exact many_nil _ _ _ rfl
  | cons x l ih =>
    simp only [List.all_cons, Bool.and_eq_true] at h
    obtain ⟨h1, h2⟩ := h
    simp only [extB, twoB, Bool.and_eq_true, decide_eq_true_eq] at h1
    obtain ⟨⟨h3, h4⟩, h5⟩ := h1
    obtain ⟨m, hm⟩ : ∃ m : Nat, x.1 = (m : Int) := ⟨x.1.toNat, by omega⟩
    have e : flatX (x :: l) = be (m : Int) (clampN 2) ++ (be (x.2.length : Nat) (clampN 2) ++ x.2 ++ flatX l) := by
      show xOne x ++ flatX l = _
      rw [xOne_yes x h5, hm]
      simp only [List.append_assoc]
      rfl
    have hl : (flatX (x :: l)).length = 4 + x.2.length + (flatX l).length := by
      rw [e]
      simp only [List.length_append, be_len, show clampN 2 = 2 from rfl]
      omega
    obtain ⟨k, rfl⟩ : ∃ k, n = k + 1 := ⟨n - 1, by omega⟩
    rw [many_cons _ _ _ (by simp only; omega)]
    have h6 : oneX (flatX (x :: l), false) = (x, (flatX l, false)) := by
      unfold oneX
      rw [e, rnum_be m 2 _ (by show m < 256 ^ 2; omega)]
      simp only
      rw [rvec_be x.2 (flatX l) 2 (by show _ < 256 ^ 2; omega), ← hm]
    rw [h6]
    simp only
    rw [ih k (by omega) h2]
theorem parse_lay (h : Hl) (ho : okP h = true) (hr : h.rnd.length = 32) : parseS (layS h) = (h, 0) := by
  obtain ⟨p1, p2, p3, p4, p5, p6, p7, p8, p9, p10, p11⟩ := ok_parts h ho
  have hl : laidS (layS h) = some h := by
    unfold layS
    split
    · rename_i hh
      rw [vecB_yes _ _ 2 p9, laid_lay h _ ho hr, if_neg (by simp [be_len, show clampN 2 = 2 from rfl]), if_pos]
      · rw [rd6_lay h _ ho hr]
        have e := rvec_be (flatX h.exs) [] 2 p9
        rw [List.append_nil] at e
        rw [e]
        unfold extS
        rw [many_putX _ _ (Nat.le_refl _) p8]
        cases h
        simp only at hh
        rw [hh]
      · unfold okX
        rw [rd6_lay h _ ho hr]
        have e := rvec_be (flatX h.exs) [] 2 p9
        rw [List.append_nil] at e
        rw [e]
        refine ⟨rfl, rfl, ?_⟩
        unfold extS
        rw [many_putX _ _ (Nat.le_refl _) p8]
        rfl
    · rename_i hh
      have hh : h.has = false := by simpa using hh
      have he : h.exs = [] := by
        rcases p11 with e | e
        · rw [hh] at e
          cases e
        · exact e
      have e := laid_lay h [] ho hr
      rw [List.append_nil] at e
      rw [e, if_pos (show ([] : List UInt8).length = 0 from rfl)]
      cases h
      simp only at hh he
      rw [hh, he]
  unfold parseS
  rw [hl]
  simp only
  rw [if_pos p10]
theorem parse_ok (b : List UInt8) (h : (parseS b).2 = 0) : ∃ x, parseS b = (x, 0) ∧ okP x = true ∧ layS x = b ∧ x.rnd.length = 32 := by
  unfold parseS at h ⊢
  cases e : laidS b with
  | none =>
    rw [e] at h
    cases h
  | some x =>
    rw [e] at h
    simp only at h ⊢
    split at h
    · rename_i hw
      rw [if_pos hw]
      obtain ⟨h1, h2, h3⟩ := laid_good b x e hw
      exact ⟨x, rfl, h1, h2, h3⟩
    · rename_i hw
      exact absurd h hw
theorem print_eq (h : Hl) (hr : h.rnd.length = 32) : printS h = printH h := by
  unfold printS printH
  by_cases ho : okP h = true
  · rw [if_pos ho, if_pos (parse_lay h ho hr)]
  · rw [if_neg ho, if_neg]
    intro e
    obtain ⟨x, e2, h1, -, -⟩ := parse_ok (layS h) (by rw [e])
    rw [e] at e2
    injection e2 with e2
    rw [e2] at ho
    exact ho h1
theorem print_parse (b : List UInt8) (h : (parseS b).2 = 0) : printH (parseS b).1 = (b, true) := by
  obtain ⟨x, e, h1, h2, -⟩ := parse_ok b h
  rw [e]
  unfold printH
  rw [if_pos h1, h2]
theorem parse_err (b : List UInt8) (h : (parseS b).2 ≠ 0) : (parseS b).1 = hl0 := by
  rcases parse_or b with e | ⟨-, -, e⟩
  · exact e
  · exact absurd e h
theorem print_no (h : Hl) (hn : (printH h).2 = false) : (printH h).1 = [] := by
  unfold printH at hn ⊢
  split
  · rename_i e
    rw [if_pos e] at hn
    cases hn
  · rfl
theorem print_yes (h : Hl) (hr : h.rnd.length = 32) (hy : (printH h).2 = true) : parseS (printH h).1 = (h, 0) := by
  unfold printH at hy ⊢
  split
  · rename_i e
    exact parse_lay h e hr
  · rename_i e
    rw [if_neg e] at hy
    cases hy

/-! ### more, and less -/
theorem rtake_mono (s u : List UInt8) (n : Int) (h : (rtake (s, false) n).2.2 = false) : rtake (s ++ u, false) n = ((rtake (s, false) n).1, ((rtake (s, false) n).2.1 ++ u, false)) := by
  obtain ⟨-, h2, h3⟩ := rtake_good (s, false) n h
  have e : s ++ u = (rtake (s, false) n).1 ++ ((rtake (s, false) n).2.1 ++ u) := by
    rw [← List.append_assoc, ← h2]
  rw [e]
  exact rtake_app _ _ _ h3.symm
theorem rnum_mono (s u : List UInt8) (k : Int) (h : (rnum (s, false) k).2.2 = false) : rnum (s ++ u, false) k = ((rnum (s, false) k).1, ((rnum (s, false) k).2.1 ++ u, false)) := by
  obtain ⟨-, n, h1, h2, h3⟩ := rnum_good (s, false) k h
  have e : s ++ u = be (n : Int) (clampN k) ++ ((rnum (s, false) k).2.1 ++ u) := by
    rw [← List.append_assoc, ← h3]
  rw [e, rnum_be n k _ h2, ← h1]
theorem rvec_mono (s u : List UInt8) (k : Int) (h : (rvec (s, false) k).2.2 = false) : rvec (s ++ u, false) k = ((rvec (s, false) k).1, ((rvec (s, false) k).2.1 ++ u, false)) := by
  obtain ⟨-, h2, h3⟩ := rvec_good (s, false) k h
  have e : s ++ u = be ((rvec (s, false) k).1.length : Nat) (clampN k) ++ (rvec (s, false) k).1 ++ ((rvec (s, false) k).2.1 ++ u) := by
    rw [← List.append_assoc, ← h3]
  rw [e, rvec_be _ _ k h2]
theorem st_false (s : RSt) (h : s.2 = false) : s = (s.1, false) := by rw [← h]
theorem rd5_mono (c u : List UInt8) (h : (rd5 c).2.2 = false) : (rd5 (c ++ u)).2.1 = (rd5 c).2.1 ++ u := by
  have h4 := (rvec_good (rd4 c).2 1 h).1
  have h3 := (rvec_good (rd3 c).2 2 h4).1
  have h2 := (rvec_good (rd2 c).2 1 h3).1
  have h1 := (rtake_good (rd1 c).2 32 h2).1
  have e1 : rd1 (c ++ u) = ((rd1 c).1, ((rd1 c).2.1 ++ u, false)) := rnum_mono c u 2 h1
  have e2 : rd2 (c ++ u) = ((rd2 c).1, ((rd2 c).2.1 ++ u, false)) := by
    have := rtake_mono (rd1 c).2.1 u 32 (by rw [← st_false _ h1]; exact h2)
    rw [← st_false _ h1] at this
    show _ = _
    unfold rd2
    rw [e1]
    exact this
  have e3 : rd3 (c ++ u) = ((rd3 c).1, ((rd3 c).2.1 ++ u, false)) := by
    have := rvec_mono (rd2 c).2.1 u 1 (by rw [← st_false _ h2]; exact h3)
    rw [← st_false _ h2] at this
    show _ = _
    unfold rd3
    rw [e2]
    exact this
  have e4 : rd4 (c ++ u) = ((rd4 c).1, ((rd4 c).2.1 ++ u, false)) := by
    have := rvec_mono (rd3 c).2.1 u 2 (by rw [← st_false _ h3]; exact h4)
    rw [← st_false _ h3] at this
    show _ = _
    unfold rd4
    rw [e3]
    exact this
  have e5 : rd5 (c ++ u) = ((rd5 c).1, ((rd5 c).2.1 ++ u, false)) := by
    have := rvec_mono (rd4 c).2.1 u 1 (by rw [← st_false _ h4]; exact h)
    rw [← st_false _ h4] at this
    show _ = _
    unfold rd5
    rw [e4]
    exact this
  rw [e5]
theorem lay_tail (x : Hl) (ho : okP x = true) : ∃ t, layS x = layA x ++ t ∧ (x.has = false → t = []) ∧ (x.has = true → t = be ((flatX x.exs).length : Nat) (clampN 2) ++ flatX x.exs) := by
  obtain ⟨p1, p2, p3, p4, p5, p6, p7, p8, p9, p10, p11⟩ := ok_parts x ho
  unfold layS
  cases hh : x.has with
  | false => exact ⟨[], by simp, fun _ => rfl, fun e => by cases e⟩
  | true => exact ⟨_, by rw [if_pos rfl, vecB_yes _ _ 2 p9], fun e => (by cases e), fun _ => rfl⟩
theorem parse_more (b more : List UInt8) (h : (parseS b).2 = 0) (hh : (parseS b).1.has = true) (hm : more ≠ []) : (parseS (b ++ more)).2 = 3 := by
  obtain ⟨x, e, ho, hl, hr⟩ := parse_ok b h
  rw [e] at hh
  obtain ⟨p1, p2, p3, p4, p5, p6, p7, p8, p9, p10, p11⟩ := ok_parts x ho
  obtain ⟨t, ht, -, ht2⟩ := lay_tail x ho
  have hn : laidS (b ++ more) = none := by
    rw [← hl, ht, List.append_assoc, laid_lay x _ ho hr, ht2 hh, if_neg (by simp [be_len, show clampN 2 = 2 from rfl]), if_neg]
    unfold okX
    rw [rd6_lay x _ ho hr, rvec_be _ _ 2 p9]
    intro h
    exact hm (List.eq_nil_of_length_eq_zero h.2.1)
  unfold parseS
  rw [hn]
theorem parse_cut (b : List UInt8) (cut : Nat) (h : (parseS b).2 = 0) (hc : cut < b.length) :
    ((parseS (b.take cut)).2 = 0 ∧ (parseS b).1.has = true ∧ (parseS (b.take cut)).1.has = false) ∨ (parseS (b.take cut)).2 = 3 := by
  obtain ⟨x, e, ho, hl, hr⟩ := parse_ok b h
  rw [e]
  obtain ⟨p1, p2, p3, p4, p5, p6, p7, p8, p9, p10, p11⟩ := ok_parts x ho
  obtain ⟨t, ht, ht1, ht2⟩ := lay_tail x ho
  have hb : b = layA x ++ t := by rw [← hl, ht]
  by_cases h1 : cut < (layA x).length
  · right
    have hn : laidS (b.take cut) = none := by
      unfold laidS
      rw [if_neg]
      intro hF
      have hc2 : b.take cut = (layA x).take cut := by rw [hb, List.take_append_of_le_length (by omega)]
      have := rd5_mono (b.take cut) ((layA x).drop cut) hF.1
      rw [hc2, List.take_append_drop] at this
      have q := (rds x [] p1 hr p2 p3 p4).2.2.2.2
      rw [List.append_nil] at q
      rw [q] at this
      have hl := congrArg List.length this
      simp only [List.length_nil, List.length_append, List.length_drop] at hl
      omega
    unfold parseS
    rw [hn]
  · have hc2 : b.take cut = layA x ++ t.take (cut - (layA x).length) := by
      rw [hb, List.take_append, List.take_of_length_le (by omega)]
    have hbl : b.length = (layA x).length + t.length := by rw [hb, List.length_append]
    have hh : x.has = true := by
      cases hx : x.has with
      | true => rfl
      | false =>
        rw [ht1 hx] at hbl
        simp at hbl
        omega
    have hl := laid_lay x (t.take (cut - (layA x).length)) ho hr
    rw [← hc2] at hl
    by_cases h0 : cut - (layA x).length = 0
    · left
      rw [h0, List.take_zero, if_pos (show ([] : List UInt8).length = 0 from rfl)] at hl
      have hw : wrongS { x with has := false, exs := [] } = 0 := by
        obtain ⟨w1, w2, w3, w4, w5⟩ := wrong_zero x p10
        unfold wrongS
        rw [if_neg (by simp only; omega), if_neg (by simp only; omega), if_neg (by simpa using w4), if_neg (by simp [dup])]
      unfold parseS
      rw [hl]
      simp only
      rw [if_pos hw]
      exact ⟨rfl, hh, rfl⟩
    · right
      have hn : laidS (b.take cut) = none := by
        rw [hl, if_neg (by rw [List.length_take]; omega), if_neg]
        unfold okX
        rw [hc2, rd6_lay x _ ho hr, ht2 hh]
        intro h
        have := rvec_cut (flatX x.exs) 2 p9 (cut - (layA x).length) (by
          rw [ht2 hh, List.length_append, be_len] at hbl
          omega)
        rw [this] at h
        cases h.1
      unfold parseS
      rw [hn]
theorem findR_hl {M : Nat → Prop} {W : World} {cs : Array Value} {h : Hl} (hi : IsHl M W cs h) (kind : Int) (hl : h.exs.length ≤ 1000000000) (hM : M W.heap.size → False) :
    Calls Try.prog 57 #[.agg cs, .int .i64 kind] W fun e w' => ∃ v, e = .returned (.tuple #[v, .bool (findS h.exs kind).2]) ∧ Rd u8 M w' v (findS h.exs kind).1 ∧ Stp (fun _ => False) W w' := by
  obtain ⟨vs, vc, vm, vx, e, hr, _, _, _, hx⟩ := hi
  obtain ⟨hs, -, -, -, -, -, h37⟩ := hl_get e hr
  obtain ⟨A, c, rfl, _⟩ := hx.form
  exact findR_any M cs A c h.exs kind W hs (fun _ => h37) hx hl hM
end Go.Proofs.Ytdmcmfjhlpnaeaa.L
