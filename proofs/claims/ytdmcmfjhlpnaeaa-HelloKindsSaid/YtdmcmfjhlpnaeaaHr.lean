/- The document's own Parse. -/
import Derived.Test.YtdmcmfjhlpnaeaaHq
set_option linter.unusedVariables false
set_option linter.unusedSimpArgs false
namespace Go.Proofs.Ytdmcmfjhlpnaeaa.L
open Go.RowKit Go.Proofs

theorem many_x (n : Nat) (s : RSt) (L : Nat) (hs : s.1.length ≤ L) : ∀ x ∈ (many oneX n s).1, x.2.length ≤ L ∧ 0 ≤ x.1 ∧ x.1 ≤ 4294967295 := by
  induction n generalizing s with
  | zero => intro x hx; simp [many] at hx
  | succ n ih =>
    by_cases h0 : s.1.length = 0
    · rw [many_nil _ _ _ h0]
      intro x hx
      cases hx
    · rw [many_cons _ _ _ h0]
      intro x hx
      rcases List.mem_cons.1 hx with rfl | hx
      · refine ⟨?_, ?_, rnum_le s 2⟩
        · have h1 := rvec_len1 (rnum s 2).2 2
          have h2 := rnum_len s 2
          simp only [oneX]
          omega
        · simp only [oneX, rnum]
          omega
      · exact ih _ (by have := oneX_lt s h0; omega) x hx
theorem extS_fit (d : List UInt8) : (extS d).1.length ≤ d.length ∧ ∀ x ∈ (extS d).1, x.2.length ≤ d.length ∧ 0 ≤ x.1 ∧ x.1 ≤ 4294967295 :=
  ⟨many_len _ _ _, many_x _ _ _ (Nat.le_refl _)⟩
theorem rd_lens (b : List UInt8) : (rd1 b).2.1.length ≤ b.length ∧ (rd2 b).2.1.length ≤ b.length ∧ (rd3 b).2.1.length ≤ b.length ∧ (rd4 b).2.1.length ≤ b.length ∧ (rd5 b).2.1.length ≤ b.length ∧
    (rd3 b).1.length ≤ b.length ∧ (rd4 b).1.length ≤ b.length ∧ (rd5 b).1.length ≤ b.length ∧ (rd6 b).1.length ≤ b.length := by
  have h1 : (rd1 b).2.1.length ≤ b.length := rnum_len (b, false) 2
  have h2 : (rd2 b).2.1.length ≤ (rd1 b).2.1.length := rtake_len2 _ _
  have h3 : (rd3 b).2.1.length ≤ (rd2 b).2.1.length := rvec_len _ _
  have h4 : (rd4 b).2.1.length ≤ (rd3 b).2.1.length := rvec_len _ _
  have h5 : (rd5 b).2.1.length ≤ (rd4 b).2.1.length := rvec_len _ _
  have h6 : (rd3 b).1.length ≤ (rd2 b).2.1.length := rvec_len1 _ _
  have h7 : (rd4 b).1.length ≤ (rd3 b).2.1.length := rvec_len1 _ _
  have h8 : (rd5 b).1.length ≤ (rd4 b).2.1.length := rvec_len1 _ _
  have h9 : (rd6 b).1.length ≤ (rd5 b).2.1.length := rvec_len1 _ _
  omega
theorem laid_fit (b : List UInt8) (hl : b.length ≤ 1000000000) : HlFit ((laidS b).getD hl0) ∧ ((laidS b).getD hl0).exs.length ≤ 1000000000 := by
  obtain ⟨-, -, -, -, -, h3, h4, h5, h6⟩ := rd_lens b
  have hv0 : 0 ≤ (rd1 b).1 := by unfold rd1 rnum; simp only; omega
  have hv1 : (rd1 b).1 ≤ 4294967295 := rnum_le _ _
  have h42 := twos_len (rd4 b).1
  obtain ⟨he1, he2⟩ := extS_fit (rd6 b).1
  have k0 : HlFit hl0 := ⟨by simp [hl0], by simp [hl0], by simp [hl0], by simp [hl0], fun x hx => by simp [hl0] at hx, by simp [hl0], fun x hx => by simp [hl0] at hx⟩
  unfold laidS
  split
  · split
    · refine ⟨⟨?_, ?_, ?_, ?_, ?_, ?_, ?_⟩, ?_⟩ <;> simp only [Option.getD_some, hlF] <;> try omega
      all_goals simp
    · split
      · refine ⟨⟨?_, ?_, ?_, ?_, ?_, ?_, ?_⟩, ?_⟩ <;> simp only [Option.getD_some, hlF] <;> try omega
        · intro x hx
          have := (he2 x hx).1
          omega
        · intro x hx
          have := (he2 x hx).2
          simp only [Lit.wf, IntKind.min, IntKind.max, IntKind.signed, IntKind.bits, Bool.and_eq_true, decide_eq_true_eq]
          simp
          omega
      · exact ⟨k0, by simp [hl0]⟩
  · exact ⟨k0, by simp [hl0]⟩

theorem IsHl.one {M : Nat → Prop} {W : World} {cs : Array Value} {h : Hl} (hh : IsHl M W cs h) : cs.all (·.oneCell') = true := by
  obtain ⟨vs, vc, vm, vx, e, -, h1, h2, h3, h4⟩ := hh
  obtain ⟨A1, c1, rfl, _⟩ := h1.form
  obtain ⟨A2, c2, rfl, _⟩ := h2.form
  obtain ⟨A3, c3, rfl, _⟩ := h3.form
  obtain ⟨A4, c4, rfl, _⟩ := h4.form
  have := congrArg List.toArray e
  rw [Array.toArray_toList] at this
  rw [this]
  exact hlV_one rfl rfl rfl rfl
theorem IsHl.info {M : Nat → Prop} {W : World} {cs : Array Value} {h : Hl} (hh : IsHl M W cs h) : (Try.prog.info? 62).map (·.size) = some cs.size := by rw [hh.size]; exact size_hello
theorem IsHl.nil (M : Nat → Prop) (W : World) : IsHl M W (hlV hl0 (.slice none 0 0) (.slice none 0 0) (.slice none 0 0) (.slice none 0 0)).toArray hl0 :=
  ⟨_, _, _, _, rfl, by simp [hl0], Rd.nil _ _ _, Rd.nil _ _ _, Rd.nil _ _ _, Rd.nil _ _ _⟩
theorem hello_row {W : World} {g : Nat} {old : Array Value} (hb : W.heap[g]? = some (.cells old 62 (0, 0))) (cs : Array Value) : (W.setRow g cs).heap[g]? = some (.cells cs 62 (0, 0)) := setRow_heap W g _ _ _ _ hb
theorem parseS_none (b : List UInt8) (h : (laidS b).isSome = false) : parseS b = (hl0, 3) := by
  unfold parseS
  cases e : laidS b with
  | none => rfl
  | some x => rw [e] at h; cases h
theorem parseS_some (b : List UInt8) (h : (laidS b).isSome = true) : parseS b = if wrongS ((laidS b).getD hl0) = 0 then ((laidS b).getD hl0, 0) else (hl0, wrongS ((laidS b).getD hl0)) := by
  unfold parseS
  cases e : laidS b with
  | none => rw [e] at h; cases h
  | some x => rfl

/-- What Parse hands back. -/
def ParseRet (w : World) (b : List UInt8) (e : Ending) (w' : World) : Prop :=
  ∃ cs, e = .returned (.tuple #[.agg cs, .int .i64 (parseS b).2]) ∧ IsHl (fun k => k < w.heap.size) w' cs (parseS b).1 ∧ Stp (fun _ => False) w w'

set_option maxRecDepth 100000 in
set_option maxHeartbeats 8000000 in
theorem parseR_any (Ma : Nat → Prop) (v0 : Value) (b : List UInt8) (w : World) (hd : Rd u8 Ma w v0 b) (hl : b.length ≤ 1000000000) :
    Calls Try.prog 52 #[v0] w (ParseRet w b) := by
  have HFIT := Lib.hid (laid_fit b hl)
  have HD := Lib.hid hd
  have HL := Lib.hid hl
  clear hd hl
  obtain ⟨R, hR⟩ : ∃ R, R = ParseRet w b := ⟨_, rfl⟩
  rw [← hR]
  have HR := Lib.hid hR
  clear hR
  obtain ⟨H, hH⟩ : ∃ H, H = (laidS b).getD hl0 := ⟨_, rfl⟩
  go_enter Try.func52, Try.ntmps52
  go_wp2_with (go_at_call 76; refine stopc ?_)
  refine Stop.go ?_
  have hs0 : Stp (fun _ => False) w (w.alloc (.cells (hlV hl0 (.slice none 0 0) (.slice none 0 0) (.slice none 0 0) (.slice none 0 0)).toArray 62)) := (Stp.refl _ _).alloc _
  have hb0 : HlB (w.alloc (.cells (hlV hl0 (.slice none 0 0) (.slice none 0 0) (.slice none 0 0) (.slice none 0 0)).toArray 62)) w.heap.size hl0 (.slice none 0 0) (.slice none 0 0) (.slice none 0 0) (.slice none 0 0) := ⟨heap_alloc_new w _, by simp [hl0]⟩
  rw [hlV0] at hs0 hb0
  generalize hw0 : w.alloc (.cells _ 62) = w0 at *
  clear hw0
  generalize e0 : w.heap.size = g0 at *
  have hg0 := hb0.lt
  have E0 := Lib.hid e0
  clear e0
  refine (laidR_any _ _ b _ (HD.out.stp0 hs0) HL.out).mono ?_
  unfold LaidRet
  rw [← hH]
  rintro e w1 ⟨cs, rfl, hi1, hs1⟩
  have hb1 := hb0.stp0 hs1
  have hcs := hi1.size
  have hsz1 := hs1.size
  obtain ⟨o, ho⟩ : ∃ o, o = (laidS b).isSome := ⟨_, rfl⟩
  rw [← ho]
  have HS1 := Lib.hid (hs0.trans hs1)
  obtain ⟨w2, hw2⟩ : ∃ w2, w2 = (w1.alloc (.cells (hlV hl0 (.slice none 0 0) (.slice none 0 0) (.slice none 0 0) (.slice none 0 0)).toArray 62)).setRow w1.heap.size cs := ⟨_, rfl⟩
  have hbx := heap_alloc_new w1 (.cells (hlV hl0 (.slice none 0 0) (.slice none 0 0) (.slice none 0 0) (.slice none 0 0)).toArray 62)
  have hb2 : w2.heap[w1.heap.size]? = some (.cells cs 62 (0, 0)) := by rw [hw2]; exact hello_row hbx cs
  have hs2 : Stp (fun _ => False) w1 w2 := by rw [hw2]; exact ((Stp.refl _ _).alloc _).setRow (by omega) _
  rw [hlV0] at hbx hw2
  have HBX := Lib.hid hbx
  have HW2 := Lib.hid hw2.symm
  have HSZ := Lib.hid hi1.info
  have HEQ := Lib.hid (show (hlV hl0 (.slice none 0 0) (.slice none 0 0) (.slice none 0 0) (.slice none 0 0)).toArray.size = cs.size by rw [hcs]; rfl)
  rw [hlV0] at HEQ
  have HONE := Lib.hid hi1.one
  have HB2 := Lib.hid (hb1.stp0 hs2)
  have HI2 := Lib.hid (hi1.stp0 hs2)
  have HC2 := Lib.hid hb2
  have HS2 := Lib.hid (HS1.out.trans hs2)
  have HCS := Lib.hid hcs
  have HO := Lib.hid ho
  have HH := Lib.hid hH
  have hg1 : g0 < w1.heap.size := hb1.lt
  clear hs0 hb0 hs1 hbx hw2 hb1 hi1 hb2 hs2 hcs ho hH hsz1 HS1
  go_wp2_with (refine wpList_store_row rfl _ _ _ rfl w1.heap.size cs rfl rfl _ _ HBX.out HSZ.out HEQ.out HONE.out ?_; rw [HW2.out]; refine stopv ?_)
  refine Stop.go ?_
  generalize e1 : w1.heap.size = g1 at *
  clear e1 HW2 HBX HEQ
  cases o with
  | false =>
    have hp := parseS_none b HO.out.symm
    have HP := Lib.hid hp
    clear hp
    go_wp2_with (with_reducible refine stop (N := 14) rfl ?_)
    refine Stop.go ?_
    refine wpList_val (v := .agg (hlV hl0 (.slice none 0 0) (.slice none 0 0) (.slice none 0 0) (.slice none 0 0)).toArray) rfl (by kernel_rfl) ?_
    refine wpList_store_row rfl _ _ _ rfl g0 _ rfl rfl _ _ HB2.out.1 size_hello (by rfl) (hlV_one rfl rfl rfl rfl) ?_
    go_wp2
    try simp only [Exit.inBlock, Exit.then]
    refine bodyPost_ret (results_row_tmp rfl _ _ g0 _ _ _ _ rfl (hello_row HB2.out.1 _) Try.underlying62 rfl size_hello) rfl ?_
    rw [HR.out]
    refine ⟨_, by rw [HP.out]; rfl, ?_, HS2.out.setRow (by rw [E0.out]; omega) _⟩
    rw [HP.out]
    exact IsHl.nil _ _
  | true =>
    have hp := parseS_some b HO.out.symm
    rw [← HH.out] at hp
    have hft := HFIT.out
    rw [← HH.out] at hft
    have HP := Lib.hid hp
    have HFT := Lib.hid hft
    clear hp hft
    go_wp2_with (with_reducible refine stop (N := 15) rfl ?_)
    refine Stop.go ?_
    refine wpList_load_row rfl _ _ rfl g1 rfl _ cs (0, 0) _ HC2.out Try.underlying62 rfl HSZ.out ?_
    go_wp2_with (go_at_call 77; refine stopc ?_)
    refine Stop.go ?_
    refine (wrongR_any _ cs H _ HI2.out HFT.out.1 HFT.out.2).mono ?_
    rintro e w3 ⟨rfl, hs3⟩
    have HB3 := Lib.hid (HB2.out.stp0 hs3)
    have HI3 := Lib.hid (HI2.out.stp0 hs3)
    have HC3 := Lib.hid (hs3.blk HC2.out id)
    have HS3 := Lib.hid (HS2.out.trans hs3)
    obtain ⟨q, hq⟩ : ∃ q, q = wrongS H := ⟨_, rfl⟩
    rw [← hq] at HP ⊢
    clear hs3 HB2 HI2 HC2 HS2 hq
    by_cases hq0 : q = 0
    · subst hq0
      go_wp2_with (with_reducible refine stop (N := 21) rfl ?_)
      refine Stop.go ?_
      refine wpList_load_row rfl _ _ rfl g1 rfl _ cs (0, 0) _ HC3.out Try.underlying62 rfl HSZ.out ?_
      refine wpList_store_row rfl _ _ _ rfl g0 cs rfl rfl _ _ HB3.out.1 HSZ.out (by rw [HCS.out]; rfl) HONE.out ?_
      go_wp2
      try simp only [Exit.inBlock, Exit.then]
      refine bodyPost_ret (results_row_tmp rfl _ _ g0 _ _ _ _ rfl (hello_row HB3.out.1 cs) Try.underlying62 rfl HSZ.out) rfl ?_
      rw [HR.out]
      refine ⟨cs, by rw [HP.out]; rfl, ?_, HS3.out.setRow (by rw [E0.out]; omega) _⟩
      rw [HP.out, E0.out]
      exact (HI3.out.step ((Stp.refl (fun k => k = g0) w3).setRow (fun _ => rfl) cs) (fun k hk he => by omega)).weak (fun k hk h => by omega)
    · have hq1 : (q != 0) = true := by simpa using hq0
      rw [if_neg hq0] at HP
      go_wp2_with (with_reducible refine stop (N := 19) rfl ?_)
      refine Stop.go ?_
      refine wpList_val (v := .agg (hlV hl0 (.slice none 0 0) (.slice none 0 0) (.slice none 0 0) (.slice none 0 0)).toArray) rfl (by kernel_rfl) ?_
      go_wp2_with (refine wpList_store_row rfl _ _ _ rfl g0 _ rfl rfl _ _ HB3.out.1 size_hello (by rfl) (hlV_one rfl rfl rfl rfl) ?_)
      try simp only [Exit.inBlock, Exit.then]
      refine bodyPost_ret (results_row_tmp rfl _ _ g0 _ _ _ _ rfl (hello_row HB3.out.1 _) Try.underlying62 rfl size_hello) rfl ?_
      rw [HR.out]
      refine ⟨_, by rw [HP.out]; rfl, ?_, HS3.out.setRow (by rw [E0.out]; omega) _⟩
      rw [HP.out]
      exact IsHl.nil _ _
end Go.Proofs.Ytdmcmfjhlpnaeaa.L
