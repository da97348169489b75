/- The document's own Print. -/
import Derived.Test.YtdmcmfjhlpnaeaaHt
set_option linter.unusedVariables false
set_option linter.unusedSimpArgs false
namespace Go.Proofs.Ytdmcmfjhlpnaeaa.L
open Go.RowKit Go.Proofs

theorem flatX_len (l : List (Int × List UInt8)) : (flatX l).length ≤ 2 * (l.map fun x => 4 + x.2.length).sum := by
  induction l with
  | nil => simp [flatX]
  | cons x l ih =>
    have h1 := xOne_len x
    have e : flatX (x :: l) = xOne x ++ flatX l := rfl
    rw [e, List.length_append, List.map_cons, List.sum_cons]
    omega
theorem layS_len (h : Hl) (hr : h.rnd.length = 32) : (layS h).length ≤ 60 + 2 * fewN h := by
  have h1 := vecB_len (be h.ver 2 ++ h.rnd) 1 h.ses
  have h2 := vecB_len (vecB (be h.ver 2 ++ h.rnd) 1 h.ses).1 2 (flatN h.cip)
  have h3 := vecB_len (vecB (vecB (be h.ver 2 ++ h.rnd) 1 h.ses).1 2 (flatN h.cip)).1 1 h.met
  have h4 := vecB_len (layA h) 2 (flatX h.exs)
  have h5 := flatX_len h.exs
  rw [flatN_len] at h2
  rw [List.length_append, be_len, hr] at h1
  have h6 : (layA h).length ≤ (vecB (vecB (be h.ver 2 ++ h.rnd) 1 h.ses).1 2 (flatN h.cip)).1.length + 4 + h.met.length := h3
  unfold layS fewN
  split <;> omega
theorem sum_ge (l : List (Int × List UInt8)) : l.length ≤ (l.map fun x => 4 + x.2.length).sum ∧ ∀ x ∈ l, x.2.length ≤ (l.map fun x => 4 + x.2.length).sum := by
  induction l with
  | nil => simp
  | cons y l ih =>
    obtain ⟨h1, h2⟩ := ih
    refine ⟨by simp; omega, fun x hx => ?_⟩
    rw [List.map_cons, List.sum_cons]
    rcases List.mem_cons.1 hx with rfl | hx
    · omega
    · have := h2 x hx
      omega
theorem few_sm (h : Hl) (hf : fewN h ≤ 400000) : HlSm h := by
  obtain ⟨h1, h2⟩ := sum_ge h.exs
  unfold fewN at hf
  exact ⟨by omega, by omega, by omega, by omega, fun x hx => by have := h2 x hx; omega⟩
theorem laid_sm (b : List UInt8) (hl : b.length ≤ 1000000) : HlSm ((laidS b).getD hl0) := by
  obtain ⟨-, -, -, -, -, h3, h4, h5, h6⟩ := rd_lens b
  have h42 := twos_len (rd4 b).1
  obtain ⟨he1, he2⟩ := extS_fit (rd6 b).1
  have k0 : HlSm hl0 := ⟨by simp [hl0], by simp [hl0], by simp [hl0], by simp [hl0], fun x hx => by simp [hl0] at hx⟩
  unfold laidS
  split
  · split
    · refine ⟨?_, ?_, ?_, ?_, ?_⟩ <;> simp only [Option.getD_some, hlF] <;> try omega
      all_goals simp
    · split
      · refine ⟨?_, ?_, ?_, ?_, ?_⟩ <;> simp only [Option.getD_some, hlF] <;> try omega
        intro x hx
        have := (he2 x hx).1
        omega
      · exact k0
  · exact k0
theorem parse_or (b : List UInt8) : (parseS b).1 = hl0 ∨ ((laidS b).isSome = true ∧ (parseS b).1 = (laidS b).getD hl0 ∧ (parseS b).2 = 0) := by
  unfold parseS
  cases e : laidS b with
  | none => exact .inl rfl
  | some x =>
    simp only
    split
    · exact .inr ⟨rfl, rfl, rfl⟩
    · exact .inl rfl
theorem parse_sm (b : List UInt8) (hl : b.length ≤ 1000000) : HlSm (parseS b).1 := by
  rcases parse_or b with h | ⟨-, h, -⟩
  · rw [h]
    exact ⟨by simp [hl0], by simp [hl0], by simp [hl0], by simp [hl0], fun x hx => by simp [hl0] at hx⟩
  · rw [h]
    exact laid_sm b hl

open Classical in
/-- The document's Print. -/
noncomputable def printS (h : Hl) : List UInt8 × Bool := if parseS (layS h) = (h, 0) then (layS h, true) else ([], false)

set_option maxRecDepth 100000 in
set_option maxHeartbeats 8000000 in
theorem printR_any (M : Nat → Prop) (cs : Array Value) (h : Hl) (w : World) (hh : IsHl M w cs h) (hf : fewN h ≤ 400000) :
    Calls Try.prog 55 #[.agg cs] w (NewB2 w (printS h).1 (printS h).2) := by
  have hcs := hh.size
  have HSM := Lib.hid (few_sm h hf)
  have hll := layS_len h (by obtain ⟨_, _, _, _, _, h2, _⟩ := hh; exact h2)
  obtain ⟨R, hR⟩ : ∃ R, R = NewB2 w (printS h).1 (printS h).2 := ⟨_, rfl⟩
  rw [← hR]
  have HR := Lib.hid hR
  clear hR
  obtain ⟨b, hb⟩ : ∃ b, b = layS h := ⟨_, rfl⟩
  rw [← hb] at hll
  have HSZ := Lib.hid hh.info
  have HONE := Lib.hid hh.one
  obtain ⟨w0, hw0⟩ : ∃ w0, w0 = w.alloc (.cells cs 62) := ⟨_, rfl⟩
  have hs0 : Stp (fun _ => False) w w0 := by rw [hw0]; exact (Stp.refl _ _).alloc _
  have hc0 : w0.heap[w.heap.size]? = some (.cells cs 62 (0, 0)) := by rw [hw0]; exact heap_alloc_new w _
  have HH := Lib.hid (hh.stp0 hs0)
  have HW0 := Lib.hid hw0
  have HS0 := Lib.hid hs0
  have HC0 := Lib.hid hc0
  have HB := Lib.hid hb
  clear hs0 hc0 hb
  clear hh hw0
  go_enter Try.func55, Try.ntmps55
  go_upto_region 1 with fail
  rw [← HW0.out]
  go_wp2_with (with_reducible refine stop (N := 7) rfl ?_)
  refine Stop.go ?_
  refine wpList_load_row rfl _ _ rfl w.heap.size rfl _ cs (0, 0) _ HC0.out Try.underlying62 rfl HSZ.out ?_
  go_wp2_with (go_at_call 79; refine stopc ?_)
  refine Stop.go ?_
  refine (layR_any M cs h _ HH.out HSM.out).mono ?_
  rw [← HB.out]
  rintro e w1 ⟨v1, rfl, ho1, hs1⟩
  obtain ⟨A1, c1, rfl, hle1⟩ := ho1.form
  have HO1 := Lib.hid ho1
  have HS1 := Lib.hid (HS0.out.trans hs1)
  have HH1 := Lib.hid (HH.out.stp0 hs1)
  have HC1 := Lib.hid (hs1.blk HC0.out id)
  clear ho1 hs1 HH HC0
  go_wp2_with (go_at_call 52; refine stopc ?_)
  refine Stop.go ?_
  refine (parseR_any (fun _ => False) _ b _ (HO1.out.rd (h1 := fun _ => rfl) (fun _ _ => id)) (by omega)).mono ?_
  obtain ⟨X, hX⟩ : ∃ X, X = parseS b := ⟨_, rfl⟩
  unfold ParseRet
  rw [← hX]
  rintro e w2 ⟨ds, rfl, hi2, hs2⟩
  have HX := Lib.hid hX
  have HO2 := Lib.hid ((HO1.out.stp0 hs2).lower HS0.out.size)
  have HS2 := Lib.hid (HS1.out.trans hs2)
  have HH2 := Lib.hid (HH1.out.stp0 hs2)
  have HC2 := Lib.hid (hs2.blk HC1.out id)
  have hds := hi2.size
  obtain ⟨w3, hw3⟩ : ∃ w3, w3 = (w2.alloc (.cells (hlV hl0 (.slice none 0 0) (.slice none 0 0) (.slice none 0 0) (.slice none 0 0)).toArray 62)).setRow w2.heap.size ds := ⟨_, rfl⟩
  have hbx := heap_alloc_new w2 (.cells (hlV hl0 (.slice none 0 0) (.slice none 0 0) (.slice none 0 0) (.slice none 0 0)).toArray 62)
  have hb3 : w3.heap[w2.heap.size]? = some (.cells ds 62 (0, 0)) := by rw [hw3]; exact hello_row hbx ds
  have hs3 : Stp (fun _ => False) w2 w3 := by rw [hw3]; exact ((Stp.refl _ _).alloc _).setRow (by omega) _
  rw [hlV0] at hbx hw3
  have HBX := Lib.hid hbx
  have HW3 := Lib.hid hw3.symm
  have HSD := Lib.hid hi2.info
  have HEQ := Lib.hid (show (hlV hl0 (.slice none 0 0) (.slice none 0 0) (.slice none 0 0) (.slice none 0 0)).toArray.size = ds.size by rw [hds]; rfl)
  rw [hlV0] at HEQ
  have HOND := Lib.hid hi2.one
  have HI3 := Lib.hid (hi2.stp0 hs3)
  have HC3 := Lib.hid hb3
  have HO3 := Lib.hid (HO2.out.stp0 hs3)
  have HS3 := Lib.hid (HS2.out.trans hs3)
  have HH3 := Lib.hid (HH2.out.stp0 hs3)
  have HD3 := Lib.hid (hs3.blk HC2.out id)
  have HDS := Lib.hid hds
  clear hbx hw3 hi2 hb3 hs3 hds hs2 hX HO1 HO2 HS1 HS2 HH1 HH2 HC1 HC2
  go_wp2_with (refine wpList_store_row rfl _ _ _ rfl w2.heap.size ds rfl rfl _ _ HBX.out HSD.out HEQ.out HOND.out ?_; rw [HW3.out]; refine stopv ?_)
  refine Stop.go ?_
  generalize e1 : w2.heap.size = g1 at *
  clear e1 HW3 HBX HEQ
  obtain ⟨H, q⟩ := X
  dsimp only at HI3 ⊢
  by_cases hq0 : q = 0
  · subst hq0
    go_wp2_with (with_reducible refine stop (N := 17) rfl ?_)
    refine Stop.go ?_
    refine wpList_wanted (by kernel_rfl) (wp_load_row _ _ rfl g1 rfl _ ds (0, 0) _ HC3.out Try.underlying62 rfl HSD.out ?_)
    go_wp2_with (with_reducible refine stop (N := 18) rfl ?_)
    refine Stop.go ?_
    refine wpList_wanted (by kernel_rfl) (wp_load_row _ _ rfl w.heap.size rfl _ cs (0, 0) _ HD3.out Try.underlying62 rfl HSZ.out ?_)
    go_wp2_with (go_at_call 53; refine stopc ?_)
    refine Stop.go ?_
    obtain ⟨bs, hbs⟩ : ∃ bs, Tells bs (H = h) := by
      classical
      exact ⟨decide (H = h), by simp [Tells]⟩
    have hsm := parse_sm b (by omega)
    rw [← HX.out] at hsm
    refine (sameR_any (fun _ => False) _ _ H h _ (HI3.out.weak (fun _ _ h => h.elim)) (HH3.out.weak (fun _ _ h => h.elim)) hsm HSM.out bs hbs).mono ?_
    rintro e w4 ⟨rfl, hs4⟩
    have HO4 := Lib.hid (HO3.out.stp0 hs4)
    have HS4 := Lib.hid (HS3.out.trans hs4)
    clear hs4 HO3 HS3
    cases bs with
    | true =>
      have hp : printS h = (b, true) := by
        unfold printS
        rw [← HB.out, ← HX.out, hbs.yes, if_pos rfl]
      have HP := Lib.hid hp
      have HBS := Lib.hid hbs
      clear hp hbs
      go_wp2
      rw [HR.out]
      exact ⟨_, by rw [HP.out]; rfl, by rw [HP.out]; exact HO4.out, HS4.out⟩
    | false =>
      have hp : printS h = ([], false) := by
        unfold printS
        rw [← HB.out, ← HX.out, if_neg]
        intro e
        injection e with e _
        exact absurd (hbs.2 e) (by simp)
      have HP := Lib.hid hp
      have HBS := Lib.hid hbs
      clear hp hbs
      go_wp2
      rw [HR.out]
      exact ⟨_, by rw [HP.out]; rfl, by rw [HP.out]; exact Own.nil _ _ _ _, HS4.out⟩
  · have hq1 : (q != 0) = true := by simpa using hq0
    have hp : printS h = ([], false) := by
      unfold printS
      rw [← HB.out, ← HX.out, if_neg]
      intro e
      injection e with _ e
      exact hq0 e
    have HP := Lib.hid hp
    clear hp
    go_wp2
    rw [HR.out]
    exact ⟨_, by rw [HP.out]; rfl, by rw [HP.out]; exact Own.nil _ _ _ _, HS3.out⟩
end Go.Proofs.Ytdmcmfjhlpnaeaa.L
