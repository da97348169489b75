/- Texts of the proof, joined: Hr Hs Ar Ht Hu Hv. -/
import Derived.Test.YtligofmhbbgalaaGreatDoorG15
import Derived.ChangeKeysEq
import Derived.Test.YtligofmhbbgalaaGreatDoorG01
import Derived.Laws.StructEq
set_option linter.unusedVariables false
set_option linter.unusedSimpArgs false
/- The document's own Parse. -/
namespace Go.Proofs.YtligofmhbbgalaaGreatDoor.L
open Go.RowKit Go.Proofs

theorem many_x (n : Nat) (s : RSt) (L : Nat) (hs : s.1.length ≤ L) : ∀ x ∈ (many oneX n s).1, x.2.length ≤ L ∧ 0 ≤ x.1 ∧ x.1 ≤ 4294967295 := by
  induction n generalizing s with
  | zero => intro x hx; simp [many] at hx
  | succ n ih =>
    by_cases h0 : s.1.length = 0
    · rw [many_nil _ _ _ h0]
      intro x hx
      cases hx
    · rw [many_cons _ _ _ h0]
      intro x hx
      rcases List.mem_cons.1 hx with rfl | hx
      · refine ⟨?_, ?_, rnum_le s 2⟩
        · have h1 := rvec_len1 (rnum s 2).2 2
          have h2 := rnum_len s 2
          simp only [oneX]
          omega
        · simp only [oneX, rnum]
          omega
      · exact ih _ (by have := oneX_lt s h0; omega) x hx
theorem extS_fit (d : List UInt8) : (extS d).1.length ≤ d.length ∧ ∀ x ∈ (extS d).1, x.2.length ≤ d.length ∧ 0 ≤ x.1 ∧ x.1 ≤ 4294967295 :=
  ⟨manyP_len _ _ _, many_x _ _ _ (Nat.le_refl _)⟩
theorem rd_lens (b : List UInt8) : (rd1 b).2.1.length ≤ b.length ∧ (rd2 b).2.1.length ≤ b.length ∧ (rd3 b).2.1.length ≤ b.length ∧ (rd4 b).2.1.length ≤ b.length ∧ (rd5 b).2.1.length ≤ b.length ∧
    (rd3 b).1.length ≤ b.length ∧ (rd4 b).1.length ≤ b.length ∧ (rd5 b).1.length ≤ b.length ∧ (rd6 b).1.length ≤ b.length := by
  have h1 : (rd1 b).2.1.length ≤ b.length := rnum_len (b, false) 2
  have h2 : (rd2 b).2.1.length ≤ (rd1 b).2.1.length := rtake_len2 _ _
  have h3 : (rd3 b).2.1.length ≤ (rd2 b).2.1.length := rvec_len _ _
  have h4 : (rd4 b).2.1.length ≤ (rd3 b).2.1.length := rvec_len _ _
  have h5 : (rd5 b).2.1.length ≤ (rd4 b).2.1.length := rvec_len _ _
  have h6 : (rd3 b).1.length ≤ (rd2 b).2.1.length := rvec_len1 _ _
  have h7 : (rd4 b).1.length ≤ (rd3 b).2.1.length := rvec_len1 _ _
  have h8 : (rd5 b).1.length ≤ (rd4 b).2.1.length := rvec_len1 _ _
  have h9 : (rd6 b).1.length ≤ (rd5 b).2.1.length := rvec_len1 _ _
  omega
theorem laid_fit (b : List UInt8) (hl : b.length ≤ 1000000000) : HlFit ((laidS b).getD hl0) ∧ ((laidS b).getD hl0).exs.length ≤ 1000000000 := by
  obtain ⟨-, -, -, -, -, h3, h4, h5, h6⟩ := rd_lens b
  have hv0 : 0 ≤ (rd1 b).1 := by unfold rd1 rnum; simp only; omega
  have hv1 : (rd1 b).1 ≤ 4294967295 := rnum_le _ _
  have h42 := twos_len (rd4 b).1
  obtain ⟨he1, he2⟩ := extS_fit (rd6 b).1
  have k0 : HlFit hl0 := ⟨by simp [hl0], by simp [hl0], by simp [hl0], by simp [hl0], fun x hx => by simp [hl0] at hx, by simp [hl0], fun x hx => by simp [hl0] at hx⟩
  unfold laidS
  split
  · split
    · refine ⟨⟨?_, ?_, ?_, ?_, ?_, ?_, ?_⟩, ?_⟩ <;> simp only [Option.getD_some, hlF] <;> try omega
      all_goals simp
    · split
      · refine ⟨⟨?_, ?_, ?_, ?_, ?_, ?_, ?_⟩, ?_⟩ <;> simp only [Option.getD_some, hlF] <;> try omega
        · intro x hx
          have := (he2 x hx).1
          omega
        · intro x hx
          have := (he2 x hx).2
          simp only [Lit.wf, IntKind.min, IntKind.max, IntKind.signed, IntKind.bits, Bool.and_eq_true, decide_eq_true_eq]
          simp
          omega
      · exact ⟨k0, by simp [hl0]⟩
  · exact ⟨k0, by simp [hl0]⟩

theorem IsHl.one {M : Nat → Prop} {W : World} {cs : Array Value} {h : Hl} (hh : IsHl M W cs h) : cs.all (·.oneCell') = true := by
  obtain ⟨vs, vc, vm, vx, e, -, h1, h2, h3, h4⟩ := hh
  obtain ⟨A1, c1, rfl, _⟩ := h1.form
  obtain ⟨A2, c2, rfl, _⟩ := h2.form
  obtain ⟨A3, c3, rfl, _⟩ := h3.form
  obtain ⟨A4, c4, rfl, _⟩ := h4.form
  have := congrArg List.toArray e
  rw [Array.toArray_toList] at this
  rw [this]
  exact hlV_one rfl rfl rfl rfl
theorem IsHl.info {M : Nat → Prop} {W : World} {cs : Array Value} {h : Hl} (hh : IsHl M W cs h) : (Tryz.prog.info? 69).map (·.size) = some cs.size := by rw [hh.size]; exact size_hello
theorem IsHl.nil (M : Nat → Prop) (W : World) : IsHl M W (hlV hl0 (.slice none 0 0) (.slice none 0 0) (.slice none 0 0) (.slice none 0 0)).toArray hl0 :=
  ⟨_, _, _, _, rfl, by simp [hl0], Rd.nil _ _ _, Rd.nil _ _ _, Rd.nil _ _ _, Rd.nil _ _ _⟩
theorem hello_row {W : World} {g : Nat} {old : Array Value} (hb : W.heap[g]? = some (.cells old 69 (0, 0))) (cs : Array Value) : (W.setRow g cs).heap[g]? = some (.cells cs 69 (0, 0)) := setRow_heap W g _ _ _ _ hb
theorem parseS_none (b : List UInt8) (h : (laidS b).isSome = false) : parseS b = (hl0, 3) := by
  unfold parseS
  cases e : laidS b with
  | none => rfl
  | some x => rw [e] at h; cases h
theorem parseS_some (b : List UInt8) (h : (laidS b).isSome = true) : parseS b = if wrongH ((laidS b).getD hl0) = 0 then ((laidS b).getD hl0, 0) else (hl0, wrongH ((laidS b).getD hl0)) := by
  unfold parseS
  cases e : laidS b with
  | none => rw [e] at h; cases h
  | some x => rfl

/-- What Parse hands back. -/
def ParseRet (w : World) (b : List UInt8) (e : Ending) (w' : World) : Prop :=
  ∃ cs, e = .returned (.tuple #[.agg cs, .int .i64 (parseS b).2]) ∧ IsHl (fun k => k < w.heap.size) w' cs (parseS b).1 ∧ Stp (fun _ => False) w w'

set_option maxRecDepth 100000 in
set_option maxHeartbeats 8000000 in
theorem parseR_any (Ma : Nat → Prop) (v0 : Value) (b : List UInt8) (w : World) (hd : Rd u8 Ma w v0 b) (hl : b.length ≤ 1000000000) :
    Calls Tryz.prog 49 #[v0] w (ParseRet w b) := by
  have HFIT := Lib.hid (laid_fit b hl)
  have HD := Lib.hid hd
  have HL := Lib.hid hl
  clear hd hl
  obtain ⟨R, hR⟩ : ∃ R, R = ParseRet w b := ⟨_, rfl⟩
  rw [← hR]
  have HR := Lib.hid hR
  clear hR
  obtain ⟨H, hH⟩ : ∃ H, H = (laidS b).getD hl0 := ⟨_, rfl⟩
  go_enter Tryz.func49, Tryz.ntmps49
  go_wp2_with (go_at_call 83; refine stopc ?_)
  refine Stop.go ?_
  have hs0 : Stp (fun _ => False) w (w.alloc (.cells (hlV hl0 (.slice none 0 0) (.slice none 0 0) (.slice none 0 0) (.slice none 0 0)).toArray 69)) := (Stp.refl _ _).alloc _
  have hb0 : HlB (w.alloc (.cells (hlV hl0 (.slice none 0 0) (.slice none 0 0) (.slice none 0 0) (.slice none 0 0)).toArray 69)) w.heap.size hl0 (.slice none 0 0) (.slice none 0 0) (.slice none 0 0) (.slice none 0 0) := ⟨heap_alloc_new w _, by simp [hl0]⟩
  rw [hlV0] at hs0 hb0
  generalize hw0 : w.alloc (.cells _ 69) = w0 at *
  clear hw0
  generalize e0 : w.heap.size = g0 at *
  have hg0 := hb0.lt
  have E0 := Lib.hid e0
  clear e0
  refine (laidR_any _ _ b _ (HD.out.stp0 hs0) HL.out).mono ?_
  unfold LaidRet
  rw [← hH]
  rintro e w1 ⟨cs, rfl, hi1, hs1⟩
  have hb1 := hb0.stp0 hs1
  have hcs := hi1.size
  have hsz1 := hs1.size
  obtain ⟨o, ho⟩ : ∃ o, o = (laidS b).isSome := ⟨_, rfl⟩
  rw [← ho]
  have HS1 := Lib.hid (hs0.trans hs1)
  obtain ⟨w2, hw2⟩ : ∃ w2, w2 = (w1.alloc (.cells (hlV hl0 (.slice none 0 0) (.slice none 0 0) (.slice none 0 0) (.slice none 0 0)).toArray 69)).setRow w1.heap.size cs := ⟨_, rfl⟩
  have hbx := heap_alloc_new w1 (.cells (hlV hl0 (.slice none 0 0) (.slice none 0 0) (.slice none 0 0) (.slice none 0 0)).toArray 69)
  have hb2 : w2.heap[w1.heap.size]? = some (.cells cs 69 (0, 0)) := by rw [hw2]; exact hello_row hbx cs
  have hs2 : Stp (fun _ => False) w1 w2 := by rw [hw2]; exact ((Stp.refl _ _).alloc _).setRow (by omega) _
  rw [hlV0] at hbx hw2
  have HBX := Lib.hid hbx
  have HW2 := Lib.hid hw2.symm
  have HSZ := Lib.hid hi1.info
  have HEQ := Lib.hid (show (hlV hl0 (.slice none 0 0) (.slice none 0 0) (.slice none 0 0) (.slice none 0 0)).toArray.size = cs.size by rw [hcs]; rfl)
  rw [hlV0] at HEQ
  have HONE := Lib.hid hi1.one
  have HB2 := Lib.hid (hb1.stp0 hs2)
  have HI2 := Lib.hid (hi1.stp0 hs2)
  have HC2 := Lib.hid hb2
  have HS2 := Lib.hid (HS1.out.trans hs2)
  have HCS := Lib.hid hcs
  have HO := Lib.hid ho
  have HH := Lib.hid hH
  have hg1 : g0 < w1.heap.size := hb1.lt
  clear hs0 hb0 hs1 hbx hw2 hb1 hi1 hb2 hs2 hcs ho hH hsz1 HS1
  go_wp2_with (refine wpList_store_row rfl _ _ _ rfl w1.heap.size cs rfl rfl _ _ HBX.out HSZ.out HEQ.out HONE.out ?_; rw [HW2.out]; refine stopv ?_)
  refine Stop.go ?_
  generalize e1 : w1.heap.size = g1 at *
  clear e1 HW2 HBX HEQ
  cases o with
  | false =>
    have hp := parseS_none b HO.out.symm
    have HP := Lib.hid hp
    clear hp
    go_wp2_with (with_reducible refine stop (N := 14) rfl ?_)
    refine Stop.go ?_
    refine wpList_val9 (v := .agg (hlV hl0 (.slice none 0 0) (.slice none 0 0) (.slice none 0 0) (.slice none 0 0)).toArray) rfl (by kernel_rfl) ?_
    refine wpList_store_row rfl _ _ _ rfl g0 _ rfl rfl _ _ HB2.out.1 size_hello (by rfl) (hlV_one rfl rfl rfl rfl) ?_
    go_wp2
    try simp only [Exit.inBlock, Exit.then]
    refine bodyPost_ret (results_row9 rfl _ _ g0 _ _ _ _ rfl (hello_row HB2.out.1 _) Tryz.underlying69 rfl size_hello) rfl ?_
    rw [HR.out]
    refine ⟨_, by rw [HP.out]; rfl, ?_, HS2.out.setRow (by rw [E0.out]; omega) _⟩
    rw [HP.out]
    exact IsHl.nil _ _
  | true =>
    have hp := parseS_some b HO.out.symm
    rw [← HH.out] at hp
    have hft := HFIT.out
    rw [← HH.out] at hft
    have HP := Lib.hid hp
    have HFT := Lib.hid hft
    clear hp hft
    go_wp2_with (with_reducible refine stop (N := 15) rfl ?_)
    refine Stop.go ?_
    refine wpList_load_row rfl _ _ rfl g1 rfl _ cs (0, 0) _ HC2.out Tryz.underlying69 rfl HSZ.out ?_
    go_wp2_with (go_at_call 84; refine stopc ?_)
    refine Stop.go ?_
    refine (wrongR_any _ cs H _ HI2.out HFT.out.1 HFT.out.2).mono ?_
    rintro e w3 ⟨rfl, hs3⟩
    have HB3 := Lib.hid (HB2.out.stp0 hs3)
    have HI3 := Lib.hid (HI2.out.stp0 hs3)
    have HC3 := Lib.hid (hs3.blk HC2.out id)
    have HS3 := Lib.hid (HS2.out.trans hs3)
    obtain ⟨q, hq⟩ : ∃ q, q = wrongH H := ⟨_, rfl⟩
    rw [← hq] at HP ⊢
    clear hs3 HB2 HI2 HC2 HS2 hq
    by_cases hq0 : q = 0
    · subst hq0
      go_wp2_with (with_reducible refine stop (N := 21) rfl ?_)
      refine Stop.go ?_
      refine wpList_load_row rfl _ _ rfl g1 rfl _ cs (0, 0) _ HC3.out Tryz.underlying69 rfl HSZ.out ?_
      refine wpList_store_row rfl _ _ _ rfl g0 cs rfl rfl _ _ HB3.out.1 HSZ.out (by rw [HCS.out]; rfl) HONE.out ?_
      go_wp2
      try simp only [Exit.inBlock, Exit.then]
      refine bodyPost_ret (results_row9 rfl _ _ g0 _ _ _ _ rfl (hello_row HB3.out.1 cs) Tryz.underlying69 rfl HSZ.out) rfl ?_
      rw [HR.out]
      refine ⟨cs, by rw [HP.out]; rfl, ?_, HS3.out.setRow (by rw [E0.out]; omega) _⟩
      rw [HP.out, E0.out]
      exact (HI3.out.step ((Stp.refl (fun k => k = g0) w3).setRow (fun _ => rfl) cs) (fun k hk he => by omega)).weak (fun k hk h => by omega)
    · have hq1 : (q != 0) = true := by simpa using hq0
      rw [if_neg hq0] at HP
      go_wp2_with (with_reducible refine stop (N := 19) rfl ?_)
      refine Stop.go ?_
      refine wpList_val9 (v := .agg (hlV hl0 (.slice none 0 0) (.slice none 0 0) (.slice none 0 0) (.slice none 0 0)).toArray) rfl (by kernel_rfl) ?_
      go_wp2_with (refine wpList_store_row rfl _ _ _ rfl g0 _ rfl rfl _ _ HB3.out.1 size_hello (by rfl) (hlV_one rfl rfl rfl rfl) ?_)
      try simp only [Exit.inBlock, Exit.then]
      refine bodyPost_ret (results_row9 rfl _ _ g0 _ _ _ _ rfl (hello_row HB3.out.1 _) Tryz.underlying69 rfl size_hello) rfl ?_
      rw [HR.out]
      refine ⟨_, by rw [HP.out]; rfl, ?_, HS3.out.setRow (by rw [E0.out]; omega) _⟩
      rw [HP.out]
      exact IsHl.nil _ _
end Go.Proofs.YtligofmhbbgalaaGreatDoor.L

/- The document's own lay. -/
namespace Go.Proofs.YtligofmhbbgalaaGreatDoor.L
open Go.RowKit Go.Proofs

def xOne (x : Int × List UInt8) : List UInt8 := (vecB (be x.1 2) 2 x.2).1
def flatX (l : List (Int × List UInt8)) : List UInt8 := (l.map xOne).flatten
def layA (h : Hl) : List UInt8 := (vecB (vecB (vecB (be h.ver 2 ++ h.rnd) 1 h.ses).1 2 (flatN h.cip)).1 1 h.met).1
def layS (h : Hl) : List UInt8 := if h.has = true then (vecB (layA h) 2 (flatX h.exs)).1 else layA h
theorem vecB_app (a b : List UInt8) (s : Int) (x : List UInt8) : (vecB (a ++ b) s x).1 = a ++ (vecB b s x).1 := by
  unfold vecB
  split <;> simp
theorem vecB_len (a : List UInt8) (s : Int) (x : List UInt8) : (vecB a s x).1.length ≤ a.length + 4 + x.length := by
  obtain ⟨h1, h4⟩ := clampN_le s
  unfold vecB
  split <;> simp [be_len] <;> omega
theorem flatX_snoc (l : List (Int × List UInt8)) (x : Int × List UInt8) : flatX (l ++ [x]) = flatX l ++ xOne x := by simp [flatX]
theorem xOne_len (x : Int × List UInt8) : (xOne x).length ≤ 6 + x.2.length := by
  have := vecB_len (be x.1 2) 2 x.2
  simp only [be_len] at this
  unfold xOne
  omega
/-- None of a hello's parts is great. -/
def HlSm (h : Hl) : Prop := h.ses.length ≤ 1000000 ∧ h.cip.length ≤ 1000000 ∧ h.met.length ≤ 1000000 ∧ h.exs.length ≤ 1000000 ∧ ∀ x ∈ h.exs, x.2.length ≤ 1000000
theorem cells_rnd {M : Nat → Prop} {W : World} {g : Nat} {h : Hl} {vs vc vm vx : Value} (hb : HlB W g h vs vc vm vx) (hM : ¬ M g) : Rd u8 M W (.slice (some ⟨g, 1, none⟩) 32 32) h.rnd := by
  refine ⟨some ⟨g, 1, none⟩, 32, by rw [hb.2], by rw [hb.2]; exact Nat.le_refl _, by decide, fun _ => ⟨_, rfl, hM, fun j p hj => ⟨[enc8 p], rfl, ?_⟩⟩⟩
  intro i u hu
  have hjl : j < 32 := by
    have := (List.getElem?_eq_some_iff.1 hj).1
    rw [hb.2] at this
    exact this
  cases i with
  | succ i => simp at hu
  | zero =>
    simp at hu
    subst hu
    have e : (⟨g, 1, none⟩ : Addr).add (j * 1 + 0) = ⟨g, 1 + j, none⟩ := by unfold Addr.add; simp
    show W.cell? ((⟨g, 1, none⟩ : Addr).add (j * 1 + 0)) = _
    rw [e, blk_cell hb.1, List.getElem?_toArray, Nat.add_comm 1 j]
    have hj' : j < h.rnd.length := by rw [hb.2]; exact hjl
    have hje : h.rnd[j] = p := (List.getElem?_eq_some_iff.1 hj).2
    simp [hlV, List.getElem?_append, hj', hje]

set_option maxRecDepth 100000 in
set_option maxHeartbeats 8000000 in
theorem layR_any (M : Nat → Prop) (cs : Array Value) (h : Hl) (w : World) (hh : IsHl M w cs h) (hf : HlSm h) :
    Calls Tryz.prog 63 #[.agg cs] w (NewB w (layS h)) := by
  obtain ⟨f1, f2, f3, f4, f5⟩ := hf
  have hcs := hh.size
  obtain ⟨vs, vc, vm, vx, e, hr, h1, h2, h3, h4⟩ := hh
  have ecs : cs = (hlV h vs vc vm vx).toArray := by have := congrArg List.toArray e; rwa [Array.toArray_toList] at this
  obtain ⟨A1, c1, rfl, hle1⟩ := h1.form
  obtain ⟨A2, c2, rfl, hle2⟩ := h2.form
  obtain ⟨A3, c3, rfl, hle3⟩ := h3.form
  obtain ⟨A4, c4, rfl, hle4⟩ := h4.form
  obtain ⟨R, hR⟩ : ∃ R, R = NewB w (layS h) := ⟨_, rfl⟩
  rw [← hR]
  have HR := Lib.hid hR
  have F5 := Lib.hid f5
  have hs0 : Stp (fun _ => False) w (w.alloc (.cells cs 69)) := (Stp.refl _ _).alloc _
  have hb0 : HlB (w.alloc (.cells cs 69)) w.heap.size h _ _ _ _ := ⟨by rw [← ecs]; exact heap_alloc_new w _, hr⟩
  have H1 := Lib.hid (h1.stp0 hs0)
  have H2 := Lib.hid (h2.stp0 hs0)
  have H3 := Lib.hid (h3.stp0 hs0)
  have H4 := Lib.hid (h4.stp0 hs0)
  obtain ⟨b0, b33, b34, b35, b36, b37⟩ := hb0.cells
  have HB0 := Lib.hid hb0
  have HS0 := Lib.hid hs0
  clear e hr h1 h2 h3 h4 f5 ecs hR hb0 hs0
  go_enter Tryz.func63, Tryz.ntmps63
  go_wp2_with (go_at_call 104; refine stopc ?_)
  refine Stop.go ?_
  generalize hw0 : w.alloc (.cells cs 69) = w0 at *
  clear hw0 hcs
  refine (putR_any (fun _ => False) _ [] _ _ _ (Rd.nil _ _ _) (by simp)).mono ?_
  rintro e w1 ⟨v1, rfl, ho1, hs1⟩
  have hg0 := HB0.out.lt
  have HO1 := Lib.hid (show Own enc8 5 w0.heap.size w1 v1 (be h.ver 2) from ho1)
  have HT1 := Lib.hid hs1
  clear ho1 hs1 b0 b33 b34 b35 b36 b37
  go_wp2_with (with_reducible refine stop (N := 14) rfl ?_)
  refine Stop.go ?_
  refine wp_appendRd enc8 (h1e := fun _ => rfl) rfl _ _ _ rfl Tryz.underlying22 info_u8 rfl (M := fun _ => False) HO1.out (cells_rnd (HB0.out.stp0 HT1.out) id) rfl rfl (by rw [be_len, HB0.out.2]; decide) (by rw [be_len, HB0.out.2]; decide) HT1.out.size ?_
  intro v2 w2 ho2 hg2
  have HO2 := Lib.hid ho2
  have HT2 := Lib.hid (HT1.out.own HO1.out hg2)
  have hb2 := HB0.out.stp0 HT2.out
  obtain ⟨b0, b33, b34, b35, b36, b37⟩ := hb2.cells
  clear ho2 hg2 hb2 HO1 HT1
  go_wp2_with (go_at_call 62; refine stopc ?_)
  refine Stop.go ?_
  refine (vecR_any (fun _ => False) _ _ _ _ _ _ (HO2.out.rd (h1 := fun _ => rfl) (fun _ _ => id)) ((H1.out.stp0 HT2.out).weak (by decide) (fun _ _ h => h.elim)) (by rw [List.length_append, be_len, HB0.out.2]; omega)).mono ?_
  rintro e w3 ⟨v3, rfl, ho3, hs3⟩
  obtain ⟨y3, hy3⟩ : ∃ y3, y3 = (vecB (be h.ver 2 ++ h.rnd) 1 h.ses).1 := ⟨_, rfl⟩
  rw [← hy3] at ho3
  have hl3 : y3.length ≤ 1000100 := by
    have := vecB_len (be h.ver 2 ++ h.rnd) 1 h.ses
    rw [← hy3, List.length_append, be_len, HB0.out.2] at this
    omega
  have HO3 := Lib.hid (ho3.lower HT2.out.size)
  have HT3 := Lib.hid (HT2.out.trans hs3)
  obtain ⟨A5, c5, rfl, hle5⟩ := HO3.out.form
  have HY3 := Lib.hid hy3
  clear hy3
  clear ho3 hs3 b0 b33 b34 b35 b36 b37 HO2 HT2
  go_wp2_with fail
  go_loopw [4, 5] (fun o i wr => ∃ k : Nat, k ≤ h.cip.length ∧ i = .int .i64 k ∧ Own enc8 5 w0.heap.size wr o (flatN (h.cip.take k)) ∧ Stp (fun _ => False) w3 wr) (fun _ i _ => h.cip.length - (intOf i).toNat)
  case atStart => exact ⟨0, Nat.zero_le _, rfl, by simpa [flatN] using Own.nil _ _ _ _, Stp.refl _ _⟩
  case round =>
    obtain ⟨k, hk, rfl, ho, hst⟩ := hrel
    have HO := Lib.hid ho
    have HST := Lib.hid hst
    have HTR := Lib.hid (HT3.out.trans hst)
    obtain ⟨b0, b33, b34, b35, b36, b37⟩ := (HB0.out.stp0 HTR.out).cells
    clear ho hst
    by_cases hlt : k < h.cip.length
    · obtain ⟨ad, rfl, _, hcell⟩ := plain_cell (H2.out.stp0 HTR.out) k hlt
      have HTK := Lib.hid (take_snoc h.cip k hlt)
      obtain ⟨x, hxe⟩ : ∃ x, x = h.cip[k] := ⟨_, rfl⟩
      rw [← hxe] at hcell HTK
      clear hxe
      go_wp2_with (go_at_call 104; refine stopc ?_)
      refine Stop.go ?_
      refine (putR_any (fun _ => False) _ _ _ _ _ (HO.out.rd (h1 := fun _ => rfl) (fun _ _ => id)) (by rw [flatN_len, List.length_take]; omega)).mono ?_
      rintro e w4 ⟨v4, rfl, ho4, hs4⟩
      have HO4 := Lib.hid (show Own enc8 5 w0.heap.size w4 v4 (flatN (h.cip.take (k + 1))) by rw [HTK.out, flatN_snoc]; exact ho4.lower HTR.out.size)
      have HS4 := Lib.hid (HST.out.trans hs4)
      clear ho4 hs4
      go_wp2
      go_roundw
      case rel => exact ⟨k + 1, by omega, by go_num, HO4.out, HS4.out⟩
      case measure => simp [intOf]; omega
    · obtain rfl : k = h.cip.length := by omega
      rw [List.take_length] at HO
      obtain ⟨y4, hy4⟩ : ∃ y4, y4 = flatN h.cip := ⟨_, rfl⟩
      have hl4 : y4.length ≤ 2000000 := by rw [hy4, flatN_len]; omega
      rw [← hy4] at HO
      have HY4 := Lib.hid hy4
      clear hy4
      go_wp2_with (go_at_call 62; refine stopc ?_)
      refine Stop.go ?_
      refine (vecR_any (fun _ => False) _ _ y3 y4 _ _ ((HO3.out.stp0 HST.out).rd (h1 := fun _ => rfl) (fun _ _ => id)) (HO.out.rd (h1 := fun _ => rfl) (fun _ _ => id)) (by omega)).mono ?_
      rintro e w5 ⟨v5, rfl, ho5, hs5⟩
      obtain ⟨y5, hy5⟩ : ∃ y5, y5 = (vecB y3 2 y4).1 := ⟨_, rfl⟩
      rw [← hy5] at ho5
      have hl5 : y5.length ≤ 4000000 := by
        have := vecB_len y3 2 y4
        rw [← hy5] at this
        omega
      have HO5 := Lib.hid (ho5.lower HTR.out.size)
      have HT5 := Lib.hid (HTR.out.trans hs5)
      obtain ⟨A6, c6, rfl, hle6⟩ := HO5.out.form
      obtain ⟨b0, b33, b34, b35, b36, b37⟩ := (HB0.out.stp0 HT5.out).cells
      have HY5 := Lib.hid hy5
      clear hy5
      clear ho5 hs5 HO HST HTR
      go_wp2_with (go_at_call 62; refine stopc ?_)
      refine Stop.go ?_
      refine (vecR_any (fun _ => False) _ _ y5 _ _ _ (HO5.out.rd (h1 := fun _ => rfl) (fun _ _ => id)) ((H3.out.stp0 HT5.out).weak (by decide) (fun _ _ h => h.elim)) (by omega)).mono ?_
      rintro e w6 ⟨v6, rfl, ho6, hs6⟩
      obtain ⟨y6, hy6⟩ : ∃ y6, y6 = (vecB y5 1 h.met).1 := ⟨_, rfl⟩
      rw [← hy6] at ho6
      have hl6 : y6.length ≤ 6000000 := by
        have := vecB_len y5 1 h.met
        rw [← hy6] at this
        omega
      have HO6 := Lib.hid (ho6.lower HT5.out.size)
      have HT6 := Lib.hid (HT5.out.trans hs6)
      have HY6 := Lib.hid (show y6 = layA h by rw [hy6, HY5.out, HY4.out, HY3.out]; rfl)
      obtain ⟨A7, c7, rfl, hle7⟩ := HO6.out.form
      obtain ⟨b0, b33, b34, b35, b36, b37⟩ := (HB0.out.stp0 HT6.out).cells
      clear ho6 hs6 hy6 HO5 HT5 HY5 HY4 HY3
      obtain ⟨hx, hhx⟩ : ∃ b, b = h.has := ⟨_, rfl⟩
      rw [← hhx] at b36
      cases hx with
      | false =>
        have HL := Lib.hid (show layS h = y6 by unfold layS; rw [← hhx, HY6.out]; rfl)
        clear hhx
        go_wp2
        rw [HR.out]
        exact ⟨_, rfl, by rw [HL.out]; exact HO6.out.lower HS0.out.size, HS0.out.trans HT6.out⟩
      | true =>
        have HL := Lib.hid (show layS h = (vecB y6 2 (flatX h.exs)).1 by unfold layS; rw [← hhx, HY6.out]; rfl)
        clear hhx
        go_wp2_with fail
        go_loopw [6, 7, 68] (fun o i _ wr => ∃ (k : Nat) (y : List UInt8), k ≤ h.exs.length ∧ i = .int .i64 k ∧ y = flatX (h.exs.take k) ∧ y.length ≤ 1000006 * k ∧ Own enc8 5 w0.heap.size wr o y ∧ Stp (fun _ => False) w6 wr) (fun _ i _ _ => h.exs.length - (intOf i).toNat)
        case atStart => exact ⟨0, [], Nat.zero_le _, rfl, by simp [flatX], by simp, Own.nil _ _ _ _, Stp.refl _ _⟩
        case round =>
          obtain ⟨k, y, hk, rfl, hy, hyl, ho, hst⟩ := hrel
          have HO := Lib.hid ho
          have HST := Lib.hid hst
          have HTR := Lib.hid (HT6.out.trans hst)
          obtain ⟨b0, b33, b34, b35, b36, b37⟩ := (HB0.out.stp0 HTR.out).cells
          have HY := Lib.hid hy
          clear hy
          clear ho hst
          by_cases hlt : k < h.exs.length
          · obtain ⟨ad, v, rfl, hnM, hcell1, hcell2, hv⟩ := ext_cell (H4.out.stp0 HTR.out) k hlt
            have HTK := Lib.hid (take_snoc h.exs k hlt)
            have hdl := F5.out _ (List.getElem_mem hlt)
            obtain ⟨x, hxe⟩ : ∃ x, x = h.exs[k] := ⟨_, rfl⟩
            rw [← hxe] at hcell1 HTK hv hdl
            obtain ⟨Av, cv, rfl, hlev⟩ := hv.form
            have HV := Lib.hid (hv.weak (M' := fun _ => False) (by decide) (fun _ _ h => h.elim))
            have HC1 := Lib.hid hcell1
            have HC2 := Lib.hid hcell2
            clear hxe hv hnM
            go_wp2_with (go_at_call 104; refine stopc ?_)
            refine Stop.go ?_
            refine (putR_any (fun _ => False) _ y _ _ _ (HO.out.rd (h1 := fun _ => rfl) (fun _ _ => id)) (by omega)).mono ?_
            rintro e w7 ⟨v7, rfl, ho7, hs7⟩
            obtain ⟨y7, hy7⟩ : ∃ y7, y7 = y ++ be x.1 2 := ⟨_, rfl⟩
            have ho7' : Own enc8 5 w0.heap.size w7 v7 y7 := by rw [hy7]; exact ho7.lower HTR.out.size
            have hl7 : y7.length = y.length + 2 := by rw [hy7, List.length_append, be_len]
            have HO7 := Lib.hid ho7'
            have HT7 := Lib.hid (HTR.out.trans hs7)
            have HS7 := Lib.hid (HST.out.trans hs7)
            have HV7 := Lib.hid (HV.out.stp0 hs7)
            have hcell2 := hs7.cell HC2.out id
            obtain ⟨b0, b33, b34, b35, b36, b37⟩ := (HB0.out.stp0 HT7.out).cells
            have HY7 := Lib.hid hy7
            clear hy7
            clear ho7 ho7' hs7 hcell1 HO HV HST HTR
            go_wp2_with (go_at_call 62; refine stopc ?_)
            refine Stop.go ?_
            refine (vecR_any (fun _ => False) _ _ y7 _ _ _ (HO7.out.rd (h1 := fun _ => rfl) (fun _ _ => id)) HV7.out (by omega)).mono ?_
            rintro e w8 ⟨v8, rfl, ho8, hs8⟩
            obtain ⟨y8, hy8⟩ : ∃ y8, y8 = (vecB y7 2 x.2).1 := ⟨_, rfl⟩
            rw [← hy8] at ho8
            have hye : y8 = y ++ xOne x := by rw [hy8, HY7.out, vecB_app]; rfl
            have hl8 : y8.length ≤ 1000006 * (k + 1) := by
              have := xOne_len x
              rw [hye, List.length_append]
              omega
            have HO8 := Lib.hid (ho8.lower HT7.out.size)
            have HS8 := Lib.hid (HS7.out.trans hs8)
            have HYE := Lib.hid (show y8 = flatX (h.exs.take (k + 1)) by rw [hye, HTK.out, flatX_snoc, HY.out])
            clear ho8 hs8 hy8 hye
            go_wp2
            go_roundw
            case rel => exact ⟨k + 1, y8, by omega, by go_num, HYE.out, hl8, HO8.out, HS8.out⟩
            case measure => simp [intOf]; omega
          · obtain rfl : k = h.exs.length := by omega
            rw [List.take_length] at HY
            go_wp2_with (go_at_call 62; refine stopc ?_)
            refine Stop.go ?_
            refine (vecR_any (fun _ => False) _ _ y6 y _ _ ((HO6.out.stp0 HST.out).rd (h1 := fun _ => rfl) (fun _ _ => id)) (HO.out.rd (h1 := fun _ => rfl) (fun _ _ => id)) (by omega)).mono ?_
            rintro e w9 ⟨v9, rfl, ho9, hs9⟩
            have HO9 := Lib.hid (show Own enc8 5 w.heap.size w9 v9 (layS h) by rw [HL.out, ← HY.out]; exact ho9.lower (Nat.le_trans HS0.out.size HTR.out.size))
            have HT9 := Lib.hid (HS0.out.trans (HTR.out.trans hs9))
            clear ho9 hs9
            go_wp2
            rw [HR.out]
            exact ⟨_, rfl, HO9.out, HT9.out⟩
end Go.Proofs.YtligofmhbbgalaaGreatDoor.L

/- Two arrays of bytes are compared. -/
namespace Go.Proofs.YtligofmhbbgalaaGreatDoor.L
open Go.RowKit Go.Proofs

theorem run_equalIn_arr8 (P : Program) (w : World) (d : Nat) (t e len : Nat) (xs ys : List UInt8) (hx : xs.length = len) (hy : ys.length = len) (ht : P.underlying t = some (.array len e)) (he : P.underlying e = some (.int .u8)) (hs : (P.info? e).map (·.size) = some 1) :
    (Op.equalIn (d + 2) t (.agg (xs.map enc8).toArray) (.agg (ys.map enc8).toArray)).run P w = .ok (decide (xs = ys)) w := by
  have hsz : (sizeOf e).run P w = .ok 1 w := by
    cases h : P.info? e with
    | none => rw [h] at hs; cases hs
    | some i =>
      rw [h] at hs
      simp only [Option.map_some, Option.some.injEq] at hs
      rw [run_sizeOf w h]
      simp [Program.cellsOf, h, hs]
  have hp : P.plainKey e = true := by unfold Program.plainKey; rw [he]
  rw [Op.equalIn]
  simp only [Sem.run_bind, run_underlying ht, Result.andThen_ok, hsz, Std.Legacy.Range.forIn_eq_forIn_range', Std.Legacy.Range.size, Nat.mul_one]
  have e1 : (len - 0 + 1 - 1) / 1 = len := by simp
  rw [e1]
  have key : ∀ n i, i + n = len →
      ((Sem.run P
          (forIn (List.range' i n) ((none : Option Bool), ()) fun i __s => do
            let __do_lift ← part e (List.map enc8 xs).toArray i
            let __do_lift_1 ← part e (List.map enc8 ys).toArray i
            let __do_lift ← Op.equalIn (d + 1) e __do_lift __do_lift_1
            if (!__do_lift) = true then pure (ForInStep.done (some false, ())) else pure (ForInStep.yield (none, ())))
          w).andThen
      fun a w' =>
      Sem.run P
        (match a.fst with
        | some r => pure r
        | none => pure true)
        w') = Result.ok (decide (xs.drop i = ys.drop i)) w := by
    intro n
    induction n with
    | zero =>
      intro i hi
      have h1 : xs.drop i = [] := List.drop_of_length_le (by omega)
      have h2 : ys.drop i = [] := List.drop_of_length_le (by omega)
      simp [h1, h2, Result.andThen]
    | succ n ih =>
      intro i hi
      have hxi : i < xs.length := by omega
      have hyi : i < ys.length := by omega
      rw [List.range'_succ, List.forIn_cons]
      have px := run_part_plain (w := w) hp (xs := (List.map enc8 xs).toArray) (off := i) (v := enc8 xs[i]) (by simp [hxi])
      have py := run_part_plain (w := w) hp (xs := (List.map enc8 ys).toArray) (off := i) (v := enc8 ys[i]) (by simp [hyi])
      have pe : (Op.equalIn (d + 1) e (enc8 xs[i]) (enc8 ys[i])).run P w = .ok ((xs[i].toNat : Int) == (ys[i].toNat : Int)) w := run_equalIn_int w d e .u8 .u8 _ _ he
      simp only [Sem.run_bind, px, py, pe, Result.andThen_ok]
      have hdc : (xs.drop i = ys.drop i) ↔ (xs[i] = ys[i] ∧ xs.drop (i + 1) = ys.drop (i + 1)) := by
        rw [List.drop_eq_getElem_cons hxi, List.drop_eq_getElem_cons hyi]
        exact ⟨fun h => ⟨(List.cons.inj h).1, (List.cons.inj h).2⟩, fun h => by rw [h.1, h.2]⟩
      by_cases h : xs[i] = ys[i]
      · have hb : ((xs[i].toNat : Int) == (ys[i].toNat : Int)) = true := by rw [h]; simp
        rw [hb]
        simp only [Bool.not_true, Bool.false_eq_true, if_false, Sem.run_pure, Result.andThen_ok]
        rw [ih (i + 1) (by omega)]
        congr 1
        exact decide_eq_decide.2 ⟨fun h2 => hdc.2 ⟨h, h2⟩, fun h2 => (hdc.1 h2).2⟩
      · have hb : ((xs[i].toNat : Int) == (ys[i].toNat : Int)) = false := by
          rw [beq_eq_false_iff_ne]
          intro h2
          exact h (UInt8.toNat_inj.1 (by omega))
        rw [hb]
        have hno : decide (xs.drop i = ys.drop i) = false := decide_eq_false (fun h2 => h (hdc.1 h2).1)
        rw [hno]
        simp [Result.andThen]
  have := key len 0 (by omega)
  rw [List.drop_zero, List.drop_zero] at this
  refine Eq.trans (congrArg (Result.andThen _) (funext fun a => funext fun w' => ?_)) this
  obtain ⟨_ | _, _⟩ := a <;> rfl

/-- An operation that is wanted (its guard holds). -/
theorem wpList_wanted {P : Program} {ops : Array Oper} {rest : List Oper} {o : Oper} {a : Act} {w : World} {Q : Exit → Act → World → Prop} (hw : Region.wanted o (yielded ops a.tmps) = true)
    (h : o.wp P a w (wpList P ops Q rest) Q) : wpList P ops Q (o :: rest) a w := by
  unfold wpList
  rw [if_pos hw]
  exact .inl h
end Go.Proofs.YtligofmhbbgalaaGreatDoor.L

/- The document's own Same. -/
namespace Go.Proofs.YtligofmhbbgalaaGreatDoor.L
open Go.RowKit Go.Proofs

theorem HlB.rng {W : World} {g : Nat} {h : Hl} {vs vc vm vx : Value} (hb : HlB W g h vs vc vm vx) : W.rangeAt g 1 (h.rnd.map enc8) := fun j v hv => by
  have hj : j < (h.rnd.map enc8).length := (List.getElem?_eq_some_iff.1 hv).1
  rw [blk_cell hb.1, List.getElem?_toArray]
  unfold hlV
  rw [Nat.add_comm 1 j, List.getElem?_cons_succ, List.getElem?_append_left hj]
  exact hv
theorem wp_neq_arr8 {P : Program} {op : Oper} {a : Act} {w : World} {K : Act → World → Prop} {Q : Exit → Act → World → Prop} (ty t2 : TypeId) (x y : Operand) (ho : op.op = .binOp .neq ty x y t2) (len e : Nat) (xs ys : List UInt8) (hp : P.eqGuardType P.depth ty = false)
    (hx : a.eval x = .agg (xs.map enc8).toArray) (hy : a.eval y = .agg (ys.map enc8).toArray) (hlx : xs.length = len) (hly : ys.length = len)
    (ht : P.underlying ty = some (.array len e)) (he : P.underlying e = some (.int .u8)) (hs : (P.info? e).map (·.size) = some 1)
    (h : K (a.put op.dst (.bool (!decide (xs = ys)))) w) : op.wp P a w K Q := by
  unfold Oper.wp execOp
  simp only [ho, hx, hy, Sem.run_bind, run_eqGuard_agg (hm := hp), Result.andThen_ok, run_neq_struct, run_equalIn_arr8 P w 9998 ty e len xs ys hlx hly ht he hs]
  exact h

set_option maxRecDepth 100000 in
set_option maxHeartbeats 8000000 in
theorem sameR_any (M : Nat → Prop) (cs ds : Array Value) (h k : Hl) (w : World) (hh : IsHl M w cs h) (hk : IsHl M w ds k) (hf : HlSm h) (hg : HlSm k) (b : Bool) (hb : TellsH b (h = k)) :
    Calls Tryz.prog 64 #[.agg cs, .agg ds] w fun e w' => e = .returned (.bool b) ∧ Stp (fun _ => False) w w' := by
  obtain ⟨vs, vc, vm, vx, e, hr, h1, h2, h3, h4⟩ := hh
  obtain ⟨us, uc, um, ux, e', hr', k1, k2, k3, k4⟩ := hk
  have ecs : cs = (hlV h vs vc vm vx).toArray := by have := congrArg List.toArray e; rwa [Array.toArray_toList] at this
  have eds : ds = (hlV k us uc um ux).toArray := by have := congrArg List.toArray e'; rwa [Array.toArray_toList] at this
  obtain ⟨A1, c1, rfl, hle1⟩ := h1.form
  obtain ⟨A2, c2, rfl, hle2⟩ := h2.form
  obtain ⟨A3, c3, rfl, hle3⟩ := h3.form
  obtain ⟨A4, c4, rfl, hle4⟩ := h4.form
  obtain ⟨B1, d1, rfl, hme1⟩ := k1.form
  obtain ⟨B2, d2, rfl, hme2⟩ := k2.form
  obtain ⟨B3, d3, rfl, hme3⟩ := k3.form
  obtain ⟨B4, d4, rfl, hme4⟩ := k4.form
  obtain ⟨w1, hw1⟩ : ∃ w1, w1 = w.alloc (.cells cs 69) := ⟨_, rfl⟩
  obtain ⟨w2, hw2⟩ : ∃ w2, w2 = w1.alloc (.cells ds 69) := ⟨_, rfl⟩
  have hs1 : Stp (fun _ => False) w w1 := by rw [hw1]; exact (Stp.refl _ _).alloc _
  have hs2 : Stp (fun _ => False) w1 w2 := by rw [hw2]; exact (Stp.refl _ _).alloc _
  have hz1 : w.heap.size + 1 = w1.heap.size := by rw [hw1]; simp
  have hb1 : HlB w1 w.heap.size h _ _ _ _ := ⟨by rw [hw1, ← ecs]; exact heap_alloc_new w _, hr⟩
  have hb2 : HlB w2 w1.heap.size k _ _ _ _ := ⟨by rw [hw2, ← eds]; exact heap_alloc_new w1 _, hr'⟩
  have hb1 := hb1.stp0 hs2
  have HS := Lib.hid (hs1.trans hs2)
  have H1 := Lib.hid (h1.stp0 HS.out)
  have H2 := Lib.hid (h2.stp0 HS.out)
  have H3 := Lib.hid (h3.stp0 HS.out)
  have H4 := Lib.hid (h4.stp0 HS.out)
  have K1 := Lib.hid (k1.stp0 HS.out)
  have K2 := Lib.hid (k2.stp0 HS.out)
  have K3 := Lib.hid (k3.stp0 HS.out)
  have K4 := Lib.hid (k4.stp0 HS.out)
  obtain ⟨a0, a33, a34, a35, a36, a37⟩ := hb1.cells
  obtain ⟨b0, b33, b34, b35, b36, b37⟩ := hb2.cells
  have HA := Lib.hid hb1
  have HB := Lib.hid hb2
  have HT := Lib.hid hb
  have HF := Lib.hid (And.intro hf hg)
  have HW1 := Lib.hid hw1
  have HW2 := Lib.hid hw2
  clear e e' hr hr' h1 h2 h3 h4 k1 k2 k3 k4 ecs eds hs1 hs2 hb1 hb2 hb hf hg hw1 hw2
  go_enter Tryz.func64, Tryz.ntmps64
  go_upto_region 1 with fail
  rw [← HW1.out, ← HW2.out]
  have hse : ∀ (p : Prop), (h = k → p) → ¬ p → b = false := fun p hp hn => by
    rw [Bool.eq_false_iff]
    intro he
    exact hn (hp (HT.out.1 he))
  have HSE := Lib.hid hse
  clear hse
  by_cases z1 : h.ver = k.ver
  · have z1' : (h.ver != k.ver) = false := by rw [z1]; simp
    have Z1 := Lib.hid z1
    clear z1
    go_wp2_with (with_reducible refine stop (N := 13) rfl ?_)
    refine Stop.go ?_
    refine wpList_wanted (by kernel_rfl) (wp_load_mid _ _ rfl w.heap.size 1 rfl (h.rnd.map enc8) _ HA.out.rng Tryz.underlying66 rfl (by rw [List.length_map, HA.out.2]; rfl) ?_)
    go_wp2_with (with_reducible refine stop (N := 15) rfl ?_)
    refine Stop.go ?_
    refine wpList_wanted (by kernel_rfl) (wp_load_mid _ _ rfl w1.heap.size 1 rfl (k.rnd.map enc8) _ HB.out.rng Tryz.underlying66 rfl (by rw [List.length_map, HB.out.2]; rfl) ?_)
    go_wp2_with (with_reducible refine stop (N := 16) rfl ?_)
    refine Stop.go ?_
    refine wpList_wanted (by kernel_rfl) (wp_neq_arr8 _ _ _ _ rfl 32 _ _ _ (by kernel_rfl) rfl rfl HA.out.2 HB.out.2 Tryz.underlying66 Tryz.underlying5 rfl ?_)
    by_cases z2 : h.rnd = k.rnd
    · rw [show (!decide (h.rnd = k.rnd)) = false by rw [decide_eq_true z2]; rfl]
      have Z2 := Lib.hid z2
      clear z2
      have hcv1 := conv_of H1.out
      have hcv2 := conv_of K1.out
      by_cases z3 : h.ses = k.ses
      · have z3' : ((strB h.ses).toList == (strB k.ses).toList) = true := by rw [z3]; simp
        have Z3 := Lib.hid z3
        clear z3
        go_wp2_with (go_at_call 46; refine stopc ?_)
        refine Stop.go ?_
        obtain ⟨hlh, hlk⟩ := HF.out
        obtain ⟨bi, hbi⟩ : ∃ bi, TellsH bi (h.cip = k.cip) := ⟨decide (h.cip = k.cip), by simp [TellsH]⟩
        refine (ints_any M _ _ _ _ _ H2.out K2.out (by have := hlh.2.1; omega) (by have := hlk.2.1; omega) bi hbi).mono ?_
        rintro e w3 ⟨rfl, hs3⟩
        clear a0 a33 a34 a35 a36 a37 b0 b33 b34 b35 b36 b37 hcv1 hcv2 z1' z3'
        have HT3 := Lib.hid (HS.out.trans hs3)
        obtain ⟨a0, a33, a34, a35, a36, a37⟩ := (HA.out.stp0 hs3).cells
        obtain ⟨b0, b33, b34, b35, b36, b37⟩ := (HB.out.stp0 hs3).cells
        have HA3 := Lib.hid (HA.out.stp0 hs3)
        have HB3 := Lib.hid (HB.out.stp0 hs3)
        have hcv3 := conv_of (H3.out.stp0 hs3)
        have hcv4 := conv_of (K3.out.stp0 hs3)
        have HX := Lib.hid (H4.out.stp0 hs3)
        have KX := Lib.hid (K4.out.stp0 hs3)
        clear hs3 H1 H2 H3 H4 K1 K2 K3 K4 HA HB
        cases bi with
        | true =>
          have Z4 := Lib.hid hbi.yes
          clear hbi
          by_cases z5 : h.met = k.met
          · have z5' : ((strB h.met).toList == (strB k.met).toList) = true := by rw [z5]; simp
            have Z5 := Lib.hid z5
            clear z5
            by_cases z6 : h.has = k.has
            · have z6' : (h.has == k.has) = true := by rw [z6]; simp
              have Z6 := Lib.hid z6
              clear z6
              by_cases z7 : h.exs.length = k.exs.length
              · have z7' : ((h.exs.length : Int) != (k.exs.length : Int)) = false := by rw [z7]; simp
                have Z7 := Lib.hid z7
                clear z7
                go_wp2
                clear hcv3 hcv4 z5' z6' z7'
                have HLH := Lib.hid hlh
                have HLK := Lib.hid hlk
                clear hlh hlk
                have hx1 := HLH.out.2.2.2.1
                have hx2 := HLK.out.2.2.2.1
                have hHX := HX.out
                have hKX := KX.out
                go_loopw [5] (fun i wr => ∃ j : Nat, j ≤ h.exs.length ∧ i = .int .i64 j ∧ (∀ i (hj : i < h.exs.length) (hj2 : i < k.exs.length), i < j → h.exs[i] = k.exs[i]) ∧ Stp (fun _ => False) w3 wr) (fun i _ => h.exs.length - (intOf i).toNat)
                case atStart => exact ⟨0, Nat.zero_le _, rfl, fun j _ _ h => absurd h (by omega), Stp.refl _ _⟩
                case round =>
                  obtain ⟨j, hj, rfl, hall, hs⟩ := hrel
                  clear a0 a33 a34 a35 a36 a37 b0 b33 b34 b35 b36 b37
                  obtain ⟨a0, a33, a34, a35, a36, a37⟩ := (HA3.out.stp0 hs).cells
                  obtain ⟨b0, b33, b34, b35, b36, b37⟩ := (HB3.out.stp0 hs).cells
                  have HALL := Lib.hid hall
                  have HSR := Lib.hid hs
                  clear hall hs hHX hKX
                  by_cases hlt : j < h.exs.length
                  · have hlt2 : j < k.exs.length := by have := Z7.out; omega
                    obtain ⟨ad, v, rfl, _, hcell, hcelld, hv⟩ := ext_cell (HX.out.stp0 HSR.out) j hlt
                    obtain ⟨ad2, v2, rfl, _, hcell2, hcelld2, hv2⟩ := ext_cell (KX.out.stp0 HSR.out) j hlt2
                    obtain ⟨Av, cv, rfl, hlev⟩ := hv.form
                    obtain ⟨Av2, cv2, rfl, hlev2⟩ := hv2.form
                    have hcv1 := fun n => conv_of (hv.stp0 ((Stp.refl _ wr).drewN n))
                    have hcv2 := fun n => conv_of (hv2.stp0 ((Stp.refl _ wr).drewN n))
                    clear hv hv2
                    by_cases z8 : h.exs[j].1 = k.exs[j].1
                    · have z8' : (h.exs[j].1 != k.exs[j].1) = false := by rw [z8]; simp
                      by_cases z9 : h.exs[j].2 = k.exs[j].2
                      · have z9' : ((strB h.exs[j].2).toList == (strB k.exs[j].2).toList) = true := by rw [z9]; simp
                        have ZE := Lib.hid (show h.exs[j] = k.exs[j] from Prod.ext z8 z9)
                        clear z8 z9
                        go_wp2_with fail
                        go_quiet (fail)
                        go_wp2
                        go_roundw
                        case rel =>
                          refine ⟨j + 1, by omega, by go_num, fun i hi hi2 hij => ?_, HSR.out.drewN _⟩
                          by_cases hjk : i = j
                          · subst hjk
                            exact ZE.out
                          · exact HALL.out i hi hi2 (by omega)
                        case measure => simp [intOf]; omega
                      · have z9' : ((strB h.exs[j].2).toList == (strB k.exs[j].2).toList) = false := ba_ne (fun e => z9 (strB_inj e))
                        have hbb := HSE.out (h.exs[j] = k.exs[j]) (fun e => by simp only [e]) (fun e => z9 (by rw [e]))
                        have HBB := Lib.hid hbb
                        clear hbb z8 z9
                        go_wp2_with fail
                        go_quiet (fail)
                        go_wp2
                        go_ret
                        exact ⟨by rw [HBB.out]; rfl, HT3.out.trans (HSR.out.drewN _)⟩
                    · have z8' : (h.exs[j].1 != k.exs[j].1) = true := by simpa using z8
                      have hbb := HSE.out (h.exs[j] = k.exs[j]) (fun e => by simp only [e]) (fun e => z8 (by rw [e]))
                      have HBB := Lib.hid hbb
                      clear hbb z8
                      go_wp2_with fail
                      go_quiet (fail)
                      go_wp2
                      go_ret
                      exact ⟨by rw [HBB.out]; rfl, HT3.out.trans (HSR.out.drewN _)⟩
                  · obtain rfl : j = h.exs.length := by omega
                    have hbt : b = true := by
                      refine HT.out.2 ?_
                      have he : h.exs = k.exs := List.ext_getElem Z7.out (fun i h1 h2 => HALL.out i h1 h2 h1)
                      cases h
                      cases k
                      simp only [Hl.mk.injEq]
                      exact ⟨Z1.out, Z2.out, Z3.out, Z4.out, Z5.out, Z6.out, he⟩
                    go_wp2
                    go_ret
                    exact ⟨by rw [hbt]; rfl, HT3.out.trans HSR.out⟩
              · have z7' : ((h.exs.length : Int) != (k.exs.length : Int)) = true := by simp; omega
                have hbb := HSE.out _ (fun e => by rw [e]) z7
                have HBB := Lib.hid hbb
                clear hbb z7
                go_wp2
                go_ret
                exact ⟨by rw [HBB.out]; rfl, HT3.out⟩
            · have z6' : (h.has == k.has) = false := by simpa using z6
              have hbb := HSE.out _ (fun e => by rw [e]) z6
              have HBB := Lib.hid hbb
              clear hbb z6
              go_wp2
              go_ret
              exact ⟨by rw [HBB.out]; rfl, HT3.out⟩
          · have z5' : ((strB h.met).toList == (strB k.met).toList) = false := ba_ne (fun e => z5 (strB_inj e))
            have hbb := HSE.out _ (fun e => by rw [e]) z5
            have HBB := Lib.hid hbb
            clear hbb z5
            go_wp2
            go_ret
            exact ⟨by rw [HBB.out]; rfl, HT3.out⟩
        | false =>
          have hbb := HSE.out (h.cip = k.cip) (fun e => by rw [e]) (fun e => by cases hbi.2 e)
          have HBB := Lib.hid hbb
          clear hbb hbi
          go_wp2
          go_ret
          exact ⟨by rw [HBB.out]; rfl, HT3.out⟩
      · have z3' : ((strB h.ses).toList == (strB k.ses).toList) = false := ba_ne (fun e => z3 (strB_inj e))
        have hbb := HSE.out _ (fun e => by rw [e]) z3
        have HBB := Lib.hid hbb
        clear hbb z3
        go_wp2
        go_ret
        exact ⟨by rw [HBB.out]; rfl, HS.out⟩
    · rw [show (!decide (h.rnd = k.rnd)) = true by rw [decide_eq_false z2]; rfl]
      have hbb := HSE.out _ (fun e => by rw [e]) z2
      have HBB := Lib.hid hbb
      clear hbb z2
      go_wp2
      go_ret
      exact ⟨by rw [HBB.out]; rfl, HS.out⟩
  · have z1' : (h.ver != k.ver) = true := by simpa using z1
    have hbb := HSE.out _ (fun e => by rw [e]) z1
    have HBB := Lib.hid hbb
    clear hbb z1
    go_wp2
    go_ret
    exact ⟨by rw [HBB.out]; rfl, HS.out⟩
end Go.Proofs.YtligofmhbbgalaaGreatDoor.L

/- The document's own Print. -/
namespace Go.Proofs.YtligofmhbbgalaaGreatDoor.L
open Go.RowKit Go.Proofs

theorem flatX_len (l : List (Int × List UInt8)) : (flatX l).length ≤ 2 * (l.map fun x => 4 + x.2.length).sum := by
  induction l with
  | nil => simp [flatX]
  | cons x l ih =>
    have h1 := xOne_len x
    have e : flatX (x :: l) = xOne x ++ flatX l := rfl
    rw [e, List.length_append, List.map_cons, List.sum_cons]
    omega
theorem layS_len (h : Hl) (hr : h.rnd.length = 32) : (layS h).length ≤ 60 + 2 * fewN h := by
  have h1 := vecB_len (be h.ver 2 ++ h.rnd) 1 h.ses
  have h2 := vecB_len (vecB (be h.ver 2 ++ h.rnd) 1 h.ses).1 2 (flatN h.cip)
  have h3 := vecB_len (vecB (vecB (be h.ver 2 ++ h.rnd) 1 h.ses).1 2 (flatN h.cip)).1 1 h.met
  have h4 := vecB_len (layA h) 2 (flatX h.exs)
  have h5 := flatX_len h.exs
  rw [flatN_len] at h2
  rw [List.length_append, be_len, hr] at h1
  have h6 : (layA h).length ≤ (vecB (vecB (be h.ver 2 ++ h.rnd) 1 h.ses).1 2 (flatN h.cip)).1.length + 4 + h.met.length := h3
  unfold layS fewN
  split <;> omega
theorem sum_ge (l : List (Int × List UInt8)) : l.length ≤ (l.map fun x => 4 + x.2.length).sum ∧ ∀ x ∈ l, x.2.length ≤ (l.map fun x => 4 + x.2.length).sum := by
  induction l with
  | nil => simp
  | cons y l ih =>
    obtain ⟨h1, h2⟩ := ih
    refine ⟨by simp; omega, fun x hx => ?_⟩
    rw [List.map_cons, List.sum_cons]
    rcases List.mem_cons.1 hx with rfl | hx
    · omega
    · have := h2 x hx
      omega
theorem few_sm (h : Hl) (hf : fewN h ≤ 400000) : HlSm h := by
  obtain ⟨h1, h2⟩ := sum_ge h.exs
  unfold fewN at hf
  exact ⟨by omega, by omega, by omega, by omega, fun x hx => by have := h2 x hx; omega⟩
theorem laid_sm (b : List UInt8) (hl : b.length ≤ 1000000) : HlSm ((laidS b).getD hl0) := by
  obtain ⟨-, -, -, -, -, h3, h4, h5, h6⟩ := rd_lens b
  have h42 := twos_len (rd4 b).1
  obtain ⟨he1, he2⟩ := extS_fit (rd6 b).1
  have k0 : HlSm hl0 := ⟨by simp [hl0], by simp [hl0], by simp [hl0], by simp [hl0], fun x hx => by simp [hl0] at hx⟩
  unfold laidS
  split
  · split
    · refine ⟨?_, ?_, ?_, ?_, ?_⟩ <;> simp only [Option.getD_some, hlF] <;> try omega
      all_goals simp
    · split
      · refine ⟨?_, ?_, ?_, ?_, ?_⟩ <;> simp only [Option.getD_some, hlF] <;> try omega
        intro x hx
        have := (he2 x hx).1
        omega
      · exact k0
  · exact k0
theorem parse_or (b : List UInt8) : (parseS b).1 = hl0 ∨ ((laidS b).isSome = true ∧ (parseS b).1 = (laidS b).getD hl0 ∧ (parseS b).2 = 0) := by
  unfold parseS
  cases e : laidS b with
  | none => exact .inl rfl
  | some x =>
    simp only
    split
    · exact .inr ⟨rfl, rfl, rfl⟩
    · exact .inl rfl
theorem parse_sm (b : List UInt8) (hl : b.length ≤ 1000000) : HlSm (parseS b).1 := by
  rcases parse_or b with h | ⟨-, h, -⟩
  · rw [h]
    exact ⟨by simp [hl0], by simp [hl0], by simp [hl0], by simp [hl0], fun x hx => by simp [hl0] at hx⟩
  · rw [h]
    exact laid_sm b hl

open Classical in
/-- The document's Print. -/
noncomputable def printS (h : Hl) : List UInt8 × Bool := if parseS (layS h) = (h, 0) then (layS h, true) else ([], false)

set_option maxRecDepth 100000 in
set_option maxHeartbeats 8000000 in
theorem printR_any (M : Nat → Prop) (cs : Array Value) (h : Hl) (w : World) (hh : IsHl M w cs h) (hf : fewN h ≤ 400000) :
    Calls Tryz.prog 34 #[.agg cs] w (NewB2 w (printS h).1 (printS h).2) := by
  have hcs := hh.size
  have HSM := Lib.hid (few_sm h hf)
  have hll := layS_len h (by obtain ⟨_, _, _, _, _, h2, _⟩ := hh; exact h2)
  obtain ⟨R, hR⟩ : ∃ R, R = NewB2 w (printS h).1 (printS h).2 := ⟨_, rfl⟩
  rw [← hR]
  have HR := Lib.hid hR
  clear hR
  obtain ⟨b, hb⟩ : ∃ b, b = layS h := ⟨_, rfl⟩
  rw [← hb] at hll
  have HSZ := Lib.hid hh.info
  have HONE := Lib.hid hh.one
  obtain ⟨w0, hw0⟩ : ∃ w0, w0 = w.alloc (.cells cs 69) := ⟨_, rfl⟩
  have hs0 : Stp (fun _ => False) w w0 := by rw [hw0]; exact (Stp.refl _ _).alloc _
  have hc0 : w0.heap[w.heap.size]? = some (.cells cs 69 (0, 0)) := by rw [hw0]; exact heap_alloc_new w _
  have HH := Lib.hid (hh.stp0 hs0)
  have HW0 := Lib.hid hw0
  have HS0 := Lib.hid hs0
  have HC0 := Lib.hid hc0
  have HB := Lib.hid hb
  clear hs0 hc0 hb
  clear hh hw0
  go_enter Tryz.func34, Tryz.ntmps34
  go_upto_region 1 with fail
  rw [← HW0.out]
  go_wp2_with (with_reducible refine stop (N := 7) rfl ?_)
  refine Stop.go ?_
  refine wpList_load_row rfl _ _ rfl w.heap.size rfl _ cs (0, 0) _ HC0.out Tryz.underlying69 rfl HSZ.out ?_
  go_wp2_with (go_at_call 63; refine stopc ?_)
  refine Stop.go ?_
  refine (layR_any M cs h _ HH.out HSM.out).mono ?_
  rw [← HB.out]
  rintro e w1 ⟨v1, rfl, ho1, hs1⟩
  obtain ⟨A1, c1, rfl, hle1⟩ := ho1.form
  have HO1 := Lib.hid ho1
  have HS1 := Lib.hid (HS0.out.trans hs1)
  have HH1 := Lib.hid (HH.out.stp0 hs1)
  have HC1 := Lib.hid (hs1.blk HC0.out id)
  clear ho1 hs1 HH HC0
  go_wp2_with (go_at_call 49; refine stopc ?_)
  refine Stop.go ?_
  refine (parseR_any (fun _ => False) _ b _ (HO1.out.rd (h1 := fun _ => rfl) (fun _ _ => id)) (by omega)).mono ?_
  obtain ⟨X, hX⟩ : ∃ X, X = parseS b := ⟨_, rfl⟩
  unfold ParseRet
  rw [← hX]
  rintro e w2 ⟨ds, rfl, hi2, hs2⟩
  have HX := Lib.hid hX
  have HO2 := Lib.hid ((HO1.out.stp0 hs2).lower HS0.out.size)
  have HS2 := Lib.hid (HS1.out.trans hs2)
  have HH2 := Lib.hid (HH1.out.stp0 hs2)
  have HC2 := Lib.hid (hs2.blk HC1.out id)
  have hds := hi2.size
  obtain ⟨w3, hw3⟩ : ∃ w3, w3 = (w2.alloc (.cells (hlV hl0 (.slice none 0 0) (.slice none 0 0) (.slice none 0 0) (.slice none 0 0)).toArray 69)).setRow w2.heap.size ds := ⟨_, rfl⟩
  have hbx := heap_alloc_new w2 (.cells (hlV hl0 (.slice none 0 0) (.slice none 0 0) (.slice none 0 0) (.slice none 0 0)).toArray 69)
  have hb3 : w3.heap[w2.heap.size]? = some (.cells ds 69 (0, 0)) := by rw [hw3]; exact hello_row hbx ds
  have hs3 : Stp (fun _ => False) w2 w3 := by rw [hw3]; exact ((Stp.refl _ _).alloc _).setRow (by omega) _
  rw [hlV0] at hbx hw3
  have HBX := Lib.hid hbx
  have HW3 := Lib.hid hw3.symm
  have HSD := Lib.hid hi2.info
  have HEQ := Lib.hid (show (hlV hl0 (.slice none 0 0) (.slice none 0 0) (.slice none 0 0) (.slice none 0 0)).toArray.size = ds.size by rw [hds]; rfl)
  rw [hlV0] at HEQ
  have HOND := Lib.hid hi2.one
  have HI3 := Lib.hid (hi2.stp0 hs3)
  have HC3 := Lib.hid hb3
  have HO3 := Lib.hid (HO2.out.stp0 hs3)
  have HS3 := Lib.hid (HS2.out.trans hs3)
  have HH3 := Lib.hid (HH2.out.stp0 hs3)
  have HD3 := Lib.hid (hs3.blk HC2.out id)
  have HDS := Lib.hid hds
  clear hbx hw3 hi2 hb3 hs3 hds hs2 hX HO1 HO2 HS1 HS2 HH1 HH2 HC1 HC2
  go_wp2_with (refine wpList_store_row rfl _ _ _ rfl w2.heap.size ds rfl rfl _ _ HBX.out HSD.out HEQ.out HOND.out ?_; rw [HW3.out]; refine stopv ?_)
  refine Stop.go ?_
  generalize e1 : w2.heap.size = g1 at *
  clear e1 HW3 HBX HEQ
  obtain ⟨H, q⟩ := X
  dsimp only at HI3 ⊢
  by_cases hq0 : q = 0
  · subst hq0
    go_wp2_with (with_reducible refine stop (N := 17) rfl ?_)
    refine Stop.go ?_
    refine wpList_wanted (by kernel_rfl) (wp_load_row _ _ rfl g1 rfl _ ds (0, 0) _ HC3.out Tryz.underlying69 rfl HSD.out ?_)
    go_wp2_with (with_reducible refine stop (N := 18) rfl ?_)
    refine Stop.go ?_
    refine wpList_wanted (by kernel_rfl) (wp_load_row _ _ rfl w.heap.size rfl _ cs (0, 0) _ HD3.out Tryz.underlying69 rfl HSZ.out ?_)
    go_wp2_with (go_at_call 64; refine stopc ?_)
    refine Stop.go ?_
    obtain ⟨bs, hbs⟩ : ∃ bs, TellsH bs (H = h) := by
      classical
      exact ⟨decide (H = h), by simp [TellsH]⟩
    have hsm := parse_sm b (by omega)
    rw [← HX.out] at hsm
    refine (sameR_any (fun _ => False) _ _ H h _ (HI3.out.weak (fun _ _ h => h.elim)) (HH3.out.weak (fun _ _ h => h.elim)) hsm HSM.out bs hbs).mono ?_
    rintro e w4 ⟨rfl, hs4⟩
    have HO4 := Lib.hid (HO3.out.stp0 hs4)
    have HS4 := Lib.hid (HS3.out.trans hs4)
    clear hs4 HO3 HS3
    cases bs with
    | true =>
      have hp : printS h = (b, true) := by
        unfold printS
        rw [← HB.out, ← HX.out, hbs.yes, if_pos rfl]
      have HP := Lib.hid hp
      have HBS := Lib.hid hbs
      clear hp hbs
      go_wp2
      rw [HR.out]
      exact ⟨_, by rw [HP.out]; rfl, by rw [HP.out]; exact HO4.out, HS4.out⟩
    | false =>
      have hp : printS h = ([], false) := by
        unfold printS
        rw [← HB.out, ← HX.out, if_neg]
        intro e
        injection e with e _
        exact absurd (hbs.2 e) (by simp)
      have HP := Lib.hid hp
      have HBS := Lib.hid hbs
      clear hp hbs
      go_wp2
      rw [HR.out]
      exact ⟨_, by rw [HP.out]; rfl, by rw [HP.out]; exact Own.nil _ _ _ _, HS4.out⟩
  · have hq1 : (q != 0) = true := by simpa using hq0
    have hp : printS h = ([], false) := by
      unfold printS
      rw [← HB.out, ← HX.out, if_neg]
      intro e
      injection e with _ e
      exact hq0 e
    have HP := Lib.hid hp
    clear hp
    go_wp2
    rw [HR.out]
    exact ⟨_, by rw [HP.out]; rfl, by rw [HP.out]; exact Own.nil _ _ _ _, HS3.out⟩
end Go.Proofs.YtligofmhbbgalaaGreatDoor.L

/- Print. -/
namespace Go.Proofs.YtligofmhbbgalaaGreatDoor.L
open Go.RowKit Go.Proofs

def twoB (n : Int) : Bool := decide (0 ≤ n) && decide (n ≤ 65535)
def extB (x : Int × List UInt8) : Bool := twoB x.1 && decide (x.2.length ≤ 65535)
def ok1 (h : Hl) : Bool := twoB h.ver && decide (0 < h.cip.length) && decide (0 < h.met.length) && decide (h.met.length ≤ 255) && decide (wrongH h = 0) && (h.has || decide (h.exs.length = 0))
def okP (h : Hl) : Bool := ok1 h && h.cip.all twoB && h.exs.all extB && decide ((flatN h.cip).length ≤ 65535) && decide ((flatX h.exs).length ≤ 65535)
end Go.Proofs.YtligofmhbbgalaaGreatDoor.L
