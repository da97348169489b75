/- exts: what is read of data, one by one. -/
import Derived.Test.YtdmcmfjhlpnaeaaAs
import Derived.Test.YtdmcmfjhlpnaeaaKd
set_option linter.unusedVariables false
set_option linter.unusedSimpArgs false
namespace Go.Proofs.Ytdmcmfjhlpnaeaa.L
open Go.RowKit Go.Proofs

theorem info_ext : (Try.prog.info? 70).map (fun i => (i.zero, i.size, i.bytes)) = some (some (.agg #[.int .i64 0, .slice none 0 0]), 2, 32) := by kernel_rfl
theorem info_string : (Try.prog.info? 9).map (fun i => (i.zero, i.size, i.bytes)) = some (some (.string ⟨#[]⟩), 1, 16) := by kernel_rfl
theorem info_int : (Try.prog.info? 3).map (fun i => (i.zero, i.size, i.bytes)) = some (some (.int .i64 0), 1, 8) := by kernel_rfl

abbrev bytK : Kind (List UInt8) := slK u8 (by decide)
abbrev extK : Kind (Int × List UInt8) := pairK (int .i64) bytK

/-- One name of the list, one protocol. -/
def oneE (s : RSt) : (Int × List UInt8) × RSt := (((rnum s 1).1, (rvec (rnum s 1).2 2).1), (rvec (rnum s 1).2 2).2)
def oneS (s : RSt) : ByteArray × RSt := (strB (rvec s 1).1, (rvec s 1).2)

/-- Read as long as something is left. -/
def many {α : Type} (one : RSt → α × RSt) : Nat → RSt → List α × RSt
  | 0, s => ([], s)
  | n + 1, s => if s.1.length = 0 then ([], s) else ((one s).1 :: (many one n (one s).2).1, (many one n (one s).2).2)
theorem many_nil {α : Type} (one : RSt → α × RSt) (n : Nat) (s : RSt) (h : s.1.length = 0) : many one n s = ([], s) := by
  cases n with
  | zero => rfl
  | succ n => unfold many; rw [if_pos h]
theorem many_cons {α : Type} (one : RSt → α × RSt) (n : Nat) (s : RSt) (h : ¬ s.1.length = 0) : many one (n + 1) s = ((one s).1 :: (many one n (one s).2).1, (many one n (one s).2).2) := by
  rw [many, if_neg h]
def walkS {α : Type} (one : RSt → α × RSt) (d : List UInt8) : List α × Bool :=
  if (rvec (d, false) 2).2.2 = false ∧ (rvec (d, false) 2).2.1.length = 0 ∧ (rvec (d, false) 2).1.length ≠ 0 then
    ((many one (rvec (d, false) 2).1.length ((rvec (d, false) 2).1, false)).1, !(many one (rvec (d, false) 2).1.length ((rvec (d, false) 2).1, false)).2.2)
  else ([], false)

theorem rtake_bad' (s : RSt) (n : Int) (h : (rtake s n).2.2 = true) : (rtake s n).2.1 = [] := by
  unfold rtake at h ⊢
  split
  · rfl
  · rename_i hn
    rw [if_neg hn] at h
    cases h
theorem rtake_lt (s : RSt) (n : Int) (h : 0 < n) (hs : s.1.length ≠ 0) : (rtake s n).2.1.length < s.1.length := by
  unfold rtake
  split
  · simp
    omega
  · simp
    omega
theorem rnum_lt (s : RSt) (n : Int) (hs : s.1.length ≠ 0) : (rnum s n).2.1.length < s.1.length := by
  have := clampN_le n
  exact rtake_lt s _ (by omega) hs
theorem rvec_lt (s : RSt) (n : Int) (hs : s.1.length ≠ 0) : (rvec s n).2.1.length < s.1.length := by
  unfold rvec
  split
  · exact rnum_lt s n hs
  · exact Nat.lt_of_le_of_lt (rtake_len _ _).2 (rnum_lt s n hs)
theorem oneE_lt (s : RSt) (hs : s.1.length ≠ 0) : (oneE s).2.1.length < s.1.length := Nat.lt_of_le_of_lt (rvec_len _ _) (rnum_lt s 1 hs)
theorem oneS_lt (s : RSt) (hs : s.1.length ≠ 0) : (oneS s).2.1.length < s.1.length := rvec_lt s 1 hs

set_option maxHeartbeats 1000000 in
theorem nameOne_any (M : Nat → Prop) (g : Nat) (s : RSt) (w : World) (hr : IsRd M w g s) (hl : s.1.length ≤ 140737488355328) :
    Calls Try.prog 67 #[.pointer (some ⟨g, 0, none⟩)] w fun e w' => ∃ v, e = .returned (.agg #[.int .i64 (oneE s).1.1, v]) ∧ Own enc8 5 w.heap.size w' v (oneE s).1.2 ∧ IsRd M w' g (oneE s).2 ∧ Stp (fun k => k = g) w w' := by
  obtain ⟨M', hM'⟩ : ∃ M' : Nat → Prop, M' = fun k => M k ∨ w.heap.size ≤ k := ⟨_, rfl⟩
  have HM := Lib.hid hM'
  have HR := Lib.hid (hr.weak (M' := M') (by rw [hM']; intro k hk h; exact h.elim id (fun h => absurd h (by omega))))
  clear hM'
  have HL := Lib.hid (Nat.le_trans (rnum_len s 1) hl)
  clear hr
  go_enter Try.func67, Try.ntmps67
  go_wp2_with (go_at_call 27; refine stopc ?_)
  refine Stop.go ?_
  have hg := HR.out.lt
  refine (num_any M' g s _ _ (HR.out.stp0 ((Stp.refl _ _).alloc _)) hl).mono ?_
  rintro e w1 ⟨rfl, hi1, hs1⟩
  have HI1 := Lib.hid hi1
  have HS1 := Lib.hid hs1
  clear hi1 hs1
  go_wp2_with (go_at_call 31; refine stopc ?_)
  refine Stop.go ?_
  refine (rvec_any M' g _ _ _ HI1.out HL.out).mono ?_
  rintro e w2 ⟨v, rfl, ho2, hi2, hs2⟩
  obtain ⟨A, c, rfl, hle⟩ := ho2.form
  have HI2 := Lib.hid hi2
  have HO2 := Lib.hid ho2
  have HS2 := Lib.hid hs2
  clear hi2 ho2 hs2
  have hb0 := heap_alloc_new w (.cells #[.int .i64 0, .slice none 0 0] 70)
  have hb2 := HS2.out.blk (HS1.out.blk hb0 (by omega)) (by omega)
  have hc0 := blk_cell (j := 0) hb2
  have hc1 := blk_cell (j := 1) hb2
  have hf0 := blk_free hb2 0
  have hf1 := blk_free hb2 1
  have HB2 := Lib.hid hb2
  clear hb0 hb2
  go_wp2
  try simp only [Exit.inBlock, Exit.then]
  refine bodyPost_ret (results_cell_row rfl _ _ w.heap.size _ _ _ _ rfl (blk_set (blk_set HB2.out 0 _) 1 _) Try.underlying70 rfl (by kernel_rfl)) rfl ⟨_, rfl, ?_, ?_, ?_⟩
  · exact ((HO2.out.lower (by have := HS1.out.size; simp at this; omega)).step (S := fun k => k = w.heap.size) (((Stp.refl _ _).setg 0 _).setg 1 _) (fun k hk he => by
      have h1 := (HO2.out.lt k hk).1
      have h2 := HS1.out.size
      simp at h2
      omega))
  · exact (HI2.out.step (S := fun k => k = w.heap.size) (((Stp.refl _ _).setg 0 _).setg 1 _) (fun k hk he => by rw [HM.out]; exact .inr (by omega))).weak (fun k _ h => by rw [HM.out]; exact .inl h)
  · exact ((((Stp.refl (fun k => k = g) w).alloc _).trans HS1.out).trans HS2.out).then_ (((Stp.refl (fun k => k = w.heap.size) w2).setg 0 _).setg 1 _) (fun k hk he => absurd he (by omega))

theorem protOne_any (M : Nat → Prop) (g : Nat) (s : RSt) (w : World) (hr : IsRd M w g s) (hl : s.1.length ≤ 140737488355328) :
    Calls Try.prog 71 #[.pointer (some ⟨g, 0, none⟩)] w fun e w' => e = .returned (.string (oneS s).1) ∧ IsRd M w' g (oneS s).2 ∧ Stp (fun k => k = g) w w' := by
  have HR := Lib.hid hr
  clear hr
  go_enter Try.func71, Try.ntmps71
  go_wp2_with (go_at_call 31; refine stopc ?_)
  refine Stop.go ?_
  refine (rvec_any M g _ _ _ HR.out hl).mono ?_
  rintro e w2 ⟨v, rfl, ho2, hi2, hs2⟩
  have hcv := conv_own ho2
  have HI2 := Lib.hid hi2
  have HS2 := Lib.hid hs2
  clear hi2 ho2 hs2
  go_wp2
  go_ret
  exact ⟨rfl, HI2.out, HS2.out⟩

set_option maxHeartbeats 4000000 in
theorem walkE_any (M : Nat → Prop) (v0 : Value) (d : List UInt8) (w : World) (hd : Rd u8 M w v0 d) (hl : d.length ≤ 1000000000) :
    Calls Try.prog 66 #[v0, .func (.func 67) #[] #[]] w fun e w' =>
      ∃ v, e = .returned (.tuple #[v, .bool (walkS oneE d).2]) ∧ Rd extK (fun k => k < w.heap.size) w' v (walkS oneE d).1 ∧ Stp (fun _ => False) w w' := by
  obtain ⟨a, s1, hv⟩ : ∃ a s1, rvec (d, false) 2 = (a, s1) := ⟨_, _, rfl⟩
  have hal : a.length ≤ d.length := by have := rvec_len1 (d, false) 2; rw [hv] at this; exact this
  have hs1l : s1.1.length ≤ d.length := by have := rvec_len (d, false) 2; rw [hv] at this; exact this
  have HV := Lib.hid hv
  have HD := Lib.hid hd
  clear hv hd
  go_enter Try.func66, Try.ntmps66
  go_wp2_with (go_at_call 26; refine stopc ?_)
  refine Stop.go ?_
  refine (read_any M _ d _ HD.out (by omega)).mono ?_
  rintro e w1 ⟨gr, rfl, hi1, hs1⟩
  have HG := Lib.hid (Nat.not_lt.1 hi1.1)
  have HI1 := Lib.hid (hi1.weak (M' := fun _ => False) (fun _ _ h => h.elim))
  have HS1 := Lib.hid hs1
  clear hi1 hs1
  go_wp2_with (go_at_call 31; refine stopc ?_)
  refine Stop.go ?_
  refine (rvec_any (fun _ => False) gr _ _ _ HI1.out (by simp only; omega)).mono ?_
  rw [HV.out]
  rintro e w2 ⟨v2, rfl, ho2, hi2, hs2⟩
  have HI2 := Lib.hid hi2
  have HO2 := Lib.hid ho2
  have HS2 := Lib.hid (HS1.out.new hs2 HG.out)
  clear hi2 ho2 hs2
  go_wp2_with (go_at_call 26; refine stopc ?_)
  refine Stop.go ?_
  refine (read_any (fun _ => False) _ a _ (HO2.out.rd (h1 := fun _ => rfl) (fun _ _ => id)) (by omega)).mono ?_
  rintro e w3 ⟨gi, rfl, hi3, hs3⟩
  obtain ⟨Mi, hMi⟩ : ∃ M : Nat → Prop, M = fun k => k < w2.heap.size ∨ w3.heap.size ≤ k := ⟨_, rfl⟩
  have HMI := Lib.hid hMi
  have HGI := Lib.hid (And.intro (Nat.not_lt.1 hi3.1) hi3.lt)
  have HI3 := Lib.hid (hi3.weak (M' := Mi) (by
    rw [hMi]
    intro k hk h
    omega))
  have HR3 := Lib.hid (HI2.out.stp0 hs3)
  have HS3 := Lib.hid (HS2.out.trans hs3)
  have HX3 := Lib.hid hs3.size
  clear hMi hi3 hs3
  by_cases hok : s1.2 = false ∧ s1.1.length = 0 ∧ a.length ≠ 0
  · have hw : walkS oneE d = ((many oneE a.length (a, false)).1, !(many oneE a.length (a, false)).2.2) := by
      unfold walkS
      rw [HV.out, if_pos hok]
    have HW := Lib.hid hw
    clear hw
    obtain ⟨hok1, hok2, hok3⟩ := hok
    have hz1 : (!s1.2 && (s1.1.length : Int) == 0) = true := by rw [hok1, hok2]; rfl
    have hz2 : ((a.length : Int) == 0) = false := by simpa using hok3
    clear hok1 hok2
    go_wp2_with (first
      | (go_at_call 36; refine (done_any (fun _ => False) gr _ _ HR3.out (by omega)).mono ?_; rw [hz1]; rintro e w' ⟨rfl, rfl⟩)
      | (go_at_call 33; refine (left_any Mi gi _ _ HI3.out (by simp only; omega)).mono ?_; rintro e w' ⟨rfl, rfl⟩))
    go_loopg [8] a.length (fun n o wr => ∃ xs s D, many oneE a.length (a, false) = (xs ++ (many oneE n s).1, (many oneE n s).2) ∧ s.1.length ≤ n ∧ xs.length + n ≤ a.length ∧ OwnK extK 70 w3.heap.size D wr o xs ∧ IsRd Mi wr gi s ∧ Stp (fun _ => False) w wr ∧ w3.heap.size ≤ wr.heap.size)
    case atStart => exact ⟨[], (a, false), fun _ => False, by simp, Nat.le_refl _, by simp, OwnK.nil _ _ _ _, HI3.out, HS3.out, Nat.le_refl _⟩
    case round =>
      obtain ⟨xs, s, D, hm, hsl, hxl, ho, hi, hs, hswr⟩ := hrel
      have HM := Lib.hid hm
      have HO := Lib.hid ho
      have HI := Lib.hid hi
      have HS := Lib.hid hs
      clear hm ho hi hs
      by_cases h0 : s.1.length = 0
      · have hz3 : ((s.1.length : Int) == 0) = true := by simpa using h0
        have hw2 : walkS oneE d = (xs, !s.2) := by
          rw [HW.out, HM.out, many_nil _ _ _ h0]
          simp
        have HW2 := Lib.hid hw2
        obtain ⟨A8, c8, rfl, hle8⟩ := HO.out.form
        clear hw2
        go_wp2_with (first
          | (go_at_call 36; refine (done_any Mi gi _ _ HI.out (by omega)).mono ?_; rw [hz3, Bool.and_true]; rintro e w' ⟨rfl, rfl⟩)
          | (go_at_call 33; refine (left_any Mi gi _ _ HI.out (by omega)).mono ?_; rintro e w' ⟨rfl, rfl⟩))
        go_ret2
        refine ⟨_, by rw [HW2.out]; rfl, ?_, HS.out⟩
        rw [HW2.out]
        have hh := HX3.out
        have hh2 := HS2.out.size
        exact HO.out.rd (fun k hk h hd => by have := (HO.out.lo k hd).1; omega) (fun k hk h => by have := (HO.out.lt k hk).1; omega)
      · obtain ⟨m, rfl⟩ : ∃ m, gk = m + 1 := ⟨gk - 1, by omega⟩
        have HMC := Lib.hid (many_cons oneE m s h0)
        have hpos : 0 < s.1.length := by omega
        have HLT := Lib.hid (oneE_lt s h0)
        go_wp2_with (first
          | (go_at_call 33; refine (left_any Mi gi _ _ HI.out (by omega)).mono ?_; rintro e w' ⟨rfl, rfl⟩)
          | (go_at_call 67; refine stopc ?_))
        refine Stop.go ?_
        refine (nameOne_any Mi gi s _ HI.out (by omega)).mono ?_
        rintro e w5 ⟨v5, rfl, ho5, hi5, hs5⟩
        obtain ⟨A5, c5, rfl, hle5⟩ := ho5.form
        have HO5 := Lib.hid ho5
        have HI5 := Lib.hid hi5
        have HS5 := Lib.hid hs5
        clear ho5 hi5 hs5
        go_wp2_with (with_reducible refine stop (N := 30) rfl ?_)
        refine Stop.go ?_
        have hgi := HGI.out
        have hh := HX3.out
        have hh2 := HS2.out.size
        have hh5 := HS5.out.size
        have hlo5 := HO5.out.lt
        have hOX := (HO.out.step HS5.out (fun k hk he => ⟨fun hd => by have := (HO.out.lo k hd).1; omega, fun hv => by have := (HO.out.lt k hv).1; omega⟩))
        have hsw : w.heap.size ≤ w3.heap.size := HS3.out.size
        refine wp_append1K (D' := fun k => D k ∨ (Value.slice A5 (oneE s).1.2.length c5).ownBlock = some k) (oneE s).1 rfl _ _ _ rfl Try.underlying60 info_ext rfl (by decide) (hOX.stp0 ((Stp.refl _ _).alloc _)) rfl ⟨w5.heap.size, 0, none⟩ 1 [.int .i64 (oneE s).1.1, .slice A5 (oneE s).1.2.length c5] rfl (fun j u hu => alloc_at _ _ _ _ _ _ hu) ?_ (fun k h => .inl h) ?_ ?_ ?_ ?_ ?_
        · exact ⟨[_], [_], rfl, rfl, _, rfl, (HO5.out.rd (h1 := fun _ => rfl) (fun k hk hn => hn (.inr hk))).stp0 ((Stp.refl _ _).alloc _)⟩
        · intro k hk
          have hsz : (w5.alloc (Obj.cells #[Value.int IntKind.i64 (oneE s).1.1, Value.slice A5 (oneE s).1.2.length c5] 70)).heap.size = w5.heap.size + 1 := by simp
          rcases hk with hk | hk
          · have h1 := hOX.lo k hk
            exact ⟨h1.1, by omega, fun h => hOX.apart k h hk⟩
          · have h1 := hlo5 k hk
            refine ⟨by omega, by omega, fun h => ?_⟩
            have := (HO.out.lt k h).2
            omega
        · omega
        · omega
        · simp
          omega
        · intro v6 w6 ho6 hg6
          have HS6 := Lib.hid ((((HS.out.new HS5.out (by omega)).alloc _).ownK (hOX.stp0 ((Stp.refl _ _).alloc _)) hsw hg6))
          have HO6 := Lib.hid ho6
          have HI6 := Lib.hid ((HI5.out.stp0 ((Stp.refl _ _).alloc _)).step (Stp.of_grown hg6) (fun k hk he => by
            rw [HMI.out]
            have := (HO.out.lt k he).1
            exact .inr (by omega)))
          have hw6 := hg6.size
          clear ho6 hg6
          go_wp2
          go_roundg m
          case measure => omega
          case rel =>
            refine ⟨xs ++ [(oneE s).1], (oneE s).2, _, ?_, ?_, ?_, HO6.out, HI6.out, HS6.out, by simp at hw6; omega⟩
            · rw [HM.out, HMC.out]
              simp
            · have := HLT.out
              omega
            · rw [List.length_append]
              simp
              omega
  · have hw : walkS oneE d = ([], false) := by
      unfold walkS
      rw [HV.out, if_neg hok]
    have HW := Lib.hid hw
    clear hw
    by_cases hz : (!s1.2 && (s1.1.length : Int) == 0) = true
    · have hz2 : ((a.length : Int) == 0) = true := by
        simp only [Bool.and_eq_true, Bool.not_eq_true', beq_iff_eq] at hz
        have : a.length = 0 := Decidable.byContradiction fun h => hok ⟨hz.1, by omega, h⟩
        simpa using this
      go_wp2_with (first
        | (go_at_call 36; refine (done_any (fun _ => False) gr _ _ HR3.out (by omega)).mono ?_; rw [hz]; rintro e w' ⟨rfl, rfl⟩)
        | (go_at_call 33; refine (left_any Mi gi _ _ HI3.out (by simp only; omega)).mono ?_; rintro e w' ⟨rfl, rfl⟩))
      go_ret2
      exact ⟨_, by rw [HW.out]; rfl, by rw [HW.out]; exact Rd.nil _ _ _, HS3.out⟩
    · have hz' : (!s1.2 && (s1.1.length : Int) == 0) = false := by simpa using hz
      go_wp2_with (first
        | (go_at_call 36; refine (done_any (fun _ => False) gr _ _ HR3.out (by omega)).mono ?_; rw [hz']; rintro e w' ⟨rfl, rfl⟩)
        | (go_at_call 33; refine (left_any Mi gi _ _ HI3.out (by simp only; omega)).mono ?_; rintro e w' ⟨rfl, rfl⟩))
      go_ret2
      exact ⟨_, by rw [HW.out]; rfl, by rw [HW.out]; exact Rd.nil _ _ _, HS3.out⟩
end Go.Proofs.Ytdmcmfjhlpnaeaa.L
