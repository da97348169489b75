/- Texts of the proof, joined: Kd Ex Es En Ev. -/
import Derived.Test.YtligofmhbbgalaaGreatDoorG02
import Derived.Maps.AppendAt
set_option linter.unusedVariables false
set_option linter.unusedSimpArgs false
/- exts: what is read of data, one by one. -/
namespace Go.Proofs.YtligofmhbbgalaaGreatDoor.L
open Go.RowKit Go.Proofs

theorem info_ext : (Tryz.prog.info? 71).map (fun i => (i.zero, i.size, i.bytes)) = some (some (.agg #[.int .i64 0, .slice none 0 0]), 2, 32) := by kernel_rfl
theorem info_str9 : (Tryz.prog.info? 9).map (fun i => (i.zero, i.size, i.bytes)) = some (some (.string ⟨#[]⟩), 1, 16) := by kernel_rfl
theorem info_int : (Tryz.prog.info? 3).map (fun i => (i.zero, i.size, i.bytes)) = some (some (.int .i64 0), 1, 8) := by kernel_rfl

abbrev bytK : Kind (List UInt8) := slK u8 (by decide)
abbrev extK : Kind (Int × List UInt8) := pairK (int .i64) bytK

/-- One name of the list, one protocol. -/
def oneE (s : RSt) : (Int × List UInt8) × RSt := (((rnum s 1).1, (rvec (rnum s 1).2 2).1), (rvec (rnum s 1).2 2).2)
def oneS (s : RSt) : ByteArray × RSt := (strB (rvec s 1).1, (rvec s 1).2)

/-- Read as long as something is left. -/
def many {α : Type} (one : RSt → α × RSt) : Nat → RSt → List α × RSt
  | 0, s => ([], s)
  | n + 1, s => if s.1.length = 0 then ([], s) else ((one s).1 :: (many one n (one s).2).1, (many one n (one s).2).2)
theorem many_nil {α : Type} (one : RSt → α × RSt) (n : Nat) (s : RSt) (h : s.1.length = 0) : many one n s = ([], s) := by
  cases n with
  | zero => rfl
  | succ n => unfold many; rw [if_pos h]
theorem many_cons {α : Type} (one : RSt → α × RSt) (n : Nat) (s : RSt) (h : ¬ s.1.length = 0) : many one (n + 1) s = ((one s).1 :: (many one n (one s).2).1, (many one n (one s).2).2) := by
  rw [many, if_neg h]
def walkS {α : Type} (one : RSt → α × RSt) (d : List UInt8) : List α × Bool :=
  if (rvec (d, false) 2).2.2 = false ∧ (rvec (d, false) 2).2.1.length = 0 ∧ (rvec (d, false) 2).1.length ≠ 0 then
    ((many one (rvec (d, false) 2).1.length ((rvec (d, false) 2).1, false)).1, !(many one (rvec (d, false) 2).1.length ((rvec (d, false) 2).1, false)).2.2)
  else ([], false)

theorem rtake_bad' (s : RSt) (n : Int) (h : (rtake s n).2.2 = true) : (rtake s n).2.1 = [] := by
  unfold rtake at h ⊢
  split
  · rfl
  · rename_i hn
    rw [if_neg hn] at h
    cases h
theorem rtake_lt (s : RSt) (n : Int) (h : 0 < n) (hs : s.1.length ≠ 0) : (rtake s n).2.1.length < s.1.length := by
  unfold rtake
  split
  · simp
    omega
  · simp
    omega
theorem rnum_lt (s : RSt) (n : Int) (hs : s.1.length ≠ 0) : (rnum s n).2.1.length < s.1.length := by
  have := clampN_le n
  exact rtake_lt s _ (by omega) hs
theorem rvec_lt (s : RSt) (n : Int) (hs : s.1.length ≠ 0) : (rvec s n).2.1.length < s.1.length := by
  unfold rvec
  split
  · exact rnum_lt s n hs
  · exact Nat.lt_of_le_of_lt (rtake_len _ _).2 (rnum_lt s n hs)
theorem oneE_lt (s : RSt) (hs : s.1.length ≠ 0) : (oneE s).2.1.length < s.1.length := Nat.lt_of_le_of_lt (rvec_len _ _) (rnum_lt s 1 hs)
theorem oneS_lt (s : RSt) (hs : s.1.length ≠ 0) : (oneS s).2.1.length < s.1.length := rvec_lt s 1 hs

set_option maxHeartbeats 1000000 in
theorem nameOne_any (M : Nat → Prop) (g : Nat) (s : RSt) (w : World) (hr : IsRd M w g s) (hl : s.1.length ≤ 140737488355328) :
    Calls Tryz.prog 166 #[.pointer (some ⟨g, 0, none⟩)] w fun e w' => ∃ v, e = .returned (.agg #[.int .i64 (oneE s).1.1, v]) ∧ Own enc8 5 w.heap.size w' v (oneE s).1.2 ∧ IsRd M w' g (oneE s).2 ∧ Stp (fun k => k = g) w w' := by
  obtain ⟨M', hM'⟩ : ∃ M' : Nat → Prop, M' = fun k => M k ∨ w.heap.size ≤ k := ⟨_, rfl⟩
  have HM := Lib.hid hM'
  have HR := Lib.hid (hr.weak (M' := M') (by rw [hM']; intro k hk h; exact h.elim id (fun h => absurd h (by omega))))
  clear hM'
  have HL := Lib.hid (Nat.le_trans (rnum_len s 1) hl)
  clear hr
  go_enter Tryz.func166, Tryz.ntmps166
  go_wp2_with (go_at_call 133; refine stopc ?_)
  refine Stop.go ?_
  have hg := HR.out.lt
  refine (num_any M' g s _ _ (HR.out.stp0 ((Stp.refl _ _).alloc _)) hl).mono ?_
  rintro e w1 ⟨rfl, hi1, hs1⟩
  have HI1 := Lib.hid hi1
  have HS1 := Lib.hid hs1
  clear hi1 hs1
  go_wp2_with (go_at_call 135; refine stopc ?_)
  refine Stop.go ?_
  refine (rvec_any M' g _ _ _ HI1.out HL.out).mono ?_
  rintro e w2 ⟨v, rfl, ho2, hi2, hs2⟩
  obtain ⟨A, c, rfl, hle⟩ := ho2.form
  have HI2 := Lib.hid hi2
  have HO2 := Lib.hid ho2
  have HS2 := Lib.hid hs2
  clear hi2 ho2 hs2
  have hb0 := heap_alloc_new w (.cells #[.int .i64 0, .slice none 0 0] 71)
  have hb2 := HS2.out.blk (HS1.out.blk hb0 (by omega)) (by omega)
  have hc0 := blk_cell (j := 0) hb2
  have hc1 := blk_cell (j := 1) hb2
  have hf0 := blk_free hb2 0
  have hf1 := blk_free hb2 1
  have HB2 := Lib.hid hb2
  clear hb0 hb2
  go_wp2
  try simp only [Exit.inBlock, Exit.then]
  refine bodyPost_ret (results_cell_row rfl _ _ w.heap.size _ _ _ _ rfl (blk_set (blk_set HB2.out 0 _) 1 _) Tryz.underlying71 rfl (by kernel_rfl)) rfl ⟨_, rfl, ?_, ?_, ?_⟩
  · exact ((HO2.out.lower (by have := HS1.out.size; simp at this; omega)).step (S := fun k => k = w.heap.size) (((Stp.refl _ _).setg 0 _).setg 1 _) (fun k hk he => by
      have h1 := (HO2.out.lt k hk).1
      have h2 := HS1.out.size
      simp at h2
      omega))
  · exact (HI2.out.step (S := fun k => k = w.heap.size) (((Stp.refl _ _).setg 0 _).setg 1 _) (fun k hk he => by rw [HM.out]; exact .inr (by omega))).weak (fun k _ h => by rw [HM.out]; exact .inl h)
  · exact ((((Stp.refl (fun k => k = g) w).alloc _).trans HS1.out).trans HS2.out).then_ (((Stp.refl (fun k => k = w.heap.size) w2).setg 0 _).setg 1 _) (fun k hk he => absurd he (by omega))

theorem protOne_any (M : Nat → Prop) (g : Nat) (s : RSt) (w : World) (hr : IsRd M w g s) (hl : s.1.length ≤ 140737488355328) :
    Calls Tryz.prog 168 #[.pointer (some ⟨g, 0, none⟩)] w fun e w' => e = .returned (.string (oneS s).1) ∧ IsRd M w' g (oneS s).2 ∧ Stp (fun k => k = g) w w' := by
  have HR := Lib.hid hr
  clear hr
  go_enter Tryz.func168, Tryz.ntmps168
  go_wp2_with (go_at_call 135; refine stopc ?_)
  refine Stop.go ?_
  refine (rvec_any M g _ _ _ HR.out hl).mono ?_
  rintro e w2 ⟨v, rfl, ho2, hi2, hs2⟩
  have hcv := conv_own ho2
  have HI2 := Lib.hid hi2
  have HS2 := Lib.hid hs2
  clear hi2 ho2 hs2
  go_wp2
  go_ret
  exact ⟨rfl, HI2.out, HS2.out⟩

set_option maxHeartbeats 4000000 in
theorem walkE_any (M : Nat → Prop) (v0 : Value) (d : List UInt8) (w : World) (hd : Rd u8 M w v0 d) (hl : d.length ≤ 1000000000) :
    Calls Tryz.prog 165 #[v0, .func (.func 166) #[] #[]] w fun e w' =>
      ∃ v, e = .returned (.tuple #[v, .bool (walkS oneE d).2]) ∧ Rd extK (fun k => k < w.heap.size) w' v (walkS oneE d).1 ∧ Stp (fun _ => False) w w' := by
  obtain ⟨a, s1, hv⟩ : ∃ a s1, rvec (d, false) 2 = (a, s1) := ⟨_, _, rfl⟩
  have hal : a.length ≤ d.length := by have := rvec_len1 (d, false) 2; rw [hv] at this; exact this
  have hs1l : s1.1.length ≤ d.length := by have := rvec_len (d, false) 2; rw [hv] at this; exact this
  have HV := Lib.hid hv
  have HD := Lib.hid hd
  clear hv hd
  go_enter Tryz.func165, Tryz.ntmps165
  go_wp2_with (go_at_call 132; refine stopc ?_)
  refine Stop.go ?_
  refine (read_any M _ d _ HD.out (by omega)).mono ?_
  rintro e w1 ⟨gr, rfl, hi1, hs1⟩
  have HG := Lib.hid (Nat.not_lt.1 hi1.1)
  have HI1 := Lib.hid (hi1.weak (M' := fun _ => False) (fun _ _ h => h.elim))
  have HS1 := Lib.hid hs1
  clear hi1 hs1
  go_wp2_with (go_at_call 135; refine stopc ?_)
  refine Stop.go ?_
  refine (rvec_any (fun _ => False) gr _ _ _ HI1.out (by simp only; omega)).mono ?_
  rw [HV.out]
  rintro e w2 ⟨v2, rfl, ho2, hi2, hs2⟩
  have HI2 := Lib.hid hi2
  have HO2 := Lib.hid ho2
  have HS2 := Lib.hid (HS1.out.new hs2 HG.out)
  clear hi2 ho2 hs2
  go_wp2_with (go_at_call 132; refine stopc ?_)
  refine Stop.go ?_
  refine (read_any (fun _ => False) _ a _ (HO2.out.rd (h1 := fun _ => rfl) (fun _ _ => id)) (by omega)).mono ?_
  rintro e w3 ⟨gi, rfl, hi3, hs3⟩
  obtain ⟨Mi, hMi⟩ : ∃ M : Nat → Prop, M = fun k => k < w2.heap.size ∨ w3.heap.size ≤ k := ⟨_, rfl⟩
  have HMI := Lib.hid hMi
  have HGI := Lib.hid (And.intro (Nat.not_lt.1 hi3.1) hi3.lt)
  have HI3 := Lib.hid (hi3.weak (M' := Mi) (by
    rw [hMi]
    intro k hk h
    omega))
  have HR3 := Lib.hid (HI2.out.stp0 hs3)
  have HS3 := Lib.hid (HS2.out.trans hs3)
  have HX3 := Lib.hid hs3.size
  clear hMi hi3 hs3
  by_cases hok : s1.2 = false ∧ s1.1.length = 0 ∧ a.length ≠ 0
  · have hw : walkS oneE d = ((many oneE a.length (a, false)).1, !(many oneE a.length (a, false)).2.2) := by
      unfold walkS
      rw [HV.out, if_pos hok]
    have HW := Lib.hid hw
    clear hw
    obtain ⟨hok1, hok2, hok3⟩ := hok
    have hz1 : (!s1.2 && (s1.1.length : Int) == 0) = true := by rw [hok1, hok2]; rfl
    have hz2 : ((a.length : Int) == 0) = false := by simpa using hok3
    clear hok1 hok2
    go_wp2_with (first
      | (go_at_call 138; refine (done_any (fun _ => False) gr _ _ HR3.out (by omega)).mono ?_; rw [hz1]; rintro e w' ⟨rfl, rfl⟩)
      | (go_at_call 162; refine (left_any Mi gi _ _ HI3.out (by simp only; omega)).mono ?_; rintro e w' ⟨rfl, rfl⟩))
    go_loopg [8] a.length (fun n o wr => ∃ xs s D, many oneE a.length (a, false) = (xs ++ (many oneE n s).1, (many oneE n s).2) ∧ s.1.length ≤ n ∧ xs.length + n ≤ a.length ∧ OwnK extK 71 w3.heap.size D wr o xs ∧ IsRd Mi wr gi s ∧ Stp (fun _ => False) w wr ∧ w3.heap.size ≤ wr.heap.size)
    case atStart => exact ⟨[], (a, false), fun _ => False, by simp, Nat.le_refl _, by simp, OwnK.nil _ _ _ _, HI3.out, HS3.out, Nat.le_refl _⟩
    case round =>
      obtain ⟨xs, s, D, hm, hsl, hxl, ho, hi, hs, hswr⟩ := hrel
      have HM := Lib.hid hm
      have HO := Lib.hid ho
      have HI := Lib.hid hi
      have HS := Lib.hid hs
      clear hm ho hi hs
      by_cases h0 : s.1.length = 0
      · have hz3 : ((s.1.length : Int) == 0) = true := by simpa using h0
        have hw2 : walkS oneE d = (xs, !s.2) := by
          rw [HW.out, HM.out, many_nil _ _ _ h0]
          simp
        have HW2 := Lib.hid hw2
        obtain ⟨A8, c8, rfl, hle8⟩ := HO.out.form
        clear hw2
        go_wp2_with (first
          | (go_at_call 138; refine (done_any Mi gi _ _ HI.out (by omega)).mono ?_; rw [hz3, Bool.and_true]; rintro e w' ⟨rfl, rfl⟩)
          | (go_at_call 162; refine (left_any Mi gi _ _ HI.out (by omega)).mono ?_; rintro e w' ⟨rfl, rfl⟩))
        go_ret2
        refine ⟨_, by rw [HW2.out]; rfl, ?_, HS.out⟩
        rw [HW2.out]
        have hh := HX3.out
        have hh2 := HS2.out.size
        exact HO.out.rd (fun k hk h hd => by have := (HO.out.lo k hd).1; omega) (fun k hk h => by have := (HO.out.lt k hk).1; omega)
      · obtain ⟨m, rfl⟩ : ∃ m, gk = m + 1 := ⟨gk - 1, by omega⟩
        have HMC := Lib.hid (many_cons oneE m s h0)
        have hpos : 0 < s.1.length := by omega
        have HLT := Lib.hid (oneE_lt s h0)
        go_wp2_with (first
          | (go_at_call 162; refine (left_any Mi gi _ _ HI.out (by omega)).mono ?_; rintro e w' ⟨rfl, rfl⟩)
          | (go_at_call 166; refine stopc ?_))
        refine Stop.go ?_
        refine (nameOne_any Mi gi s _ HI.out (by omega)).mono ?_
        rintro e w5 ⟨v5, rfl, ho5, hi5, hs5⟩
        obtain ⟨A5, c5, rfl, hle5⟩ := ho5.form
        have HO5 := Lib.hid ho5
        have HI5 := Lib.hid hi5
        have HS5 := Lib.hid hs5
        clear ho5 hi5 hs5
        go_wp2_with (with_reducible refine stop (N := 30) rfl ?_)
        refine Stop.go ?_
        have hgi := HGI.out
        have hh := HX3.out
        have hh2 := HS2.out.size
        have hh5 := HS5.out.size
        have hlo5 := HO5.out.lt
        have hOX := (HO.out.step HS5.out (fun k hk he => ⟨fun hd => by have := (HO.out.lo k hd).1; omega, fun hv => by have := (HO.out.lt k hv).1; omega⟩))
        have hsw : w.heap.size ≤ w3.heap.size := HS3.out.size
        refine wp_append1K (D' := fun k => D k ∨ (Value.slice A5 (oneE s).1.2.length c5).ownBlock = some k) (oneE s).1 rfl _ _ _ rfl Tryz.underlying67 info_ext rfl (by decide) (hOX.stp0 ((Stp.refl _ _).alloc _)) rfl ⟨w5.heap.size, 0, none⟩ 1 [.int .i64 (oneE s).1.1, .slice A5 (oneE s).1.2.length c5] rfl (fun j u hu => alloc_at _ _ _ _ _ _ hu) ?_ (fun k h => .inl h) ?_ ?_ ?_ ?_ ?_
        · exact ⟨[_], [_], rfl, rfl, _, rfl, (HO5.out.rd (h1 := fun _ => rfl) (fun k hk hn => hn (.inr hk))).stp0 ((Stp.refl _ _).alloc _)⟩
        · intro k hk
          have hsz : (w5.alloc (Obj.cells #[Value.int IntKind.i64 (oneE s).1.1, Value.slice A5 (oneE s).1.2.length c5] 71)).heap.size = w5.heap.size + 1 := by simp
          rcases hk with hk | hk
          · have h1 := hOX.lo k hk
            exact ⟨h1.1, by omega, fun h => hOX.apart k h hk⟩
          · have h1 := hlo5 k hk
            refine ⟨by omega, by omega, fun h => ?_⟩
            have := (HO.out.lt k h).2
            omega
        · omega
        · omega
        · simp
          omega
        · intro v6 w6 ho6 hg6
          have HS6 := Lib.hid ((((HS.out.new HS5.out (by omega)).alloc _).ownK (hOX.stp0 ((Stp.refl _ _).alloc _)) hsw hg6))
          have HO6 := Lib.hid ho6
          have HI6 := Lib.hid ((HI5.out.stp0 ((Stp.refl _ _).alloc _)).step (Stp.of_grown hg6) (fun k hk he => by
            rw [HMI.out]
            have := (HO.out.lt k he).1
            exact .inr (by omega)))
          have hw6 := hg6.size
          clear ho6 hg6
          go_wp2
          go_roundg m
          case measure => omega
          case rel =>
            refine ⟨xs ++ [(oneE s).1], (oneE s).2, _, ?_, ?_, ?_, HO6.out, HI6.out, HS6.out, by simp at hw6; omega⟩
            · rw [HM.out, HMC.out]
              simp
            · have := HLT.out
              omega
            · rw [List.length_append]
              simp
              omega
  · have hw : walkS oneE d = ([], false) := by
      unfold walkS
      rw [HV.out, if_neg hok]
    have HW := Lib.hid hw
    clear hw
    by_cases hz : (!s1.2 && (s1.1.length : Int) == 0) = true
    · have hz2 : ((a.length : Int) == 0) = true := by
        simp only [Bool.and_eq_true, Bool.not_eq_true', beq_iff_eq] at hz
        have : a.length = 0 := Decidable.byContradiction fun h => hok ⟨hz.1, by omega, h⟩
        simpa using this
      go_wp2_with (first
        | (go_at_call 138; refine (done_any (fun _ => False) gr _ _ HR3.out (by omega)).mono ?_; rw [hz]; rintro e w' ⟨rfl, rfl⟩)
        | (go_at_call 162; refine (left_any Mi gi _ _ HI3.out (by simp only; omega)).mono ?_; rintro e w' ⟨rfl, rfl⟩))
      go_ret2
      exact ⟨_, by rw [HW.out]; rfl, by rw [HW.out]; exact Rd.nil _ _ _, HS3.out⟩
    · have hz' : (!s1.2 && (s1.1.length : Int) == 0) = false := by simpa using hz
      go_wp2_with (first
        | (go_at_call 138; refine (done_any (fun _ => False) gr _ _ HR3.out (by omega)).mono ?_; rw [hz']; rintro e w' ⟨rfl, rfl⟩)
        | (go_at_call 162; refine (left_any Mi gi _ _ HI3.out (by simp only; omega)).mono ?_; rintro e w' ⟨rfl, rfl⟩))
      go_ret2
      exact ⟨_, by rw [HW.out]; rfl, by rw [HW.out]; exact Rd.nil _ _ _, HS3.out⟩
end Go.Proofs.YtligofmhbbgalaaGreatDoor.L

/- exts: the protocols of data, one by one; whether one is empty. -/
namespace Go.Proofs.YtligofmhbbgalaaGreatDoor.L
open Go.RowKit Go.Proofs

set_option maxHeartbeats 4000000 in
theorem walkP_any (M : Nat → Prop) (v0 : Value) (d : List UInt8) (w : World) (hd : Rd u8 M w v0 d) (hl : d.length ≤ 1000000000) :
    Calls Tryz.prog 167 #[v0, .func (.func 168) #[] #[]] w fun e w' =>
      ∃ v, e = .returned (.tuple #[v, .bool (walkS oneS d).2]) ∧ Rd str (fun k => k < w.heap.size) w' v (walkS oneS d).1 ∧ Stp (fun _ => False) w w' := by
  obtain ⟨a, s1, hv⟩ : ∃ a s1, rvec (d, false) 2 = (a, s1) := ⟨_, _, rfl⟩
  have hal : a.length ≤ d.length := by have := rvec_len1 (d, false) 2; rw [hv] at this; exact this
  have hs1l : s1.1.length ≤ d.length := by have := rvec_len (d, false) 2; rw [hv] at this; exact this
  have HV := Lib.hid hv
  have HD := Lib.hid hd
  clear hv hd
  go_enter Tryz.func167, Tryz.ntmps167
  go_wp2_with (go_at_call 132; refine stopc ?_)
  refine Stop.go ?_
  refine (read_any M _ d _ HD.out (by omega)).mono ?_
  rintro e w1 ⟨gr, rfl, hi1, hs1⟩
  have HG := Lib.hid (Nat.not_lt.1 hi1.1)
  have HI1 := Lib.hid (hi1.weak (M' := fun _ => False) (fun _ _ h => h.elim))
  have HS1 := Lib.hid hs1
  clear hi1 hs1
  go_wp2_with (go_at_call 135; refine stopc ?_)
  refine Stop.go ?_
  refine (rvec_any (fun _ => False) gr _ _ _ HI1.out (by simp only; omega)).mono ?_
  rw [HV.out]
  rintro e w2 ⟨v2, rfl, ho2, hi2, hs2⟩
  have HI2 := Lib.hid hi2
  have HO2 := Lib.hid ho2
  have HS2 := Lib.hid (HS1.out.new hs2 HG.out)
  clear hi2 ho2 hs2
  go_wp2_with (go_at_call 132; refine stopc ?_)
  refine Stop.go ?_
  refine (read_any (fun _ => False) _ a _ (HO2.out.rd (h1 := fun _ => rfl) (fun _ _ => id)) (by omega)).mono ?_
  rintro e w3 ⟨gi, rfl, hi3, hs3⟩
  obtain ⟨Mi, hMi⟩ : ∃ M : Nat → Prop, M = fun k => k < w2.heap.size ∨ w3.heap.size ≤ k := ⟨_, rfl⟩
  have HMI := Lib.hid hMi
  have HGI := Lib.hid (And.intro (Nat.not_lt.1 hi3.1) hi3.lt)
  have HI3 := Lib.hid (hi3.weak (M' := Mi) (by
    rw [hMi]
    intro k hk h
    omega))
  have HR3 := Lib.hid (HI2.out.stp0 hs3)
  have HS3 := Lib.hid (HS2.out.trans hs3)
  have HX3 := Lib.hid hs3.size
  clear hMi hi3 hs3
  by_cases hok : s1.2 = false ∧ s1.1.length = 0 ∧ a.length ≠ 0
  · have hw : walkS oneS d = ((many oneS a.length (a, false)).1, !(many oneS a.length (a, false)).2.2) := by
      unfold walkS
      rw [HV.out, if_pos hok]
    have HW := Lib.hid hw
    clear hw
    obtain ⟨hok1, hok2, hok3⟩ := hok
    have hz1 : (!s1.2 && (s1.1.length : Int) == 0) = true := by rw [hok1, hok2]; rfl
    have hz2 : ((a.length : Int) == 0) = false := by simpa using hok3
    clear hok1 hok2
    go_wp2_with (first
      | (go_at_call 138; refine (done_any (fun _ => False) gr _ _ HR3.out (by omega)).mono ?_; rw [hz1]; rintro e w' ⟨rfl, rfl⟩)
      | (go_at_call 162; refine (left_any Mi gi _ _ HI3.out (by simp only; omega)).mono ?_; rintro e w' ⟨rfl, rfl⟩))
    go_loopg [8] a.length (fun n o wr => ∃ xs s D, many oneS a.length (a, false) = (xs ++ (many oneS n s).1, (many oneS n s).2) ∧ s.1.length ≤ n ∧ xs.length + n ≤ a.length ∧ OwnK str 9 w3.heap.size D wr o xs ∧ IsRd Mi wr gi s ∧ Stp (fun _ => False) w wr ∧ w3.heap.size ≤ wr.heap.size)
    case atStart => exact ⟨[], (a, false), fun _ => False, by simp, Nat.le_refl _, by simp, OwnK.nil _ _ _ _, HI3.out, HS3.out, Nat.le_refl _⟩
    case round =>
      obtain ⟨xs, s, D, hm, hsl, hxl, ho, hi, hs, hswr⟩ := hrel
      have HM := Lib.hid hm
      have HO := Lib.hid ho
      have HI := Lib.hid hi
      have HS := Lib.hid hs
      clear hm ho hi hs
      by_cases h0 : s.1.length = 0
      · have hz3 : ((s.1.length : Int) == 0) = true := by simpa using h0
        have hw2 : walkS oneS d = (xs, !s.2) := by
          rw [HW.out, HM.out, many_nil _ _ _ h0]
          simp
        have HW2 := Lib.hid hw2
        obtain ⟨A8, c8, rfl, hle8⟩ := HO.out.form
        clear hw2
        go_wp2_with (first
          | (go_at_call 138; refine (done_any Mi gi _ _ HI.out (by omega)).mono ?_; rw [hz3, Bool.and_true]; rintro e w' ⟨rfl, rfl⟩)
          | (go_at_call 162; refine (left_any Mi gi _ _ HI.out (by omega)).mono ?_; rintro e w' ⟨rfl, rfl⟩))
        go_ret2
        refine ⟨_, by rw [HW2.out]; rfl, ?_, HS.out⟩
        rw [HW2.out]
        have hh := HX3.out
        have hh2 := HS2.out.size
        exact HO.out.rd (fun k hk h hd => by have := (HO.out.lo k hd).1; omega) (fun k hk h => by have := (HO.out.lt k hk).1; omega)
      · obtain ⟨m, rfl⟩ : ∃ m, gk = m + 1 := ⟨gk - 1, by omega⟩
        have HMC := Lib.hid (many_cons oneS m s h0)
        have hpos : 0 < s.1.length := by omega
        have HLT := Lib.hid (oneS_lt s h0)
        go_wp2_with (first
          | (go_at_call 162; refine (left_any Mi gi _ _ HI.out (by omega)).mono ?_; rintro e w' ⟨rfl, rfl⟩)
          | (go_at_call 168; refine stopc ?_))
        refine Stop.go ?_
        refine (protOne_any Mi gi s _ HI.out (by omega)).mono ?_
        rintro e w5 ⟨rfl, hi5, hs5⟩
        have HI5 := Lib.hid hi5
        have HS5 := Lib.hid hs5
        clear hi5 hs5
        go_wp2_with (with_reducible refine stop (N := 30) rfl ?_)
        refine Stop.go ?_
        have hgi := HGI.out
        have hh := HX3.out
        have hh2 := HS2.out.size
        have hh5 := HS5.out.size
        have hOX := (HO.out.step HS5.out (fun k hk he => ⟨fun hd => by have := (HO.out.lo k hd).1; omega, fun hv => by have := (HO.out.lt k hv).1; omega⟩))
        have hsw : w.heap.size ≤ w3.heap.size := HS3.out.size
        refine wp_append1K (D' := D) (oneS s).1 rfl _ _ _ rfl Tryz.underlying26 info_str9 rfl (by decide) (hOX.stp0 ((Stp.refl _ _).alloc _)) rfl ⟨w5.heap.size, 0, none⟩ 1 [.string (oneS s).1] rfl (fun j u hu => alloc_at _ _ _ _ _ _ hu) rfl (fun k h => h) ?_ ?_ ?_ ?_ ?_
        · intro k hk
          have hsz : (w5.alloc (Obj.cells #[Value.string (oneS s).1] 9)).heap.size = w5.heap.size + 1 := by simp
          have h1 := hOX.lo k hk
          exact ⟨h1.1, by omega, fun h => hOX.apart k h hk⟩
        · omega
        · omega
        · simp
          omega
        · intro v6 w6 ho6 hg6
          have HS6 := Lib.hid ((((HS.out.new HS5.out (by omega)).alloc _).ownK (hOX.stp0 ((Stp.refl _ _).alloc _)) hsw hg6))
          have HO6 := Lib.hid ho6
          have HI6 := Lib.hid ((HI5.out.stp0 ((Stp.refl _ _).alloc _)).step (Stp.of_grown hg6) (fun k hk he => by
            rw [HMI.out]
            have := (HO.out.lt k he).1
            exact .inr (by omega)))
          have hw6 := hg6.size
          clear ho6 hg6
          go_wp2
          go_roundg m
          case measure => omega
          case rel =>
            refine ⟨xs ++ [(oneS s).1], (oneS s).2, _, ?_, ?_, ?_, HO6.out, HI6.out, HS6.out, by simp at hw6; omega⟩
            · rw [HM.out, HMC.out]
              simp
            · have := HLT.out
              omega
            · rw [List.length_append]
              simp
              omega
  · have hw : walkS oneS d = ([], false) := by
      unfold walkS
      rw [HV.out, if_neg hok]
    have HW := Lib.hid hw
    clear hw
    by_cases hz : (!s1.2 && (s1.1.length : Int) == 0) = true
    · have hz2 : ((a.length : Int) == 0) = true := by
        simp only [Bool.and_eq_true, Bool.not_eq_true', beq_iff_eq] at hz
        have : a.length = 0 := Decidable.byContradiction fun h => hok ⟨hz.1, by omega, h⟩
        simpa using this
      go_wp2_with (first
        | (go_at_call 138; refine (done_any (fun _ => False) gr _ _ HR3.out (by omega)).mono ?_; rw [hz]; rintro e w' ⟨rfl, rfl⟩)
        | (go_at_call 162; refine (left_any Mi gi _ _ HI3.out (by simp only; omega)).mono ?_; rintro e w' ⟨rfl, rfl⟩))
      go_ret2
      exact ⟨_, by rw [HW.out]; rfl, by rw [HW.out]; exact Rd.nil _ _ _, HS3.out⟩
    · have hz' : (!s1.2 && (s1.1.length : Int) == 0) = false := by simpa using hz
      go_wp2_with (first
        | (go_at_call 138; refine (done_any (fun _ => False) gr _ _ HR3.out (by omega)).mono ?_; rw [hz']; rintro e w' ⟨rfl, rfl⟩)
        | (go_at_call 162; refine (left_any Mi gi _ _ HI3.out (by simp only; omega)).mono ?_; rintro e w' ⟨rfl, rfl⟩))
      go_ret2
      exact ⟨_, by rw [HW.out]; rfl, by rw [HW.out]; exact Rd.nil _ _ _, HS3.out⟩

theorem ba_ne {x y : ByteArray} (h : x ≠ y) : (x.toList == y.toList) = false := by
  rw [beq_eq_false_iff_ne]
  intro e
  rw [ByteArray.toList_eq, ByteArray.toList_eq] at e
  apply h
  cases x with | mk a => cases y with | mk b => cases a with | mk l => cases b with | mk m => exact congrArg (fun l => (⟨⟨l⟩⟩ : ByteArray)) e

set_option maxHeartbeats 1000000 in
theorem indexS_any (M : Nat → Prop) (v0 : Value) (x : ByteArray) (ss : List ByteArray) (w : World) (hd : Rd str M w v0 ss) (hl : ss.length ≤ 1000000000) :
    Calls Tryz.prog 187 #[v0, .string x] w fun e w' => ∃ i : Int, e = .returned (.int .i64 i) ∧ (0 ≤ i ↔ x ∈ ss) ∧ w = w' := by
  obtain ⟨A, c, rfl, hle⟩ := hd.form
  have HD := Lib.hid hd
  clear hd
  go_enter Tryz.func187, Tryz.ntmps187
  go_wp2
  go_loop [5, 8] (fun _ i => ∃ k : Nat, k ≤ ss.length ∧ i = .int .i64 k ∧ ∀ j (hj : j < ss.length), j < k → x ≠ ss[j]) (fun _ i => ss.length - (intOf i).toNat)
  case atStart => exact ⟨0, Nat.zero_le _, rfl, fun j hj h => absurd h (by omega)⟩
  case round =>
    obtain ⟨k, hk, rfl, hall⟩ := hrel
    have HALL := Lib.hid hall
    clear hall
    by_cases hlt : k < ss.length
    · obtain ⟨ad, rfl, _, hcell⟩ := plain_cell HD.out k hlt
      by_cases he : x = ss[k]
      · have hb : (x.toList == ss[k].toList) = true := by rw [he]; exact beq_self_eq_true _
        go_wp2
        go_ret
        refine ⟨_, rfl, ?_, rfl⟩
        first | omega | exact ⟨fun _ => by rw [he]; exact List.getElem_mem hlt, fun _ => by omega⟩
      · have hb : (x.toList == ss[k].toList) = false := ba_ne he
        go_wp2
        go_round
        case rel =>
          refine ⟨k + 1, by omega, by go_num, fun j hj h => ?_⟩
          by_cases hjk : j = k
          · subst hjk
            exact he
          · exact HALL.out j hj (by omega)
        case measure => simp [intOf]; omega
    · obtain rfl : k = ss.length := by omega
      go_wp2
      go_ret
      refine ⟨-1, rfl, ⟨fun h => absurd h (by decide), fun h => ?_⟩, rfl⟩
      obtain ⟨j, hj, he⟩ := List.mem_iff_getElem.1 h
      exact absurd he.symm (HALL.out j hj hj)

theorem containsS_any (M : Nat → Prop) (v0 : Value) (x : ByteArray) (ss : List ByteArray) (w : World) (hd : Rd str M w v0 ss) (hl : ss.length ≤ 1000000000) (b : Bool) (hb : b = true ↔ x ∈ ss) :
    Calls Tryz.prog 169 #[v0, .string x] w fun e w' => e = .returned (.bool b) ∧ w = w' := by
  have HD := Lib.hid hd
  clear hd
  go_enter Tryz.func169, Tryz.ntmps169
  go_wp2_with (go_at_call 187; refine (indexS_any M _ _ _ _ HD.out hl).mono ?_; rintro e w' ⟨i, rfl, hi, rfl⟩)
  go_ret
  refine ⟨?_, rfl⟩
  have : decide (0 ≤ i) = b := by
    rw [Bool.eq_iff_iff, decide_eq_true_eq, hb]
    exact hi
  rw [← this]
  rfl
end Go.Proofs.YtligofmhbbgalaaGreatDoor.L

/- exts: Name, Protocols, Versions. -/
namespace Go.Proofs.YtligofmhbbgalaaGreatDoor.L
open Go.RowKit Go.Proofs

theorem ext_cell {M : Nat → Prop} {W : World} {xs : List (Int × List UInt8)} {A : Option Addr} {n c : Nat} (h : Rd extK M W (.slice A n c) xs) (j : Nat) (hj : j < xs.length) :
    ∃ ad v, A = some ad ∧ ¬ M ad.block ∧ W.cell? (ad.add (j * 2)) = some (.int .i64 xs[j].1) ∧ W.cell? ⟨(ad.add (j * 2)).block, (ad.add (j * 2)).off + 1, none⟩ = some v ∧ Rd u8 M W v xs[j].2 := by
  obtain ⟨ad, ha, hcs⟩ := h.at_.2.2.2 (by omega)
  obtain ⟨cs, hK, hc⟩ := hcs.2 j _ (List.getElem?_eq_getElem hj)
  obtain ⟨c1, c2, rfl, hk1, v, rfl, hk2⟩ := hK
  obtain rfl : c1 = [.int .i64 xs[j].1] := hk1
  exact ⟨ad, v, ha, hcs.1, hc 0 _ rfl, by rw [← add_fld _ _ 1 (by decide)]; exact hc 1 _ rfl, hk2⟩

def namesS (xs : List (Int × List UInt8)) : List ByteArray := (xs.filter fun x => x.1 == 0).map fun x => strB x.2
def pickS (ns : List ByteArray) : ByteArray × Int :=
  match ns with
  | [] => (⟨#[]⟩, 8)
  | [x] => if mayB x.data.toList then (x, 0) else (⟨#[]⟩, 9)
  | _ => (⟨#[]⟩, 7)
def nameS (d : List UInt8) : ByteArray × Int := if (walkS oneE d).2 = true then pickS (namesS (walkS oneE d).1) else (⟨#[]⟩, 3)

theorem namesS_snoc (xs : List (Int × List UInt8)) (x : Int × List UInt8) : namesS (xs ++ [x]) = if x.1 = 0 then namesS xs ++ [strB x.2] else namesS xs := by
  unfold namesS
  by_cases h : x.1 = 0 <;> simp [h]
theorem namesS_len (xs : List (Int × List UInt8)) : (namesS xs).length ≤ xs.length := by
  unfold namesS
  rw [List.length_map]
  exact List.length_filter_le _ _

theorem manyP_len {α : Type} (one : RSt → α × RSt) (n : Nat) (s : RSt) : (many one n s).1.length ≤ n := by
  induction n generalizing s with
  | zero => simp [many]
  | succ n ih =>
    unfold many
    split
    · simp
    · have := ih (one s).2
      simp
      omega
theorem walkS_len {α : Type} (one : RSt → α × RSt) (d : List UInt8) : (walkS one d).1.length ≤ d.length := by
  unfold walkS
  split
  · exact Nat.le_trans (manyP_len _ _ _) (rvec_len1 (d, false) 2)
  · simp

set_option maxRecDepth 10000 in
set_option maxHeartbeats 4000000 in
theorem name_any (M : Nat → Prop) (v0 : Value) (d : List UInt8) (w : World) (hd : Rd u8 M w v0 d) (hl : d.length ≤ 1000000000) :
    Calls Tryz.prog 142 #[v0] w fun e w' => e = .returned (.tuple #[.string (nameS d).1, .int .i64 (nameS d).2]) ∧ Stp (fun _ => False) w w' := by
  have HD := Lib.hid hd
  clear hd
  obtain ⟨xs, hxs⟩ : ∃ xs, xs = (walkS oneE d).1 := ⟨_, rfl⟩
  have HXS := Lib.hid hxs
  have hxl : xs.length ≤ 1000000000 := by rw [hxs]; exact Nat.le_trans (walkS_len _ _) hl
  clear hxs
  by_cases hok : (walkS oneE d).2 = true
  · have hn : nameS d = pickS (namesS xs) := by unfold nameS; rw [if_pos hok, HXS.out]
    rw [hn]
    clear hn
    go_enter Tryz.func142, Tryz.ntmps142
    go_wp2_with (go_at_call 165; refine stopc ?_)
    refine Stop.go ?_
    refine (walkE_any M _ d _ HD.out hl).mono ?_
    rw [hok, ← HXS.out]
    rintro e w1 ⟨v1, rfl, hx1, hs1⟩
    obtain ⟨A1, c1, rfl, hle1⟩ := hx1.form
    have HX := Lib.hid hx1
    have HS1 := Lib.hid hs1
    clear hx1 hs1
    go_wp2
    go_loopw [6, 18] (fun o i wr => ∃ k : Nat, k ≤ xs.length ∧ i = .int .i64 k ∧ Own Value.string 9 w1.heap.size wr o (namesS (xs.take k)) ∧ Stp (fun _ => False) w1 wr) (fun _ i _ => xs.length - (intOf i).toNat)
    case atStart => exact ⟨0, Nat.zero_le _, rfl, Own.nil _ _ _ _, Stp.refl _ _⟩
    case round =>
      obtain ⟨k, hk, rfl, ho, hs⟩ := hrel
      have HO := Lib.hid ho
      have HS := Lib.hid hs
      clear ho hs
      by_cases hlt : k < xs.length
      · obtain ⟨ad, v, rfl, hnM, hcell1, hcell2, hv⟩ := ext_cell (HX.out.stp0 HS.out) k hlt
        obtain ⟨Av, cv, rfl, hlev⟩ := hv.form
        have HV := Lib.hid hv
        clear hv
        have hcv : ∀ o, (convert 22 9 (.slice Av xs[k].2.length cv)).run Tryz.prog (wr.alloc o) = .ok (.string (strB xs[k].2)) (wr.alloc o) := fun o => conv_of (HV.out.stp0 ((Stp.refl _ _).alloc o))
        have hsn := namesS_snoc (xs.take k) xs[k]
        rw [← take_snoc _ _ hlt] at hsn
        by_cases hz : xs[k].1 = 0
        · have hb : (xs[k].1 == 0) = true := by simpa using hz
          rw [if_pos hz] at hsn
          have HSN := Lib.hid hsn
          clear hsn
          have hnl := namesS_len (xs.take k)
          rw [List.length_take] at hnl
          go_wp2_with (with_reducible refine stop (N := 30) rfl ?_)
          refine Stop.go ?_
          refine wp_append1 Value.string (strB xs[k].2) rfl rfl _ _ _ rfl Tryz.underlying26 info_str9 rfl (HO.out.stp0 (((Stp.refl _ _).alloc _).alloc _)) rfl ⟨wr.heap.size + 1, 0, none⟩ 1 rfl ?_ (by omega) (by omega) (by have := HS.out.size; simp; omega) ?_
          · simp [World.cell?_alloc_mark]
          · intro v3 w3 ho3 hg3
            rw [← HSN.out] at ho3
            have HO3 := Lib.hid ho3
            have HS3 := Lib.hid (((HS.out.alloc _).alloc _).own (HO.out.stp0 (((Stp.refl _ _).alloc _).alloc _)) hg3)
            clear ho3 hg3
            go_wp2
            go_roundw
            case rel => exact ⟨k + 1, by omega, by go_num, HO3.out, HS3.out⟩
            case measure => simp [intOf]; omega
        · have hb : (xs[k].1 == 0) = false := by simpa using hz
          rw [if_neg hz] at hsn
          have HSN := Lib.hid hsn
          clear hsn
          go_wp2
          go_roundw
          case rel => exact ⟨k + 1, by omega, by go_num, by rw [HSN.out]; exact HO.out.stp0 ((Stp.refl _ _).alloc _), HS.out.alloc _⟩
          case measure => simp [intOf]; omega
      · obtain rfl : k = xs.length := by omega
        rw [List.take_length] at HO
        obtain ⟨ns, hns⟩ : ∃ ns, ns = namesS xs := ⟨_, rfl⟩
        rw [← hns] at HO
        have HNS := Lib.hid hns
        clear hns
        obtain ⟨A6, c6, rfl, hle6⟩ := HO.out.form
        match ns, HNS, HO, hle6 with
        | [], HNS, HO, hle6 =>
          go_wp2
          go_ret2
          exact ⟨by rw [← HNS.out]; rfl, HS1.out.trans HS.out⟩
        | [x], HNS, HO, hle6 =>
          obtain ⟨g, rfl, _, _, _⟩ := HO.out.at_ (by simp)
          have hcell := HO.out.cellAt 0 (by simp)
          by_cases hm : mayB x.data.toList = true
          · go_wp2_with (go_at_call 30; refine (may_any _ _).mono ?_; (try simp only [List.getElem_cons_zero]); rw [hm]; rintro e w' ⟨rfl, hs⟩; have HS2 := Lib.hid hs; have hcell := hs.cell hcell id; clear hs)
            go_ret2
            exact ⟨by rw [← HNS.out]; simp [pickS, hm], HS1.out.trans (HS.out.trans HS2.out)⟩
          · have hm' : mayB x.data.toList = false := by simpa using hm
            go_wp2_with (go_at_call 30; refine (may_any _ _).mono ?_; (try simp only [List.getElem_cons_zero]); rw [hm']; rintro e w' ⟨rfl, hs⟩; have HS2 := Lib.hid hs; clear hs)
            go_ret2
            exact ⟨by rw [← HNS.out]; simp [pickS, hm'], HS1.out.trans (HS.out.trans HS2.out)⟩
        | x :: y :: r, HNS, HO, hle6 =>
          go_wp2
          go_ret2
          exact ⟨by rw [← HNS.out]; rfl, HS1.out.trans HS.out⟩
  · have hn : nameS d = (⟨#[]⟩, 3) := by unfold nameS; rw [if_neg hok]
    have hok' : (walkS oneE d).2 = false := by simpa using hok
    rw [hn]
    clear hn
    go_enter Tryz.func142, Tryz.ntmps142
    go_wp2_with (go_at_call 165; refine (walkE_any M _ d _ HD.out hl).mono ?_; rw [hok']; rintro e w1 ⟨v1, rfl, hx1, hs1⟩; have HS1 := Lib.hid hs1; clear hx1 hs1)
    go_ret2
    exact ⟨rfl, HS1.out⟩
end Go.Proofs.YtligofmhbbgalaaGreatDoor.L

/- exts: Protocols, Versions. -/
namespace Go.Proofs.YtligofmhbbgalaaGreatDoor.L
open Go.RowKit Go.Proofs

def hasE (l : List ByteArray) : Bool := l.any fun s => s.size == 0
theorem hasE_iff (l : List ByteArray) : hasE l = true ↔ (⟨#[]⟩ : ByteArray) ∈ l := by
  unfold hasE
  rw [List.any_eq_true]
  constructor
  · rintro ⟨x, hx, h0⟩
    have : x = ⟨#[]⟩ := by
      have h0 : x.size = 0 := by simpa using h0
      cases x with | mk a => cases a with | mk l => cases l with
        | nil => rfl
        | cons a l => simp [ByteArray.size] at h0
    exact this ▸ hx
  · intro h
    exact ⟨_, h, rfl⟩
def protS (d : List UInt8) : List ByteArray × Int :=
  if (walkS oneS d).2 = true ∧ hasE (walkS oneS d).1 = false then ((walkS oneS d).1, 0) else ([], 3)

set_option maxRecDepth 10000 in
set_option maxHeartbeats 4000000 in
theorem prot_any (M : Nat → Prop) (v0 : Value) (d : List UInt8) (w : World) (hd : Rd u8 M w v0 d) (hl : d.length ≤ 1000000000) :
    Calls Tryz.prog 143 #[v0] w fun e w' => ∃ v, e = .returned (.tuple #[v, .int .i64 (protS d).2]) ∧ Rd str (fun k => k < w.heap.size) w' v (protS d).1 ∧ Stp (fun _ => False) w w' := by
  have HD := Lib.hid hd
  clear hd
  have hxl := Nat.le_trans (walkS_len oneS d) hl
  by_cases hok : (walkS oneS d).2 = true
  · by_cases hin : hasE (walkS oneS d).1 = true
    · have hn : protS d = ([], 3) := by unfold protS; rw [if_neg (fun h => by rw [hin] at h; cases h.2)]
      rw [hn]
      clear hn
      go_enter Tryz.func143, Tryz.ntmps143
      go_wp2_with (first
        | (go_at_call 167; refine (walkP_any M _ d _ HD.out hl).mono ?_; rw [hok]; rintro e w1 ⟨v1, rfl, hx1, hs1⟩; obtain ⟨A1, c1, rfl, hle1⟩ := hx1.form; have HX := Lib.hid hx1; have HS1 := Lib.hid hs1; clear hx1 hs1)
        | (go_at_call 169; refine (containsS_any (fun k => k < w.heap.size) _ ⟨#[]⟩ (walkS oneS d).1 _ HX.out hxl true (by rw [← hasE_iff, hin])).mono ?_; rintro e w' ⟨rfl, rfl⟩))
      go_ret2
      exact ⟨_, rfl, Rd.nil _ _ _, HS1.out⟩
    · have hn : protS d = ((walkS oneS d).1, 0) := by unfold protS; rw [if_pos ⟨hok, by simpa using hin⟩]
      rw [hn]
      clear hn
      go_enter Tryz.func143, Tryz.ntmps143
      go_wp2_with (first
        | (go_at_call 167; refine (walkP_any M _ d _ HD.out hl).mono ?_; rw [hok]; rintro e w1 ⟨v1, rfl, hx1, hs1⟩; obtain ⟨A1, c1, rfl, hle1⟩ := hx1.form; have HX := Lib.hid hx1; have HS1 := Lib.hid hs1; clear hx1 hs1)
        | (go_at_call 169; refine (containsS_any (fun k => k < w.heap.size) _ ⟨#[]⟩ (walkS oneS d).1 _ HX.out hxl false (by rw [← hasE_iff]; simpa using hin)).mono ?_; rintro e w' ⟨rfl, rfl⟩))
      go_ret2
      exact ⟨_, rfl, HX.out, HS1.out⟩
  · have hok' : (walkS oneS d).2 = false := by simpa using hok
    have hn : protS d = ([], 3) := by unfold protS; rw [if_neg (fun h => hok h.1)]
    rw [hn]
    clear hn
    go_enter Tryz.func143, Tryz.ntmps143
    go_wp2_with (go_at_call 167; refine (walkP_any M _ d _ HD.out hl).mono ?_; rw [hok']; rintro e w1 ⟨v1, rfl, hx1, hs1⟩; obtain ⟨A1, c1, rfl, hle1⟩ := hx1.form; have HS1 := Lib.hid hs1; clear hx1 hs1)
    go_ret2
    exact ⟨_, rfl, Rd.nil _ _ _, HS1.out⟩

/-- Numbers of two bytes. -/
def twos : List UInt8 → List Int
  | a :: b :: r => ((a.toNat * 256 + b.toNat : Nat) : Int) :: twos r
  | _ => []
theorem rnum_two (a b : UInt8) (r : List UInt8) : rnum (a :: b :: r, false) 2 = (((a.toNat * 256 + b.toNat : Nat) : Int), (r, false)) := by
  unfold rnum rtake
  rw [show clampN 2 = 2 by decide, if_neg (by simp; omega)]
  simp [beNum]
theorem twos_len (l : List UInt8) : (twos l).length ≤ l.length := by
  induction l using twos.induct with
  | case1 a b r ih => simp [twos]; omega
  | case2 l h => cases l with
    | nil => simp [twos]
    | cons a l => cases l with
      | nil => simp [twos]
      | cons b r => exact absurd rfl (h a b r)

def versS (d : List UInt8) : List Int × Int :=
  if (rvec (d, false) 1).2.2 = false ∧ (rvec (d, false) 1).2.1.length = 0 ∧ (rvec (d, false) 1).1.length ≠ 0 ∧ (rvec (d, false) 1).1.length % 2 = 0 then (twos (rvec (d, false) 1).1, 0) else ([], 3)

set_option maxRecDepth 10000 in
set_option maxHeartbeats 4000000 in
theorem vers_any (M : Nat → Prop) (v0 : Value) (d : List UInt8) (w : World) (hd : Rd u8 M w v0 d) (hl : d.length ≤ 1000000000) :
    Calls Tryz.prog 144 #[v0] w fun e w' => ∃ v, e = .returned (.tuple #[v, .int .i64 (versS d).2]) ∧ Rd (int .i64) (fun k => k < w.heap.size) w' v (versS d).1 ∧ Stp (fun _ => False) w w' := by
  obtain ⟨a, s1, hv⟩ : ∃ a s1, rvec (d, false) 1 = (a, s1) := ⟨_, _, rfl⟩
  have hal : a.length ≤ d.length := by have := rvec_len1 (d, false) 1; rw [hv] at this; exact this
  have hs1l : s1.1.length ≤ d.length := by have := rvec_len (d, false) 1; rw [hv] at this; exact this
  have HV := Lib.hid hv
  have HD := Lib.hid hd
  clear hv hd
  go_enter Tryz.func144, Tryz.ntmps144
  go_wp2_with (go_at_call 132; refine stopc ?_)
  refine Stop.go ?_
  refine (read_any M _ d _ HD.out (by omega)).mono ?_
  rintro e w1 ⟨gr, rfl, hi1, hs1⟩
  have HG := Lib.hid (Nat.not_lt.1 hi1.1)
  have HI1 := Lib.hid (hi1.weak (M' := fun _ => False) (fun _ _ h => h.elim))
  have HS1 := Lib.hid hs1
  clear hi1 hs1
  go_wp2_with (go_at_call 135; refine stopc ?_)
  refine Stop.go ?_
  refine (rvec_any (fun _ => False) gr _ _ _ HI1.out (by simp only; omega)).mono ?_
  rw [HV.out]
  rintro e w2 ⟨v2, rfl, ho2, hi2, hs2⟩
  have HI2 := Lib.hid hi2
  have HO2 := Lib.hid ho2
  have HS2 := Lib.hid (HS1.out.new hs2 HG.out)
  clear hi2 ho2 hs2
  go_wp2_with (go_at_call 132; refine stopc ?_)
  refine Stop.go ?_
  refine (read_any (fun _ => False) _ a _ (HO2.out.rd (h1 := fun _ => rfl) (fun _ _ => id)) (by omega)).mono ?_
  rintro e w3 ⟨gi, rfl, hi3, hs3⟩
  obtain ⟨Mi, hMi⟩ : ∃ M : Nat → Prop, M = fun k => k < w2.heap.size ∨ w3.heap.size ≤ k := ⟨_, rfl⟩
  have HMI := Lib.hid hMi
  have HGI := Lib.hid (And.intro (Nat.not_lt.1 hi3.1) hi3.lt)
  have HI3 := Lib.hid (hi3.weak (M' := Mi) (by
    rw [hMi]
    intro k hk h
    omega))
  have HR3 := Lib.hid (HI2.out.stp0 hs3)
  have HS3 := Lib.hid (HS2.out.trans hs3)
  have HX3 := Lib.hid hs3.size
  clear hMi hi3 hs3
  by_cases hok : s1.2 = false ∧ s1.1.length = 0 ∧ a.length ≠ 0 ∧ a.length % 2 = 0
  · have hw : versS d = (twos a, 0) := by
      unfold versS
      rw [HV.out, if_pos hok]
    have HW := Lib.hid hw
    clear hw
    obtain ⟨hok1, hok2, hok3, hok4⟩ := hok
    have hz1 : (!s1.2 && (s1.1.length : Int) == 0) = true := by rw [hok1, hok2]; rfl
    have hz2 : ((a.length : Int) == 0) = false := by simpa using hok3
    have hz3 : ((a.length : Int) % 2 != 0) = false := by
      have : (a.length : Int) % 2 = 0 := by omega
      rw [this]
      rfl
    clear hok1 hok2
    go_wp2_with (first
      | (go_at_call 138; refine (done_any (fun _ => False) gr _ _ HR3.out (by omega)).mono ?_; rw [hz1]; rintro e w' ⟨rfl, rfl⟩)
      | (go_at_call 162; refine (left_any Mi gi _ _ HI3.out (by simp only; omega)).mono ?_; rintro e w' ⟨rfl, rfl⟩))
    go_loopg [6] a.length (fun n o wr => ∃ xs s, twos a = xs ++ twos s ∧ s.length = n ∧ n % 2 = 0 ∧ n ≤ a.length ∧ xs.length + n ≤ a.length ∧ Own (Value.int .i64) 3 w3.heap.size wr o xs ∧ IsRd Mi wr gi (s, false) ∧ Stp (fun _ => False) w wr ∧ w3.heap.size ≤ wr.heap.size)
    case atStart => exact ⟨[], a, by simp, rfl, hok4, Nat.le_refl _, by simp, Own.nil _ _ _ _, HI3.out, HS3.out, Nat.le_refl _⟩
    case round =>
      obtain ⟨xs, s, hm, hsl, hev, hna, hxl, ho, hi, hs, hswr⟩ := hrel
      have HM := Lib.hid hm
      have HO := Lib.hid ho
      have HI := Lib.hid hi
      have HS := Lib.hid hs
      clear hm ho hi hs
      match s, hsl, HM, HI with
      | [], hsl, HM, HI =>
        obtain ⟨A8, c8, rfl, hle8⟩ := HO.out.form
        have hx : xs = twos a := by rw [HM.out]; simp [twos]
        go_wp2_with (go_at_call 162; refine (left_any Mi gi _ _ HI.out (by simp)).mono ?_; simp only [List.length_nil]; rintro e w' ⟨rfl, rfl⟩)
        go_ret2
        refine ⟨_, by rw [HW.out]; rfl, ?_, HS.out⟩
        rw [HW.out, ← hx]
        have hh := HX3.out
        have hh2 := HS2.out.size
        exact HO.out.rd (h1 := fun _ => rfl) (fun k hk h => by have := (HO.out.lt k hk).1; omega)
      | [_], hsl, HM, HI => exact absurd hsl (by simp; omega)
      | b :: c :: r, hsl, HM, HI =>
        have hrn := rnum_two b c r
        have HRN := Lib.hid hrn
        clear hrn
        simp only [List.length_cons] at hsl
        have hpos : (0 : Int) < ((b :: c :: r).length : Int) := by simp; omega
        go_wp2_with (first
          | (go_at_call 162; refine (left_any Mi gi _ _ HI.out (by simp; omega)).mono ?_; rintro e w' ⟨rfl, rfl⟩)
          | (go_at_call 133; refine stopc ?_))
        refine Stop.go ?_
        refine (num_any Mi gi _ _ _ HI.out (by simp; omega)).mono ?_
        rw [HRN.out]
        rintro e w5 ⟨rfl, hi5, hs5⟩
        have HI5 := Lib.hid hi5
        have HS5 := Lib.hid hs5
        clear hi5 hs5
        go_wp2_with (with_reducible refine stop (N := 33) rfl ?_)
        refine Stop.go ?_
        have hgi := HGI.out
        have hh := HX3.out
        have hh2 := HS2.out.size
        have hh5 := HS5.out.size
        have hOX := (HO.out.step HS5.out (fun k hk he => by have := (HO.out.lt k hk).1; omega)).stp0 ((Stp.refl _ _).alloc (Obj.cells #[Value.int .i64 ((b.toNat * 256 + c.toNat : Nat) : Int)] 3))
        refine wp_append1 (Value.int .i64) ((b.toNat * 256 + c.toNat : Nat) : Int) rfl rfl _ _ _ rfl Tryz.underlying27 info_int rfl hOX rfl ⟨w5.heap.size, 0, none⟩ 1 rfl ?_ (by omega) (by omega) (by simp; omega) ?_
        · rw [World.cell?_alloc_new]
          rfl
        · intro v6 w6 ho6 hg6
          have HS6 := Lib.hid (((HS.out.new HS5.out (by omega)).alloc _).grown hg6 (fun k hk he => by have := (HO.out.lt k hk).1; omega))
          have HO6 := Lib.hid ho6
          have HI6 := Lib.hid ((HI5.out.stp0 ((Stp.refl _ _).alloc _)).step (Stp.of_grown hg6) (fun k hk he => by
            rw [HMI.out]
            have := (HO.out.lt k he).1
            exact .inr (by omega)))
          have hw6 := hg6.size
          clear ho6 hg6
          go_wp2
          go_roundg r.length
          case measure => omega
          case rel =>
            refine ⟨xs ++ [_], r, ?_, rfl, by omega, by omega, ?_, HO6.out, HI6.out, HS6.out, by simp at hw6; omega⟩
            · rw [HM.out]
              simp [twos]
            · rw [List.length_append]
              simp
              omega
  · have hw : versS d = ([], 3) := by
      unfold versS
      rw [HV.out, if_neg hok]
    have HW := Lib.hid hw
    clear hw
    by_cases hz : (!s1.2 && (s1.1.length : Int) == 0) = true
    · have hz12 : s1.2 = false ∧ s1.1.length = 0 := by
        simp only [Bool.and_eq_true, Bool.not_eq_true', beq_iff_eq] at hz
        exact ⟨hz.1, by omega⟩
      by_cases hz2' : a.length = 0
      · have hz2 : ((a.length : Int) == 0) = true := by simpa using hz2'
        go_wp2_with (first
          | (go_at_call 138; refine (done_any (fun _ => False) gr _ _ HR3.out (by omega)).mono ?_; rw [hz]; rintro e w' ⟨rfl, rfl⟩)
          | (go_at_call 162; refine (left_any Mi gi _ _ HI3.out (by simp only; omega)).mono ?_; rintro e w' ⟨rfl, rfl⟩))
        go_ret2
        exact ⟨_, by rw [HW.out]; rfl, by rw [HW.out]; exact Rd.nil _ _ _, HS3.out⟩
      · have hz2 : ((a.length : Int) == 0) = false := by simpa using hz2'
        have hz3 : ((a.length : Int) % 2 != 0) = true := by
          have h1 : ¬ a.length % 2 = 0 := fun h => hok ⟨hz12.1, hz12.2, hz2', h⟩
          have : (a.length : Int) % 2 = 1 := by omega
          rw [this]
          rfl
        go_wp2_with (first
          | (go_at_call 138; refine (done_any (fun _ => False) gr _ _ HR3.out (by omega)).mono ?_; rw [hz]; rintro e w' ⟨rfl, rfl⟩)
          | (go_at_call 162; refine (left_any Mi gi _ _ HI3.out (by simp only; omega)).mono ?_; rintro e w' ⟨rfl, rfl⟩))
        go_ret2
        exact ⟨_, by rw [HW.out]; rfl, by rw [HW.out]; exact Rd.nil _ _ _, HS3.out⟩
    · have hz' : (!s1.2 && (s1.1.length : Int) == 0) = false := by simpa using hz
      go_wp2_with (first
        | (go_at_call 138; refine (done_any (fun _ => False) gr _ _ HR3.out (by omega)).mono ?_; rw [hz']; rintro e w' ⟨rfl, rfl⟩)
        | (go_at_call 162; refine (left_any Mi gi _ _ HI3.out (by simp only; omega)).mono ?_; rintro e w' ⟨rfl, rfl⟩))
      go_ret2
      exact ⟨_, by rw [HW.out]; rfl, by rw [HW.out]; exact Rd.nil _ _ _, HS3.out⟩
end Go.Proofs.YtligofmhbbgalaaGreatDoor.L
