/- Texts of the proof, joined: Er Eq Ew Ec Ef. -/
import Derived.Test.YtligofmhbbgalaaGreatDoorG03
import Derived.Deep.RegionHeld3
import Derived.Lib.SliceRun
set_option linter.unusedVariables false
set_option linter.unusedSimpArgs false
/- The document's own Name. -/
namespace Go.Proofs.YtligofmhbbgalaaGreatDoor.L
open Go.RowKit Go.Proofs

theorem rvec_bad (s : RSt) (n : Int) (h : (rvec s n).2.2 = true) : (rvec s n).2.1 = [] := by
  unfold rvec at h ⊢
  split
  · rename_i hb
    exact rtake_bad' _ _ hb
  · rename_i hb
    rw [if_neg hb] at h
    exact rtake_bad' _ _ h
theorem many_bad {α : Type} (one : RSt → α × RSt) (n : Nat) (s : RSt) (h : s.2 = true) (h0 : s.1 = []) : (many one n s).2.2 = true := by
  rw [many_nil _ _ _ (by rw [h0]; rfl)]
  exact h

/-- A reader of the document's, just made. -/
theorem newRf {M M' : Nat → Prop} {W : World} {A : Option Addr} {c : Nat} {l : List UInt8} (h : Rd u8 M' W (.slice A l.length c) l) (hl : l.length ≤ 140737488355328) (hM : ¬ M W.heap.size) (hMM : ∀ k, k < W.heap.size → M k → M' k) :
    IsRf M (W.alloc (.cells #[.slice A l.length c, .int .i64 0, .bool false] 159)) W.heap.size (l, false) :=
  ⟨hM, A, c, 0, l, hl, Nat.zero_le _, heap_alloc_new W _, (h.weak (by decide) (fun k hk h => h.elim (fun h => absurd h (by omega)) (hMM k hk))).stp0 ((Stp.refl _ _).alloc _), rfl⟩

def lastS (ns : List ByteArray) : ByteArray := ns.getLast?.getD ⟨#[]⟩
theorem IsRf.stp0 {M : Nat → Prop} {W W1 : World} {g : Nat} {s : RSt} (h : IsRf M W g s) (hs : Stp (fun _ => False) W W1) : IsRf M W1 g s := h.step hs (fun _ _ h => h.elim)
theorem lastS_snoc (ns : List ByteArray) (x : ByteArray) : lastS (ns ++ [x]) = x := by simp [lastS]

theorem nameS_bad (d a : List UInt8) (s1 : RSt) (hv : rvec (d, false) 2 = (a, s1)) (h : ¬ (s1.2 = false ∧ s1.1.length = 0 ∧ a.length ≠ 0)) : nameS d = (⟨#[]⟩, 3) := by
  unfold nameS walkS
  rw [hv, if_neg h]
  rfl
theorem nameS_off (d a : List UInt8) (s1 : RSt) (hv : rvec (d, false) 2 = (a, s1)) (h : (many oneE a.length (a, false)).2.2 = true) : nameS d = (⟨#[]⟩, 3) := by
  unfold nameS walkS
  rw [hv]
  by_cases hc : s1.2 = false ∧ s1.1.length = 0 ∧ a.length ≠ 0
  · rw [if_pos hc]
    simp [h]
  · rw [if_neg hc]
    rfl
theorem nameS_good (d a : List UInt8) (s1 : RSt) (xs : List (Int × List UInt8)) (hv : rvec (d, false) 2 = (a, s1)) (h : s1.2 = false ∧ s1.1.length = 0 ∧ a.length ≠ 0) (hm : (many oneE a.length (a, false)).1 = xs) (hb : (many oneE a.length (a, false)).2.2 = false) :
    nameS d = pickS (namesS xs) := by
  unfold nameS walkS
  rw [hv, if_pos h]
  simp [hb, hm]

set_option maxRecDepth 10000 in
set_option maxHeartbeats 4000000 in
theorem nameR_any (M : Nat → Prop) (v0 : Value) (d : List UInt8) (w : World) (hd : Rd u8 M w v0 d) (hl : d.length ≤ 1000000000) :
    Calls Tryz.prog 86 #[v0] w fun e w' => e = .returned (.tuple #[.string (nameS d).1, .int .i64 (nameS d).2]) ∧ Stp (fun _ => False) w w' := by
  obtain ⟨A0, c0, rfl, hle0⟩ := hd.form
  obtain ⟨a, s1, hv⟩ : ∃ a s1, rvec (d, false) 2 = (a, s1) := ⟨_, _, rfl⟩
  have hal : a.length ≤ d.length := by have := rvec_len1 (d, false) 2; rw [hv] at this; exact this
  have hs1l : s1.1.length ≤ d.length := by have := rvec_len (d, false) 2; rw [hv] at this; exact this
  have HV := Lib.hid hv
  have HD := Lib.hid hd
  clear hv hd
  go_enter Tryz.func86, Tryz.ntmps86
  go_wp2_with (go_at_call 121; refine stopc ?_)
  refine Stop.go ?_
  have hr1 := newRf (M := fun k => w.heap.size ≤ k ∧ k ≠ w.heap.size) HD.out (by omega) (by simp) (fun k hk h => absurd h.1 (by omega))
  have HR1 := Lib.hid hr1
  clear hr1
  refine (rvecR_any _ _ _ _ _ HR1.out).mono ?_
  rw [HV.out]
  rintro e w2 ⟨v2, rfl, ho2, hi2, hs2⟩
  dsimp only at ho2 hi2
  obtain ⟨A2, c2, rfl, hle2⟩ := ho2.form
  have HR2 := Lib.hid hi2
  have HO2 := Lib.hid ho2
  have HS2 := Lib.hid (((Stp.refl (fun _ => False) w).alloc _).new hs2 (Nat.le_refl _))
  have hw2 : w.heap.size < w2.heap.size := hi2.lt
  clear hi2 ho2 hs2
  have hi3 := newRf (M := fun k => w2.heap.size + 1 ≤ k) (HO2.out.rd (h1 := fun _ => rfl) (M := fun _ => False) (fun _ _ => id)) (by omega) (by omega) (fun k hk h => absurd h (by omega))
  have HI3 := Lib.hid hi3
  have HR3 := Lib.hid (HR2.out.step ((Stp.refl (fun _ => False) _).alloc (.cells #[.slice A2 a.length c2, .int .i64 0, .bool false] 159)) (fun _ _ h => h.elim))
  have hoff := HR3.out.off
  have HS3 := Lib.hid (HS2.out.alloc (.cells #[.slice A2 a.length c2, .int .i64 0, .bool false] 159))
  clear hi3
  by_cases hok : s1.2 = false ∧ s1.1.length = 0 ∧ a.length ≠ 0
  · have HOK := Lib.hid hok
    obtain ⟨hok1, hok2, hok3⟩ := hok
    rw [hok1] at hoff
    have hz0 : s1.1 = [] := List.eq_nil_of_length_eq_zero hok2
    have hz1 : ¬ 0 < s1.1.length := by omega
    have hz2 : ((a.length : Int) == 0) = false := by simpa using hok3
    clear hok1 hok2
    go_wp2_with (first
      | (go_at_call 122; with_reducible refine (leftR_any _ _ _ _ HR3.out).mono ?_; rintro e w4 ⟨rfl, hs4⟩; have HS4 := Lib.hid (HS3.out.trans hs4); have HI4 := Lib.hid (HI3.out.stp0 hs4); clear hs4)
      | (go_at_call 122; with_reducible refine (leftR_any _ _ _ _ HI4.out).mono ?_; rintro e w5 ⟨rfl, hs5⟩; have HS5 := Lib.hid (HS4.out.trans hs5); have HI5 := Lib.hid (HI4.out.stp0 hs5); clear hs5))
    clear hoff hz0 hz1 HR3 HI4 HI3 HR2 HR1
    go_loopg [6, 7] a.length (fun n c o wr => ∃ xs s, many oneE a.length (a, false) = (xs ++ (many oneE n s).1, (many oneE n s).2) ∧ s.1.length ≤ n ∧ xs.length + n ≤ a.length ∧ c = .int .i64 ((namesS xs).length : Nat) ∧ o = .string (lastS (namesS xs)) ∧ (∀ y ∈ namesS xs, y.size ≤ 1000000000) ∧ s.2 = false ∧ IsRf (fun k => w2.heap.size + 1 ≤ k) wr w2.heap.size s ∧ Stp (fun _ => False) w wr)
    case atStart => exact ⟨[], (a, false), by simp, Nat.le_refl _, by simp, rfl, rfl, by simp [namesS], rfl, HI5.out, HS5.out⟩
    case round =>
      obtain ⟨xs, s, hm, hsl, hxl, rfl, rfl, hys, hsb, hi, hs⟩ := hrel
      have HY := Lib.hid hys
      clear hys
      have HM := Lib.hid hm
      have HI := Lib.hid hi
      have HS := Lib.hid hs
      clear hm hi hs
      have hnl := namesS_len xs
      by_cases h0 : s.1.length = 0
      · have hng := nameS_good d a s1 xs HV.out HOK.out (by rw [HM.out, many_nil _ _ _ h0]; simp) (by rw [HM.out, many_nil _ _ _ h0]; exact hsb)
        have HNG := Lib.hid hng
        clear hng
        have hz0 : s.1 = [] := List.eq_nil_of_length_eq_zero h0
        have hz1 : ¬ 0 < s.1.length := by omega
        obtain ⟨ns, hns⟩ : ∃ ns, ns = namesS xs := ⟨_, rfl⟩
        rw [← hns] at HNG hnl HY ⊢
        clear hns
        match ns, HNG, hnl, HY with
        | [], HNG, hnl, HY =>
          go_wp2_with (go_at_call 122; refine (leftR_any _ _ _ _ HI.out).mono ?_; rintro e w4 ⟨rfl, hs4⟩; have HS6 := Lib.hid (HS.out.trans hs4); clear hs4)
          go_ret2
          exact ⟨by rw [HNG.out]; rfl, HS6.out⟩
        | [x], HNG, hnl, HY =>
          have hxs := HY.out x (by simp)
          have hlx : lastS [x] = x := rfl
          rw [hlx]
          by_cases hm : mayB x.data.toList = true
          · have hm2 : x.size ≤ 255 ∧ visB x.data.toList = true := by
              unfold mayB at hm
              simpa using hm
            obtain ⟨hm3, hm4⟩ := hm2
            go_wp2_with (first
              | (go_at_call 122; refine (leftR_any _ _ _ _ HI.out).mono ?_; rintro e w4 ⟨rfl, hs4⟩; have HS6 := Lib.hid (HS.out.trans hs4); clear hs4)
              | (go_at_call 61; refine (visR_any _ _ (by omega)).mono ?_; rw [hm4]; rintro e w' ⟨rfl, rfl⟩))
            go_ret2
            exact ⟨by rw [HNG.out]; simp [pickS, hm], HS6.out⟩
          · have hm' : mayB x.data.toList = false := by simpa using hm
            by_cases hm3 : x.size ≤ 255
            · have hm4 : visB x.data.toList = false := by
                unfold mayB at hm'
                simpa [hm3] using hm'
              go_wp2_with (first
                | (go_at_call 122; refine (leftR_any _ _ _ _ HI.out).mono ?_; rintro e w4 ⟨rfl, hs4⟩; have HS6 := Lib.hid (HS.out.trans hs4); clear hs4)
                | (go_at_call 61; refine (visR_any _ _ (by omega)).mono ?_; rw [hm4]; rintro e w' ⟨rfl, rfl⟩))
              go_ret2
              exact ⟨by rw [HNG.out]; simp [pickS, hm'], HS6.out⟩
            · go_wp2_with (first
                | (go_at_call 122; refine (leftR_any _ _ _ _ HI.out).mono ?_; rintro e w4 ⟨rfl, hs4⟩; have HS6 := Lib.hid (HS.out.trans hs4); clear hs4)
                | (go_at_call 61; refine (visR_any _ _ (by omega)).mono ?_; rintro e w' ⟨rfl, rfl⟩))
              go_ret2
              exact ⟨by rw [HNG.out]; simp [pickS, hm'], HS6.out⟩
        | x :: y :: r, HNG, hnl, HY =>
          go_wp2_with (go_at_call 122; refine (leftR_any _ _ _ _ HI.out).mono ?_; rintro e w4 ⟨rfl, hs4⟩; have HS6 := Lib.hid (HS.out.trans hs4); clear hs4)
          go_ret2
          exact ⟨by rw [HNG.out]; rfl, HS6.out⟩
      · obtain ⟨m, rfl⟩ : ∃ m, gk = m + 1 := ⟨gk - 1, by omega⟩
        have HMC := Lib.hid (many_cons oneE m s h0)
        have hpos : 0 < s.1.length := by omega
        have hz0 : ¬ s.1 = [] := fun h => h0 (by rw [h]; rfl)
        have HLT := Lib.hid (oneE_lt s h0)
        have hdl : (rvec (rnum s 1).2 2).1.length ≤ s.1.length := Nat.le_trans (rvec_len1 _ _) (rnum_len s 1)
        go_wp2_with (first
          | (go_at_call 122; with_reducible refine (leftR_any _ _ _ _ HI.out).mono ?_; rintro e w5 ⟨rfl, hs5⟩; have HS6 := Lib.hid (HS.out.trans hs5); have HI6 := Lib.hid (HI.out.stp0 hs5); clear hs5)
          | (go_at_call 119; with_reducible refine (numR_any _ _ _ _ _ HI6.out).mono ?_; rintro e w7 ⟨rfl, hi7, hs7⟩; have HI7 := Lib.hid hi7; have HS7 := Lib.hid (HS6.out.new hs7 (by omega)); clear hi7 hs7)
          | (go_at_call 121; refine stopc ?_))
        refine Stop.go ?_
        refine (rvecR_any _ _ _ _ _ HI7.out).mono ?_
        rintro e w8 ⟨v8, rfl, ho8, hi8, hs8⟩
        obtain ⟨A8, c8, rfl, hle8⟩ := ho8.form
        have hcv := conv_own ho8
        have hoff := hi8.off
        have HI8 := Lib.hid hi8
        have HS8 := Lib.hid (HS7.out.new hs8 (by omega))
        clear ho8 hi8 hs8
        by_cases hb : (rvec (rnum s 1).2 2).2.2 = true
        · rw [hb] at hoff
          have hng := nameS_off d a s1 HV.out (by rw [HM.out, HMC.out]; exact many_bad _ _ _ hb (rvec_bad _ _ hb))
          have HNG := Lib.hid hng
          clear hng
          go_wp2
          go_ret2
          exact ⟨by rw [HNG.out]; rfl, HS8.out⟩
        · have hb' : (rvec (rnum s 1).2 2).2.2 = false := by simpa using hb
          rw [hb'] at hoff
          have hsn := namesS_snoc xs (oneE s).1
          by_cases hz : (rnum s 1).1 = 0
          · have hzb : ((rnum s 1).1 == 0) = true := by simpa using hz
            rw [if_pos (show (oneE s).1.1 = 0 from hz)] at hsn
            have HSN := Lib.hid hsn
            clear hsn
            go_wp2
            go_roundg m
            case measure => omega
            case rel =>
              refine ⟨xs ++ [(oneE s).1], (oneE s).2, ?_, ?_, ?_, ?_, ?_, ?_, hb', HI8.out, HS8.out⟩
              · rw [HM.out, HMC.out]
                simp
              · have := HLT.out
                omega
              · rw [List.length_append]
                simp
                omega
              · rw [HSN.out]
                simp
              · rw [HSN.out, lastS_snoc]
                rfl
              · rw [HSN.out]
                intro y hy
                rcases List.mem_append.1 hy with h | h
                · exact HY.out y h
                · rw [List.mem_singleton.1 h]
                  show (oneE s).1.2.length ≤ _
                  exact Nat.le_trans hdl (by omega)
          · have hzb : ((rnum s 1).1 == 0) = false := by simpa using hz
            rw [if_neg (show ¬ (oneE s).1.1 = 0 from hz)] at hsn
            have HSN := Lib.hid hsn
            clear hsn
            go_wp2
            go_roundg m
            case measure => omega
            case rel =>
              refine ⟨xs ++ [(oneE s).1], (oneE s).2, ?_, ?_, ?_, by rw [HSN.out], by rw [HSN.out], by rw [HSN.out]; exact HY.out, hb', HI8.out, HS8.out⟩
              · rw [HM.out, HMC.out]
                simp
              · have := HLT.out
                omega
              · rw [List.length_append]
                simp
                omega
  · have hn := nameS_bad d a s1 HV.out hok
    have HN := Lib.hid hn
    clear hn
    by_cases hb : s1.2 = true
    · rw [hb] at hoff
      go_wp2
      go_ret2
      exact ⟨by rw [HN.out]; rfl, HS3.out⟩
    · have hb' : s1.2 = false := by simpa using hb
      rw [hb'] at hoff
      by_cases hl1 : s1.1.length = 0
      · have hz0 : s1.1 = [] := List.eq_nil_of_length_eq_zero hl1
        have hz1 : ¬ 0 < s1.1.length := by omega
        have hz2 : ((a.length : Int) == 0) = true := by
          have ha0 : a.length = 0 := Decidable.byContradiction fun h => hok ⟨hb', hl1, h⟩
          simpa using ha0
        go_wp2_with (first
          | (go_at_call 122; with_reducible refine (leftR_any _ _ _ _ HR3.out).mono ?_; rintro e w4 ⟨rfl, hs4⟩; have HS4 := Lib.hid (HS3.out.trans hs4); have HI4 := Lib.hid (HI3.out.stp0 hs4); clear hs4)
          | (go_at_call 122; with_reducible refine (leftR_any _ _ _ _ HI4.out).mono ?_; rintro e w5 ⟨rfl, hs5⟩; have HS5 := Lib.hid (HS4.out.trans hs5); clear hs5))
        go_ret2
        exact ⟨by rw [HN.out]; rfl, HS5.out⟩
      · have hz0 : ¬ s1.1 = [] := fun h => hl1 (by rw [h]; rfl)
        have hz1 : 0 < s1.1.length := by omega
        go_wp2_with (go_at_call 122; with_reducible refine (leftR_any _ _ _ _ HR3.out).mono ?_; rintro e w4 ⟨rfl, hs4⟩; have HS4 := Lib.hid (HS3.out.trans hs4); clear hs4)
        go_ret2
        exact ⟨by rw [HN.out]; rfl, HS4.out⟩
end Go.Proofs.YtligofmhbbgalaaGreatDoor.L

/- The document's own Protocols, Versions. -/
namespace Go.Proofs.YtligofmhbbgalaaGreatDoor.L
open Go.RowKit Go.Proofs

theorem protS_bad (d a : List UInt8) (s1 : RSt) (hv : rvec (d, false) 2 = (a, s1)) (h : ¬ (s1.2 = false ∧ s1.1.length = 0 ∧ a.length ≠ 0)) : protS d = ([], 3) := by
  unfold protS walkS
  rw [hv, if_neg h]
  rfl
theorem protS_off (d a : List UInt8) (s1 : RSt) (hv : rvec (d, false) 2 = (a, s1)) (h : (many oneS a.length (a, false)).2.2 = true) : protS d = ([], 3) := by
  unfold protS walkS
  rw [hv]
  by_cases hc : s1.2 = false ∧ s1.1.length = 0 ∧ a.length ≠ 0
  · rw [if_pos hc]
    simp [h]
  · rw [if_neg hc]
    rfl
theorem protS_emp (d a : List UInt8) (s1 : RSt) (hv : rvec (d, false) 2 = (a, s1)) (h : hasE (many oneS a.length (a, false)).1 = true) : protS d = ([], 3) := by
  unfold protS walkS
  rw [hv]
  by_cases hc : s1.2 = false ∧ s1.1.length = 0 ∧ a.length ≠ 0
  · rw [if_pos hc]
    simp [h]
  · rw [if_neg hc]
    rfl
theorem protS_good (d a : List UInt8) (s1 : RSt) (xs : List ByteArray) (hv : rvec (d, false) 2 = (a, s1)) (h : s1.2 = false ∧ s1.1.length = 0 ∧ a.length ≠ 0) (hm : (many oneS a.length (a, false)).1 = xs) (hb : (many oneS a.length (a, false)).2.2 = false) (he : hasE xs = false) :
    protS d = (xs, 0) := by
  unfold protS walkS
  rw [hv, if_pos h]
  simp [hb, hm, he]
theorem hasE_app (xs ys : List ByteArray) : hasE (xs ++ ys) = (hasE xs || hasE ys) := by simp [hasE]
theorem hasE_cons (x : ByteArray) (ys : List ByteArray) : hasE (x :: ys) = (x.size == 0 || hasE ys) := by simp [hasE]

set_option maxRecDepth 10000 in
set_option maxHeartbeats 4000000 in
theorem protR_any (M : Nat → Prop) (v0 : Value) (d : List UInt8) (w : World) (hd : Rd u8 M w v0 d) (hl : d.length ≤ 1000000000) :
    Calls Tryz.prog 87 #[v0] w fun e w' => ∃ v, e = .returned (.tuple #[v, .int .i64 (protS d).2]) ∧ Rd str (fun k => k < w.heap.size) w' v (protS d).1 ∧ Stp (fun _ => False) w w' := by
  obtain ⟨A0, c0, rfl, hle0⟩ := hd.form
  obtain ⟨a, s1, hv⟩ : ∃ a s1, rvec (d, false) 2 = (a, s1) := ⟨_, _, rfl⟩
  have hal : a.length ≤ d.length := by have := rvec_len1 (d, false) 2; rw [hv] at this; exact this
  have hs1l : s1.1.length ≤ d.length := by have := rvec_len (d, false) 2; rw [hv] at this; exact this
  have HV := Lib.hid hv
  have HD := Lib.hid hd
  clear hv hd
  go_enter Tryz.func87, Tryz.ntmps87
  go_wp2_with (go_at_call 121; refine stopc ?_)
  refine Stop.go ?_
  have hr1 := newRf (M := fun k => w.heap.size ≤ k ∧ k ≠ w.heap.size) HD.out (by omega) (by simp) (fun k hk h => absurd h.1 (by omega))
  have HR1 := Lib.hid hr1
  clear hr1
  refine (rvecR_any _ _ _ _ _ HR1.out).mono ?_
  rw [HV.out]
  rintro e w2 ⟨v2, rfl, ho2, hi2, hs2⟩
  dsimp only at ho2 hi2
  obtain ⟨A2, c2, rfl, hle2⟩ := ho2.form
  have HR2 := Lib.hid hi2
  have HO2 := Lib.hid ho2
  have HS2 := Lib.hid (((Stp.refl (fun _ => False) w).alloc _).new hs2 (Nat.le_refl _))
  have hw2 : w.heap.size < w2.heap.size := hi2.lt
  clear hi2 ho2 hs2
  have hi3 := newRf (M := fun k => w2.heap.size + 1 ≤ k) (HO2.out.rd (h1 := fun _ => rfl) (M := fun _ => False) (fun _ _ => id)) (by omega) (by omega) (fun k hk h => absurd h (by omega))
  have HI3 := Lib.hid hi3
  have HR3 := Lib.hid (HR2.out.step ((Stp.refl (fun _ => False) _).alloc (.cells #[.slice A2 a.length c2, .int .i64 0, .bool false] 159)) (fun _ _ h => h.elim))
  have hoff := HR3.out.off
  have HS3 := Lib.hid (HS2.out.alloc (.cells #[.slice A2 a.length c2, .int .i64 0, .bool false] 159))
  clear hi3
  by_cases hok : s1.2 = false ∧ s1.1.length = 0 ∧ a.length ≠ 0
  · have HOK := Lib.hid hok
    obtain ⟨hok1, hok2, hok3⟩ := hok
    rw [hok1] at hoff
    have hz0 : s1.1 = [] := List.eq_nil_of_length_eq_zero hok2
    have hz1 : ¬ 0 < s1.1.length := by omega
    have hz2 : ((a.length : Int) == 0) = false := by simpa using hok3
    clear hok1 hok2
    go_wp2_with (first
      | (go_at_call 122; with_reducible refine (leftR_any _ _ _ _ HR3.out).mono ?_; rintro e w4 ⟨rfl, hs4⟩; have HS4 := Lib.hid (HS3.out.trans hs4); have HI4 := Lib.hid (HI3.out.stp0 hs4); have hw4 := hs4.size; clear hs4)
      | (go_at_call 122; with_reducible refine (leftR_any _ _ _ _ HI4.out).mono ?_; rintro e w5 ⟨rfl, hs5⟩; have HS5 := Lib.hid (HS4.out.trans hs5); have HI5 := Lib.hid (HI4.out.stp0 hs5); have hw5 := hs5.size; clear hs5))
    have hw25 : w2.heap.size + 1 ≤ w5.heap.size := by simp at hw4; omega
    clear hoff hz0 hz1 HR3 HI4 HI3 HR2 HR1
    go_loopg [6] a.length (fun n o wr => ∃ xs s, many oneS a.length (a, false) = (xs ++ (many oneS n s).1, (many oneS n s).2) ∧ s.1.length ≤ n ∧ xs.length + n ≤ a.length ∧ Own Value.string 9 w5.heap.size wr o xs ∧ hasE xs = false ∧ s.2 = false ∧ IsRf (fun k => w2.heap.size + 1 ≤ k) wr w2.heap.size s ∧ Stp (fun _ => False) w wr ∧ w5.heap.size ≤ wr.heap.size)
    case atStart => exact ⟨[], (a, false), by simp, Nat.le_refl _, by simp, Own.nil _ _ _ _, rfl, rfl, HI5.out, HS5.out, Nat.le_refl _⟩
    case round =>
      obtain ⟨xs, s, hm, hsl, hxl, ho, hne, hsb, hi, hs, hwr⟩ := hrel
      have HNE := Lib.hid hne
      have HM := Lib.hid hm
      have HI := Lib.hid hi
      have HS := Lib.hid hs
      have HO := Lib.hid ho
      have hws := HS5.out.size
      clear hm hi hs hne ho
      by_cases h0 : s.1.length = 0
      · have hng := protS_good d a s1 xs HV.out HOK.out (by rw [HM.out, many_nil _ _ _ h0]; simp) (by rw [HM.out, many_nil _ _ _ h0]; exact hsb) HNE.out
        have HNG := Lib.hid hng
        clear hng
        have hz0 : s.1 = [] := List.eq_nil_of_length_eq_zero h0
        have hz1 : ¬ 0 < s.1.length := by omega
        obtain ⟨A6, c6, rfl, hle6⟩ := HO.out.form
        go_wp2_with (go_at_call 122; refine (leftR_any _ _ _ _ HI.out).mono ?_; rintro e w6 ⟨rfl, hs6⟩; have HS6 := Lib.hid (HS.out.trans hs6); have HO6 := Lib.hid (HO.out.stp0 hs6); clear hs6)
        go_ret2
        refine ⟨_, by rw [HNG.out]; rfl, ?_, HS6.out⟩
        rw [HNG.out]
        exact HO6.out.rd (h1 := fun _ => rfl) (fun k hk h => by have := (HO6.out.lt k hk).1; omega)
      · obtain ⟨m, rfl⟩ : ∃ m, gk = m + 1 := ⟨gk - 1, by omega⟩
        have HMC := Lib.hid (many_cons oneS m s h0)
        have hpos : 0 < s.1.length := by omega
        have hz0 : ¬ s.1 = [] := fun h => h0 (by rw [h]; rfl)
        have HLT := Lib.hid (oneS_lt s h0)
        go_wp2_with (first
          | (go_at_call 122; with_reducible refine (leftR_any _ _ _ _ HI.out).mono ?_; rintro e w6 ⟨rfl, hs6⟩; have HS6 := Lib.hid (HS.out.trans hs6); have HI6 := Lib.hid (HI.out.stp0 hs6); have HO6 := Lib.hid (HO.out.stp0 hs6); have hw6 := hs6.size; clear hs6)
          | (go_at_call 121; refine stopc ?_))
        refine Stop.go ?_
        refine (rvecR_any _ _ _ _ _ HI6.out).mono ?_
        rintro e w8 ⟨v8, rfl, ho8, hi8, hs8⟩
        obtain ⟨A8, c8, rfl, hle8⟩ := ho8.form
        have hcv := conv_own ho8
        have hoff := hi8.off
        have HI8 := Lib.hid hi8
        have HO8 := Lib.hid (HO6.out.step hs8 (fun k hk he => by have := (HO6.out.lt k hk).1; omega))
        have HS8 := Lib.hid (HS6.out.new hs8 (by omega))
        have hw8 := hs8.size
        clear ho8 hi8 hs8
        by_cases hb : (rvec s 1).2.2 = true
        · rw [hb] at hoff
          have hng := protS_off d a s1 HV.out (by rw [HM.out, HMC.out]; exact many_bad _ _ _ hb (rvec_bad _ _ hb))
          have HNG := Lib.hid hng
          clear hng
          go_wp2
          go_ret2
          exact ⟨_, by rw [HNG.out]; rfl, by rw [HNG.out]; exact Rd.nil _ _ _, HS8.out⟩
        · have hb' : (rvec s 1).2.2 = false := by simpa using hb
          rw [hb'] at hoff
          by_cases hz : (rvec s 1).1.length = 0
          · have hzb : (((rvec s 1).1.length : Int) == 0) = true := by simpa using hz
            have hng := protS_emp d a s1 HV.out (by
              rw [HM.out, HMC.out]
              simp only [hasE_app, hasE_cons]
              have : (oneS s).1.size = 0 := hz
              simp [this])
            have HNG := Lib.hid hng
            clear hng hz
            go_wp2
            go_ret2
            exact ⟨_, by rw [HNG.out]; rfl, by rw [HNG.out]; exact Rd.nil _ _ _, HS8.out⟩
          · have hzb : (((rvec s 1).1.length : Int) == 0) = false := by simpa using hz
            go_wp2_with (with_reducible refine stop (N := 47) rfl ?_)
            refine Stop.go ?_
            have hOX := HO8.out.stp0 ((Stp.refl _ _).alloc (Obj.cells #[Value.string (strB (rvec s 1).1)] 9))
            refine wp_append1 Value.string (strB (rvec s 1).1) rfl rfl _ _ _ rfl Tryz.underlying26 info_str9 rfl hOX rfl ⟨w8.heap.size, 0, none⟩ 1 rfl ?_ (by omega) (by omega) (by simp; omega) ?_
            · rw [World.cell?_alloc_new]
              rfl
            · intro v9 w9 ho9 hg9
              have HS9 := Lib.hid ((HS8.out.alloc _).grown hg9 (fun k hk he => by have := (HO.out.lt k hk).1; omega))
              have HO9 := Lib.hid ho9
              have HI9 := Lib.hid ((HI8.out.stp0 ((Stp.refl _ _).alloc _)).step (Stp.of_grown hg9) (fun k hk he => by
                have := (HO.out.lt k he).1
                omega))
              have hw9 := hg9.size
              clear ho9 hg9
              go_wp2
              go_roundg m
              case measure => omega
              case rel =>
                refine ⟨xs ++ [(oneS s).1], (oneS s).2, ?_, ?_, ?_, HO9.out, ?_, hb', HI9.out, HS9.out, by simp at hw9; omega⟩
                · rw [HM.out, HMC.out]
                  simp
                · have := HLT.out
                  omega
                · rw [List.length_append]
                  simp
                  omega
                · rw [hasE_app, HNE.out, hasE_cons]
                  have : ¬ (oneS s).1.size = 0 := hz
                  simp [this, hasE]
  · have hn := protS_bad d a s1 HV.out hok
    have HN := Lib.hid hn
    clear hn
    by_cases hb : s1.2 = true
    · rw [hb] at hoff
      go_wp2
      go_ret2
      exact ⟨_, by rw [HN.out]; rfl, by rw [HN.out]; exact Rd.nil _ _ _, HS3.out⟩
    · have hb' : s1.2 = false := by simpa using hb
      rw [hb'] at hoff
      by_cases hl1 : s1.1.length = 0
      · have hz0 : s1.1 = [] := List.eq_nil_of_length_eq_zero hl1
        have hz1 : ¬ 0 < s1.1.length := by omega
        have hz2 : ((a.length : Int) == 0) = true := by
          have ha0 : a.length = 0 := Decidable.byContradiction fun h => hok ⟨hb', hl1, h⟩
          simpa using ha0
        go_wp2_with (first
          | (go_at_call 122; with_reducible refine (leftR_any _ _ _ _ HR3.out).mono ?_; rintro e w4 ⟨rfl, hs4⟩; have HS4 := Lib.hid (HS3.out.trans hs4); have HI4 := Lib.hid (HI3.out.stp0 hs4); clear hs4)
          | (go_at_call 122; with_reducible refine (leftR_any _ _ _ _ HI4.out).mono ?_; rintro e w5 ⟨rfl, hs5⟩; have HS5 := Lib.hid (HS4.out.trans hs5); clear hs5))
        go_ret2
        exact ⟨_, by rw [HN.out]; rfl, by rw [HN.out]; exact Rd.nil _ _ _, HS5.out⟩
      · have hz0 : ¬ s1.1 = [] := fun h => hl1 (by rw [h]; rfl)
        have hz1 : 0 < s1.1.length := by omega
        go_wp2_with (go_at_call 122; with_reducible refine (leftR_any _ _ _ _ HR3.out).mono ?_; rintro e w4 ⟨rfl, hs4⟩; have HS4 := Lib.hid (HS3.out.trans hs4); clear hs4)
        go_ret2
        exact ⟨_, by rw [HN.out]; rfl, by rw [HN.out]; exact Rd.nil _ _ _, HS4.out⟩
end Go.Proofs.YtligofmhbbgalaaGreatDoor.L

/- The document's own Versions; rows that are compared. -/
namespace Go.Proofs.YtligofmhbbgalaaGreatDoor.L
open Go.RowKit Go.Proofs

theorem plain_cell2 {α : Type} {enc : α → Value} {h1 : ∀ x, (enc x).oneCell' = true} {M : Nat → Prop} {W : World} {xs : List α} {ad : Addr} {n c : Nat} (h : Rd (.plain enc h1) M W (.slice (some ad) n c) xs) (j : Nat) (hj : j < xs.length) : W.cell? (ad.add j) = some (enc xs[j]) := by
  obtain ⟨ad', h1, _, h2⟩ := plain_cell h j hj
  injection h1 with h1
  rw [h1]
  exact h2
theorem versS_bad (d a : List UInt8) (s1 : RSt) (hv : rvec (d, false) 1 = (a, s1)) (h : ¬ (s1.2 = false ∧ s1.1.length = 0 ∧ a.length ≠ 0 ∧ a.length % 2 = 0)) : versS d = ([], 3) := by
  unfold versS
  rw [hv, if_neg h]
theorem versS_good (d a : List UInt8) (s1 : RSt) (hv : rvec (d, false) 1 = (a, s1)) (h : s1.2 = false ∧ s1.1.length = 0 ∧ a.length ≠ 0 ∧ a.length % 2 = 0) : versS d = (twos a, 0) := by
  unfold versS
  rw [hv, if_pos h]

set_option maxRecDepth 10000 in
set_option maxHeartbeats 4000000 in
theorem versR_any (M : Nat → Prop) (v0 : Value) (d : List UInt8) (w : World) (hd : Rd u8 M w v0 d) (hl : d.length ≤ 1000000000) :
    Calls Tryz.prog 88 #[v0] w fun e w' => ∃ v, e = .returned (.tuple #[v, .int .i64 (versS d).2]) ∧ Rd (int .i64) (fun k => k < w.heap.size) w' v (versS d).1 ∧ Stp (fun _ => False) w w' := by
  obtain ⟨A0, c0, rfl, hle0⟩ := hd.form
  obtain ⟨a, s1, hv⟩ : ∃ a s1, rvec (d, false) 1 = (a, s1) := ⟨_, _, rfl⟩
  have hal : a.length ≤ d.length := by have := rvec_len1 (d, false) 1; rw [hv] at this; exact this
  have hs1l : s1.1.length ≤ d.length := by have := rvec_len (d, false) 1; rw [hv] at this; exact this
  have HV := Lib.hid hv
  have HD := Lib.hid hd
  clear hv hd
  go_enter Tryz.func88, Tryz.ntmps88
  go_wp2_with (go_at_call 121; refine stopc ?_)
  refine Stop.go ?_
  have hr1 := newRf (M := fun k => w.heap.size ≤ k ∧ k ≠ w.heap.size) HD.out (by omega) (by simp) (fun k hk h => absurd h.1 (by omega))
  have HR1 := Lib.hid hr1
  clear hr1
  refine (rvecR_any _ _ _ _ _ HR1.out).mono ?_
  rw [HV.out]
  rintro e w2 ⟨v2, rfl, ho2, hi2, hs2⟩
  dsimp only at ho2 hi2
  obtain ⟨A2, c2, rfl, hle2⟩ := ho2.form
  have HR3 := Lib.hid hi2
  have HO2 := Lib.hid ho2
  have HS3 := Lib.hid (((Stp.refl (fun _ => False) w).alloc _).new hs2 (Nat.le_refl _))
  have hw2 : w.heap.size < w2.heap.size := hi2.lt
  clear hi2 ho2 hs2
  have hoff := HR3.out.off
  by_cases hb : s1.2 = true
  · have HN := Lib.hid (versS_bad d a s1 HV.out (fun h => by rw [hb] at h; cases h.1))
    rw [hb] at hoff
    go_wp2
    go_ret2
    exact ⟨_, by rw [HN.out]; rfl, by rw [HN.out]; exact Rd.nil _ _ _, HS3.out⟩
  have hb' : s1.2 = false := by simpa using hb
  rw [hb'] at hoff
  by_cases hl1 : 0 < s1.1.length
  · have HN := Lib.hid (versS_bad d a s1 HV.out (fun h => absurd h.2.1 (by omega)))
    have hz0 : ¬ s1.1 = [] := fun h => by rw [h] at hl1; cases hl1
    go_wp2_with (go_at_call 122; with_reducible refine (leftR_any _ _ _ _ HR3.out).mono ?_; rintro e w4 ⟨rfl, hs4⟩; have HS4 := Lib.hid (HS3.out.trans hs4); clear hs4)
    go_ret2
    exact ⟨_, by rw [HN.out]; rfl, by rw [HN.out]; exact Rd.nil _ _ _, HS4.out⟩
  have hl0 : s1.1.length = 0 := by omega
  have hz0 : s1.1 = [] := List.eq_nil_of_length_eq_zero hl0
  by_cases hok : a.length ≠ 0 ∧ a.length % 2 = 0
  · have HNG := Lib.hid (versS_good d a s1 HV.out ⟨hb', hl0, hok⟩)
    obtain ⟨hok3, hok4⟩ := hok
    have hz2 : ((a.length : Int) == 0) = false := by simpa using hok3
    have hz3 : ((a.length : Int) % 2 == 1) = false := by
      have : (a.length : Int) % 2 = 0 := by omega
      rw [this]
      rfl
    clear hb hb' hl0
    go_wp2_with (go_at_call 122; with_reducible refine (leftR_any _ _ _ _ HR3.out).mono ?_; rintro e w4 ⟨rfl, hs4⟩; have HS4 := Lib.hid (HS3.out.trans hs4); have HO4 := Lib.hid (HO2.out.stp0 hs4); clear hs4)
    have hsw := HS4.out.size
    clear hoff hz0 HR3 HR1
    go_loopw [6, 7] (fun o i wr => ∃ p xs, p ≤ a.length ∧ p % 2 = 0 ∧ i = .int .i64 (p : Nat) ∧ twos a = xs ++ twos (a.drop p) ∧ xs.length ≤ p ∧ Own (Value.int .i64) 3 w4.heap.size wr o xs ∧ Stp (fun _ => False) w4 wr) (fun _ i _ => a.length - (intOf i).toNat)
    case atStart => exact ⟨0, [], Nat.zero_le _, rfl, rfl, by simp, by simp, Own.nil _ _ _ _, Stp.refl _ _⟩
    case round =>
      obtain ⟨p, xs, hp, hpe, rfl, hm, hxl, ho, hs⟩ := hrel
      have HM := Lib.hid hm
      have HS := Lib.hid hs
      have HO := Lib.hid ho
      have hws := HS.out.size
      clear hm hs ho
      by_cases hlt : p < a.length
      · have hlt2 : p + 1 < a.length := by omega
        have hrd := (HO4.out.rd (h1 := fun _ => rfl) (M := fun _ => False) (fun _ _ => id)).stp0 HS.out
        obtain ⟨ad, rfl, _, hcell1⟩ := plain_cell hrd p hlt
        have hcell2 := plain_cell2 hrd (p + 1) hlt2
        have hadd : ad.add (p + 1) = ⟨ad.block, ad.off + (p + 1), none⟩ := by unfold Addr.add; simp
        rw [hadd] at hcell2
        have HADD := Lib.hid hadd
        clear hadd
        have HRD := Lib.hid hrd
        have hdr : a.drop p = a[p] :: a[p + 1] :: a.drop (p + 2) := by rw [List.drop_eq_getElem_cons hlt, List.drop_eq_getElem_cons hlt2]
        have HDR := Lib.hid hdr
        have hb1 := a[p].toNat_lt
        have hb2 := a[p + 1].toNat_lt
        simp only [enc8] at hcell1 hcell2
        clear hrd hdr
        have e1 : IntKind.i64.wrap ((p : Int) + 1) = (p : Int) + 1 := IntWalk.i64_in _ (by omega)
        have e2 : (0 : Int) ≤ (p : Int) + 1 ∧ (p : Int) + 1 < (a.length : Int) := by omega
        have e3 : ((p : Int) + 1).toNat = p + 1 := by omega
        have e4 : IntKind.i64.wrap (a[p].toNat : Int) = (a[p].toNat : Int) := IntWalk.i64_in _ (by omega)
        have e5 : IntKind.i64.wrap (a[p + 1].toNat : Int) = (a[p + 1].toNat : Int) := IntWalk.i64_in _ (by omega)
        have e6 : IntKind.i64.wrap ((a[p].toNat : Int) * 256) = (a[p].toNat : Int) * 256 := IntWalk.i64_in _ (by omega)
        have e7 : IntKind.i64.wrap ((a[p].toNat : Int) * 256 + (a[p + 1].toNat : Int)) = (a[p].toNat : Int) * 256 + (a[p + 1].toNat : Int) := IntWalk.i64_in _ (by omega)
        obtain ⟨e21, e22⟩ := e2
        go_wp2_with fail
        refine wp_region_held_drew (S := (fun w' => w'.cell? (ad.add p) = some (.int .u8 (a[p].toNat : Int)) ∧ w'.cell? ⟨ad.block, ad.off + (p + 1), none⟩ = some (.int .u8 (a[p + 1].toNat : Int)))) (by kernel_rfl) (⟨hcell1, hcell2⟩) (fun hHeld => ?_)
        try (change wpAnyH _ _ _ _ _ _ _ _ (World.drew _))
        refine rg_take (i := 0) (o := { dst := some 39, op := Op.move (Operand.tmp 6), type := 27, pos := "ref.go:100", after := #[], guard := none }) (v := ?rgv1) rfl (by kernel_rfl) (by kernel_rfl) (by kernel_rfl) (fun _ _ _ h => h) (by rfl) (fun w hSw => ?rgy1) hHeld ?_
        case rgy1 => (try dsimp only at hSw); first | (go_simp; done) | (go_simp; with_reducible rfl)
        try simp only [Act.put, List.setIfInBounds_toArray, List.set_cons_zero, List.set_cons_succ]
        refine rg_take (i := 1) (o := { dst := some 40, op := Op.move (Operand.tmp 5), type := 22, pos := "ref.go:100", after := #[], guard := none }) (v := ?rgv2) rfl (by kernel_rfl) (by kernel_rfl) (by kernel_rfl) (fun _ _ _ h => h) (by rfl) (fun w hSw => ?rgy2) hHeld ?_
        case rgy2 => (try dsimp only at hSw); first | (go_simp; done) | (go_simp; with_reducible rfl)
        try simp only [Act.put, List.setIfInBounds_toArray, List.set_cons_zero, List.set_cons_succ]
        refine rg_take (i := 2) (o := { dst := some 41, op := Op.move (Operand.tmp 7), type := 3, pos := "ref.go:100", after := #[], guard := none }) (v := ?rgv3) rfl (by kernel_rfl) (by kernel_rfl) (by kernel_rfl) (fun _ _ _ h => h) (by rfl) (fun w hSw => ?rgy3) hHeld ?_
        case rgy3 => (try dsimp only at hSw); first | (go_simp; done) | (go_simp; with_reducible rfl)
        try simp only [Act.put, List.setIfInBounds_toArray, List.set_cons_zero, List.set_cons_succ]
        refine rg_take (i := 3) (o := { dst := some 42, op := Op.indexAddr 22 (Operand.tmp 40) (Operand.tmp 41), type := 0, pos := "ref.go:100", after := #[{ on := 1, ground := Ground.data }, { on := 2, ground := Ground.data }], guard := none }) (v := ?rgv4) rfl (by kernel_rfl) (by kernel_rfl) (by kernel_rfl) (fun _ _ _ h => h) (by rfl) (fun w hSw => ?rgy4) hHeld ?_
        case rgy4 => (try dsimp only at hSw); first | (go_simp; done) | (go_simp; with_reducible rfl)
        try simp only [Act.put, List.setIfInBounds_toArray, List.set_cons_zero, List.set_cons_succ]
        refine rg_take (i := 4) (o := { dst := some 43, op := Op.load 5 (Operand.tmp 42), type := 5, pos := "ref.go:100", after := #[{ on := 3, ground := Ground.data }], guard := none }) (v := ?rgv5) rfl (by kernel_rfl) (by kernel_rfl) (by kernel_rfl) (fun _ _ _ h => h) (by rfl) (fun w hSw => ?rgy5) hHeld ?_
        case rgy5 => (try dsimp only at hSw); first | (go_simp; done) | (go_simp; with_reducible rfl)
        try simp only [Act.put, List.setIfInBounds_toArray, List.set_cons_zero, List.set_cons_succ]
        refine rg_take (i := 5) (o := { dst := some 44, op := Op.convert 5 3 (Operand.tmp 43), type := 3, pos := "ref.go:100", after := #[{ on := 4, ground := Ground.data }], guard := none }) (v := ?rgv6) rfl (by kernel_rfl) (by kernel_rfl) (by kernel_rfl) (fun _ _ _ h => h) (by rfl) (fun w hSw => ?rgy6) hHeld ?_
        case rgy6 => (try dsimp only at hSw); first | (go_simp; done) | (go_simp; with_reducible rfl)
        try simp only [Act.put, List.setIfInBounds_toArray, List.set_cons_zero, List.set_cons_succ]
        refine rg_take (i := 6) (o := { dst := some 45, op := Op.binOp BinOp.mul 3 (Operand.tmp 44) (Operand.const (Value.int IntKind.i64 256)) 3, type := 3, pos := "ref.go:100", after := #[{ on := 5, ground := Ground.data }], guard := none }) (v := ?rgv7) rfl (by kernel_rfl) (by kernel_rfl) (by kernel_rfl) (fun _ _ _ h => h) (by rfl) (fun w hSw => ?rgy7) hHeld ?_
        case rgy7 => (try dsimp only at hSw); first | (go_simp; done) | (go_simp; with_reducible rfl)
        try simp only [Act.put, List.setIfInBounds_toArray, List.set_cons_zero, List.set_cons_succ]
        refine rg_take (i := 7) (o := { dst := some 46, op := Op.move (Operand.tmp 5), type := 22, pos := "ref.go:100", after := #[], guard := none }) (v := ?rgv8) rfl (by kernel_rfl) (by kernel_rfl) (by kernel_rfl) (fun _ _ _ h => h) (by rfl) (fun w hSw => ?rgy8) hHeld ?_
        case rgy8 => (try dsimp only at hSw); first | (go_simp; done) | (go_simp; with_reducible rfl)
        try simp only [Act.put, List.setIfInBounds_toArray, List.set_cons_zero, List.set_cons_succ]
        refine rg_take (i := 8) (o := { dst := some 47, op := Op.move (Operand.tmp 7), type := 3, pos := "ref.go:100", after := #[], guard := none }) (v := ?rgv9) rfl (by kernel_rfl) (by kernel_rfl) (by kernel_rfl) (fun _ _ _ h => h) (by rfl) (fun w hSw => ?rgy9) hHeld ?_
        case rgy9 => (try dsimp only at hSw); first | (go_simp; done) | (go_simp; with_reducible rfl)
        try simp only [Act.put, List.setIfInBounds_toArray, List.set_cons_zero, List.set_cons_succ]
        refine rg_take (i := 9) (o := { dst := some 48, op := Op.binOp BinOp.add 3 (Operand.tmp 47) (Operand.const (Value.int IntKind.i64 1)) 3, type := 3, pos := "ref.go:100", after := #[{ on := 8, ground := Ground.data }], guard := none }) (v := ?rgv10) rfl (by kernel_rfl) (by kernel_rfl) (by kernel_rfl) (fun _ _ _ h => h) (by rfl) (fun w hSw => ?rgy10) hHeld ?_
        case rgy10 => (try dsimp only at hSw); first | (go_simp; done) | (go_simp; with_reducible rfl)
        try simp only [Act.put, List.setIfInBounds_toArray, List.set_cons_zero, List.set_cons_succ]
        refine rg_take (i := 10) (o := { dst := some 49, op := Op.indexAddr 22 (Operand.tmp 46) (Operand.tmp 48), type := 0, pos := "ref.go:100", after := #[{ on := 7, ground := Ground.data }, { on := 9, ground := Ground.data }], guard := none }) (v := ?rgv11) rfl (by kernel_rfl) (by kernel_rfl) (by kernel_rfl) (fun _ _ _ h => h) (by rfl) (fun w hSw => ?rgy11) hHeld ?_
        case rgy11 => (try dsimp only at hSw); first | (go_simp; done) | (go_simp; with_reducible rfl)
        try simp only [Act.put, List.setIfInBounds_toArray, List.set_cons_zero, List.set_cons_succ]
        refine rg_take (i := 11) (o := { dst := some 50, op := Op.load 5 (Operand.tmp 49), type := 5, pos := "ref.go:100", after := #[{ on := 10, ground := Ground.data }], guard := none }) (v := ?rgv12) rfl (by kernel_rfl) (by kernel_rfl) (by kernel_rfl) (fun _ _ _ h => h) (by rfl) (fun w hSw => ?rgy12) hHeld ?_
        case rgy12 => (try dsimp only at hSw); first | (go_simp; done) | (go_simp; with_reducible rfl)
        try simp only [Act.put, List.setIfInBounds_toArray, List.set_cons_zero, List.set_cons_succ]
        refine rg_take (i := 12) (o := { dst := some 51, op := Op.convert 5 3 (Operand.tmp 50), type := 3, pos := "ref.go:100", after := #[{ on := 11, ground := Ground.data }], guard := none }) (v := ?rgv13) rfl (by kernel_rfl) (by kernel_rfl) (by kernel_rfl) (fun _ _ _ h => h) (by rfl) (fun w hSw => ?rgy13) hHeld ?_
        case rgy13 => (try dsimp only at hSw); first | (go_simp; done) | (go_simp; with_reducible rfl)
        try simp only [Act.put, List.setIfInBounds_toArray, List.set_cons_zero, List.set_cons_succ]
        refine rg_take (i := 13) (o := { dst := some 52, op := Op.binOp BinOp.add 3 (Operand.tmp 45) (Operand.tmp 51) 3, type := 3, pos := "ref.go:100", after := #[{ on := 6, ground := Ground.data }, { on := 12, ground := Ground.data }], guard := none }) (v := ?rgv14) rfl (by kernel_rfl) (by kernel_rfl) (by kernel_rfl) (fun _ _ _ h => h) (by rfl) (fun w hSw => ?rgy14) hHeld ?_
        case rgy14 => (try dsimp only at hSw); first | (go_simp; done) | (go_simp; with_reducible rfl)
        try simp only [Act.put, List.setIfInBounds_toArray, List.set_cons_zero, List.set_cons_succ]
        refine wpAnyH_ready (rs := [14]) (by kernel_rfl) (by simp) ?_
        refine (AllReadyH.cons (o := { dst := some 53, op := Op.buildSlice 27 1 #[(0, Operand.tmp 52)], type := 27, pos := "ref.go:100", after := #[{ on := 13, ground := Ground.data }], guard := none }) rfl (fun K hK => ?_) AllReadyH.nil)
        go_simp
        show K _ _
        clear hHeld
        refine hK.out _ _ (⟨(((Stp.refl (fun _ => False) wr).drew).alloc _).cell hcell1 id, (((Stp.refl (fun _ => False) wr).drew).alloc _).cell hcell2 id⟩) (fun hHeld => ?_)
        clear hK K
        try simp only [Act.put, List.setIfInBounds_toArray, List.set_cons_zero, List.set_cons_succ]
        refine wpAnyH_ready (rs := [15]) (by kernel_rfl) (by simp) ?_
        refine (AllReadyH.cons (o := { dst := some 54, op := Op.call { callee := Callee.builtin Builtin.append, args := #[Operand.tmp 39, Operand.tmp 53], argTypes := #[27, 27] }, type := 27, pos := "ref.go:100", after := #[{ on := 0, ground := Ground.data }, { on := 14, ground := Ground.data }], guard := none }) rfl (fun K hK => ?_) AllReadyH.nil)
        refine op_appendRd (Value.int .i64) (h1e := fun _ => rfl) (M := fun _ => False) (ys := [(a[p].toNat : Int) * 256 + (a[p + 1].toNat : Int)]) _ _ _ (by rfl) Tryz.underlying27 info_int (by rfl) ((HO.out.stp0 ((Stp.refl _ _).drew)).stp0 ((Stp.refl _ _).alloc _)) (Rd.lit (W := wr.drew) [(a[p].toNat : Int) * 256 + (a[p + 1].toNat : Int)] #[.int .i64 ((a[p].toNat : Int) * 256 + (a[p + 1].toNat : Int))] rfl (by simp) id) (by rfl) (by rfl) (by simp; omega) (by simp; omega) (by simp; omega) ?_
        intro v9 w9 ho9 hg9
        have HS9 := Lib.hid (((HS.out.drew).alloc _).grown hg9 (fun k hk he => by have := (HO.out.lt k hk).1; omega))
        have HO9 := Lib.hid ho9
        have HR9 := Lib.hid (HO4.out.rd (h1 := fun _ => rfl) (M := fun _ => False) (fun _ _ => id) |>.stp0 HS9.out)
        clear ho9 hg9
        show K _ _
        clear hHeld
        refine hK.out _ _ (⟨plain_cell2 HR9.out p hlt, by rw [← HADD.out]; exact plain_cell2 HR9.out (p + 1) hlt2⟩) (fun hHeld => ?_)
        clear hK K
        try simp only [Act.put, List.setIfInBounds_toArray, List.set_cons_zero, List.set_cons_succ]
        refine rg_take (i := 16) (o := { dst := some 6, op := Op.assign (Operand.tmp 54), type := 27, pos := "ref.go:100", after := #[{ on := 15, ground := Ground.data }, { on := 15, ground := Ground.chain }, { on := 0, ground := Ground.phase }, { on := 1, ground := Ground.phase }, { on := 2, ground := Ground.phase }, { on := 3, ground := Ground.phase }, { on := 4, ground := Ground.phase }, { on := 5, ground := Ground.phase }, { on := 6, ground := Ground.phase }, { on := 7, ground := Ground.phase }, { on := 8, ground := Ground.phase }, { on := 9, ground := Ground.phase }, { on := 10, ground := Ground.phase }, { on := 11, ground := Ground.phase }, { on := 12, ground := Ground.phase }, { on := 13, ground := Ground.phase }, { on := 14, ground := Ground.phase }, { on := 15, ground := Ground.phase }], guard := none }) (v := ?rgv15) rfl (by kernel_rfl) (by kernel_rfl) (by kernel_rfl) (fun _ _ _ h => h) (by rfl) (fun w hSw => ?rgy15) hHeld ?_
        case rgy15 => (try dsimp only at hSw); first | (go_simp; done) | (go_simp; with_reducible rfl)
        try simp only [Act.put, List.setIfInBounds_toArray, List.set_cons_zero, List.set_cons_succ]
        clear hHeld
        refine wpAnyH_done (by kernel_rfl) ?_ _
        go_wp2
        go_roundw
        case rel =>
          refine ⟨p + 2, xs ++ [(a[p].toNat : Int) * 256 + (a[p + 1].toNat : Int)], by omega, by omega, by go_num, ?_, by simp; omega, HO9.out, HS9.out⟩
          rw [HM.out, HDR.out]
          simp [twos]
        case measure => simp [intOf]; omega
      · obtain rfl : p = a.length := by omega
        have hx : xs = twos a := by rw [HM.out]; simp [twos]
        obtain ⟨A8, c8, rfl, hle8⟩ := HO.out.form
        go_wp2
        go_ret2
        refine ⟨_, by rw [HNG.out]; rfl, ?_, HS4.out.trans HS.out⟩
        rw [HNG.out, ← hx]
        exact HO.out.rd (h1 := fun _ => rfl) (fun k hk h => by have := (HO.out.lt k hk).1; omega)
  · have HN := Lib.hid (versS_bad d a s1 HV.out (fun h => hok h.2.2))
    by_cases ha0 : a.length = 0
    · have hz2 : ((a.length : Int) == 0) = true := by simpa using ha0
      clear ha0 hok
      go_wp2_with (go_at_call 122; with_reducible refine (leftR_any _ _ _ _ HR3.out).mono ?_; rintro e w4 ⟨rfl, hs4⟩; have HS4 := Lib.hid (HS3.out.trans hs4); clear hs4)
      go_ret2
      exact ⟨_, by rw [HN.out]; rfl, by rw [HN.out]; exact Rd.nil _ _ _, HS4.out⟩
    · have hz2 : ((a.length : Int) == 0) = false := by simpa using ha0
      have hz3 : ((a.length : Int) % 2 == 1) = true := by
        have h1 : ¬ a.length % 2 = 0 := fun h => hok ⟨ha0, h⟩
        have : (a.length : Int) % 2 = 1 := by omega
        rw [this]
        rfl
      go_wp2_with (go_at_call 122; with_reducible refine (leftR_any _ _ _ _ HR3.out).mono ?_; rintro e w4 ⟨rfl, hs4⟩; have HS4 := Lib.hid (HS3.out.trans hs4); clear hs4)
      go_ret2
      exact ⟨_, by rw [HN.out]; rfl, by rw [HN.out]; exact Rd.nil _ _ _, HS4.out⟩
end Go.Proofs.YtligofmhbbgalaaGreatDoor.L

/- Rows that are compared. -/
namespace Go.Proofs.YtligofmhbbgalaaGreatDoor.L
open Go.RowKit Go.Proofs

set_option maxHeartbeats 1000000 in
theorem rows_any (M : Nat → Prop) (v0 v1 : Value) (xs ys : List ByteArray) (w : World) (hx : Rd str M w v0 xs) (hy : Rd str M w v1 ys) (hl : xs.length ≤ 1000000000) (hl2 : ys.length ≤ 1000000000) (b : Bool) (hb : b = true ↔ xs = ys) :
    Calls Tryz.prog 18 #[v0, v1] w fun e w' => e = .returned (.bool b) ∧ Stp (fun _ => False) w w' := by
  obtain ⟨A0, c0, rfl, hle0⟩ := hx.form
  obtain ⟨A1, c1, rfl, hle1⟩ := hy.form
  have HX := Lib.hid hx
  have HY := Lib.hid hy
  have HB := Lib.hid hb
  clear hx hy hb
  by_cases hlen : xs.length = ys.length
  · have hlne : ((xs.length : Int) != (ys.length : Int)) = false := by rw [hlen]; simp
    have HLEN := Lib.hid hlen
    clear hlen
    go_enter Tryz.func18, Tryz.ntmps18
    go_wp2
    go_loopw [5] (fun i wr => ∃ k : Nat, k ≤ xs.length ∧ i = .int .i64 k ∧ (∀ j (hj : j < xs.length) (hj2 : j < ys.length), j < k → xs[j] = ys[j]) ∧ Stp (fun _ => False) w wr) (fun i _ => xs.length - (intOf i).toNat)
    case atStart => exact ⟨0, Nat.zero_le _, rfl, fun j _ _ h => absurd h (by omega), Stp.refl _ _⟩
    case round =>
      obtain ⟨k, hk, rfl, hall, hs⟩ := hrel
      have HALL := Lib.hid hall
      have HS := Lib.hid hs
      clear hall hs
      by_cases hlt : k < xs.length
      · have hlt2 : k < ys.length := by have := HLEN.out; omega
        obtain ⟨ad, rfl, _, hcell⟩ := plain_cell (HX.out.stp0 HS.out) k hlt
        obtain ⟨ad2, rfl, _, hcell2⟩ := plain_cell (HY.out.stp0 HS.out) k hlt2
        by_cases he : xs[k] = ys[k]
        · have hb : (xs[k].toList != ys[k].toList) = false := by rw [he]; simp
          go_wp2_with fail
          go_quiet (fail)
          go_wp2
          go_roundw
          case rel =>
            refine ⟨k + 1, by omega, by go_num, fun j hj hj2 h => ?_, HS.out.drewN _⟩
            by_cases hjk : j = k
            · subst hjk
              exact he
            · exact HALL.out j hj hj2 (by omega)
          case measure => simp [intOf]; omega
        · have hb : (xs[k].toList == ys[k].toList) = false := ba_ne he
          have hbf : b = false := by
            rw [Bool.eq_false_iff]
            intro h
            have := HB.out.1 h
            subst this
            exact he rfl
          go_wp2_with fail
          go_quiet (fail)
          go_wp2
          go_ret
          exact ⟨by rw [hbf]; rfl, HS.out.drewN _⟩
      · obtain rfl : k = xs.length := by omega
        have hbt : b = true := HB.out.2 (List.ext_getElem HLEN.out (fun j h1 h2 => HALL.out j h1 h2 h1))
        go_wp2
        go_ret
        exact ⟨by rw [hbt]; rfl, HS.out⟩
  · have hlne : ((xs.length : Int) != (ys.length : Int)) = true := by simp; omega
    have hbf : b = false := by
      rw [Bool.eq_false_iff]
      intro h
      exact hlen (by rw [HB.out.1 h])
    clear hlen
    go_enter Tryz.func18, Tryz.ntmps18
    go_wp2
    go_ret
    exact ⟨by rw [hbf]; rfl, Stp.refl _ _⟩

set_option maxHeartbeats 1000000 in
theorem ints_any (M : Nat → Prop) (v0 v1 : Value) (xs ys : List Int) (w : World) (hx : Rd (int .i64) M w v0 xs) (hy : Rd (int .i64) M w v1 ys) (hl : xs.length ≤ 1000000000) (hl2 : ys.length ≤ 1000000000) (b : Bool) (hb : b = true ↔ xs = ys) :
    Calls Tryz.prog 46 #[v0, v1] w fun e w' => e = .returned (.bool b) ∧ Stp (fun _ => False) w w' := by
  obtain ⟨A0, c0, rfl, hle0⟩ := hx.form
  obtain ⟨A1, c1, rfl, hle1⟩ := hy.form
  have HX := Lib.hid hx
  have HY := Lib.hid hy
  have HB := Lib.hid hb
  clear hx hy hb
  by_cases hlen : xs.length = ys.length
  · have hlne : ((xs.length : Int) != (ys.length : Int)) = false := by rw [hlen]; simp
    have HLEN := Lib.hid hlen
    clear hlen
    go_enter Tryz.func46, Tryz.ntmps46
    go_wp2
    go_loopw [5] (fun i wr => ∃ k : Nat, k ≤ xs.length ∧ i = .int .i64 k ∧ (∀ j (hj : j < xs.length) (hj2 : j < ys.length), j < k → xs[j] = ys[j]) ∧ Stp (fun _ => False) w wr) (fun i _ => xs.length - (intOf i).toNat)
    case atStart => exact ⟨0, Nat.zero_le _, rfl, fun j _ _ h => absurd h (by omega), Stp.refl _ _⟩
    case round =>
      obtain ⟨k, hk, rfl, hall, hs⟩ := hrel
      have HALL := Lib.hid hall
      have HS := Lib.hid hs
      clear hall hs
      by_cases hlt : k < xs.length
      · have hlt2 : k < ys.length := by have := HLEN.out; omega
        obtain ⟨ad, rfl, _, hcell⟩ := plain_cell (HX.out.stp0 HS.out) k hlt
        obtain ⟨ad2, rfl, _, hcell2⟩ := plain_cell (HY.out.stp0 HS.out) k hlt2
        by_cases he : xs[k] = ys[k]
        · have hb : (xs[k] != ys[k]) = false := by rw [he]; simp
          go_wp2_with fail
          go_quiet (fail)
          go_wp2
          go_roundw
          case rel =>
            refine ⟨k + 1, by omega, by go_num, fun j hj hj2 h => ?_, HS.out.drewN _⟩
            by_cases hjk : j = k
            · subst hjk
              exact he
            · exact HALL.out j hj hj2 (by omega)
          case measure => simp [intOf]; omega
        · have hb : (xs[k] != ys[k]) = true := by simpa using he
          have hbf : b = false := by
            rw [Bool.eq_false_iff]
            intro h
            have := HB.out.1 h
            subst this
            exact he rfl
          go_wp2_with fail
          go_quiet (fail)
          go_wp2
          go_ret
          exact ⟨by rw [hbf]; rfl, HS.out.drewN _⟩
      · obtain rfl : k = xs.length := by omega
        have hbt : b = true := HB.out.2 (List.ext_getElem HLEN.out (fun j h1 h2 => HALL.out j h1 h2 h1))
        go_wp2
        go_ret
        exact ⟨by rw [hbt]; rfl, HS.out⟩
  · have hlne : ((xs.length : Int) != (ys.length : Int)) = true := by simp; omega
    have hbf : b = false := by
      rw [Bool.eq_false_iff]
      intro h
      exact hlen (by rw [HB.out.1 h])
    clear hlen
    go_enter Tryz.func46, Tryz.ntmps46
    go_wp2
    go_ret
    exact ⟨by rw [hbf]; rfl, Stp.refl _ _⟩
end Go.Proofs.YtligofmhbbgalaaGreatDoor.L

/- hello.Find, and the document's own. -/
namespace Go.Proofs.YtligofmhbbgalaaGreatDoor.L
open Go.RowKit Go.Proofs

set_option maxRecDepth 10000 in
set_option maxHeartbeats 1000000 in
theorem clone_any (M : Nat → Prop) (v0 : Value) (l : List UInt8) (w : World) (h : Rd u8 M w v0 l) (hl : l.length ≤ 1000000000) :
    Calls Tryz.prog 100 #[v0] w fun e w' => ∃ v, e = .returned v ∧ Rd u8 (fun k => k < w.heap.size) w' v l ∧ Stp (fun _ => False) w w' := by
  obtain ⟨A, c, rfl, hle⟩ := h.form
  have H := Lib.hid h
  clear h
  have hnil := fun (w : World) (A : Option Addr) (n c : Nat) => Lib.run_eql_slice_nil (P := Tryz.prog) w 22 5 A n c 0 0 Tryz.underlying22
  cases A with
  | none =>
    have h0 : l = [] := by
      obtain ⟨_, _, _, hc⟩ := H.out.at_
      apply List.eq_nil_of_length_eq_zero
      rcases Nat.eq_zero_or_pos l.length with h | h
      · exact h
      · obtain ⟨ad, ha, _⟩ := hc h
        cases ha
    subst h0
    go_enter Tryz.func100, Tryz.ntmps100
    go_wp2
    go_ret
    exact ⟨_, rfl, Rd.nil _ _ _, Stp.refl _ _⟩
  | some ad =>
    go_enter Tryz.func100, Tryz.ntmps100
    go_wp2_with (with_reducible refine stop (N := 7) rfl ?_)
    refine Stop.go ?_
    refine wp_appendRd enc8 (h1e := fun _ => rfl) rfl _ _ _ rfl Tryz.underlying22 info_u8 rfl (Own.lit (B := w.heap.size) ([] : List UInt8) #[] rfl (by simp) (by simp)) (H.out.stp0 ((Stp.refl _ _).alloc _)) rfl rfl (by simp; omega) (by simp; omega) (by simp) ?_
    intro v1 w1 ho1 hg1
    rw [List.nil_append] at ho1
    have HO1 := Lib.hid ho1
    have HS1 := Lib.hid (((Stp.refl (fun _ => False) w).alloc _).grown hg1 (by
          intro k hk hlt
          simp [Value.ownBlock] at hk
          omega))
    clear ho1 hg1
    go_wp2
    go_ret
    exact ⟨_, rfl, HO1.out.rd (h1 := fun _ => rfl) (fun k hk h => by have := (HO1.out.lt k hk).1; omega), HS1.out⟩

/-- The data of an extension, if there is one. -/
def findS (xs : List (Int × List UInt8)) (kind : Int) : List UInt8 × Bool :=
  match xs.find? (fun x => x.1 == kind) with
  | some x => (x.2, true)
  | none => ([], false)

theorem findS_hit (xs : List (Int × List UInt8)) (kind : Int) (k : Nat) (hk : k < xs.length) (hall : ∀ j (hj : j < xs.length), j < k → xs[j].1 ≠ kind) (he : xs[k].1 = kind) : findS xs kind = (xs[k].2, true) := by
  have : xs.find? (fun x => x.1 == kind) = some xs[k] := by
    rw [List.find?_eq_some_iff_getElem]
    refine ⟨by simpa using he, k, hk, rfl, fun j hj => ?_⟩
    have := hall j (by omega) hj
    simpa using this
  unfold findS
  rw [this]
theorem findS_miss (xs : List (Int × List UInt8)) (kind : Int) (hall : ∀ j (hj : j < xs.length), xs[j].1 ≠ kind) : findS xs kind = ([], false) := by
  have : xs.find? (fun x => x.1 == kind) = none := by
    rw [List.find?_eq_none]
    intro x hx
    obtain ⟨j, hj, rfl⟩ := List.mem_iff_getElem.1 hx
    simpa using hall j hj
  unfold findS
  rw [this]

set_option maxRecDepth 10000 in
set_option maxHeartbeats 4000000 in
theorem findH_any (M : Nat → Prop) (cs : Array Value) (A : Option Addr) (c : Nat) (xs : List (Int × List UInt8)) (kind : Int) (w : World) (hcs : cs.size = 38) (hc : ∀ h : 37 < cs.size, cs[37] = .slice A xs.length c) (h : Rd extK M w (.slice A xs.length c) xs) (hl : xs.length ≤ 1000000000) (hd : ∀ x ∈ xs, x.2.length ≤ 1000000000) :
    Calls Tryz.prog 141 #[.agg cs, .int .i64 kind] w fun e w' => ∃ v, e = .returned (.tuple #[v, .bool (findS xs kind).2]) ∧ Rd u8 (fun k => k < w.heap.size) w' v (findS xs kind).1 ∧ Stp (fun _ => False) w w' := by
  have H := Lib.hid h
  have HD := Lib.hid hd
  have hc37 := hc (by omega)
  clear h hc hd
  go_enter Tryz.func141, Tryz.ntmps141
  go_wp2
  go_loopw [11] (fun i wr => ∃ k : Nat, k ≤ xs.length ∧ i = .int .i64 k ∧ (∀ j (hj : j < xs.length), j < k → xs[j].1 ≠ kind) ∧ Stp (fun _ => False) w wr) (fun i _ => xs.length - (intOf i).toNat)
  case atStart => exact ⟨0, Nat.zero_le _, rfl, fun j _ h => absurd h (by omega), (Stp.refl _ _).alloc _⟩
  case round =>
    obtain ⟨k, hk, rfl, hall, hs⟩ := hrel
    have HALL := Lib.hid hall
    have HS := Lib.hid hs
    clear hall hs
    by_cases hlt : k < xs.length
    · obtain ⟨ad, v, rfl, hnM, hcell1, hcell2, hv⟩ := ext_cell (H.out.stp0 HS.out) k hlt
      obtain ⟨Av, cv, rfl, hlev⟩ := hv.form
      have HV := Lib.hid hv
      clear hv
      by_cases he : xs[k].1 = kind
      · have hb : (xs[k].1 == kind) = true := by simpa using he
        have HF := Lib.hid (findS_hit xs kind k hlt HALL.out he)
        clear he
        go_wp2_with (go_at_call 100; refine stopc ?_)
        refine Stop.go ?_
        refine (clone_any _ _ _ _ (HV.out.stp0 ((Stp.refl _ _).alloc _)) (HD.out _ (List.getElem_mem hlt))).mono ?_
        rintro e w2 ⟨v2, rfl, hr2, hs2⟩
        have HR2 := Lib.hid (hr2.weak (M' := fun k => k < w.heap.size) (by decide) (fun k hk h => by have := HS.out.size; simp; omega))
        have HS2 := Lib.hid ((HS.out.alloc _).trans hs2)
        clear hr2 hs2
        go_wp2
        go_ret2
        exact ⟨_, by rw [HF.out]; rfl, by rw [HF.out]; exact HR2.out, HS2.out⟩
      · have hb : (xs[k].1 == kind) = false := by simpa using he
        go_wp2
        go_roundw
        case rel =>
          refine ⟨k + 1, by omega, by go_num, fun j hj h => ?_, HS.out.alloc _⟩
          by_cases hjk : j = k
          · subst hjk
            exact he
          · exact HALL.out j hj (by omega)
        case measure => simp [intOf]; omega
    · obtain rfl : k = xs.length := by omega
      have HF := Lib.hid (findS_miss xs kind (fun j hj => HALL.out j hj hj))
      go_wp2
      go_ret2
      exact ⟨_, by rw [HF.out]; rfl, by rw [HF.out]; exact Rd.nil _ _ _, HS.out⟩

set_option maxRecDepth 10000 in
set_option maxHeartbeats 4000000 in
theorem findRH_any (M : Nat → Prop) (cs : Array Value) (A : Option Addr) (c : Nat) (xs : List (Int × List UInt8)) (kind : Int) (w : World) (hcs : cs.size = 38) (hc : ∀ h : 37 < cs.size, cs[37] = .slice A xs.length c) (h : Rd extK M w (.slice A xs.length c) xs) (hl : xs.length ≤ 1000000000) (hM : M w.heap.size → False) :
    Calls Tryz.prog 85 #[.agg cs, .int .i64 kind] w fun e w' => ∃ v, e = .returned (.tuple #[v, .bool (findS xs kind).2]) ∧ Rd u8 M w' v (findS xs kind).1 ∧ Stp (fun _ => False) w w' := by
  have H := Lib.hid h
  have hc37 := hc (by omega)
  clear h hc
  go_enter Tryz.func85, Tryz.ntmps85
  go_wp2
  go_loop [6] (fun i => ∃ k : Nat, k ≤ xs.length ∧ i = .int .i64 k ∧ (∀ j (hj : j < xs.length), j < k → xs[j].1 ≠ kind)) (fun i => xs.length - (intOf i).toNat)
  case atStart => exact ⟨0, Nat.zero_le _, rfl, fun j _ h => absurd h (by omega)⟩
  case round =>
    obtain ⟨k, hk, rfl, hall⟩ := hrel
    have HALL := Lib.hid hall
    clear hall
    by_cases hlt : k < xs.length
    · obtain ⟨ad, v, rfl, hnM, hcell1, hcell2, hv⟩ := ext_cell (H.out.stp0 ((Stp.refl (fun _ => False) w).alloc (.cells cs 69))) k hlt
      obtain ⟨Av, cv, rfl, hlev⟩ := hv.form
      have HV := Lib.hid hv
      clear hv
      by_cases he : xs[k].1 = kind
      · have hb : (xs[k].1 == kind) = true := by simpa using he
        have HF := Lib.hid (findS_hit xs kind k hlt HALL.out he)
        clear he
        go_wp2
        go_ret2
        exact ⟨_, by rw [HF.out]; rfl, by rw [HF.out]; exact HV.out, (Stp.refl _ _).alloc _⟩
      · have hb : (xs[k].1 == kind) = false := by simpa using he
        go_wp2
        go_round
        case rel =>
          refine ⟨k + 1, by omega, by go_num, fun j hj h => ?_⟩
          by_cases hjk : j = k
          · subst hjk
            exact he
          · exact HALL.out j hj (by omega)
        case measure => simp [intOf]; omega
    · obtain rfl : k = xs.length := by omega
      have HF := Lib.hid (findS_miss xs kind (fun j hj => HALL.out j hj hj))
      go_wp2
      go_ret2
      exact ⟨_, by rw [HF.out]; rfl, by rw [HF.out]; exact Rd.nil _ _ _, (Stp.refl _ _).alloc _⟩
end Go.Proofs.YtligofmhbbgalaaGreatDoor.L
