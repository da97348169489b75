/- Layer 2: numbers and their texts. -/
import Derived.Test.YtdamgdmipfoalaaGreatDoorAz
set_option linter.unusedVariables false
set_option linter.unusedSimpArgs false
namespace Go.Proofs.YtdamgdmipfoalaaGreatDoor.L
open Go.RowKit Go.Proofs

theorem decFrom_some (a : Nat) (l : List UInt8) (h : l.all (fun b => digR b.toNat) = true) : ∃ n, Lib.decFrom a l = some n := by
  induction l generalizing a with
  | nil => exact ⟨a, rfl⟩
  | cons b l ih =>
    rw [List.all_cons, Bool.and_eq_true] at h
    unfold digR at h
    simp only [Bool.and_eq_true, decide_eq_true_eq] at h
    rw [Lib.decFrom, show Lib.digitVal b = some (b.toNat - 48) by unfold Lib.digitVal; rw [if_pos h.1]]
    exact ih _ (by rw [← h.2]; rfl)
theorem decNat_of (l : List UInt8) (h : allS digR l = true) : ∃ n, Lib.decNat l = some n := by
  unfold allS at h
  rw [Bool.and_eq_true] at h
  obtain ⟨n, hn⟩ := decFrom_some 0 l h.1
  exact ⟨n, by unfold Lib.decNat; rw [if_neg (by simpa using h.2)]; exact hn⟩
theorem decNat_no (l : List UInt8) (h : allS digR l = false) : Lib.decNat l = none := by
  cases hd : Lib.decNat l with
  | none => rfl
  | some n =>
    obtain ⟨h0, hf⟩ := Lib.decNat_some hd
    unfold allS at h
    rw [Bool.and_eq_false_iff] at h
    rcases h with h | h
    · rw [List.all_eq_false] at h
      obtain ⟨c, hc, hp⟩ := h
      obtain ⟨j, hj⟩ := List.mem_iff_getElem?.1 hc
      obtain ⟨d, hd⟩ := Lib.digit_of_decFrom l 0 n hf j c hj
      obtain ⟨h1, h2, -⟩ := Lib.digitVal_eq hd
      exfalso
      apply hp
      unfold digR
      rw [show decide (48 ≤ c.toNat) = true by simpa using h1, show decide (c.toNat ≤ 57) = true by simpa using h2]
      rfl
    · cases l with
      | nil => exact absurd rfl h0
      | cons => simp at h
theorem atoi_of (l : List UInt8) (n : Nat) (h : allS digR l = true) (hn : Lib.decNat l = some n) : Lib.atoi l = some (n : Int) := by
  unfold allS at h
  rw [Bool.and_eq_true, List.all_eq_true] at h
  cases l with
  | nil => simp at h
  | cons b r =>
    have hb := h.1 b (by simp)
    unfold digR at hb
    simp only [Bool.and_eq_true, decide_eq_true_eq] at hb
    have e1 : (b == 45) = false := by
      rw [beq_eq_false_iff_ne]
      rintro rfl
      have : (45 : UInt8).toNat = 45 := rfl
      omega
    have e2 : (b == 43) = false := by
      rw [beq_eq_false_iff_ne]
      rintro rfl
      have : (43 : UInt8).toNat = 43 := rfl
      omega
    show (if (b == 45) = true then _ else if (b == 43) = true then _ else _) = _
    rw [e1, e2, if_neg (by decide), if_neg (by decide), hn]
    rfl

/-- A number, and whether it is one. -/
def NumRet (w : World) (r : Int × Bool) (e : Ending) (w' : World) : Prop := e = .returned (.tuple #[.int .i64 r.1, .bool r.2]) ∧ Stp (fun _ => False) w w'

theorem numS_no (l : List UInt8) (most : Int) (h : allS digR l = false) : numS l most = (0, false) := by
  unfold numS
  rw [decNat_no l h]
theorem numS_long (l : List UInt8) (most : Int) (h : ¬ l.length ≤ 18) : numS l most = (0, false) := by
  unfold numS
  cases Lib.decNat l with
  | none => rfl
  | some n => simp only; rw [if_neg (fun hh => h hh.1)]
theorem numS_zero (l : List UInt8) (most : Int) (h : 1 < l.length) (h0 : l[0]? = some 48) : numS l most = (0, false) := by
  unfold numS
  cases Lib.decNat l with
  | none => rfl
  | some n => simp only; rw [if_neg (fun hh => hh.2.1 ⟨h, h0⟩)]
theorem numS_gt (l : List UInt8) (most : Int) (n : Nat) (hn : Lib.decNat l = some n) (h : most < n) : numS l most = (0, false) := by
  unfold numS
  rw [hn]
  simp only
  rw [if_neg (fun hh => by have := hh.2.2; omega)]
theorem numS_ok (l : List UInt8) (most : Int) (n : Nat) (hn : Lib.decNat l = some n) (h1 : l.length ≤ 18) (h2 : ¬ (1 < l.length ∧ l[0]? = some 48)) (h : ¬ most < n) : numS l most = ((n : Int), true) := by
  unfold numS
  rw [hn]
  simp only
  rw [if_pos ⟨h1, h2, by omega⟩]
theorem stp_bytes (w : World) (s : ByteArray) : Stp (fun _ => False) w (Lib.bytesWorld w 5 s) :=
  ⟨rfl, rfl, rfl, by rw [Lib.bytesWorld_size]; omega, fun k hk _ => Lib.bytesWorld_at_old w 5 s k hk⟩

theorem byte48 (s : ByteArray) (h : 0 < s.size) : (((s[0]).toNat : Int) == 48) = decide (s.data.toList[0]? = some 48) := by
  rw [get_list s 0 h, Bool.eq_iff_iff, beq_iff_eq, decide_eq_true_eq, Option.some.injEq]
  have e : (48 : UInt8).toNat = 48 := rfl
  constructor
  · intro hh
    apply UInt8.toNat_inj.1
    omega
  · intro hh
    rw [hh]
    rfl

set_option maxRecDepth 100000 in
set_option maxHeartbeats 4000000 in
theorem number_any (s : ByteArray) (most : Int) (w : World) (hs : s.size ≤ 9223372036854775807) :
    Calls Tryz.prog 14 #[.string s, .int .i64 most] w (NumRet w (numS s.data.toList most)) := by
  obtain ⟨r, hr⟩ : ∃ r, r = numS s.data.toList most := ⟨_, rfl⟩
  rw [← hr]
  have hc := fun W => all_any 35 digR s W (enters_of Tryz.func35 (by kernel_rfl) rfl) (fun W x _ => digit_any x W) digR_high hs
  cases hall : allS digR s.data.toList with
  | false =>
    rw [hall] at hc
    rw [numS_no _ _ hall] at hr
    subst hr
    clear hall
    go_enter Tryz.func14, Tryz.ntmps14
    go_wp2_with (go_at_call 34; refine stopc ?_)
    refine Stop.go ?_
    refine (hc _).mono ?_
    rintro e w1 ⟨rfl, hs1⟩
    go_wp2
    go_ret2
    exact ⟨rfl, hs1⟩
  | true =>
    rw [hall] at hc
    obtain ⟨n, hn⟩ := decNat_of _ hall
    have HN := Lib.hid hn
    have HALL := Lib.hid hall
    clear hall
    by_cases h18 : s.size ≤ 18
    · have h18' : ¬ 18 < s.size := by omega
      by_cases hz : 1 < s.size ∧ s.data.toList[0]? = some 48
      · rw [numS_zero _ _ (by rw [size_list]; exact hz.1) hz.2] at hr
        subst hr
        obtain ⟨h1, h2⟩ := hz
        have hp : 0 < s.size := by omega
        have e48 := byte48 s hp
        rw [show decide (s.data.toList[0]? = some 48) = true by simpa using h2] at e48
        clear hn h2
        go_enter Tryz.func14, Tryz.ntmps14
        go_wp2_with (go_at_call 34; refine stopc ?_)
        refine Stop.go ?_
        refine (hc _).mono ?_
        rintro e w1 ⟨rfl, hs1⟩
        go_wp2
        go_ret2
        exact ⟨rfl, hs1⟩
      · have hat := atoi_of _ n HALL.out hn
        have ca := fun W => Tryz.strconv_Atoi s n h18 hat W
        have h0 : 0 < s.size := by
          rw [← size_list]
          exact List.length_pos_iff.2 (Lib.decNat_some hn).1
        have key : (¬ 1 < s.size) ∨ (1 < s.size ∧ ((s[0].toNat : Int) == 48) = false) := by
          by_cases h1 : 1 < s.size
          · right
            refine ⟨h1, ?_⟩
            rw [byte48 s h0, decide_eq_false_iff_not]
            exact fun h => hz ⟨h1, h⟩
          · left
            exact h1
        have HZ := Lib.hid hz
        have HR := Lib.hid hr
        clear hn hat hz hr
        by_cases hm : most < n
        · have HR2 := Lib.hid (HR.out.trans (numS_gt _ _ n HN.out hm))
          rcases key with k1 | ⟨k1, k2⟩
          all_goals
            go_enter Tryz.func14, Tryz.ntmps14
            go_wp2_with (go_at_call 34; refine stopc ?_)
            refine Stop.go ?_
            refine (hc _).mono ?_
            rintro e w1 ⟨rfl, hs1⟩
            have HS1 := Lib.hid hs1
            clear hs1
            go_wp2_with (go_at_call 36; refine stopc ?_)
            refine Stop.go ?_
            refine (ca _).mono ?_
            rintro e w2 ⟨rfl, t, hw2⟩
            have HS2 := Lib.hid (show Stp (fun _ => False) w w2 by rw [hw2]; exact HS1.out.trans (stp_bytes _ _))
            clear hw2
            go_wp2
            go_ret2
            exact ⟨by rw [HR2.out]; rfl, HS2.out⟩
        · have HR2 := Lib.hid (HR.out.trans (numS_ok _ _ n HN.out (by rw [size_list]; exact h18) (by rw [size_list]; exact HZ.out) hm))
          rcases key with k1 | ⟨k1, k2⟩
          all_goals
            go_enter Tryz.func14, Tryz.ntmps14
            go_wp2_with (go_at_call 34; refine stopc ?_)
            refine Stop.go ?_
            refine (hc _).mono ?_
            rintro e w1 ⟨rfl, hs1⟩
            have HS1 := Lib.hid hs1
            clear hs1
            go_wp2_with (go_at_call 36; refine stopc ?_)
            refine Stop.go ?_
            refine (ca _).mono ?_
            rintro e w2 ⟨rfl, t, hw2⟩
            have HS2 := Lib.hid (show Stp (fun _ => False) w w2 by rw [hw2]; exact HS1.out.trans (stp_bytes _ _))
            clear hw2
            go_wp2
            go_ret2
            exact ⟨by rw [HR2.out]; rfl, HS2.out⟩
    · rw [numS_long _ _ (by rw [size_list]; exact h18)] at hr
      subst hr
      have h18' : 18 < s.size := by omega
      clear hn
      go_enter Tryz.func14, Tryz.ntmps14
      go_wp2_with (go_at_call 34; refine stopc ?_)
      refine Stop.go ?_
      refine (hc _).mono ?_
      rintro e w1 ⟨rfl, hs1⟩
      go_wp2
      go_ret2
      exact ⟨rfl, hs1⟩
end Go.Proofs.YtdamgdmipfoalaaGreatDoor.L
