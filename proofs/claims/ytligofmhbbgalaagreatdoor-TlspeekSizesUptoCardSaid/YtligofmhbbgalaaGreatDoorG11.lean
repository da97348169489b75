/- Texts of the proof, joined: An. -/
import Derived.Test.YtligofmhbbgalaaGreatDoorG10
import Derived.Test.YtligofmhbbgalaaGreatDoorG09
import Derived.Lib.ItoaLen
import Derived.Laws.BitsLemmas
import Derived.Lib.RabinKarpLaws
set_option linter.unusedVariables false
set_option linter.unusedSimpArgs false
/- Layer 2: numbers and their texts. -/
namespace Go.Proofs.YtligofmhbbgalaaGreatDoor.L
open Go.RowKit Go.Proofs

theorem decFrom_some (a : Nat) (l : List UInt8) (h : l.all (fun b => digR b.toNat) = true) : ∃ n, Lib.decFrom a l = some n := by
  induction l generalizing a with
  | nil => exact ⟨a, rfl⟩
  | cons b l ih =>
    rw [List.all_cons, Bool.and_eq_true] at h
    unfold digR at h
    simp only [Bool.and_eq_true, decide_eq_true_eq] at h
    rw [Lib.decFrom, show Lib.digitVal b = some (b.toNat - 48) by unfold Lib.digitVal; rw [if_pos h.1]]
    exact ih _ (by rw [← h.2]; rfl)
theorem decNat_of (l : List UInt8) (h : allS digR l = true) : ∃ n, Lib.decNat l = some n := by
  unfold allS at h
  rw [Bool.and_eq_true] at h
  obtain ⟨n, hn⟩ := decFrom_some 0 l h.1
  exact ⟨n, by unfold Lib.decNat; rw [if_neg (by simpa using h.2)]; exact hn⟩
theorem decNat_no (l : List UInt8) (h : allS digR l = false) : Lib.decNat l = none := by
  cases hd : Lib.decNat l with
  | none => rfl
  | some n =>
    obtain ⟨h0, hf⟩ := Lib.decNat_some hd
    unfold allS at h
    rw [Bool.and_eq_false_iff] at h
    rcases h with h | h
    · rw [List.all_eq_false] at h
      obtain ⟨c, hc, hp⟩ := h
      obtain ⟨j, hj⟩ := List.mem_iff_getElem?.1 hc
      obtain ⟨d, hd⟩ := Lib.digit_of_decFrom l 0 n hf j c hj
      obtain ⟨h1, h2, -⟩ := Lib.digitVal_eq hd
      exfalso
      apply hp
      unfold digR
      rw [show decide (48 ≤ c.toNat) = true by simpa using h1, show decide (c.toNat ≤ 57) = true by simpa using h2]
      rfl
    · cases l with
      | nil => exact absurd rfl h0
      | cons => simp at h
theorem atoi_of (l : List UInt8) (n : Nat) (h : allS digR l = true) (hn : Lib.decNat l = some n) : Lib.atoi l = some (n : Int) := by
  unfold allS at h
  rw [Bool.and_eq_true, List.all_eq_true] at h
  cases l with
  | nil => simp at h
  | cons b r =>
    have hb := h.1 b (by simp)
    unfold digR at hb
    simp only [Bool.and_eq_true, decide_eq_true_eq] at hb
    have e1 : (b == 45) = false := by
      rw [beq_eq_false_iff_ne]
      rintro rfl
      have : (45 : UInt8).toNat = 45 := rfl
      omega
    have e2 : (b == 43) = false := by
      rw [beq_eq_false_iff_ne]
      rintro rfl
      have : (43 : UInt8).toNat = 43 := rfl
      omega
    show (if (b == 45) = true then _ else if (b == 43) = true then _ else _) = _
    rw [e1, e2, if_neg (by decide), if_neg (by decide), hn]
    rfl

/-- A number, and whether it is one. -/
def NumRet (w : World) (r : Int × Bool) (e : Ending) (w' : World) : Prop := e = .returned (.tuple #[.int .i64 r.1, .bool r.2]) ∧ Stp (fun _ => False) w w'

theorem numS_no (l : List UInt8) (most : Int) (h : allS digR l = false) : numS l most = (0, false) := by
  unfold numS
  rw [decNat_no l h]
theorem numS_long (l : List UInt8) (most : Int) (h : ¬ l.length ≤ 18) : numS l most = (0, false) := by
  unfold numS
  cases Lib.decNat l with
  | none => rfl
  | some n => simp only; rw [if_neg (fun hh => h hh.1)]
theorem numS_zero (l : List UInt8) (most : Int) (h : 1 < l.length) (h0 : l[0]? = some 48) : numS l most = (0, false) := by
  unfold numS
  cases Lib.decNat l with
  | none => rfl
  | some n => simp only; rw [if_neg (fun hh => hh.2.1 ⟨h, h0⟩)]
theorem numS_gt (l : List UInt8) (most : Int) (n : Nat) (hn : Lib.decNat l = some n) (h : most < n) : numS l most = (0, false) := by
  unfold numS
  rw [hn]
  simp only
  rw [if_neg (fun hh => by have := hh.2.2; omega)]
theorem numS_ok (l : List UInt8) (most : Int) (n : Nat) (hn : Lib.decNat l = some n) (h1 : l.length ≤ 18) (h2 : ¬ (1 < l.length ∧ l[0]? = some 48)) (h : ¬ most < n) : numS l most = ((n : Int), true) := by
  unfold numS
  rw [hn]
  simp only
  rw [if_pos ⟨h1, h2, by omega⟩]
theorem stp_bytes (w : World) (s : ByteArray) : Stp (fun _ => False) w (Lib.bytesWorld w 5 s) :=
  ⟨rfl, rfl, rfl, by rw [Lib.bytesWorld_size]; omega, fun k hk _ => Lib.bytesWorld_at_old w 5 s k hk⟩

theorem byte48 (s : ByteArray) (h : 0 < s.size) : (((s[0]).toNat : Int) == 48) = decide (s.data.toList[0]? = some 48) := by
  rw [get_list s 0 h, Bool.eq_iff_iff, beq_iff_eq, decide_eq_true_eq, Option.some.injEq]
  have e : (48 : UInt8).toNat = 48 := rfl
  constructor
  · intro hh
    apply UInt8.toNat_inj.1
    omega
  · intro hh
    rw [hh]
    rfl

set_option maxRecDepth 100000 in
set_option maxHeartbeats 4000000 in
theorem number_any (s : ByteArray) (most : Int) (w : World) (hs : s.size ≤ 9223372036854775807) :
    Calls Tryz.prog 105 #[.string s, .int .i64 most] w (NumRet w (numS s.data.toList most)) := by
  obtain ⟨r, hr⟩ : ∃ r, r = numS s.data.toList most := ⟨_, rfl⟩
  rw [← hr]
  have hc := fun W => all_any 145 digR s W (enters_of Tryz.func145 (by kernel_rfl) rfl) (fun W x _ => digit_any x W) digR_high hs
  cases hall : allS digR s.data.toList with
  | false =>
    rw [hall] at hc
    rw [numS_no _ _ hall] at hr
    subst hr
    clear hall
    go_enter Tryz.func105, Tryz.ntmps105
    go_wp2_with (go_at_call 101; refine stopc ?_)
    refine Stop.go ?_
    refine (hc _).mono ?_
    rintro e w1 ⟨rfl, hs1⟩
    go_wp2
    go_ret2
    exact ⟨rfl, hs1⟩
  | true =>
    rw [hall] at hc
    obtain ⟨n, hn⟩ := decNat_of _ hall
    have HN := Lib.hid hn
    have HALL := Lib.hid hall
    clear hall
    by_cases h18 : s.size ≤ 18
    · have h18' : ¬ 18 < s.size := by omega
      by_cases hz : 1 < s.size ∧ s.data.toList[0]? = some 48
      · rw [numS_zero _ _ (by rw [size_list]; exact hz.1) hz.2] at hr
        subst hr
        obtain ⟨h1, h2⟩ := hz
        have hp : 0 < s.size := by omega
        have e48 := byte48 s hp
        rw [show decide (s.data.toList[0]? = some 48) = true by simpa using h2] at e48
        clear hn h2
        go_enter Tryz.func105, Tryz.ntmps105
        go_wp2_with (go_at_call 101; refine stopc ?_)
        refine Stop.go ?_
        refine (hc _).mono ?_
        rintro e w1 ⟨rfl, hs1⟩
        go_wp2
        go_ret2
        exact ⟨rfl, hs1⟩
      · have hat := atoi_of _ n HALL.out hn
        have ca := fun W => Tryz.strconv_Atoi s n h18 hat W
        have h0 : 0 < s.size := by
          rw [← size_list]
          exact List.length_pos_iff.2 (Lib.decNat_some hn).1
        have key : (¬ 1 < s.size) ∨ (1 < s.size ∧ ((s[0].toNat : Int) == 48) = false) := by
          by_cases h1 : 1 < s.size
          · right
            refine ⟨h1, ?_⟩
            rw [byte48 s h0, decide_eq_false_iff_not]
            exact fun h => hz ⟨h1, h⟩
          · left
            exact h1
        have HZ := Lib.hid hz
        have HR := Lib.hid hr
        clear hn hat hz hr
        by_cases hm : most < n
        · have HR2 := Lib.hid (HR.out.trans (numS_gt _ _ n HN.out hm))
          rcases key with k1 | ⟨k1, k2⟩
          all_goals
            go_enter Tryz.func105, Tryz.ntmps105
            go_wp2_with (go_at_call 101; refine stopc ?_)
            refine Stop.go ?_
            refine (hc _).mono ?_
            rintro e w1 ⟨rfl, hs1⟩
            have HS1 := Lib.hid hs1
            clear hs1
            go_wp2_with (go_at_call 146; refine stopc ?_)
            refine Stop.go ?_
            refine (ca _).mono ?_
            rintro e w2 ⟨rfl, t, hw2⟩
            have HS2 := Lib.hid (show Stp (fun _ => False) w w2 by rw [hw2]; exact HS1.out.trans (stp_bytes _ _))
            clear hw2
            go_wp2
            go_ret2
            exact ⟨by rw [HR2.out]; rfl, HS2.out⟩
        · have HR2 := Lib.hid (HR.out.trans (numS_ok _ _ n HN.out (by rw [size_list]; exact h18) (by rw [size_list]; exact HZ.out) hm))
          rcases key with k1 | ⟨k1, k2⟩
          all_goals
            go_enter Tryz.func105, Tryz.ntmps105
            go_wp2_with (go_at_call 101; refine stopc ?_)
            refine Stop.go ?_
            refine (hc _).mono ?_
            rintro e w1 ⟨rfl, hs1⟩
            have HS1 := Lib.hid hs1
            clear hs1
            go_wp2_with (go_at_call 146; refine stopc ?_)
            refine Stop.go ?_
            refine (ca _).mono ?_
            rintro e w2 ⟨rfl, t, hw2⟩
            have HS2 := Lib.hid (show Stp (fun _ => False) w w2 by rw [hw2]; exact HS1.out.trans (stp_bytes _ _))
            clear hw2
            go_wp2
            go_ret2
            exact ⟨by rw [HR2.out]; rfl, HS2.out⟩
    · rw [numS_long _ _ (by rw [size_list]; exact h18)] at hr
      subst hr
      have h18' : 18 < s.size := by omega
      clear hn
      go_enter Tryz.func105, Tryz.ntmps105
      go_wp2_with (go_at_call 101; refine stopc ?_)
      refine Stop.go ?_
      refine (hc _).mono ?_
      rintro e w1 ⟨rfl, hs1⟩
      go_wp2
      go_ret2
      exact ⟨rfl, hs1⟩
end Go.Proofs.YtligofmhbbgalaaGreatDoor.L

/-! Layer 2: a number's text. -/
namespace Go.Proofs.YtligofmhbbgalaaGreatDoor.L
open Go.RowKit Go.Proofs

theorem strB_append (x y : List UInt8) : strB x ++ strB y = strB (x ++ y) := by
  apply ByteArray.ext
  simp [strB]
theorem strB_size (l : List UInt8) : (strB l).size = l.length := by simp [strB, ByteArray.size]
theorem digits10_at (n : Nat) (h : n < 10) : (⟨#[48, 49, 50, 51, 52, 53, 54, 55, 56, 57]⟩ : ByteArray).extract n (n + 1) = strB [UInt8.ofNat (48 + n)] := by
  match n, h with
  | 0, _ => rfl
  | 1, _ => rfl
  | 2, _ => rfl
  | 3, _ => rfl
  | 4, _ => rfl
  | 5, _ => rfl
  | 6, _ => rfl
  | 7, _ => rfl
  | 8, _ => rfl
  | 9, _ => rfl

set_option maxRecDepth 100000 in
set_option maxHeartbeats 4000000 in
theorem text_any (n : Nat) (w : World) (h : n ≤ 9223372036854775807) :
    Calls Tryz.prog 128 #[.int .i64 (n : Int)] w fun e w' => e = .returned (.string (strB (Lib.decDigits n))) ∧ w' = w := by
  induction n using Nat.strongRecOn generalizing w with
  | ind n ih =>
    obtain ⟨R, hR⟩ : ∃ R : ByteArray, R = strB (Lib.decDigits n) := ⟨_, rfl⟩
    rw [← hR]
    by_cases h10 : n < 10
    · have HR := Lib.hid (show R = (⟨#[48, 49, 50, 51, 52, 53, 54, 55, 56, 57]⟩ : ByteArray).extract n (n + 1) by rw [hR, digits10_at n h10, Lib.decDigits_one h10])
      clear hR ih
      go_enter Tryz.func128, Tryz.ntmps128
      go_wp2
      go_ret
      exact ⟨ret_s HR.out.symm, rfl⟩
    · have i1 := fun W => ih (n / 10) (by omega) W (by omega)
      have i2 := fun W => ih (n % 10) (by omega) W (by omega)
      have HR := Lib.hid (show R = strB (Lib.decDigits (n / 10)) ++ strB (Lib.decDigits (n % 10)) by
        rw [hR, strB_append, Lib.decDigits_one (show n % 10 < 10 by omega)]
        conv => lhs; rw [Lib.decDigits, dif_neg h10])
      obtain ⟨x, hx⟩ : ∃ x, x = strB (Lib.decDigits (n / 10)) := ⟨_, rfl⟩
      obtain ⟨y, hy⟩ : ∃ y, y = strB (Lib.decDigits (n % 10)) := ⟨_, rfl⟩
      rw [← hx] at i1 HR
      rw [← hy] at i2 HR
      have hxs : x.size ≤ 20 := by rw [hx, strB_size, Lib.decDigits_length]; exact Lib.nDigits_le20 _ (by omega)
      have hys : y.size ≤ 20 := by rw [hy, strB_size, Lib.decDigits_length]; exact Lib.nDigits_le20 _ (by omega)
      clear hR ih hx hy
      have e1 : ((n : Int) / 10) = ((n / 10 : Nat) : Int) := by omega
      have e2 : ((n : Int) % 10) = ((n % 10 : Nat) : Int) := by omega
      rw [← e1] at i1
      rw [← e2] at i2
      clear e1 e2
      go_enter Tryz.func128, Tryz.ntmps128
      go_wp2_with (go_at_call 128; refine stopc ?_)
      refine Stop.go ?_
      refine (i1 _).mono ?_
      rintro e w1 ⟨rfl, rfl⟩
      go_wp2_with (go_at_call 128; refine stopc ?_)
      refine Stop.go ?_
      refine (i2 _).mono ?_
      rintro e w2 ⟨rfl, rfl⟩
      go_wp2
      go_ret
      exact ⟨ret_s HR.out.symm, rfl⟩
end Go.Proofs.YtligofmhbbgalaaGreatDoor.L

/-! Layer 2: the reference's numbers and texts. -/
namespace Go.Proofs.YtligofmhbbgalaaGreatDoor.L
open Go.RowKit Go.Proofs

theorem numS_empty (l : List UInt8) (most : Int) (h : l.length = 0) : numS l most = (0, false) := by
  obtain rfl := List.eq_nil_of_length_eq_zero h
  rfl
theorem digR_of (c : UInt8) (h1 : 48 ≤ c.toNat) (h2 : c.toNat ≤ 57) : Lib.digitVal c = some (c.toNat - 48) := by
  unfold Lib.digitVal
  rw [if_pos ⟨h1, h2⟩]

set_option maxRecDepth 100000 in
set_option maxHeartbeats 4000000 in
theorem numberR_any (s : ByteArray) (most : Int) (w : World) (hs : s.size ≤ 9223372036854775807) :
    Calls Tryz.prog 159 #[.string s, .int .i64 most] w (NumRet w (numS s.data.toList most)) := by
  obtain ⟨r, hr⟩ : ∃ r, r = numS s.data.toList most := ⟨_, rfl⟩
  rw [← hr]
  by_cases h1 : 1 ≤ s.size
  · by_cases h18 : s.size ≤ 18
    · have h18' : ¬ 18 < s.size := by omega
      have h0 : 0 < s.size := by omega
      by_cases hz : 1 < s.size ∧ s.data.toList[0]? = some 48
      · rw [numS_zero _ _ (by rw [size_list]; exact hz.1) hz.2] at hr
        subst hr
        obtain ⟨h1, h2⟩ := hz
        have e48 := byte48 s h0
        rw [show decide (s.data.toList[0]? = some 48) = true by simpa using h2] at e48
        clear h2
        go_enter Tryz.func159, Tryz.ntmps159
        go_wp2
        go_ret2
        exact ⟨rfl, Stp.refl _ _⟩
      · have key : (¬ 1 < s.size) ∨ (1 < s.size ∧ ((s[0].toNat : Int) == 48) = false) := by
          by_cases h1 : 1 < s.size
          · right
            refine ⟨h1, ?_⟩
            rw [byte48 s h0, decide_eq_false_iff_not]
            exact fun h => hz ⟨h1, h⟩
          · left
            exact h1
        have HZ := Lib.hid hz
        have HR := Lib.hid hr
        clear hz hr
        rcases key with k1 | ⟨k1, k2⟩
        all_goals
          go_enter Tryz.func159, Tryz.ntmps159
          go_wp2
          go_loopg [6, 7] s.size (fun gf n i wr => ∃ k m : Nat, k + gf = s.size ∧ i = .int .i64 k ∧ n = .int .i64 m ∧ Lib.decFrom 0 (s.data.toList.take k) = some m ∧ wr = w)
          case atStart => exact ⟨0, 0, by omega, rfl, rfl, rfl, rfl⟩
          case round =>
            obtain ⟨k, m, hk, rfl, rfl, hm, rfl⟩ := hrel
            by_cases hlt : k < s.size
            · obtain ⟨g', rfl⟩ : ∃ g', gk = g' + 1 := ⟨gk - 1, by omega⟩
              have hb := Lib.decFrom_take_lt hm (by omega)
              have hc := (s[k]).toNat_lt
              have HM := Lib.hid hm
              clear hm
              by_cases c1 : 48 ≤ (s[k]).toNat
              · by_cases c2 : (s[k]).toNat ≤ 57
                · have HN := Lib.hid (Lib.decFrom_take s.data.toList k 0 m (s[k]) _ HM.out (get_list s k hlt) (digR_of _ c1 c2))
                  go_wp2
                  go_roundg g'
                  case measure => omega
                  case rel =>
                    refine ⟨k + 1, m * 10 + ((s[k]).toNat - 48), by omega, by go_num, ?_, HN.out, rfl⟩
                    congr 1
                    omega
                · have HF := Lib.hid (allS_false (p := digR) hlt (by unfold digR; rw [show decide ((s[k]).toNat ≤ 57) = false by simpa using c2, Bool.and_false]))
                  go_wp2
                  go_ret2
                  exact ⟨by rw [HR.out, numS_no _ _ HF.out]; rfl, Stp.refl _ _⟩
              · have HF := Lib.hid (allS_false (p := digR) hlt (by unfold digR; rw [show decide (48 ≤ (s[k]).toNat) = false by simpa using c1]; rfl))
                go_wp2
                go_ret2
                exact ⟨by rw [HR.out, numS_no _ _ HF.out]; rfl, Stp.refl _ _⟩
            · rw [List.take_of_length_le (by rw [size_list]; omega)] at hm
              have hd : Lib.decNat s.data.toList = some m := by
                unfold Lib.decNat
                rw [if_neg ?_]
                · exact hm
                · intro he
                  have : s.data.toList = [] := by simpa using he
                  rw [← size_list, this] at h0
                  simp at h0
              have HD := Lib.hid hd
              clear hd hm
              by_cases hmo : most < m
              · have HR2 := Lib.hid (HR.out.trans (numS_gt _ _ m HD.out hmo))
                go_wp2
                go_ret2
                exact ⟨by rw [HR2.out]; rfl, Stp.refl _ _⟩
              · have HR2 := Lib.hid (HR.out.trans (numS_ok _ _ m HD.out (by rw [size_list]; exact h18) (by rw [size_list]; exact HZ.out) hmo))
                go_wp2
                go_ret2
                exact ⟨by rw [HR2.out]; rfl, Stp.refl _ _⟩
    · rw [numS_long _ _ (by rw [size_list]; exact h18)] at hr
      subst hr
      have h18' : 18 < s.size := by omega
      go_enter Tryz.func159, Tryz.ntmps159
      go_wp2
      go_ret2
      exact ⟨rfl, Stp.refl _ _⟩
  · rw [numS_empty _ _ (by rw [size_list]; omega)] at hr
    subst hr
    go_enter Tryz.func159, Tryz.ntmps159
    go_wp2
    go_ret2
    exact ⟨rfl, Stp.refl _ _⟩

end Go.Proofs.YtligofmhbbgalaaGreatDoor.L

/-! Layer 2: hexadecimal digits. -/
namespace Go.Proofs.YtligofmhbbgalaaGreatDoor.L
open Go.RowKit Go.Proofs

theorem hexB_low (c : UInt8) : hexB c = if 48 ≤ (lowB c).toNat ∧ (lowB c).toNat ≤ 57 then some ((lowB c).toNat - 48) else if 97 ≤ (lowB c).toNat ∧ (lowB c).toNat ≤ 102 then some ((lowB c).toNat - 87) else none := by
  have key : ∀ n : Fin 256, hexB (UInt8.ofNat n.val) = if 48 ≤ (lowB (UInt8.ofNat n.val)).toNat ∧ (lowB (UInt8.ofNat n.val)).toNat ≤ 57 then some ((lowB (UInt8.ofNat n.val)).toNat - 48) else if 97 ≤ (lowB (UInt8.ofNat n.val)).toNat ∧ (lowB (UInt8.ofNat n.val)).toNat ≤ 102 then some ((lowB (UInt8.ofNat n.val)).toNat - 87) else none := by decide +kernel
  have := key ⟨c.toNat, c.toNat_lt⟩
  simpa using this
theorem hexB_lt (c : UInt8) (d : Nat) (h : hexB c = some d) : d < 16 := by
  unfold hexB at h
  split at h
  · simp at h; omega
  · split at h
    · simp at h; omega
    · split at h
      · simp at h; omega
      · cases h
theorem hexFrom_snoc (l : List UInt8) (k m d : Nat) (c : UInt8) (h : hexFrom 0 (l.take k) = some m) (hc : l[k]? = some c) (hd : hexB c = some d) : hexFrom 0 (l.take (k + 1)) = some (16 * m + d) := by
  obtain ⟨hk, rfl⟩ := List.getElem?_eq_some_iff.1 hc
  rw [List.take_succ_eq_append_getElem hk, hexFrom_append, h]
  simp only [Option.bind_some, hexFrom, hd]
theorem hexFrom_lt (l : List UInt8) (k : Nat) : ∀ m, hexFrom 0 (l.take k) = some m → m < 16 ^ k := by
  induction k with
  | zero =>
    intro m h
    simp [hexFrom] at h
    omega
  | succ k ih =>
    intro m h
    by_cases hk : k < l.length
    · rw [List.take_succ_eq_append_getElem hk, hexFrom_append] at h
      obtain ⟨m', h1, h2⟩ := Option.bind_eq_some_iff.1 h
      have := ih m' h1
      simp only [hexFrom] at h2
      cases hd : hexB l[k] with
      | none => rw [hd] at h2; cases h2
      | some d =>
        rw [hd] at h2
        have := hexB_lt _ d hd
        simp only [Option.some.injEq] at h2
        rw [Nat.pow_succ]
        omega
    · rw [List.take_of_length_le (by omega)] at h
      rw [List.take_of_length_le (by omega)] at ih
      have := ih m h
      rw [Nat.pow_succ]
      omega
theorem hexFrom_none (a : Nat) (l : List UInt8) (k : Nat) (c : UInt8) (hc : l[k]? = some c) (hd : hexB c = none) : hexFrom a l = none := by
  induction l generalizing a k with
  | nil => simp at hc
  | cons b l ih =>
    cases k with
    | zero =>
      simp at hc
      subst hc
      rw [hexFrom, hd]
    | succ k =>
      rw [hexFrom]
      cases hexB b with
      | none => rfl
      | some d => exact ih _ k (by simpa using hc)
theorem hexS_none (l : List UInt8) (h : hexFrom 0 l = none) : hexS l = (0, false) := by
  unfold hexS
  split
  · rfl
  · rw [h]
theorem hexS_empty (l : List UInt8) (h : l.length = 0) : hexS l = (0, false) := by
  unfold hexS
  rw [if_pos (.inl h)]

set_option maxRecDepth 100000 in
set_option maxHeartbeats 4000000 in
theorem hexR_any (s : ByteArray) (w : World) (hs : s.size ≤ 9223372036854775807) :
    Calls Tryz.prog 160 #[.string s] w (NumRet w (hexS s.data.toList)) := by
  obtain ⟨r, hr⟩ : ∃ r, r = hexS s.data.toList := ⟨_, rfl⟩
  rw [← hr]
  by_cases h1 : 1 ≤ s.size
  · by_cases h4 : s.size ≤ 4
    · have h4' : ¬ 4 < s.size := by omega
      have HR := Lib.hid hr
      clear hr
      go_enter Tryz.func160, Tryz.ntmps160
      go_wp2
      go_loopg [4, 5] s.size (fun gf n i wr => ∃ k m : Nat, k + gf = s.size ∧ i = .int .i64 k ∧ n = .int .i64 m ∧ hexFrom 0 (s.data.toList.take k) = some m ∧ wr = w)
      case atStart => exact ⟨0, 0, by omega, rfl, rfl, rfl, rfl⟩
      case round =>
        obtain ⟨k, m, hk, rfl, rfl, hm, rfl⟩ := hrel
        have hb := hexFrom_lt _ k m hm
        have hb2 : m < 65536 := by
          have : 16 ^ k ≤ 16 ^ 4 := Nat.pow_le_pow_right (by decide) (by omega)
          omega
        have HM := Lib.hid hm
        clear hm hb
        by_cases hlt : k < s.size
        · obtain ⟨g', rfl⟩ : ∃ g', gk = g' + 1 := ⟨gk - 1, by omega⟩
          have lc := fun W => lowerR1_any (s[k]) W
          have hx := hexB_low (s[k])
          obtain ⟨c, hc⟩ : ∃ c, c = lowB s[k] := ⟨_, rfl⟩
          rw [← hc] at lc hx
          have hcl := c.toNat_lt
          have HX := Lib.hid hx
          clear hc hx
          by_cases c1 : 48 ≤ c.toNat ∧ c.toNat ≤ 57
          · have HN := Lib.hid (hexFrom_snoc _ k m _ _ HM.out (get_list s k hlt) (HX.out.trans (if_pos c1)))
            obtain ⟨c1, c2⟩ := c1
            go_wp2_with (go_at_call 131; refine stopc ?_)
            refine Stop.go ?_
            refine (lc _).mono ?_
            rintro e w' ⟨rfl, hw⟩
            obtain rfl := hw.symm
            go_wp2
            go_roundg g'
            case measure => omega
            case rel =>
              refine ⟨k + 1, 16 * m + (c.toNat - 48), by omega, by go_num, ?_, HN.out, rfl⟩
              congr 1
              omega
          · by_cases c3 : 97 ≤ c.toNat ∧ c.toNat ≤ 102
            · have HN := Lib.hid (hexFrom_snoc _ k m _ _ HM.out (get_list s k hlt) (HX.out.trans ((if_neg c1).trans (if_pos c3))))
              obtain ⟨c3, c4⟩ := c3
              have c5 : 57 < c.toNat := by omega
              clear c1
              go_wp2_with (go_at_call 131; refine stopc ?_)
              refine Stop.go ?_
              refine (lc _).mono ?_
              rintro e w' ⟨rfl, hw⟩
              obtain rfl := hw.symm
              go_wp2
              go_roundg g'
              case measure => omega
              case rel =>
                refine ⟨k + 1, 16 * m + (c.toNat - 87), by omega, by go_num, ?_, HN.out, rfl⟩
                congr 1
                omega
            · have HN := Lib.hid (hexS_none _ (hexFrom_none 0 _ k _ (get_list s k hlt) (HX.out.trans ((if_neg c1).trans (if_neg c3)))))
              have key : (c.toNat < 48 ∨ (48 ≤ c.toNat ∧ 57 < c.toNat)) ∧ (c.toNat < 97 ∨ (97 ≤ c.toNat ∧ 102 < c.toNat)) := by omega
              clear c1 c3
              obtain ⟨k1 | ⟨k1, k1'⟩, k2 | ⟨k2, k2'⟩⟩ := key
              all_goals
                go_wp2_with (go_at_call 131; refine (lc _).mono ?_; rintro e w' ⟨rfl, hw⟩; obtain rfl := hw.symm)
                all_goals
                  go_ret2
                  exact ⟨by rw [HR.out, HN.out]; rfl, Stp.refl _ _⟩
        · rw [List.take_of_length_le (by rw [size_list]; omega)] at HM
          have HN := Lib.hid (hexS_of _ m (fun e => by have := size_list s; rw [e] at this; simp at this; omega) (by rw [size_list]; exact h4) HM.out)
          go_wp2
          go_ret2
          exact ⟨by rw [HR.out, HN.out]; rfl, Stp.refl _ _⟩
    · rw [hexS_long _ (by rw [size_list]; omega)] at hr
      subst hr
      have h4' : 4 < s.size := by omega
      go_enter Tryz.func160, Tryz.ntmps160
      go_wp2
      go_ret2
      exact ⟨rfl, Stp.refl _ _⟩
  · rw [hexS_empty _ (by rw [size_list]; omega)] at hr
    subst hr
    go_enter Tryz.func160, Tryz.ntmps160
    go_wp2
    go_ret2
    exact ⟨rfl, Stp.refl _ _⟩

theorem two63' : (2 : Int) ^ 63 = 9223372036854775808 := by decide
theorem i64_id (n : Int) (h0 : 0 ≤ n) (h1 : n < 2 ^ 63) : IntKind.i64.wrap n = n := by
  rw [two63'] at h1
  simp only [IntKind.wrap, IntKind.signed, IntKind.bits]
  simp
  omega
theorem or4 (m d : Nat) (hm : m < 1048576) (hd : d < 16) : bits BinOp.or IntKind.i64 ((m : Int) * 16) (d : Int) = ((16 * m + d : Nat) : Int) := by
  have h := bits_join .i64 63 (by decide) i64_id 4 ((m : Int) * 16) (d : Int) (by omega) (by omega) (by rw [two63']; omega) (by omega) (by omega) (by rw [two63']; omega)
  rw [h]
  omega
theorem and20 (n : Nat) (h : n < 1000000000) : bits BinOp.and IntKind.i64 (n : Int) 1048575 = ((n % 1048576 : Nat) : Int) := by
  have h := bits_mask .i64 63 (by decide) i64_id 20 (by decide) (n : Int) (by omega) (by rw [two63']; omega)
  have e : ((2 : Int) ^ 20 - 1) = 1048575 := by decide
  rw [e] at h
  rw [h]
  omega
def digits16 : List UInt8 := [48, 49, 50, 51, 52, 53, 54, 55, 56, 57, 97, 98, 99, 100, 101, 102]
theorem idx_hex (c : UInt8) : Lib.indexByte digits16 (lowB c) = match hexB c with | some d => (d : Int) | none => -1 := by
  have key : ∀ n : Fin 256, Lib.indexByte digits16 (lowB (UInt8.ofNat n.val)) = match hexB (UInt8.ofNat n.val) with | some d => (d : Int) | none => -1 := by decide +kernel
  have := key ⟨c.toNat, c.toNat_lt⟩
  simpa using this

set_option maxRecDepth 100000 in
set_option maxHeartbeats 4000000 in
theorem hex_any (s : ByteArray) (w : World) (hs : s.size ≤ 9223372036854775807) :
    Calls Tryz.prog 107 #[.string s] w (NumRet w (hexS s.data.toList)) := by
  obtain ⟨r, hr⟩ : ∃ r, r = hexS s.data.toList := ⟨_, rfl⟩
  rw [← hr]
  have HR := Lib.hid hr
  clear hr
  go_enter Tryz.func107, Tryz.ntmps107
  go_wp2
  go_loopg [4] s.size (fun gf n wx => ∃ pos m : Nat, wx.heap[w.heap.size]? = some (.stringIter s pos) ∧ Stp (fun _ => False) w wx ∧ n = .int .i64 m ∧ m < 1048576 ∧ (∃ x, hexFrom 0 (s.data.toList.take pos) = some x ∧ (pos ≤ 4 → x = m)) ∧ s.size = pos + gf)
  case atStart => exact ⟨0, 0, World.iter_heap w s 0, (Stp.refl _ w).alloc _, rfl, by omega, ⟨0, rfl, fun _ => rfl⟩, by omega⟩
  case round =>
    obtain ⟨pos, m, hit, hst, rfl, hm, hx, hfu⟩ := hrel
    have HX := Lib.hid hx
    have HST := Lib.hid hst
    clear hx hst
    by_cases hps : pos < s.size
    · obtain ⟨g', rfl⟩ : ∃ g', gk = g' + 1 := ⟨gk - 1, by omega⟩
      have hnx : ∀ ty, (Instr.next (.pointer (some ⟨w.heap.size, 0, none⟩)) true ty).run Tryz.prog wr = _ := fun ty => Lib.run_next_any_at wr w.heap.size s pos ty hit hps
      by_cases hlow : (s[pos]).toNat < 128
      · rw [decode_low s pos hps hlow] at hnx
        have hit2 := Lib.iterAt_heap wr w.heap.size s pos (pos + 1) hit
        have HST2 := Lib.hid (HST.out.iterAt (Nat.le_refl _) s (pos + 1))
        obtain ⟨W, hWd⟩ : ∃ W, wr.iterAt w.heap.size s (pos + 1) = W := ⟨_, rfl⟩
        rw [hWd] at hnx hit2 HST2
        clear hWd
        obtain ⟨c, hc⟩ : ∃ c, c = s[pos] := ⟨_, rfl⟩
        rw [← hc] at hnx hlow
        have HC := Lib.hid hc
        clear hc
        have sc := fun W => small_any c W
        have hix := idx_hex c
        obtain ⟨l, hl⟩ : ∃ l, l = lowB c := ⟨_, rfl⟩
        have hll : l.toNat < 128 := by rw [hl, lowB_nat]; split <;> omega
        rw [← hl] at sc hix
        clear hl
        go_wp2_with (go_at_call 76; refine stopc ?_)
        refine Stop.go ?_
        rw [show min (c.toNat : Int) 127 = c.toNat by omega]
        refine (sc _).mono ?_
        rintro e w' ⟨rfl, hw⟩
        obtain rfl := hw.symm
        clear hw
        cases hd : hexB c with
        | some d =>
          rw [hd] at hix
          have HIX := Lib.hid hix
          have hd16 := hexB_lt c d hd
          have HD := Lib.hid hd
          clear hix hd
          go_wp2_with (go_at_call 148; refine stopc ?_)
          refine Stop.go ?_
          refine (Tryz.strings_IndexRune_ascii _ _ _ (by omega) (by omega)).mono ?_
          rintro e w' ⟨he, hw⟩
          obtain rfl := hw.symm
          obtain rfl : e = .returned (.int .i64 (d : Int)) := he.trans (by rw [← HIX.out]; simp; rfl)
          clear hw he
          go_wp2
          go_roundg g'
          case measure => omega
          case rel =>
            refine ⟨pos + 1, (16 * m + d) % 1048576, hit2, HST2.out, by rw [or4 m d hm hd16, and20 _ (by omega)], Nat.mod_lt _ (by decide), ?_, by omega⟩
            obtain ⟨x, hx1, hx2⟩ := HX.out
            refine ⟨16 * x + d, hexFrom_snoc _ pos x d c hx1 (by rw [HC.out]; exact get_list s pos hps) HD.out, fun h4 => ?_⟩
            obtain rfl := hx2 (by omega)
            have := hexFrom_lt _ pos x hx1
            have : 16 ^ pos ≤ 16 ^ 3 := Nat.pow_le_pow_right (by decide) (by omega)
            rw [Nat.mod_eq_of_lt (by omega)]
        | none =>
          rw [hd] at hix
          have HIX := Lib.hid hix
          have HN := Lib.hid (hexS_none _ (hexFrom_none 0 _ pos c (by rw [HC.out]; exact get_list s pos hps) hd))
          clear hix hd
          go_wp2_with (go_at_call 148; refine stopc ?_)
          refine Stop.go ?_
          refine (Tryz.strings_IndexRune_ascii _ _ _ (by omega) (by omega)).mono ?_
          rintro e w' ⟨he, hw⟩
          obtain rfl := hw.symm
          obtain rfl : e = .returned (.int .i64 (-1)) := he.trans (by rw [← HIX.out]; simp; rfl)
          clear hw he
          go_wp2
          go_ret2
          exact ⟨by rw [HR.out, HN.out]; rfl, HST2.out⟩
      · have hit2 := Lib.iterAt_heap wr w.heap.size s pos (pos + (Utf8.decode s pos).2) hit
        have HST2 := Lib.hid (HST.out.iterAt (Nat.le_refl _) s (pos + (Utf8.decode s pos).2))
        have hR := decode_high s pos hps hlow
        obtain ⟨R, hRd⟩ : ∃ R, (Utf8.decode s pos).1 = R := ⟨_, rfl⟩
        obtain ⟨K, hKd⟩ : ∃ K, (Utf8.decode s pos).2 = K := ⟨_, rfl⟩
        rw [hRd] at hR
        rw [hKd] at hit2 HST2
        rw [hRd, hKd] at hnx
        obtain ⟨W, hWd⟩ : ∃ W, wr.iterAt w.heap.size s (pos + K) = W := ⟨_, rfl⟩
        rw [hWd] at hnx hit2 HST2
        have hno : hexB s[pos] = none := by
          unfold hexB
          rw [if_neg (by omega), if_neg (by omega), if_neg (by omega)]
        have HN := Lib.hid (hexS_none _ (hexFrom_none 0 _ pos _ (get_list s pos hps) hno))
        clear hRd hKd hWd hno
        go_wp2_with (go_at_call 76; refine stopc ?_)
        refine Stop.go ?_
        rw [show min (R : Int) 127 = ((127 : UInt8).toNat : Int) by have : (127 : UInt8).toNat = 127 := rfl; omega]
        refine (small_any _ _).mono ?_
        rintro e w' ⟨rfl, hw⟩
        obtain rfl := hw.symm
        clear hw
        rw [show ((lowB 127).toNat : Int) = 127 from rfl]
        go_wp2_with (go_at_call 148; refine stopc ?_)
        refine Stop.go ?_
        refine (Tryz.strings_IndexRune_ascii _ _ _ (by omega) (by omega)).mono ?_
        rintro e w' ⟨he, hw⟩
        obtain rfl := hw.symm
        obtain rfl : e = .returned (.int .i64 (-1)) := he.trans (by rfl)
        clear hw he
        go_wp2
        go_ret2
        exact ⟨by rw [HR.out, HN.out]; rfl, HST2.out⟩
    · have hnx : ∀ ty, (Instr.next (.pointer (some ⟨w.heap.size, 0, none⟩)) true ty).run Tryz.prog wr = _ := fun ty => Lib.run_next_end_at wr w.heap.size s pos ty hit hps
      obtain ⟨hpe, hpe2⟩ : s.size ≤ pos ∧ pos ≤ s.size := by omega
      clear hfu
      by_cases h0 : s.size = 0
      · have e1 : s.toList = ([] : List UInt8) := by
          rw [ByteArray.toList_eq]
          exact List.eq_nil_of_length_eq_zero (by rw [size_list]; exact h0)
        have HN := Lib.hid (hexS_empty s.data.toList (by rw [size_list]; exact h0))
        have e2 : s.toList.isEmpty = true := by rw [e1]; rfl
        clear h0
        go_wp2
        go_ret2
        exact ⟨by rw [HR.out, HN.out]; rfl, HST.out⟩
      · have e1 := ba_ne_empty s h0
        have e2 : s.toList.isEmpty = false := by simpa using e1
        by_cases h4 : s.size ≤ 4
        · have HN := Lib.hid (show hexS s.data.toList = ((m : Int), true) by
            obtain ⟨x, hx1, hx2⟩ := HX.out
            obtain rfl := hx2 (by omega)
            rw [List.take_of_length_le (by rw [size_list]; omega)] at hx1
            exact hexS_of _ x (fun e => by have := size_list s; rw [e] at this; simp at this; omega) (by rw [size_list]; exact h4) hx1)
          have h4' : ¬ 4 < s.size := by omega
          clear h0
          go_wp2
          go_ret2
          exact ⟨by rw [HR.out, HN.out]; rfl, HST.out⟩
        · have HN := Lib.hid (hexS_long s.data.toList (by rw [size_list]; omega))
          have h4' : 4 < s.size := by omega
          clear h0
          go_wp2
          go_ret2
          exact ⟨by rw [HR.out, HN.out]; rfl, HST.out⟩
end Go.Proofs.YtligofmhbbgalaaGreatDoor.L
