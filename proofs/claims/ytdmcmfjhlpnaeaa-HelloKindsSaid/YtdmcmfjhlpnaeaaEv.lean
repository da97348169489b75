/- exts: Protocols, Versions. -/
import Derived.Test.YtdmcmfjhlpnaeaaEn
set_option linter.unusedVariables false
set_option linter.unusedSimpArgs false
namespace Go.Proofs.Ytdmcmfjhlpnaeaa.L
open Go.RowKit Go.Proofs

def hasE (l : List ByteArray) : Bool := l.any fun s => s.size == 0
theorem hasE_iff (l : List ByteArray) : hasE l = true ↔ (⟨#[]⟩ : ByteArray) ∈ l := by
  unfold hasE
  rw [List.any_eq_true]
  constructor
  · rintro ⟨x, hx, h0⟩
    have : x = ⟨#[]⟩ := by
      have h0 : x.size = 0 := by simpa using h0
      cases x with | mk a => cases a with | mk l => cases l with
        | nil => rfl
        | cons a l => simp [ByteArray.size] at h0
    exact this ▸ hx
  · intro h
    exact ⟨_, h, rfl⟩
def protS (d : List UInt8) : List ByteArray × Int :=
  if (walkS oneS d).2 = true ∧ hasE (walkS oneS d).1 = false then ((walkS oneS d).1, 0) else ([], 3)

set_option maxRecDepth 10000 in
set_option maxHeartbeats 4000000 in
theorem prot_any (M : Nat → Prop) (v0 : Value) (d : List UInt8) (w : World) (hd : Rd u8 M w v0 d) (hl : d.length ≤ 1000000000) :
    Calls Try.prog 40 #[v0] w fun e w' => ∃ v, e = .returned (.tuple #[v, .int .i64 (protS d).2]) ∧ Rd str (fun k => k < w.heap.size) w' v (protS d).1 ∧ Stp (fun _ => False) w w' := by
  have HD := Lib.hid hd
  clear hd
  have hxl := Nat.le_trans (walkS_len oneS d) hl
  by_cases hok : (walkS oneS d).2 = true
  · by_cases hin : hasE (walkS oneS d).1 = true
    · have hn : protS d = ([], 3) := by unfold protS; rw [if_neg (fun h => by rw [hin] at h; cases h.2)]
      rw [hn]
      clear hn
      go_enter Try.func40, Try.ntmps40
      go_wp2_with (first
        | (go_at_call 70; refine (walkP_any M _ d _ HD.out hl).mono ?_; rw [hok]; rintro e w1 ⟨v1, rfl, hx1, hs1⟩; obtain ⟨A1, c1, rfl, hle1⟩ := hx1.form; have HX := Lib.hid hx1; have HS1 := Lib.hid hs1; clear hx1 hs1)
        | (go_at_call 72; refine (containsS_any (fun k => k < w.heap.size) _ ⟨#[]⟩ (walkS oneS d).1 _ HX.out hxl true (by rw [← hasE_iff, hin])).mono ?_; rintro e w' ⟨rfl, rfl⟩))
      go_ret2
      exact ⟨_, rfl, Rd.nil _ _ _, HS1.out⟩
    · have hn : protS d = ((walkS oneS d).1, 0) := by unfold protS; rw [if_pos ⟨hok, by simpa using hin⟩]
      rw [hn]
      clear hn
      go_enter Try.func40, Try.ntmps40
      go_wp2_with (first
        | (go_at_call 70; refine (walkP_any M _ d _ HD.out hl).mono ?_; rw [hok]; rintro e w1 ⟨v1, rfl, hx1, hs1⟩; obtain ⟨A1, c1, rfl, hle1⟩ := hx1.form; have HX := Lib.hid hx1; have HS1 := Lib.hid hs1; clear hx1 hs1)
        | (go_at_call 72; refine (containsS_any (fun k => k < w.heap.size) _ ⟨#[]⟩ (walkS oneS d).1 _ HX.out hxl false (by rw [← hasE_iff]; simpa using hin)).mono ?_; rintro e w' ⟨rfl, rfl⟩))
      go_ret2
      exact ⟨_, rfl, HX.out, HS1.out⟩
  · have hok' : (walkS oneS d).2 = false := by simpa using hok
    have hn : protS d = ([], 3) := by unfold protS; rw [if_neg (fun h => hok h.1)]
    rw [hn]
    clear hn
    go_enter Try.func40, Try.ntmps40
    go_wp2_with (go_at_call 70; refine (walkP_any M _ d _ HD.out hl).mono ?_; rw [hok']; rintro e w1 ⟨v1, rfl, hx1, hs1⟩; obtain ⟨A1, c1, rfl, hle1⟩ := hx1.form; have HS1 := Lib.hid hs1; clear hx1 hs1)
    go_ret2
    exact ⟨_, rfl, Rd.nil _ _ _, HS1.out⟩

/-- Numbers of two bytes. -/
def twos : List UInt8 → List Int
  | a :: b :: r => ((a.toNat * 256 + b.toNat : Nat) : Int) :: twos r
  | _ => []
theorem rnum_two (a b : UInt8) (r : List UInt8) : rnum (a :: b :: r, false) 2 = (((a.toNat * 256 + b.toNat : Nat) : Int), (r, false)) := by
  unfold rnum rtake
  rw [show clampN 2 = 2 by decide, if_neg (by simp; omega)]
  simp [beNum]
theorem twos_len (l : List UInt8) : (twos l).length ≤ l.length := by
  induction l using twos.induct with
  | case1 a b r ih => simp [twos]; omega
  | case2 l h => cases l with
    | nil => simp [twos]
    | cons a l => cases l with
      | nil => simp [twos]
      | cons b r => exact absurd rfl (h a b r)

def versS (d : List UInt8) : List Int × Int :=
  if (rvec (d, false) 1).2.2 = false ∧ (rvec (d, false) 1).2.1.length = 0 ∧ (rvec (d, false) 1).1.length ≠ 0 ∧ (rvec (d, false) 1).1.length % 2 = 0 then (twos (rvec (d, false) 1).1, 0) else ([], 3)

set_option maxRecDepth 10000 in
set_option maxHeartbeats 4000000 in
theorem vers_any (M : Nat → Prop) (v0 : Value) (d : List UInt8) (w : World) (hd : Rd u8 M w v0 d) (hl : d.length ≤ 1000000000) :
    Calls Try.prog 42 #[v0] w fun e w' => ∃ v, e = .returned (.tuple #[v, .int .i64 (versS d).2]) ∧ Rd (int .i64) (fun k => k < w.heap.size) w' v (versS d).1 ∧ Stp (fun _ => False) w w' := by
  obtain ⟨a, s1, hv⟩ : ∃ a s1, rvec (d, false) 1 = (a, s1) := ⟨_, _, rfl⟩
  have hal : a.length ≤ d.length := by have := rvec_len1 (d, false) 1; rw [hv] at this; exact this
  have hs1l : s1.1.length ≤ d.length := by have := rvec_len (d, false) 1; rw [hv] at this; exact this
  have HV := Lib.hid hv
  have HD := Lib.hid hd
  clear hv hd
  go_enter Try.func42, Try.ntmps42
  go_wp2_with (go_at_call 26; refine stopc ?_)
  refine Stop.go ?_
  refine (read_any M _ d _ HD.out (by omega)).mono ?_
  rintro e w1 ⟨gr, rfl, hi1, hs1⟩
  have HG := Lib.hid (Nat.not_lt.1 hi1.1)
  have HI1 := Lib.hid (hi1.weak (M' := fun _ => False) (fun _ _ h => h.elim))
  have HS1 := Lib.hid hs1
  clear hi1 hs1
  go_wp2_with (go_at_call 31; refine stopc ?_)
  refine Stop.go ?_
  refine (rvec_any (fun _ => False) gr _ _ _ HI1.out (by simp only; omega)).mono ?_
  rw [HV.out]
  rintro e w2 ⟨v2, rfl, ho2, hi2, hs2⟩
  have HI2 := Lib.hid hi2
  have HO2 := Lib.hid ho2
  have HS2 := Lib.hid (HS1.out.new hs2 HG.out)
  clear hi2 ho2 hs2
  go_wp2_with (go_at_call 26; refine stopc ?_)
  refine Stop.go ?_
  refine (read_any (fun _ => False) _ a _ (HO2.out.rd (h1 := fun _ => rfl) (fun _ _ => id)) (by omega)).mono ?_
  rintro e w3 ⟨gi, rfl, hi3, hs3⟩
  obtain ⟨Mi, hMi⟩ : ∃ M : Nat → Prop, M = fun k => k < w2.heap.size ∨ w3.heap.size ≤ k := ⟨_, rfl⟩
  have HMI := Lib.hid hMi
  have HGI := Lib.hid (And.intro (Nat.not_lt.1 hi3.1) hi3.lt)
  have HI3 := Lib.hid (hi3.weak (M' := Mi) (by
    rw [hMi]
    intro k hk h
    omega))
  have HR3 := Lib.hid (HI2.out.stp0 hs3)
  have HS3 := Lib.hid (HS2.out.trans hs3)
  have HX3 := Lib.hid hs3.size
  clear hMi hi3 hs3
  by_cases hok : s1.2 = false ∧ s1.1.length = 0 ∧ a.length ≠ 0 ∧ a.length % 2 = 0
  · have hw : versS d = (twos a, 0) := by
      unfold versS
      rw [HV.out, if_pos hok]
    have HW := Lib.hid hw
    clear hw
    obtain ⟨hok1, hok2, hok3, hok4⟩ := hok
    have hz1 : (!s1.2 && (s1.1.length : Int) == 0) = true := by rw [hok1, hok2]; rfl
    have hz2 : ((a.length : Int) == 0) = false := by simpa using hok3
    have hz3 : ((a.length : Int) % 2 != 0) = false := by
      have : (a.length : Int) % 2 = 0 := by omega
      rw [this]
      rfl
    clear hok1 hok2
    go_wp2_with (first
      | (go_at_call 36; refine (done_any (fun _ => False) gr _ _ HR3.out (by omega)).mono ?_; rw [hz1]; rintro e w' ⟨rfl, rfl⟩)
      | (go_at_call 33; refine (left_any Mi gi _ _ HI3.out (by simp only; omega)).mono ?_; rintro e w' ⟨rfl, rfl⟩))
    go_loopg [6] a.length (fun n o wr => ∃ xs s, twos a = xs ++ twos s ∧ s.length = n ∧ n % 2 = 0 ∧ n ≤ a.length ∧ xs.length + n ≤ a.length ∧ Own (Value.int .i64) 3 w3.heap.size wr o xs ∧ IsRd Mi wr gi (s, false) ∧ Stp (fun _ => False) w wr ∧ w3.heap.size ≤ wr.heap.size)
    case atStart => exact ⟨[], a, by simp, rfl, hok4, Nat.le_refl _, by simp, Own.nil _ _ _ _, HI3.out, HS3.out, Nat.le_refl _⟩
    case round =>
      obtain ⟨xs, s, hm, hsl, hev, hna, hxl, ho, hi, hs, hswr⟩ := hrel
      have HM := Lib.hid hm
      have HO := Lib.hid ho
      have HI := Lib.hid hi
      have HS := Lib.hid hs
      clear hm ho hi hs
      match s, hsl, HM, HI with
      | [], hsl, HM, HI =>
        obtain ⟨A8, c8, rfl, hle8⟩ := HO.out.form
        have hx : xs = twos a := by rw [HM.out]; simp [twos]
        go_wp2_with (go_at_call 33; refine (left_any Mi gi _ _ HI.out (by simp)).mono ?_; simp only [List.length_nil]; rintro e w' ⟨rfl, rfl⟩)
        go_ret2
        refine ⟨_, by rw [HW.out]; rfl, ?_, HS.out⟩
        rw [HW.out, ← hx]
        have hh := HX3.out
        have hh2 := HS2.out.size
        exact HO.out.rd (h1 := fun _ => rfl) (fun k hk h => by have := (HO.out.lt k hk).1; omega)
      | [_], hsl, HM, HI => exact absurd hsl (by simp; omega)
      | b :: c :: r, hsl, HM, HI =>
        have hrn := rnum_two b c r
        have HRN := Lib.hid hrn
        clear hrn
        simp only [List.length_cons] at hsl
        have hpos : (0 : Int) < ((b :: c :: r).length : Int) := by simp; omega
        go_wp2_with (first
          | (go_at_call 33; refine (left_any Mi gi _ _ HI.out (by simp; omega)).mono ?_; rintro e w' ⟨rfl, rfl⟩)
          | (go_at_call 27; refine stopc ?_))
        refine Stop.go ?_
        refine (num_any Mi gi _ _ _ HI.out (by simp; omega)).mono ?_
        rw [HRN.out]
        rintro e w5 ⟨rfl, hi5, hs5⟩
        have HI5 := Lib.hid hi5
        have HS5 := Lib.hid hs5
        clear hi5 hs5
        go_wp2_with (with_reducible refine stop (N := 33) rfl ?_)
        refine Stop.go ?_
        have hgi := HGI.out
        have hh := HX3.out
        have hh2 := HS2.out.size
        have hh5 := HS5.out.size
        have hOX := (HO.out.step HS5.out (fun k hk he => by have := (HO.out.lt k hk).1; omega)).stp0 ((Stp.refl _ _).alloc (Obj.cells #[Value.int .i64 ((b.toNat * 256 + c.toNat : Nat) : Int)] 3))
        refine wp_append1 (Value.int .i64) ((b.toNat * 256 + c.toNat : Nat) : Int) rfl rfl _ _ _ rfl Try.underlying53 info_int rfl hOX rfl ⟨w5.heap.size, 0, none⟩ 1 rfl ?_ (by omega) (by omega) (by simp; omega) ?_
        · rw [World.cell?_alloc_new]
          rfl
        · intro v6 w6 ho6 hg6
          have HS6 := Lib.hid (((HS.out.new HS5.out (by omega)).alloc _).grown hg6 (fun k hk he => by have := (HO.out.lt k hk).1; omega))
          have HO6 := Lib.hid ho6
          have HI6 := Lib.hid ((HI5.out.stp0 ((Stp.refl _ _).alloc _)).step (Stp.of_grown hg6) (fun k hk he => by
            rw [HMI.out]
            have := (HO.out.lt k he).1
            exact .inr (by omega)))
          have hw6 := hg6.size
          clear ho6 hg6
          go_wp2
          go_roundg r.length
          case measure => omega
          case rel =>
            refine ⟨xs ++ [_], r, ?_, rfl, by omega, by omega, ?_, HO6.out, HI6.out, HS6.out, by simp at hw6; omega⟩
            · rw [HM.out]
              simp [twos]
            · rw [List.length_append]
              simp
              omega
  · have hw : versS d = ([], 3) := by
      unfold versS
      rw [HV.out, if_neg hok]
    have HW := Lib.hid hw
    clear hw
    by_cases hz : (!s1.2 && (s1.1.length : Int) == 0) = true
    · have hz12 : s1.2 = false ∧ s1.1.length = 0 := by
        simp only [Bool.and_eq_true, Bool.not_eq_true', beq_iff_eq] at hz
        exact ⟨hz.1, by omega⟩
      by_cases hz2' : a.length = 0
      · have hz2 : ((a.length : Int) == 0) = true := by simpa using hz2'
        go_wp2_with (first
          | (go_at_call 36; refine (done_any (fun _ => False) gr _ _ HR3.out (by omega)).mono ?_; rw [hz]; rintro e w' ⟨rfl, rfl⟩)
          | (go_at_call 33; refine (left_any Mi gi _ _ HI3.out (by simp only; omega)).mono ?_; rintro e w' ⟨rfl, rfl⟩))
        go_ret2
        exact ⟨_, by rw [HW.out]; rfl, by rw [HW.out]; exact Rd.nil _ _ _, HS3.out⟩
      · have hz2 : ((a.length : Int) == 0) = false := by simpa using hz2'
        have hz3 : ((a.length : Int) % 2 != 0) = true := by
          have h1 : ¬ a.length % 2 = 0 := fun h => hok ⟨hz12.1, hz12.2, hz2', h⟩
          have : (a.length : Int) % 2 = 1 := by omega
          rw [this]
          rfl
        go_wp2_with (first
          | (go_at_call 36; refine (done_any (fun _ => False) gr _ _ HR3.out (by omega)).mono ?_; rw [hz]; rintro e w' ⟨rfl, rfl⟩)
          | (go_at_call 33; refine (left_any Mi gi _ _ HI3.out (by simp only; omega)).mono ?_; rintro e w' ⟨rfl, rfl⟩))
        go_ret2
        exact ⟨_, by rw [HW.out]; rfl, by rw [HW.out]; exact Rd.nil _ _ _, HS3.out⟩
    · have hz' : (!s1.2 && (s1.1.length : Int) == 0) = false := by simpa using hz
      go_wp2_with (first
        | (go_at_call 36; refine (done_any (fun _ => False) gr _ _ HR3.out (by omega)).mono ?_; rw [hz']; rintro e w' ⟨rfl, rfl⟩)
        | (go_at_call 33; refine (left_any Mi gi _ _ HI3.out (by simp only; omega)).mono ?_; rintro e w' ⟨rfl, rfl⟩))
      go_ret2
      exact ⟨_, by rw [HW.out]; rfl, by rw [HW.out]; exact Rd.nil _ _ _, HS3.out⟩
end Go.Proofs.Ytdmcmfjhlpnaeaa.L
