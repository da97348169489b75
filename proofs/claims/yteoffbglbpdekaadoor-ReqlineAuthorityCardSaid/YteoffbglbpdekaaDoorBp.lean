/- be.Put, be.Vec alone (for seats without readers): XBe as far as Vec. -/
import Derived.Test.YteoffbglbpdekaaDoorProg
import Derived.Test.YteoffbglbpdekaaDoorOps
set_option linter.unusedVariables false
set_option linter.unusedSimpArgs false
namespace Go.Proofs.YteoffbglbpdekaaDoor.L
open Go.RowKit Go.Proofs

theorem info_u8 : (Tryd.prog.info? 5).map (fun i => (i.zero, i.size, i.bytes)) = some (some (.int .u8 0), 1, 1) := by kernel_rfl
theorem size_u8 : (Tryd.prog.info? 5).map (·.size) = some 1 := by kernel_rfl

/-- A size that may be. -/
def clampN (n : Int) : Nat := if n < 1 then 1 else if 4 < n then 4 else n.toNat
theorem clampN_le (n : Int) : 1 ≤ clampN n ∧ clampN n ≤ 4 := by unfold clampN; (repeat' split) <;> omega

def toU8 (x : Int) : UInt8 := UInt8.ofNat (x % 256).toNat
theorem toU8_nat (x : Int) : ((toU8 x).toNat : Int) = x % 256 := by
  unfold toU8
  rw [UInt8.toNat_ofNat']
  omega
/-- The last s bytes of a number, the great ones first. -/
def be (n : Int) : Nat → List UInt8
  | 0 => []
  | s + 1 => be (n / 256) s ++ [toU8 n]
theorem be_len (n : Int) (s : Nat) : (be n s).length = s := by
  induction s generalizing n with
  | zero => rfl
  | succ s ih => simp [be, ih]

theorem ret_i {k : IntKind} {a b : Int} (h : a = b) : Ending.returned (.int k a) = .returned (.int k b) := by rw [h]

set_option maxHeartbeats 400000 in
theorem clamp_any (n : Int) (w : World) : Calls Tryd.prog 121 #[.int .i64 n] w fun e w' => e = .returned (.int .i64 (clampN n : Nat)) ∧ w = w' := by
  by_cases h1 : n < 1
  · have e : ((clampN n : Nat) : Int) = 1 := by simp [clampN, h1]
    have H := Lib.hid e
    clear e
    go_enter Tryd.func121, Tryd.ntmps121
    go_wp2
    go_ret
    exact ⟨ret_i H.out.symm, rfl⟩
  · by_cases h2 : 4 < n
    · have e : ((clampN n : Nat) : Int) = 4 := by simp [clampN, h1, h2]
      have H := Lib.hid e
      clear e
      go_enter Tryd.func121, Tryd.ntmps121
      go_wp2
      go_ret
      exact ⟨ret_i H.out.symm, rfl⟩
    · have e : ((clampN n : Nat) : Int) = n := by simp [clampN, h1, h2]; omega
      have H := Lib.hid e
      clear e
      go_enter Tryd.func121, Tryd.ntmps121
      go_wp2
      go_ret
      exact ⟨ret_i H.out.symm, rfl⟩

/-- A new slice of bytes is handed back; nothing that was there has turned. -/
def NewB (w : World) (l : List UInt8) (e : Ending) (w' : World) : Prop := ∃ v, e = .returned v ∧ Own enc8 5 w.heap.size w' v l ∧ Stp (fun _ => False) w w'

theorem u64_wrap_mod (n : Int) : IntKind.u64.wrap n = n % 18446744073709551616 := by simp [IntKind.wrap, IntKind.signed, IntKind.bits]

theorem byte_of (n : Int) (m : Nat) (hm : m < 4) : ((toU8 (n / 256 ^ m)).toNat : Int) = ((n % 18446744073709551616) / 2 ^ (8 * m)) % 256 := by
  rw [toU8_nat]
  match m, hm with
  | 0, _ => omega
  | 1, _ => omega
  | 2, _ => omega
  | 3, _ => omega

set_option maxHeartbeats 1000000 in
theorem put_any (M : Nat → Prop) (v : Value) (b : List UInt8) (n size : Int) (w : World) (hb : Rd u8 M w v b) (hl : b.length ≤ 140737488351232) :
    Calls Tryd.prog 102 #[v, .int .i64 n, .int .i64 size] w (NewB w (b ++ be n (clampN size))) := by
  obtain ⟨A, c, rfl, hle⟩ := hb.form
  have HB := Lib.hid hb
  clear hb
  obtain ⟨hs1, hs4⟩ := clampN_le size
  go_enter Tryd.func102, Tryd.ntmps102
  go_wp2_with (with_reducible refine stop (N := 14) rfl ?_)
  refine Stop.go ?_
  refine wp_make enc8 0 rfl _ _ 48 rfl w.heap.size 5 1 Tryd.underlying48 info_u8 rfl _ _ _ _ b.length (b.length + 4) rfl rfl rfl (by omega) (by omega) (by omega) (by omega) (by omega) ?_
  intro v1 w1 ho1 hs1 hb1 hz1 hv1
  subst hv1
  have HO1 := Lib.hid ho1
  have HS1 := Lib.hid hs1
  have HZ1 := Lib.hid hz1
  clear ho1 hs1 hz1 hb1
  go_wp2_with (with_reducible refine stop (N := 17) rfl ?_)
  refine Stop.go ?_
  refine wp_copy enc8 (h1e := fun _ => rfl) rfl _ _ _ _ rfl 5 Tryd.underlying48 size_u8 HO1.out (HB.out.stp0 HS1.out) rfl rfl ?_
  intro w2 ho2 hg2
  have HO2 := Lib.hid ho2
  have HS2 := Lib.hid (HS1.out.own HO1.out hg2)
  clear ho2 hg2
  go_wp2_with (go_at_call 121; refine (clamp_any _ _).mono ?_; rintro e w' ⟨rfl, rfl⟩)
  have hcl : clampN size ≤ clampN size := Nat.le_refl _
  have e0 : b.take (List.replicate b.length (0 : UInt8)).length ++ (List.replicate b.length (0 : UInt8)).drop b.length = b := by simp
  rw [e0] at HO2
  clear e0
  go_loopg [7, 8] (clampN size) (fun k o i wr => k ≤ clampN size ∧ i = .int .i64 (8 * (k : Int) - 8) ∧ Own enc8 5 w.heap.size wr o (b ++ be (n / 256 ^ k) (clampN size - k)) ∧ Stp (fun _ => False) w wr)
  case atStart => exact ⟨Nat.le_refl _, by go_num, by simpa [be] using HO2.out, HS2.out⟩
  case round =>
    obtain ⟨hk, rfl, ho, hs⟩ := hrel
    have HO := Lib.hid ho
    have HS := Lib.hid hs
    clear ho hs
    by_cases h0 : gk = 0
    · subst h0
      go_wp2
      go_ret
      exact ⟨_, rfl, by simpa using HO.out, HS.out⟩
    · obtain ⟨m, rfl⟩ : ∃ m, gk = m + 1 := ⟨gk - 1, by omega⟩
      go_wp2_with (with_reducible refine stop (N := 34) rfl ?_)
      refine Stop.go ?_
      refine wp_append1 enc8 (toU8 (n / 256 ^ m)) rfl rfl _ _ _ rfl Tryd.underlying48 info_u8 rfl (HO.out.stp0 ((Stp.refl _ _).alloc _)) rfl ⟨wr.heap.size, 0, none⟩ 1 rfl ?_ ?_ ?_ ?_ ?_
      · rw [World.cell?_alloc_new]
        simp [enc8, byte_of n m (by omega), u64_wrap_mod, show 8 * (m + 1) - 8 = 8 * m by omega]
      · have := be_len (n / 256 ^ (m + 1)) (clampN size - (m + 1))
        simp
        omega
      · have := be_len (n / 256 ^ (m + 1)) (clampN size - (m + 1))
        simp
        omega
      · have := HS.out.size
        simp
        omega
      · intro v3 w3 ho3 hg3
        have HO3 := Lib.hid ho3
        have HS3 := Lib.hid ((HS.out.alloc _).own (HO.out.stp0 ((Stp.refl _ _).alloc _)) hg3)
        clear ho3 hg3
        go_wp2
        go_roundg m
        case measure => omega
        case rel =>
          refine ⟨by omega, by go_num, ?_, HS3.out⟩
          have := HO3.out
          rw [List.append_assoc] at this
          rw [show clampN size - m = (clampN size - (m + 1)) + 1 by omega]
          show Own _ _ _ _ _ (b ++ (be (n / 256 ^ m / 256) (clampN size - (m + 1)) ++ [toU8 (n / 256 ^ m)]))
          rw [Int.ediv_ediv_of_nonneg (Int.pow_nonneg (by decide)), ← Int.pow_succ]
          exact this

/-- A new slice of bytes, and a bool. -/
def NewB2 (w : World) (l : List UInt8) (ok : Bool) (e : Ending) (w' : World) : Prop := ∃ v, e = .returned (.tuple #[v, .bool ok]) ∧ Own enc8 5 w.heap.size w' v l ∧ Stp (fun _ => False) w w'

/-- What Vec lays, and whether it fits. -/
def vecB (b : List UInt8) (size : Int) (x : List UInt8) : List UInt8 × Bool :=
  if x.length < 256 ^ clampN size then (b ++ be x.length (clampN size) ++ x, true) else (b, false)

theorem shr_ne (n m : Nat) : ((n : Int) / 2 ^ (8 * m) != 0) = decide (256 ^ m ≤ n) := by
  show (!((n : Int) / 2 ^ (8 * m) == 0)) = _
  have h : (256 : Nat) ^ m = 2 ^ (8 * m) := by rw [Nat.pow_mul]
  have h2 : ((n : Int) / 2 ^ (8 * m)) = ((n / 2 ^ (8 * m) : Nat) : Int) := by simp
  rw [h2, h]
  have h3 : (((n / 2 ^ (8 * m) : Nat) : Int) == 0) = (n / 2 ^ (8 * m) == 0) := by
    rw [Bool.eq_iff_iff, beq_iff_eq, beq_iff_eq]
    omega
  rw [h3, Bool.eq_iff_iff]
  have hp : 0 < 2 ^ (8 * m) := Nat.pow_pos (by decide)
  simp only [Bool.not_eq_true', beq_eq_false_iff_ne, ne_eq, decide_eq_true_eq, Nat.div_eq_zero_iff]
  omega

set_option maxHeartbeats 1000000 in
theorem vec_any (M : Nat → Prop) (v y : Value) (b x : List UInt8) (size : Int) (w : World) (hb : Rd u8 M w v b) (hx : Rd u8 M w y x) (hl : b.length ≤ 140737488351232 ∧ b.length + x.length + 4 ≤ 140737488355328 ∧ x.length ≤ 140737488351232) :
    Calls Tryd.prog 103 #[v, .int .i64 size, y] w (NewB2 w (vecB b size x).1 (vecB b size x).2) := by
  obtain ⟨A, c, rfl, hle⟩ := hb.form
  obtain ⟨A2, c2, rfl, hle2⟩ := hx.form
  have HB := Lib.hid hb
  have HX := Lib.hid hx
  clear hb hx
  obtain ⟨hs1, hs4⟩ := clampN_le size
  obtain ⟨hl1, hl2, hl3⟩ := hl
  have hsh := shr_ne x.length (clampN size)
  by_cases hfit : x.length < 256 ^ clampN size
  · have hv : vecB b size x = (b ++ be x.length (clampN size) ++ x, true) := by unfold vecB; rw [if_pos hfit]
    rw [hv]
    rw [show decide (256 ^ clampN size ≤ x.length) = false by simpa using hfit] at hsh
    clear hv hfit
    go_enter Tryd.func103, Tryd.ntmps103
    go_wp2_with (first
      | (go_at_call 121; refine (clamp_any _ _).mono ?_; rintro e w' ⟨rfl, rfl⟩)
      | (go_at_call 102; refine stopc ?_))
    refine Stop.go ?_
    refine (put_any M _ b _ _ _ HB.out hl1).mono ?_
    rintro e w1 ⟨v1, rfl, ho1, hs1⟩
    have HO := Lib.hid ho1
    have HS := Lib.hid hs1
    clear ho1 hs1
    go_wp2_with (with_reducible refine stop (N := 25) rfl ?_)
    refine Stop.go ?_
    refine wp_appendRd enc8 (h1e := fun _ => rfl) rfl _ _ _ rfl Tryd.underlying48 info_u8 rfl HO.out (HX.out.stp0 HS.out) rfl rfl ?_ ?_ HS.out.size ?_
    · simp [be_len]
      omega
    · simp [be_len]
      omega
    · intro v2 w2 ho2 hg2
      have HO2 := Lib.hid ho2
      have HS2 := Lib.hid (HS.out.own HO.out hg2)
      clear ho2 hg2
      go_wp2
      go_ret2
      exact ⟨_, rfl, HO2.out, HS2.out⟩
  · have hv : vecB b size x = (b, false) := by unfold vecB; rw [if_neg hfit]
    rw [hv]
    rw [show decide (256 ^ clampN size ≤ x.length) = true by simpa using hfit] at hsh
    clear hv hfit
    go_enter Tryd.func103, Tryd.ntmps103
    go_wp2_with (first
      | (go_at_call 121; refine (clamp_any _ _).mono ?_; rintro e w' ⟨rfl, rfl⟩)
      | (with_reducible refine stop (N := 18) rfl ?_))
    refine Stop.go ?_
    refine wp_appendRd enc8 (h1e := fun _ => rfl) rfl _ _ _ rfl Tryd.underlying48 info_u8 rfl (Own.nil _ _ _ _) HB.out rfl rfl ?_ ?_ (Nat.le_refl _) ?_
    · simp
      omega
    · simp
      omega
    · intro v2 w2 ho2 hg2
      have HO2 := Lib.hid ho2
      have HS2 := Lib.hid ((Stp.refl (fun _ => False) _).nil hg2)
      clear ho2 hg2
      go_wp2
      go_ret2
      exact ⟨_, rfl, HO2.out, HS2.out⟩

end Go.Proofs.YteoffbglbpdekaaDoor.L
