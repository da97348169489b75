/- be.Put, be.Vec alone (for seats without readers): XBe as far as Vec. -/
import Derived.Test.YtdamgdmipfoalaaGreatDoorProg
import Derived.Test.YtdamgdmipfoalaaGreatDoorOps
set_option linter.unusedVariables false
set_option linter.unusedSimpArgs false
namespace Go.Proofs.YtdamgdmipfoalaaGreatDoor.L
open Go.RowKit Go.Proofs

theorem info_u8 : (Tryz.prog.info? 5).map (fun i => (i.zero, i.size, i.bytes)) = some (some (.int .u8 0), 1, 1) := by kernel_rfl
theorem size_u8 : (Tryz.prog.info? 5).map (·.size) = some 1 := by kernel_rfl

/-- A size that may be. -/
def clampN (n : Int) : Nat := if n < 1 then 1 else if 4 < n then 4 else n.toNat
theorem clampN_le (n : Int) : 1 ≤ clampN n ∧ clampN n ≤ 4 := by unfold clampN; (repeat' split) <;> omega

def toU8 (x : Int) : UInt8 := UInt8.ofNat (x % 256).toNat
theorem toU8_nat (x : Int) : ((toU8 x).toNat : Int) = x % 256 := by
  unfold toU8
  rw [UInt8.toNat_ofNat']
  omega
/-- The last s bytes of a number, the great ones first. -/
def be (n : Int) : Nat → List UInt8
  | 0 => []
  | s + 1 => be (n / 256) s ++ [toU8 n]
theorem be_len (n : Int) (s : Nat) : (be n s).length = s := by
  induction s generalizing n with
  | zero => rfl
  | succ s ih => simp [be, ih]

theorem ret_i {k : IntKind} {a b : Int} (h : a = b) : Ending.returned (.int k a) = .returned (.int k b) := by rw [h]

/-- A new slice of bytes is handed back; nothing that was there has turned. -/
def NewB (w : World) (l : List UInt8) (e : Ending) (w' : World) : Prop := ∃ v, e = .returned v ∧ Own enc8 5 w.heap.size w' v l ∧ Stp (fun _ => False) w w'

theorem u64_wrap_mod (n : Int) : IntKind.u64.wrap n = n % 18446744073709551616 := by simp [IntKind.wrap, IntKind.signed, IntKind.bits]

theorem byte_of (n : Int) (m : Nat) (hm : m < 4) : ((toU8 (n / 256 ^ m)).toNat : Int) = ((n % 18446744073709551616) / 2 ^ (8 * m)) % 256 := by
  rw [toU8_nat]
  match m, hm with
  | 0, _ => omega
  | 1, _ => omega
  | 2, _ => omega
  | 3, _ => omega

/-- A new slice of bytes, and a bool. -/
def NewB2 (w : World) (l : List UInt8) (ok : Bool) (e : Ending) (w' : World) : Prop := ∃ v, e = .returned (.tuple #[v, .bool ok]) ∧ Own enc8 5 w.heap.size w' v l ∧ Stp (fun _ => False) w w'

/-- What Vec lays, and whether it fits. -/
def vecB (b : List UInt8) (size : Int) (x : List UInt8) : List UInt8 × Bool :=
  if x.length < 256 ^ clampN size then (b ++ be x.length (clampN size) ++ x, true) else (b, false)

theorem shr_ne (n m : Nat) : ((n : Int) / 2 ^ (8 * m) != 0) = decide (256 ^ m ≤ n) := by
  show (!((n : Int) / 2 ^ (8 * m) == 0)) = _
  have h : (256 : Nat) ^ m = 2 ^ (8 * m) := by rw [Nat.pow_mul]
  have h2 : ((n : Int) / 2 ^ (8 * m)) = ((n / 2 ^ (8 * m) : Nat) : Int) := by simp
  rw [h2, h]
  have h3 : (((n / 2 ^ (8 * m) : Nat) : Int) == 0) = (n / 2 ^ (8 * m) == 0) := by
    rw [Bool.eq_iff_iff, beq_iff_eq, beq_iff_eq]
    omega
  rw [h3, Bool.eq_iff_iff]
  have hp : 0 < 2 ^ (8 * m) := Nat.pow_pos (by decide)
  simp only [Bool.not_eq_true', beq_eq_false_iff_ne, ne_eq, decide_eq_true_eq, Nat.div_eq_zero_iff]
  omega

end Go.Proofs.YtdamgdmipfoalaaGreatDoor.L
