/- Layer 12: the reference's print; what is found. -/
import Derived.Test.YtdamgdmipfoalaaDoorFc
import Derived.Test.YtdamgdmipfoalaaDoorOpen
set_option linter.unusedVariables false
set_option linter.unusedSimpArgs false
namespace Go.Proofs.YtdamgdmipfoalaaDoor.L
open Go.RowKit Go.Proofs

theorem toList_iff (x : List UInt8) (n : ByteArray) : ((strB x).toList = n.toList) ↔ x = n.data.toList := by
  have := beqS x n
  rw [Bool.eq_iff_iff, beq_iff_eq, decide_eq_true_eq] at this
  exact this

/-- A field: two strings. -/
abbrev fldK : Kind (ByteArray × ByteArray) := pairK str str
/-- Fields as lists of bytes. -/
def flS (xs : List (ByteArray × ByteArray)) : List (List UInt8 × List UInt8) := xs.map fun x => (x.1.data.toList, x.2.data.toList)
theorem flS_snoc (xs : List (ByteArray × ByteArray)) (k : Nat) (h : k < xs.length) : flS (xs.take (k + 1)) = flS (xs.take k) ++ [((xs[k]).1.data.toList, (xs[k]).2.data.toList)] := by
  unfold flS
  rw [List.take_succ_eq_append_getElem h, List.map_append]
  rfl
theorem flS_len (xs : List (ByteArray × ByteArray)) : (flS xs).length = xs.length := List.length_map _
/-- A text, and how many. -/
def FindV (w : World) (r : List UInt8 × Nat) (e : Ending) (w' : World) : Prop := e = .returned (.tuple #[.string (strB r.1), .int .i64 (r.2 : Int)]) ∧ Stp (fun _ => False) w w'
theorem eqlS (x : ByteArray) (n : List UInt8) : (x.toList == (strB n).toList) = decide (x.data.toList = n) := by
  rw [ByteArray.toList_eq, ByteArray.toList_eq, Bool.eq_iff_iff]
  simp [strB]
theorem strB_of' (s : ByteArray) : strB s.data.toList = s := by cases s; simp [strB]

set_option maxRecDepth 100000 in
set_option maxHeartbeats 8000000 in
theorem find_any (M : Nat → Prop) (v : Value) (xs : List (ByteArray × ByteArray)) (nm : ByteArray) (w : World) (hx : Rd fldK M w v xs) (hn : nm.size ≤ 9223372036854775807) (hl : xs.length ≤ 9223372036854775800) :
    Calls Tryd.prog 19 #[v, .string nm] w (FindV w (findF (lowS nm.data.toList) (flS xs))) := by
  obtain ⟨A, c, rfl, hle⟩ := hx.form
  have HX := Lib.hid hx
  clear hx
  have cl := fun W => lower_any nm W hn
  obtain ⟨m, hm⟩ : ∃ m, m = lowS nm.data.toList := ⟨_, rfl⟩
  rw [← hm] at cl ⊢
  clear hm
  obtain ⟨N, hN⟩ : ∃ N, N = strB m := ⟨_, rfl⟩
  rw [← hN] at cl
  have HN := Lib.hid hN
  clear hN
  obtain ⟨R, hR⟩ : ∃ R, R = FindV w (findF m (flS xs)) := ⟨_, rfl⟩
  rw [← hR]
  have HR := Lib.hid hR
  clear hR
  go_enter Tryd.func19, Tryd.ntmps19
  go_wp2_with (go_at_call 37; refine stopc ?_)
  refine Stop.go ?_
  refine (cl _).mono ?_
  rintro e w1 ⟨rfl, hs1⟩
  have HS1 := Lib.hid hs1
  clear hs1
  go_wp2
  go_loopg [4, 5, 12] xs.length (fun gf tx n i wr => ∃ k : Nat, k + gf = xs.length ∧ i = .int .i64 k ∧ tx = .string (strB (findF m (flS (xs.take k))).1) ∧ n = .int .i64 ((findF m (flS (xs.take k))).2 : Int) ∧ Stp (fun _ => False) w wr)
  case atStart => exact ⟨0, by omega, rfl, rfl, rfl, HS1.out⟩
  case round =>
    obtain ⟨k, hk, rfl, rfl, rfl, hs⟩ := hrel
    have HS := Lib.hid hs
    clear hs
    by_cases hlt : k < xs.length
    · obtain ⟨g', rfl⟩ : ∃ g', gk = g' + 1 := ⟨gk - 1, by omega⟩
      have hfl := findF_len m (flS (xs.take k))
      rw [flS_len, List.length_take] at hfl
      have hsn := findF_snoc m (flS (xs.take k)) ((xs[k]).1.data.toList, (xs[k]).2.data.toList)
      rw [← flS_snoc xs k hlt] at hsn
      obtain ⟨ad, rfl, -, c0, c1⟩ := pair_cell (HX.out.stp0 HS.out) k hlt
      obtain ⟨X, hX⟩ : ∃ X, X = (xs[k]).1 := ⟨_, rfl⟩
      obtain ⟨Y, hY⟩ : ∃ Y, Y = (xs[k]).2 := ⟨_, rfl⟩
      rw [← hX, ← hY] at hsn
      rw [← hX] at c0
      rw [← hY] at c1
      obtain ⟨T, hT⟩ : ∃ T, T = (findF m (flS (xs.take k))).1 := ⟨_, rfl⟩
      obtain ⟨C, hC⟩ : ∃ C, C = (findF m (flS (xs.take k))).2 := ⟨_, rfl⟩
      rw [← hC] at hfl
      rw [← hT, ← hC] at hsn ⊢
      have HTE := Lib.hid hT
      have HCE := Lib.hid hC
      have hne := eqlS X m
      rw [← HN.out] at hne
      clear hX hY hT hC
      by_cases he : X.data.toList = m
      · rw [show decide (X.data.toList = m) = true by simpa using he] at hne
        rw [if_pos he] at hsn
        by_cases hC0 : C = 0
        · have HSN := Lib.hid hsn
          have hC1 : (((C : Int) + 1) == 1) = true := by simp [hC0]
          have HC0 := Lib.hid hC0
          clear hsn he hC0
          go_wp2
          go_roundg g'
          case measure => omega
          case rel => exact ⟨k + 1, by omega, by go_num, by rw [HSN.out, if_pos HC0.out, strB_of'], by rw [HSN.out]; rfl, HS.out.alloc _⟩
        · have HSN := Lib.hid hsn
          have hC1 : (((C : Int) + 1) == 1) = false := by simp; omega
          have HC0 := Lib.hid hC0
          clear hsn he hC0
          go_wp2
          go_roundg g'
          case measure => omega
          case rel => exact ⟨k + 1, by omega, by go_num, by rw [HSN.out, if_neg HC0.out], by rw [HSN.out]; rfl, HS.out.alloc _⟩
      · rw [show decide (X.data.toList = m) = false by simpa using he] at hne
        rw [if_neg he] at hsn
        have HSN := Lib.hid hsn
        clear hsn he
        go_wp2
        go_roundg g'
        case measure => omega
        case rel => exact ⟨k + 1, by omega, by go_num, by rw [HSN.out, HTE.out], by rw [HSN.out, HCE.out], HS.out.alloc _⟩
    · obtain rfl : k = xs.length := by omega
      rw [List.take_length] at *
      go_wp2
      rw [HR.out]
      exact ⟨rfl, HS.out⟩

end Go.Proofs.YtdamgdmipfoalaaDoor.L
