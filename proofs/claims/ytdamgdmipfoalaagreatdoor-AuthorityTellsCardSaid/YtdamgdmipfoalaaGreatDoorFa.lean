/- Layer 12: a field's line is parsed. -/
import Derived.Test.YtdamgdmipfoalaaGreatDoorAx
import Derived.Test.YtdamgdmipfoalaaGreatDoorFp
import Derived.Shelf.Vars
set_option linter.unusedVariables false
set_option linter.unusedSimpArgs false
namespace Go.Proofs.YtdamgdmipfoalaaGreatDoor.L
open Go.RowKit Go.Proofs

theorem any_skip (p : Nat → Bool) (s : ByteArray) (pos K : Nat) (hle : pos + K ≤ s.size) (hb : ∀ j, pos ≤ j → j < pos + K → ∃ hj : j < s.size, p (s[j]).toNat = false) :
    (s.data.toList.drop pos).any (fun b => p b.toNat) = (s.data.toList.drop (pos + K)).any (fun b => p b.toNat) := by
  induction K with
  | zero => rfl
  | succ K ih =>
    rw [ih (by omega) (fun j h1 h2 => hb j h1 (by omega))]
    obtain ⟨hj, hp⟩ := hb (pos + K) (by omega) (by omega)
    have hl : pos + K < s.data.toList.length := by rw [size_list]; exact hj
    rw [List.drop_eq_getElem_cons hl, List.any_cons]
    have e : s.data.toList[pos + K] = s[pos + K] := rfl
    rw [e, hp, Bool.false_or]
    rfl
theorem idx_any (p : Nat → Bool) (hp : ∀ r, 128 ≤ r → p r = false) (s : ByteArray) (f pos : Nat) (h : s.size ≤ pos + f) :
    decide (0 ≤ Lib.idxFuncFrom p true s f pos) = (s.data.toList.drop pos).any (fun b => p b.toNat) := by
  induction f generalizing pos with
  | zero =>
    rw [List.drop_of_length_le (by rw [size_list]; omega)]
    rfl
  | succ f ih =>
    unfold Lib.idxFuncFrom
    by_cases hlt : pos < s.size
    · rw [if_pos hlt]
      by_cases hlow : (s[pos]).toNat < 128
      · rw [decode_low s pos hlt hlow]
        simp only
        have hl : pos < s.data.toList.length := by rw [size_list]; exact hlt
        rw [List.drop_eq_getElem_cons hl, List.any_cons]
        have e : s.data.toList[pos] = s[pos] := rfl
        rw [e]
        cases hc : p (s[pos]).toNat with
        | true => simp
        | false =>
          rw [if_neg (by decide), ih (pos + 1) (by omega), Bool.false_or]
      · have hh := decode_high s pos hlt hlow
        obtain ⟨hw, hb⟩ := decode_bytes s pos hlt hlow
        rw [hp _ hh, if_neg (by decide)]
        have hw1 := Lib.width_pos s pos
        rw [ih _ (by omega), ← any_skip p s pos _ hw (fun j h1 h2 => by
          obtain ⟨hj, hj2⟩ := hb j h1 h2
          exact ⟨hj, hp _ hj2⟩)]
    · rw [if_neg hlt, List.drop_of_length_le (by rw [size_list]; omega)]
      rfl
theorem idx_anyS (p : Nat → Bool) (hp : ∀ r, 128 ≤ r → p r = false) (s : ByteArray) : decide (0 ≤ Lib.idxFunc p true s) = anyS p s.data.toList := by
  unfold Lib.idxFunc anyS
  rw [idx_any p hp s _ 0 (by omega)]
  rfl

theorem sB_data (x : List UInt8) : (strB x).data.toList = x := by simp [strB]
theorem sB_size (l : List UInt8) : (strB l).size = l.length := by simp [strB, ByteArray.size]
theorem cutC_len (c : UInt8) (l : List UInt8) : (cutC c l).1.length ≤ l.length ∧ (cutC c l).2.1.length ≤ l.length := by
  rcases cutC_cases c l with ⟨_, h⟩ | ⟨a, b, rfl, _, h⟩
  · rw [h]
    exact ⟨Nat.le_refl _, Nat.zero_le _⟩
  · rw [h]
    simp
    omega
/-- The library's variable holds some number. -/
def MaxL (w : World) : Prop := ∃ m, w.cell? ⟨0, 0, none⟩ = some (.int .i64 m)
theorem MaxL.step {w w' : World} (h : MaxL w) (hs : Stp (fun _ => False) w w') : MaxL w' := by
  obtain ⟨m, hm⟩ := h
  exact ⟨m, hs.cell hm (fun h => h)⟩
theorem MaxL.of_shape {w : World} (h : w.ShapedOpen Tryz.prog) : MaxL w := cell_of_shapedOpen_int (P := Tryz.prog) (g := 0) (t := 3) (zero := #[.int .i64 0]) h (of_decide_eq_true (by kernel_rfl)) (by kernel_rfl) rfl (by kernel_rfl) (by kernel_rfl) Tryz.underlying3
theorem stp_drewN (w : World) (n : Nat) : Stp (fun _ => False) w (w.drewN n) := (Stp.refl _ _).drewN n

theorem cutB (s : ByteArray) (c : UInt8) (w : World) (hs : s.size < 4294967281) (hm : MaxL w) :
    Calls Tryz.prog 30 #[.string s, .string ⟨#[c]⟩] w fun e w' => e = .returned (.tuple #[.string (strB (cutC c s.data.toList).1), .string (strB (cutC c s.data.toList).2.1), .bool (cutC c s.data.toList).2.2]) ∧ Stp (fun _ => False) w w' := by
  obtain ⟨m, hm⟩ := hm
  refine (Tryz.strings_Cut s ⟨#[c]⟩ m w hs hm).mono fun e w' ⟨h1, n, h2⟩ => ⟨?_, h2 ▸ stp_drewN w n⟩
  rw [h1]
  rw [show (⟨#[c]⟩ : ByteArray).data.toList = [c] from rfl, cut_one]
  rfl

theorem results_row_tmp {P : Program} {fn : Func} {p u : Tmp} {ty : TypeId} (h : fn.results = #[.cell p ty, .tmp u]) (tmps : Array Value) (w : World) (g : Nat) (t : TypeId) (cs : Array Value) (fr : Nat × Nat) (d : TypeDesc)
    (hp : tmps.getD p undef = .pointer (some ⟨g, 0, none⟩)) (hg : w.heap[g]? = some (.cells cs t fr))
    (hu : P.underlying ty = some d) (hd : (match d with | .struct _ | .array _ _ => true | _ => false) = true) (hi : (P.info? ty).map (·.size) = some cs.size) :
    (results fn tmps).run P w = .ok (.tuple #[.agg cs, tmps.getD u undef]) w := by
  rw [results_cell_tmp h, hp]
  simp [asAddr, Result.andThen, run_loadVar_row w g t ty cs fr d hg hu hd hi]


end Go.Proofs.YtdamgdmipfoalaaGreatDoor.L
