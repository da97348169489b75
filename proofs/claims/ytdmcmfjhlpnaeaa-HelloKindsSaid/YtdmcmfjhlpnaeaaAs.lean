/- ascii.Visible, exts.may, and the document's own. -/
import Derived.Test.YtdmcmfjhlpnaeaaCv
import Derived.Laws.RangeAny
import Derived.Laws.RangeString
import Derived.LoopTactic
set_option linter.unusedVariables false
set_option linter.unusedSimpArgs false
namespace Go.Proofs.Ytdmcmfjhlpnaeaa.L
open Go.RowKit Go.Proofs

/-- A byte that is seen. -/
def visC (c : UInt8) : Bool := decide (33 ≤ c.toNat) && decide (c.toNat ≤ 126)
def visB (l : List UInt8) : Bool := l.all visC && !l.isEmpty
def mayB (l : List UInt8) : Bool := decide (l.length ≤ 255) && visB l

theorem visC1_any (r : Int) (w : World) :
    Calls Try.prog 88 #[.int .i32 r] w fun e w' => e = .returned (.bool (decide (32 < r) && decide (r ≤ 126))) ∧ w = w' := by
  by_cases h1 : 32 < r
  · by_cases h2 : r ≤ 126
    · have e : (decide (32 < r) && decide (r ≤ 126)) = true := by simp [h1, h2]
      rw [e]
      clear e
      go_enter Try.func88, Try.ntmps88
      go_wp2
      go_ret
      exact ⟨rfl, rfl⟩
    · have e : (decide (32 < r) && decide (r ≤ 126)) = false := by simp [h1, h2]
      rw [e]
      clear e
      go_enter Try.func88, Try.ntmps88
      go_wp2
      go_ret
      exact ⟨rfl, rfl⟩
  · have e : (decide (32 < r) && decide (r ≤ 126)) = false := by simp [h1]
    rw [e]
    clear e
    go_enter Try.func88, Try.ntmps88
    go_wp2
    go_ret
    exact ⟨rfl, rfl⟩

theorem str_ne (s : ByteArray) : (s != ⟨#[]⟩) = !s.data.toList.isEmpty := by
  cases s with
  | mk a =>
    cases a with
    | mk l => cases l <;> rfl

theorem next_vis (s : ByteArray) (pos : Nat) (h : pos < s.size) : (decide (32 < ((Utf8.decode s pos).1 : Int)) && decide (((Utf8.decode s pos).1 : Int) ≤ 126)) = visC s[pos] ∧ (visC s[pos] = true → (Utf8.decode s pos).2 = 1) := by
  by_cases ha : (s[pos]'h).toNat < 128
  · rw [decode_ascii s pos h ha]
    refine ⟨?_, fun _ => rfl⟩
    unfold visC
    rw [Bool.eq_iff_iff]
    simp only [Bool.and_eq_true, decide_eq_true_eq]
    omega
  · have hd := decode_high s pos h (by omega)
    have e : visC s[pos] = false := by
      unfold visC
      simp
      omega
    rw [e]
    refine ⟨?_, fun h => by cases h⟩
    rw [Bool.eq_false_iff]
    simp only [ne_eq, Bool.and_eq_true, decide_eq_true_eq]
    omega

theorem vis_end (s : ByteArray) (h : ∀ j (hj : j < s.size), visC s[j] = true) : visB s.data.toList = !s.data.toList.isEmpty := by
  unfold visB
  have : s.data.toList.all visC = true := by
    rw [List.all_eq_true]
    intro c hc
    obtain ⟨j, hj⟩ := List.getElem?_of_mem hc
    obtain ⟨hl, rfl⟩ := List.getElem?_eq_some_iff.1 hj
    have hl' : j < s.size := by simpa using hl
    have := h j hl'
    have e : s[j] = s.data.toList[j]'hl := by simp; rfl
    rw [← e]
    exact this
  rw [this, Bool.true_and]
theorem vis_not (s : ByteArray) (j : Nat) (hj : j < s.size) (h : visC s[j] = false) : visB s.data.toList = false := by
  unfold visB
  have : s.data.toList.all visC = false := by
    rw [List.all_eq_false]
    refine ⟨s[j], ?_, by simp [h]⟩
    have : s[j] = s.data.toList[j]'(by simpa using hj) := by simp; rfl
    rw [this]
    exact List.getElem_mem _
  rw [this, Bool.false_and]

set_option maxHeartbeats 1000000 in
theorem all_any (s : ByteArray) (w : World) :
    Calls Try.prog 87 #[.string s, .func (.func 88) #[] #[]] w fun e w' => e = .returned (.bool (visB s.data.toList)) ∧ Stp (fun _ => False) w w' := by
  go_enter Try.func87, Try.ntmps87
  go_wp2
  go_loopw [6] (fun _ w' => ∃ pos : Nat, pos ≤ s.size ∧ w' = w.iter s pos ∧ ∀ j (hj : j < s.size), j < pos → visC s[j] = true) (fun _ w' => s.size - w'.iterPos w.heap.size)
  case atStart => exact ⟨0, Nat.zero_le _, rfl, fun j hj h => absurd h (by omega)⟩
  case round =>
    obtain ⟨pos, hpos, rfl, hall⟩ := hrel
    have HALL := Lib.hid hall
    clear hall
    by_cases hp : pos < s.size
    · have hnx : ∀ ty, (Instr.next (.pointer (some ⟨w.heap.size, 0, none⟩)) true ty).run Try.prog (w.iter s pos) = _ := fun ty => run_next_any w s pos ty hp
      obtain ⟨hv1, hv2⟩ := next_vis s pos hp
      have HV2 := Lib.hid hv2
      clear hv2
      by_cases hv : visC s[pos] = true
      · rw [hv] at hv1
        go_wp2_with (go_at_call 88; refine (visC1_any _ _).mono ?_; rw [hv1]; rintro e w' ⟨rfl, rfl⟩)
        go_roundw
        case rel =>
          refine ⟨pos + 1, by omega, by rw [HV2.out hv], fun j hj h => ?_⟩
          by_cases hjp : j = pos
          · subst hjp; exact hv
          · exact HALL.out j hj (by omega)
        case measure =>
          have := HV2.out hv
          simp [this]
          omega
      · have hv' : visC s[pos] = false := by simpa using hv
        rw [hv'] at hv1
        go_wp2_with (go_at_call 88; refine (visC1_any _ _).mono ?_; rw [hv1]; rintro e w' ⟨rfl, rfl⟩)
        go_ret
        exact ⟨by rw [vis_not s pos hp hv']; rfl, (Stp.refl _ _).alloc _⟩
    · have hnx : ∀ ty, (Instr.next (.pointer (some ⟨w.heap.size, 0, none⟩)) true ty).run Try.prog (w.iter s pos) = _ := fun ty => run_next_end w s pos ty hp
      go_wp2
      go_ret
      exact ⟨by rw [vis_end s (fun j hj => HALL.out j hj (by omega)), ← ByteArray.toList_eq]; rfl, (Stp.refl _ _).alloc _⟩

theorem vis_any (s : ByteArray) (w : World) :
    Calls Try.prog 81 #[.string s] w fun e w' => e = .returned (.bool (visB s.data.toList)) ∧ Stp (fun _ => False) w w' := by
  go_enter Try.func81, Try.ntmps81
  go_wp2_with (go_at_call 87; refine (all_any _ _).mono ?_; rintro e w' ⟨rfl, hs⟩; have HS := Lib.hid hs; clear hs)
  go_ret
  exact ⟨rfl, HS.out⟩

theorem may_any (s : ByteArray) (w : World) :
    Calls Try.prog 68 #[.string s] w fun e w' => e = .returned (.bool (mayB s.data.toList)) ∧ Stp (fun _ => False) w w' := by
  by_cases h : s.size ≤ 255
  · have e : mayB s.data.toList = visB s.data.toList := by unfold mayB; simp [h]
    rw [e]
    clear e
    go_enter Try.func68, Try.ntmps68
    go_wp2_with (go_at_call 81; refine (vis_any _ _).mono ?_; rintro e w' ⟨rfl, hs⟩; have HS := Lib.hid hs; clear hs)
    go_ret
    exact ⟨rfl, HS.out⟩
  · have e : mayB s.data.toList = false := by unfold mayB; simp [h]
    rw [e]
    clear e
    go_enter Try.func68, Try.ntmps68
    go_wp2
    go_ret
    exact ⟨rfl, Stp.refl _ _⟩

set_option maxHeartbeats 1000000 in
theorem visR_any (s : ByteArray) (w : World) (hs : s.size ≤ 9223372036854775807) :
    Calls Try.prog 69 #[.string s] w fun e w' => e = .returned (.bool (visB s.data.toList)) ∧ w = w' := by
  go_enter Try.func69, Try.ntmps69
  go_wp2
  go_loop [3] (fun i => ∃ pos : Nat, pos ≤ s.size ∧ i = .int .i64 pos ∧ ∀ j (hj : j < s.size), j < pos → visC s[j] = true) (fun i => s.size - (intOf i).toNat)
  case atStart => exact ⟨0, Nat.zero_le _, rfl, fun j hj h => absurd h (by omega)⟩
  case round =>
    obtain ⟨pos, hpos, rfl, hall⟩ := hrel
    have HALL := Lib.hid hall
    clear hall
    by_cases hp : pos < s.size
    · have hc : s[pos].toNat < 256 := s[pos].toNat_lt
      by_cases h1 : s[pos].toNat < 33
      · have hv' : visC s[pos] = false := by unfold visC; simp; omega
        have h1' : (s[pos].toNat : Int) < 33 := by omega
        go_wp2
        go_ret
        exact ⟨by rw [vis_not s pos hp hv']; rfl, rfl⟩
      · by_cases h2 : 126 < s[pos].toNat
        · have hv' : visC s[pos] = false := by unfold visC; simp; omega
          go_wp2
          go_ret
          exact ⟨by rw [vis_not s pos hp hv']; rfl, rfl⟩
        · have hv' : visC s[pos] = true := by unfold visC; simp; omega
          go_wp2
          go_round
          case rel =>
            refine ⟨pos + 1, by omega, by go_num, fun j hj h => ?_⟩
            by_cases hjp : j = pos
            · subst hjp; exact hv'
            · exact HALL.out j hj (by omega)
          case measure => simp [intOf]; omega
    · go_wp2
      go_ret
      exact ⟨by rw [vis_end s (fun j hj => HALL.out j hj (by omega)), ← ByteArray.toList_eq]; rfl, rfl⟩
end Go.Proofs.Ytdmcmfjhlpnaeaa.L
