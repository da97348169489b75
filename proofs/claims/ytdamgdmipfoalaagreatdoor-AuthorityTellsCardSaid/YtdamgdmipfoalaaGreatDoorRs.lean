/- strings.IndexAny at the ends of an authority, for any string. -/
import Derived.Test.YtdamgdmipfoalaaGreatDoorRr
import Derived.Lib.MapLaws
import Derived.Lib.QuoteLoop
set_option linter.unusedVariables false
set_option linter.unusedSimpArgs false
namespace Go.Proofs.YtdamgdmipfoalaaGreatDoor.L
open Go.RowKit Go.Proofs

theorem get_of (s : ByteArray) (j : Nat) (b : UInt8) (h : s.data.toList[j]? = some b) : s.get! j = b := by
  have h2 : s.data[j]? = some b := by simpa using h
  show s.data[j]! = b
  simp [getElem!_def, h2]
theorem dec_high (s : ByteArray) (i : Nat) (hi : i < s.size) (h : 128 ≤ (s[i]'hi).toNat) :
    128 ≤ (Utf8.decode s i).1 ∧ (Utf8.decode s i).1 ≤ 1114111 ∧ 1 ≤ (Utf8.decode s i).2 ∧ i + (Utf8.decode s i).2 ≤ s.size ∧ ∀ j b, i ≤ j → j < i + (Utf8.decode s i).2 → s.data.toList[j]? = some b → 128 ≤ b.toNat := by
  have h0 : s.get! i = s[i]'hi := get_of s i _ (Lib.data_getElem? s i hi)
  rw [← h0] at h
  have hv := Lib.decodeN_valid (s.size - i) (s.get! i).toNat (s.get! (i + 1)).toNat (s.get! (i + 2)).toNat (s.get! (i + 3)).toNat (UInt8.toNat_lt _)
  have hs := Lib.decodeN_shape (s.size - i) (s.get! i).toNat (s.get! (i + 1)).toNat (s.get! (i + 2)).toNat (s.get! (i + 3)).toNat
  rw [Lib.decode_at]
  have key : ∀ n, (∀ k, k < n → 128 ≤ (s.get! (i + k)).toNat) → ∀ j b, i ≤ j → j < i + n → s.data.toList[j]? = some b → 128 ≤ b.toNat := fun n hn j b h1 h2 h3 => by
    have := hn (j - i) (by omega)
    rw [show i + (j - i) = j by omega, get_of s j b h3] at this
    exact this
  generalize decodeN' : Lib.decodeN (s.size - i) (s.get! i).toNat (s.get! (i + 1)).toNat (s.get! (i + 2)).toNat (s.get! (i + 3)).toNat = D at hv hs ⊢
  rcases hs with ⟨h1, -⟩ | ⟨h1, h2, h3, h4, rfl⟩ | ⟨h1, h2, h3, h4, h5, h6, rfl⟩ | ⟨h1, h2, h3, h4, h5, h6, h7, rfl⟩ | rfl
  · omega
  · refine ⟨by simp only; omega, by simp only at hv ⊢; omega, by simp only; omega, by simp only; omega, key _ fun k hk => ?_⟩
    match k, hk with
    | 0, _ => simpa using h
    | 1, _ => omega
  · refine ⟨by simp only; omega, by simp only at hv ⊢; omega, by simp only; omega, by simp only; omega, key _ fun k hk => ?_⟩
    match k, hk with
    | 0, _ => simpa using h
    | 1, _ => omega
    | 2, _ => omega
  · refine ⟨by simp only; omega, by simp only; omega, by simp only; omega, by simp only; omega, key _ fun k hk => ?_⟩
    match k, hk with
    | 0, _ => simpa using h
    | 1, _ => omega
    | 2, _ => omega
    | 3, _ => omega
  · refine ⟨by simp only; omega, by simp only; omega, by simp only; omega, by simp only; omega, key _ fun k hk => ?_⟩
    match k, hk with
    | 0, _ => simpa using h
theorem ends_high (b : UInt8) (h : 128 ≤ b.toNat) : endsL.contains b = false := by
  unfold endsL
  simp only [List.contains_cons, List.contains_nil, Bool.or_false, Bool.or_eq_false_iff, beq_eq_false_iff_ne]
  refine ⟨?_, ?_, ?_⟩ <;> (rintro rfl; revert h; decide)
theorem noAny_more {s : ByteArray} {i n : Nat} (h : Lib.NoAny s.data.toList endsL i) (hn : ∀ j b, i ≤ j → j < i + n → s.data.toList[j]? = some b → 128 ≤ b.toNat) : Lib.NoAny s.data.toList endsL (i + n) := fun j b hj hb => by
  by_cases hji : j < i
  · exact h j b hji hb
  · exact ends_high b (hn j b (by omega) hj hb)
theorem ends_ascii : ∀ (j : Nat) b, (⟨#[47, 63, 35]⟩ : ByteArray).data.toList[j]? = some b → b.toNat < 128 := by
  intro j b h
  match j, h with
  | 0, h => simp at h; subst h; decide
  | 1, h => simp at h; subst h; decide
  | 2, h => simp at h; subst h; decide
  | (j + 3), h => simp at h

set_option maxRecDepth 1000000 in
set_option maxHeartbeats 8000000 in
theorem indexAny_any (s : ByteArray) (w : World) (hs : s.size < 4294967281) :
    Calls Tryz.prog 44 #[.string s, .string ⟨#[47, 63, 35]⟩] w fun e w' => e = .returned (.int .i64 (Lib.indexAny s.data.toList endsL)) ∧ Stp (fun _ => False) w w' := by
  by_cases h8 : 8 < s.size
  · refine (Tryz.strings_IndexAny_long (fun W => Tryz.zeroValue92 W) s ⟨#[47, 63, 35]⟩ w (by decide) h8 hs (by decide) ends_ascii).mono ?_
    rintro e w' ⟨he, rfl⟩
    exact ⟨he, ((Stp.refl _ w).alloc _).alloc _⟩
  · have hemp : (⟨#[47, 63, 35]⟩ : ByteArray).toList.isEmpty = false := by rw [Lib.toList_data]; rfl
    have h8z : decide ((8 : Int) < (s.size : Int)) = false := decide_eq_false (by omega)
    go_enter Tryz.func44, Tryz.ntmps44
    go_wp2_with (go_at_call 69; refine (Tryz.strings_shouldUseASCIISet _ _).mono ?_; rintro e w' ⟨rfl, hw⟩; rw [hw, h8z])
    go_loopg [9, 10] s.size (fun g _ _ wx => ∃ i : Nat, i + g = s.size ∧ wx.heap[w.heap.size]? = some (.stringIter s i) ∧ Stp (fun _ => False) w wx ∧ Lib.NoAny s.data.toList endsL i)
    case atStart => exact ⟨0, by omega, World.iter_heap w s 0, (Stp.refl _ w).alloc _, Lib.NoAny.zero _ _⟩
    case round =>
      obtain ⟨i, hig, hit, hst, hno⟩ := hrel
      have HST := Lib.hid hst
      have HN := Lib.hid hno
      clear hst hno
      by_cases hi : i < s.size
      · obtain ⟨d, hd⟩ : ∃ d, Utf8.decode s i = d := ⟨_, rfl⟩
        have hnx : ∀ ty, (Instr.next (.pointer (some ⟨w.heap.size, 0, none⟩)) true ty).run Tryz.prog wr = _ := fun ty => Lib.run_next_any_at wr w.heap.size s i ty hit hi
        by_cases ha : (s[i]'hi).toNat < 128
        · obtain ⟨x, hx⟩ : ∃ x : UInt8, s[i]'hi = x := ⟨_, rfl⟩
          rw [decode_ascii s i hi ha, hx] at hnx
          rw [hx] at ha
          have Hx := Lib.hid (show s.data.toList[i]? = some x by rw [← hx]; exact Lib.data_getElem? s i hi)
          have HA := Lib.hid ha
          have hit2 := Lib.iterAt_heap wr w.heap.size _ i (i + 1) hit
          have HST2 := Lib.hid (HST.out.iterAt (Nat.le_refl _) s (i + 1))
          obtain ⟨W, hWd⟩ : ∃ W, wr.iterAt w.heap.size s (i + 1) = W := ⟨_, rfl⟩
          simp only at hnx
          rw [hWd] at hnx hit2 HST2
          have hcon := Lib.contains_iff_indexByte endsL x
          have hback : ((x.toNat : Int)).toNat.toUInt8 = x := by simp
          clear hx ha hWd hd
          obtain ⟨g', rfl⟩ : ∃ g', gk = g' + 1 := ⟨gk - 1, by omega⟩
          have HR := fun W' => Tryz.strings_IndexRune_ascii ⟨#[47, 63, 35]⟩ (x.toNat : Int) W' (by omega) (by have := HA.out; omega)
          cases hin : endsL.contains x
          · rw [hin] at hcon
            have hlt : ¬ ((0 : Int) ≤ Lib.indexByte endsL x) := of_decide_eq_false hcon.symm
            have HIN := Lib.hid hin
            clear hcon hin
            go_wp2_with (go_at_call 68; refine (HR _).mono ?_; rintro e w' ⟨rfl, hw⟩; rw [hw, hback, show (⟨#[47, 63, 35]⟩ : ByteArray).data.toList = endsL from rfl])
            go_roundg g'
            case measure => omega
            case rel => exact ⟨i + 1, by omega, hit2, HST2.out, HN.out.succ Hx.out HIN.out⟩
          · rw [hin] at hcon
            have hge : (0 : Int) ≤ Lib.indexByte endsL x := of_decide_eq_true hcon.symm
            have HIN := Lib.hid hin
            clear hcon hin
            go_wp2_with (go_at_call 68; refine (HR _).mono ?_; rintro e w' ⟨rfl, hw⟩; rw [hw, hback, show (⟨#[47, 63, 35]⟩ : ByteArray).data.toList = endsL from rfl])
            go_ret
            exact ⟨by rw [Lib.indexAny_hit HN.out Hx.out HIN.out]; rfl, HST2.out⟩
        · obtain ⟨k1, k2, k3, k4, k5⟩ := dec_high s i hi (by omega)
          rw [hd] at k1 k2 k3 k4 k5 hnx
          have HK := Lib.hid k5
          have hit2 := Lib.iterAt_heap wr w.heap.size _ i (i + d.2) hit
          have HST2 := Lib.hid (HST.out.iterAt (Nat.le_refl _) s (i + d.2))
          obtain ⟨W, hWd⟩ : ∃ W, wr.iterAt w.heap.size s (i + d.2) = W := ⟨_, rfl⟩
          obtain ⟨c, n⟩ := d
          simp only at hnx k1 k2 k3 k4 hit2 hWd HST2 HK
          rw [hWd] at hnx hit2 HST2
          clear hWd hd ha k5
          have HR := fun W' => indexRune_high c W' k1 k2
          go_wp2_with (go_at_call 68; refine (HR _).mono ?_; rintro e w9 ⟨rfl, hw9⟩; have HW9 := Lib.hid hw9; clear hw9)
          go_roundg (gk - n)
          case measure => omega
          case rel => exact ⟨i + n, by omega, (HW9.out.block _ ((Array.getElem?_eq_some_iff.1 hit2).1) id).trans hit2, HST2.out.trans HW9.out, noAny_more HN.out HK.out⟩
      · have hnx : ∀ ty, (Instr.next (.pointer (some ⟨w.heap.size, 0, none⟩)) true ty).run Tryz.prog wr = _ := fun ty => Lib.run_next_end_at wr w.heap.size s i ty hit hi
        go_wp2
        go_ret
        have : i = s.size := by omega
        subst this
        exact ⟨by rw [Lib.indexAny_none (by rw [← Lib.size_eq]; exact HN.out)]; rfl, HST.out⟩
end Go.Proofs.YtdamgdmipfoalaaGreatDoor.L
