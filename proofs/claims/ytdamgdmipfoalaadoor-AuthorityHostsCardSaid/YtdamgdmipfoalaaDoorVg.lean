/- Layer 3: an address as a text. -/
import Derived.Test.YtdamgdmipfoalaaDoorVf
set_option linter.unusedVariables false
set_option linter.unusedSimpArgs false
namespace Go.Proofs.YtdamgdmipfoalaaDoor.L
open Go.RowKit Go.Proofs

def natK : Kind Nat := .plain encN (fun _ => rfl)
theorem join_own (c : UInt8) (xs : List ByteArray) (B : Nat) (W : World) (v : Value) (h : Own Value.string 9 B W v xs) (hl : xs.length ≤ 1000) (hj : (joinC c (xs.map (·.data.toList))).length ≤ 140737488355328) :
    Calls Tryd.prog 40 #[v, .string ⟨#[c]⟩] W fun e w' => e = .returned (.string (strB (joinC c (xs.map (·.data.toList))))) ∧ Stp (fun _ => False) W w' := by
  obtain ⟨A, cc, rfl, hle⟩ := h.form
  by_cases h0 : xs.length = 0
  · obtain rfl : xs = [] := List.eq_nil_of_length_eq_zero h0
    refine (Tryd.strings_Join_none A cc ⟨#[c]⟩ W).mono ?_
    rintro e w' ⟨rfl, rfl⟩
    exact ⟨rfl, Stp.refl _ _⟩
  · obtain ⟨g, rfl, -, -, hg⟩ := h.at_ (by omega)
    have hjj : Lib.join (xs.map (·.data.toList)) (⟨#[c]⟩ : ByteArray).data.toList = joinC c (xs.map (·.data.toList)) := join_joinC c _
    have hh := Tryd.strings_Join g 0 cc xs ⟨#[c]⟩ W (fun j x hx => by
      obtain ⟨hlt, rfl⟩ := List.getElem?_eq_some_iff.1 hx
      rw [Nat.zero_add]
      exact h.cellAt j hlt) hg (by omega) hle (by rw [hjj]; exact hj)
    rw [hjj] at hh
    exact hh.mono fun e w' ⟨h1, h2⟩ => ⟨h1, Stp.of_below h2⟩
theorem joinC_len (c : UInt8) (xs : List (List UInt8)) (m : Nat) (h : ∀ x ∈ xs, x.length ≤ m) : (joinC c xs).length ≤ xs.length * (m + 1) := by
  induction xs with
  | nil => simp [joinC]
  | cons x r ih =>
    have h1 := h x (by simp)
    have h2 := ih fun y hy => h y (by simp [hy])
    have e : (r.length + 1) * (m + 1) = r.length * (m + 1) + (m + 1) := Nat.succ_mul _ _
    cases r with
    | nil =>
      simp only [joinC, List.length_cons, List.length_nil] at e ⊢
      omega
    | cons y r =>
      simp only [joinC, List.length_append, List.length_cons] at h2 e ⊢
      omega

set_option maxRecDepth 100000 in
set_option maxHeartbeats 8000000 in
theorem text6_any (M : Nat → Prop) (v : Value) (xs : List Nat) (w : World) (hx : Rd natK M w v xs) (hl : xs.length ≤ 8) (hn : ∀ n ∈ xs, n < 65536) (hb : BruP w) :
    Calls Tryd.prog 52 #[v] w fun e w' => e = .returned (.string (strB (joinH xs))) ∧ Stp (fun _ => False) w w' := by
  obtain ⟨R, hR⟩ : ∃ R : Ending → World → Prop, R = fun e w' => e = .returned (.string (strB (joinH xs))) ∧ Stp (fun _ => False) w w' := ⟨_, rfl⟩
  rw [← hR]
  obtain ⟨A, c, rfl, hle⟩ := hx.form
  have HR := Lib.hid hR
  have HX := Lib.hid hx
  have HN := Lib.hid hn
  have HB := Lib.hid hb
  clear hR hx hn hb
  go_enter Tryd.func52, Tryd.ntmps52
  go_wp2
  go_loopg [3, 8] xs.length (fun gf v i wx => ∃ (k : Nat), k + gf = xs.length ∧ i = .int .i64 k ∧ Own Value.string 9 w.heap.size wx v ((xs.take k).map fun n => strB (hxT n)) ∧ Stp (fun _ => False) w wx)
  case atStart => exact ⟨0, by omega, rfl, Own.nil _ _ _ _, Stp.refl _ _⟩
  case round =>
    obtain ⟨k, hk, rfl, ho, hst⟩ := hrel
    have HS := Lib.hid hst
    obtain ⟨ys, hys⟩ : ∃ ys, ys = (xs.take k).map fun n => strB (hxT n) := ⟨_, rfl⟩
    rw [← hys] at ho
    have HO := Lib.hid ho
    have HY := Lib.hid hys
    have HYL : Hid (ys.length = k) := Lib.hid (by rw [hys]; simp; omega)
    obtain ⟨A2, c2, rfl, hle2⟩ := HO.out.form
    clear ho hst hys
    by_cases hlt : k < xs.length
    · obtain ⟨gk', rfl⟩ : ∃ gk', gk = gk' + 1 := ⟨gk - 1, by omega⟩
      obtain ⟨n, hnk⟩ : ∃ n, n = xs[k] := ⟨_, rfl⟩
      have hn := HN.out xs[k] (List.getElem_mem _)
      rw [← hnk] at hn
      obtain ⟨ad, rfl, -, hc⟩ := plain_cell (HX.out.stp0 HS.out) k hlt
      rw [← hnk] at hc
      have hc' : wr.cell? (ad.add k) = some (.int .u16 (n : Int)) := hc
      have hlt2 : (k : Int) < (xs.length : Int) := by omega
      have hw : IntKind.u64.wrap (n : Int) = (n : Int) := by rw [u64_wrap_mod]; omega
      have cf := fun W hW => fmt16_any n hn W hW
      have HNK := Lib.hid hnk
      clear hc hnk
      go_wp2_with (go_at_call 53; refine stopc ?_)
      refine Stop.go ?_
      refine (cf _ (HB.out.step HS.out)).mono ?_
      rintro e w1 ⟨rfl, hs1⟩
      have HS1 := Lib.hid (HS.out.trans hs1)
      have HO1 := Lib.hid (HO.out.stp0 hs1)
      clear hs1
      go_wp2_with (with_reducible refine stop (N := 17) rfl ?_)
      refine Stop.go ?_
      refine wp_append1 Value.string (strB (hxT n)) rfl rfl _ _ _ rfl Tryd.underlying52 info_strA rfl (HO1.out.stp0 ((Stp.refl _ _).alloc _)) rfl ⟨w1.heap.size, 0, none⟩ 1 rfl ?_ (by have := HYL.out; omega) (by have := HYL.out; omega) (by have := HS1.out.size; simp; omega) ?_
      · exact blk_cell (j := 0) (heap_alloc_new _ _)
      · intro v3 w3 ho3 hg3
        have HO3 := Lib.hid ho3
        have HS3 := Lib.hid ((HS1.out.alloc _).own (HO1.out.stp0 ((Stp.refl _ _).alloc _)) hg3)
        clear ho3 hg3
        go_wp2
        go_roundg gk'
        case measure => omega
        case rel =>
          refine ⟨k + 1, by omega, by go_num, ?_, HS3.out⟩
          have e1 : (xs.take (k + 1)).map (fun n => strB (hxT n)) = ys ++ [strB (hxT n)] := by
            rw [take_succ_at xs k hlt, List.map_append, HY.out, HNK.out]
            rfl
          rw [e1]
          exact HO3.out
    · obtain rfl : k = xs.length := by omega
      have hyy : ys.map (·.data.toList) = xs.map hxT := by
        rw [HY.out, List.take_of_length_le (Nat.le_refl _), List.map_map]
        exact List.map_congr_left fun n _ => by simp [strB]
      have cj := join_own 58 ys _ _ _ HO.out (by have := HYL.out; omega) (by
        have hyl := HYL.out
        have := joinC_len 58 (ys.map (·.data.toList)) 4 (by
          rw [hyy]
          intro x hx
          obtain ⟨n, hn, rfl⟩ := List.mem_map.1 hx
          exact hxT_len n 3 (by have := HN.out n hn; omega))
        rw [List.length_map] at this
        omega)
      have hjh : joinC 58 (ys.map (·.data.toList)) = joinH xs := by rw [hyy]; rfl
      rw [hjh] at cj
      clear hyy hjh
      go_wp2_with (go_at_call 40; refine stopc ?_)
      refine Stop.go ?_
      refine cj.mono ?_
      rintro e w1 ⟨rfl, hs1⟩
      have HS1 := Lib.hid (HS.out.trans hs1)
      clear hs1
      go_wp2
      rw [HR.out]
      exact ⟨rfl, HS1.out⟩
end Go.Proofs.YtdamgdmipfoalaaDoor.L
