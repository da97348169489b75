/- Layer 22: records, the document's pages. -/
import Derived.Test.YtkpfkdcfakhmjaaDoorQb
set_option linter.unusedVariables false
set_option linter.unusedSimpArgs false
namespace Go.Proofs.YtkpfkdcfakhmjaaDoor.L
open Go.RowKit Go.Proofs

/-- An alert's record. -/
def recS (n : Int) : List UInt8 := [21, 3, 3, 0, 2, 2, toU8 n]
theorem rec_put (n : Int) : (vecB ([21] ++ be 771 (clampN 2)) 2 [2, toU8 n]).1 = recS n := by
  unfold vecB
  rw [if_pos (by show 2 < 256 ^ 2; decide)]
  have e : [21] ++ be 771 (clampN 2) ++ be (2 : Nat) (clampN 2) = [21, 3, 3, 0, 2] := by decide
  show [21] ++ be 771 (clampN 2) ++ be (2 : Nat) (clampN 2) ++ [2, toU8 n] = recS n
  rw [e]
  rfl
theorem NewR.of_own {w w' : World} {v : Value} {l : List UInt8} (ho : Own enc8 5 w.heap.size w' v l) (hs : Stp (fun _ => False) w w') : NewR w l (.returned v) w' := by
  refine ⟨v, rfl, ho.rd (h1 := fun _ => rfl) (fun k hk h => by have := (ho.lt k hk).1; omega), fun hp => ?_, hs⟩
  obtain ⟨A, c, rfl, hle⟩ := ho.form
  obtain ⟨g, rfl, -, hg, -⟩ := ho.at_ hp
  exact ⟨g, c, rfl, hg, fun j _ => ho.free j⟩
theorem NewR.nil (w w' : World) (hs : Stp (fun _ => False) w w') : NewR w [] (.returned (.slice none 0 0)) w' := ⟨_, rfl, Rd.nil _ _ _, fun h => absurd h (by simp), hs⟩

set_option maxRecDepth 100000 in
set_option maxHeartbeats 4000000 in
theorem record_any (n : Int) (w : World) : Calls Tryd.prog 19 #[.int .i64 n] w (NewR w (recS n)) := by
  obtain ⟨R, hR⟩ : ∃ R, R = NewR w (recS n) := ⟨_, rfl⟩
  rw [← hR]
  have HR := Lib.hid hR
  clear hR
  have ew : IntKind.u8.wrap n = ((toU8 n).toNat : Int) := by
    rw [toU8_nat]
    simp [IntKind.wrap, IntKind.signed, IntKind.bits]
  go_enter Tryd.func19, Tryd.ntmps19
  go_wp2_with (go_at_call 29; refine stopc ?_)
  refine Stop.go ?_
  refine (put_any (fun _ => False) _ [21] _ _ _ (Rd.lit [21] _ rfl (by simp) id) (by simp)).mono ?_
  rintro e w1 ⟨v1, rfl, ho1, hs1⟩
  have HO1 := Lib.hid ho1
  have HS1 := Lib.hid (((Stp.refl (fun _ => False) w).alloc _).trans hs1)
  clear ho1 hs1
  go_wp2_with (go_at_call 30; refine stopc ?_)
  refine Stop.go ?_
  refine (vec_any (fun _ => False) _ _ ([21] ++ be 771 (clampN 2)) [2, toU8 n] _ _ ((HO1.out.rd (h1 := fun _ => rfl) (fun _ _ => id)).stp0 ((Stp.refl _ _).alloc _)) (Rd.lit [2, toU8 n] _ rfl (by simp) id) (by simp [be_len]; decide)).mono ?_
  rw [rec_put]
  rintro e w2 ⟨v2, rfl, ho2, hs2⟩
  have HS2 := Lib.hid ((HS1.out.alloc _).trans hs2)
  have HO2 := Lib.hid (ho2.lower (Nat.le_trans HS1.out.size (by simp)))
  obtain ⟨o2, hq⟩ : ∃ o2, o2 = (vecB ([21] ++ be 771 (clampN 2)) 2 [2, toU8 n]).2 := ⟨_, rfl⟩
  rw [← hq]
  clear ho2 hs2 hq
  go_wp2
  rw [HR.out]
  exact NewR.of_own HO2.out HS2.out

set_option maxRecDepth 100000 in
set_option maxHeartbeats 4000000 in
theorem pageR400_any (w : World) : Calls Tryd.prog 21 #[.int .i64 400] w (NewR w page400) := by
  obtain ⟨R, hR⟩ : ∃ R, R = NewR w page400 := ⟨_, rfl⟩
  rw [← hR]
  have HR := Lib.hid hR
  clear hR
  go_enter Tryd.func21, Tryd.ntmps21
  go_wp2_with (with_reducible refine stop (N := 8) rfl ?_)
  refine Stop.go ?_
  refine wp_bytesOf rfl 9 34 5 _ rfl Tryd.underlying9 Tryd.underlying34 Tryd.underlying5 (s := ⟨page400.toArray⟩) (by kernel_rfl) (by decide) ?_
  rintro v w3 hr hs3 - ⟨c, hv, hc⟩ hf
  have HR3 := Lib.hid hr
  have HV3 := Lib.hid hv
  have HF3 := Lib.hid hf
  have HS3 := Lib.hid hs3
  clear hr hv hf hs3
  go_wp2
  rw [HR.out]
  exact ⟨_, rfl, HR3.out, fun _ => ⟨w.heap.size, c, HV3.out, Nat.le_refl _, HF3.out⟩, HS3.out⟩

set_option maxRecDepth 100000 in
set_option maxHeartbeats 4000000 in
theorem pageR403_any (w : World) : Calls Tryd.prog 21 #[.int .i64 403] w (NewR w page403) := by
  obtain ⟨R, hR⟩ : ∃ R, R = NewR w page403 := ⟨_, rfl⟩
  rw [← hR]
  have HR := Lib.hid hR
  clear hR
  go_enter Tryd.func21, Tryd.ntmps21
  go_wp2_with (with_reducible refine stop (N := 8) rfl ?_)
  refine Stop.go ?_
  refine wp_bytesOf rfl 9 34 5 _ rfl Tryd.underlying9 Tryd.underlying34 Tryd.underlying5 (s := ⟨page403.toArray⟩) (by kernel_rfl) (by decide) ?_
  rintro v w3 hr hs3 - ⟨c, hv, hc⟩ hf
  have HR3 := Lib.hid hr
  have HV3 := Lib.hid hv
  have HF3 := Lib.hid hf
  have HS3 := Lib.hid hs3
  clear hr hv hf hs3
  go_wp2
  rw [HR.out]
  exact ⟨_, rfl, HR3.out, fun _ => ⟨w.heap.size, c, HV3.out, Nat.le_refl _, HF3.out⟩, HS3.out⟩
end Go.Proofs.YtkpfkdcfakhmjaaDoor.L
