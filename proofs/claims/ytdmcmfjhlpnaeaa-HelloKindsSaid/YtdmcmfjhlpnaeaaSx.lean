/- The small case of layer 10. -/
import Derived.Test.YtdmcmfjhlpnaeaaSe
set_option linter.unusedVariables false
set_option linter.unusedSimpArgs false
namespace Go.Proofs.Ytdmcmfjhlpnaeaa.L
open Go.RowKit Go.Proofs

theorem add_z (a : Addr) : a.add 0 = a := by unfold Addr.add; rw [if_pos rfl]
theorem add_nz (a : Addr) (n : Nat) (h : n ≠ 0) : a.add n = ⟨a.block, a.off + n, none⟩ := by unfold Addr.add; rw [if_neg h]
/-- A literal of elements of any kind, just made. -/
theorem Rd.litK {α : Type} {d : Kind α} {M : Nat → Prop} {e : Nat} {W : World} {fr : Nat × Nat} (xs : List α) (cs : Array Value) (hk : Laid d M (W.alloc (.cells cs e fr)) xs cs.toList) (hl : xs.length ≤ 9223372036854775807) (hM : ¬ M W.heap.size) :
    Rd d M (W.alloc (.cells cs e fr)) (.slice (some ⟨W.heap.size, 0, none⟩) xs.length xs.length) xs :=
  ⟨_, xs.length, rfl, Nat.le_refl _, by simpa [maxLen] using hl, fun _ => ⟨_, rfl, hM, fun j p hj => by
    obtain ⟨c, hK, hc⟩ := hk.at_ j p hj
    exact ⟨c, hK, fun i u hu => alloc_at _ _ _ _ _ _ (hc i u hu)⟩⟩⟩

set_option maxRecDepth 100000 in
set_option maxHeartbeats 4000000 in
theorem small10_any (w : World) : Calls Try.prog 37 #[] w fun e w' => e = .returned (.bool true) ∧ Stp (fun _ => False) w w' := by
  go_enter Try.func37, Try.ntmps37
  go_wp2_with (go_at_call 38; refine stopc ?_)
  refine Stop.go ?_
  refine (name_any (fun _ => False) _ [0, 4, 0, 0, 1, 97] _ (Rd.lit [0, 4, 0, 0, 1, 97] _ rfl (by simp) id) (by decide)).mono ?_
  rw [show nameS [0, 4, 0, 0, 1, 97] = (⟨#[97]⟩, 0) by rfl]
  rintro e w1 ⟨rfl, hs1⟩
  have HS := Lib.hid (((Stp.refl (fun _ => False) w).alloc _).trans hs1)
  clear hs1
  go_wp2_with (go_at_call 38; refine stopc ?_)
  refine Stop.go ?_
  refine (name_any (fun _ => False) _ [0, 8, 0, 0, 1, 97, 0, 0, 1, 98] _ (Rd.lit [0, 8, 0, 0, 1, 97, 0, 0, 1, 98] _ rfl (by simp) id) (by decide)).mono ?_
  rw [show nameS [0, 8, 0, 0, 1, 97, 0, 0, 1, 98] = (⟨#[]⟩, 7) by rfl]
  rintro e w2 ⟨rfl, hs1⟩
  have HS := Lib.hid ((HS.out.alloc _).trans hs1)
  clear hs1
  go_wp2_with (go_at_call 38; refine stopc ?_)
  refine Stop.go ?_
  refine (name_any (fun _ => False) _ [0, 4, 1, 0, 1, 97] _ (Rd.lit [0, 4, 1, 0, 1, 97] _ rfl (by simp) id) (by decide)).mono ?_
  rw [show nameS [0, 4, 1, 0, 1, 97] = (⟨#[]⟩, 8) by rfl]
  rintro e w3 ⟨rfl, hs1⟩
  have HS := Lib.hid ((HS.out.alloc _).trans hs1)
  clear hs1
  go_wp2_with (go_at_call 38; refine stopc ?_)
  refine Stop.go ?_
  refine (name_any (fun _ => False) _ [0, 4, 0, 0, 1, 32] _ (Rd.lit [0, 4, 0, 0, 1, 32] _ rfl (by simp) id) (by decide)).mono ?_
  rw [show nameS [0, 4, 0, 0, 1, 32] = (⟨#[]⟩, 9) by rfl]
  rintro e w4 ⟨rfl, hs1⟩
  have HS := Lib.hid ((HS.out.alloc _).trans hs1)
  clear hs1
  go_wp2_with (go_at_call 38; refine stopc ?_)
  refine Stop.go ?_
  refine (name_any (fun _ => False) _ [0, 0] _ (Rd.lit [0, 0] _ rfl (by simp) id) (by decide)).mono ?_
  rw [show nameS [0, 0] = (⟨#[]⟩, 3) by rfl]
  rintro e w5 ⟨rfl, hs1⟩
  have HS := Lib.hid ((HS.out.alloc _).trans hs1)
  clear hs1
  go_wp2_with (go_at_call 40; refine stopc ?_)
  refine Stop.go ?_
  refine (prot_any (fun _ => False) _ [0, 5, 2, 104, 50, 1, 120] _ (Rd.lit [0, 5, 2, 104, 50, 1, 120] _ rfl (by simp) id) (by decide)).mono ?_
  rw [show protS [0, 5, 2, 104, 50, 1, 120] = ([⟨#[104, 50]⟩, ⟨#[120]⟩], 0) by rfl]
  rintro e w6 ⟨v6, rfl, hp, hs1⟩
  have HP := Lib.hid (hp.weak (M' := fun _ => False) (by decide) (fun _ _ h => h.elim))
  have HS := Lib.hid ((HS.out.alloc _).trans hs1)
  obtain ⟨A6, c6, rfl, hle6⟩ := hp.form
  clear hs1 hp hle6
  go_wp2_with (go_at_call 40; refine stopc ?_)
  refine Stop.go ?_
  refine (prot_any (fun _ => False) _ [0, 1, 0] _ (Rd.lit [0, 1, 0] _ rfl (by simp) id) (by decide)).mono ?_
  rw [show protS [0, 1, 0] = ([], 3) by rfl]
  rintro e w7 ⟨v7, rfl, -, hs1⟩
  have HP := Lib.hid ((HP.out.stp0 ((Stp.refl _ _).alloc _)).stp0 hs1)
  have HS := Lib.hid ((HS.out.alloc _).trans hs1)
  clear hs1
  go_wp2_with (go_at_call 42; refine stopc ?_)
  refine Stop.go ?_
  refine (vers_any (fun _ => False) _ [4, 3, 4, 3, 3] _ (Rd.lit [4, 3, 4, 3, 3] _ rfl (by simp) id) (by decide)).mono ?_
  rw [show versS [4, 3, 4, 3, 3] = ([772, 771], 0) by rfl]
  rintro e w8 ⟨v8, rfl, hp, hs1⟩
  have HV := Lib.hid (hp.weak (M' := fun _ => False) (by decide) (fun _ _ h => h.elim))
  have HP := Lib.hid ((HP.out.stp0 ((Stp.refl _ _).alloc _)).stp0 hs1)
  have HS := Lib.hid ((HS.out.alloc _).trans hs1)
  obtain ⟨A8, c8, rfl, hle8⟩ := hp.form
  clear hs1 hp hle8
  go_wp2_with (go_at_call 42; refine stopc ?_)
  refine Stop.go ?_
  refine (vers_any (fun _ => False) _ [3, 3, 4, 3] _ (Rd.lit [3, 3, 4, 3] _ rfl (by simp) id) (by decide)).mono ?_
  rw [show versS [3, 3, 4, 3] = ([], 3) by rfl]
  rintro e w9 ⟨v9, rfl, -, hs1⟩
  have HP := Lib.hid ((HP.out.stp0 ((Stp.refl _ _).alloc _)).stp0 hs1)
  have HV := Lib.hid ((HV.out.stp0 ((Stp.refl _ _).alloc _)).stp0 hs1)
  have HS := Lib.hid ((HS.out.alloc _).trans hs1)
  clear hs1
  go_wp2_with (go_at_call 47; refine stopc ?_)
  refine Stop.go ?_
  refine (see_any (fun _ => False) _ _ 2 [(65037, []), (0, [0, 4, 0, 0, 1, 97])] _ rfl (fun _ => by simp) (Rd.litK [(65037, []), (0, [0, 4, 0, 0, 1, 97])] _ ?_ (by simp) id) (by decide) (by decide)).mono ?_
  · exact ⟨[_, _], [_, _], rfl, ⟨[_], [_], rfl, rfl, _, rfl, Rd.nil _ _ _⟩, [_, _], [], rfl, ⟨[_], [_], rfl, rfl, _, rfl, (Rd.lit [0, 4, 0, 0, 1, 97] _ rfl (by simp) id).stp0 ((Stp.refl _ _).alloc _)⟩, rfl⟩
  rw [show seeS [(65037, []), (0, [0, 4, 0, 0, 1, 97])] = (⟨true, ⟨#[97]⟩, [], [], true⟩, 0) by rfl]
  rintro e w10 ⟨v10, rfl, ⟨va, vv, rfl, ha, hv⟩, hs1⟩
  obtain ⟨Aa, ca, rfl, _⟩ := ha.form
  obtain ⟨Av, cv, rfl, _⟩ := hv.form
  have HP := Lib.hid ((HP.out.stp0 (((Stp.refl _ _).alloc _).alloc _)).stp0 hs1)
  have HV := Lib.hid ((HV.out.stp0 (((Stp.refl _ _).alloc _).alloc _)).stp0 hs1)
  have HS := Lib.hid (((HS.out.alloc _).alloc _).trans hs1)
  clear hs1 ha hv
  obtain ⟨ad6, rfl, _, hp0⟩ := plain_cell (HP.out.stp0 ((Stp.refl _ _).alloc (.cells #[.bool true, .string ⟨#[97]⟩, .slice Aa 0 ca, .slice Av 0 cv, .bool true] 65))) 0 (by decide)
  have hp1 := plain_cell2 (HP.out.stp0 ((Stp.refl _ _).alloc (.cells #[.bool true, .string ⟨#[97]⟩, .slice Aa 0 ca, .slice Av 0 cv, .bool true] 65))) 1 (by decide)
  obtain ⟨ad8, rfl, _, hv0⟩ := plain_cell (HV.out.stp0 ((Stp.refl _ _).alloc (.cells #[.bool true, .string ⟨#[97]⟩, .slice Aa 0 ca, .slice Av 0 cv, .bool true] 65))) 0 (by decide)
  simp only [List.getElem_cons_zero, List.getElem_cons_succ, add_z] at hp0 hp1 hv0
  rw [add_nz _ _ (by decide)] at hp1
  go_wp2
  go_ret
  exact ⟨rfl, HS.out.alloc _⟩
end Go.Proofs.Ytdmcmfjhlpnaeaa.L
