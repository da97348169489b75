/- Texts of the proof, joined: Hx. -/
import Derived.Test.YtligofmhbbgalaaGreatDoorG17
set_option linter.unusedVariables false
set_option linter.unusedSimpArgs false
/- Parse. -/
namespace Go.Proofs.YtligofmhbbgalaaGreatDoor.L
open Go.RowKit Go.Proofs

/-- The number of the j-th pair. -/
def fa (a : List UInt8) (j : Nat) : Int := ((a.getD (2 * j) 0).toNat * 256 + (a.getD (2 * j + 1) 0).toNat : Nat)
theorem twos_map (m : Nat) : ∀ a : List UInt8, a.length = 2 * m → twos a = (List.range m).map (fa a) := by
  induction m with
  | zero =>
    intro a ha
    obtain rfl : a = [] := List.eq_nil_of_length_eq_zero (by omega)
    rfl
  | succ m ih =>
    intro a ha
    match a, ha with
    | x :: y :: r, ha =>
      have hr : r.length = 2 * m := by simp at ha; omega
      rw [twos, ih r hr, List.range_succ_eq_map, List.map_cons, List.map_map]
      refine List.cons_eq_cons.2 ⟨rfl, List.map_congr_left fun j _ => ?_⟩
      have h1 : 2 * (j + 1) = 2 * j + 1 + 1 := by omega
      show fa r j = fa (x :: y :: r) (j + 1)
      unfold fa
      rw [h1, List.getD_cons_succ, List.getD_cons_succ, List.getD_cons_succ, List.getD_cons_succ]
theorem twos_fin (m : Nat) (a : List UInt8) (h : a.length = 2 * m) : twos a = (List.finRange m).map (fun j => fa a j.1) := by
  rw [twos_map m a h]
  apply List.ext_getElem
  · simp
  · intro i h1 h2
    simp
theorem Own.blk {α : Type} {enc : α → Value} {e B : Nat} {W : World} {v : Value} {xs : List α} (h : Own enc e B W v xs) {k : Nat} (hk : v.ownBlock = some k) : ∃ cs t fr, W.heap[k]? = some (.cells cs t fr) := by
  rcases h.2 with ⟨rfl, _⟩ | ⟨g, cap, cur, rfl, hb, hgg, _⟩
  · cases hk
  · injection hk with hk
    exact ⟨_, _, _, by rw [← hk]; exact hgg⟩

theorem rtake_le (s : RSt) (n : Int) : (rtake s n).1.length ≤ n.toNat := by
  unfold rtake
  split
  · simp
  · simp only [List.length_take]
    omega
theorem rvec_max (s : RSt) (k : Int) : (rvec s k).1.length < 256 ^ clampN k := by
  unfold rvec
  split
  · exact Nat.pow_pos (by decide)
  · have h1 := rtake_le (rnum s k).2 (rnum s k).1
    have h2 := beNum_lt (rtake s (clampN k : Nat)).1
    have h3 := rtake_le s (clampN k : Nat)
    have h4 : (256 : Nat) ^ (rtake s (clampN k : Nat)).1.length ≤ 256 ^ clampN k := Nat.pow_le_pow_right (by decide) (by simpa using h3)
    have h5 : (rnum s k).1.toNat = beNum (rtake s (clampN k : Nat)).1 := rfl
    omega
theorem laid_fit2 (b : List UInt8) : HlFit ((laidS b).getD hl0) ∧ ((laidS b).getD hl0).exs.length ≤ 1000000000 := by
  have h3 : (rd3 b).1.length < 256 := rvec_max _ 1
  have h4 : (rd4 b).1.length < 65536 := rvec_max _ 2
  have h5 : (rd5 b).1.length < 256 := rvec_max _ 1
  have h6 : (rd6 b).1.length < 65536 := rvec_max _ 2
  have hv0 : 0 ≤ (rd1 b).1 := by unfold rd1 rnum; simp only; omega
  have hv1 : (rd1 b).1 ≤ 4294967295 := rnum_le _ _
  have h42 := twos_len (rd4 b).1
  obtain ⟨he1, he2⟩ := extS_fit (rd6 b).1
  have k0 : HlFit hl0 := ⟨by simp [hl0], by simp [hl0], by simp [hl0], by simp [hl0], fun x hx => by simp [hl0] at hx, by simp [hl0], fun x hx => by simp [hl0] at hx⟩
  unfold laidS
  split
  · split
    · refine ⟨⟨?_, ?_, ?_, ?_, ?_, ?_, ?_⟩, ?_⟩ <;> simp only [Option.getD_some, hlF] <;> try omega
      all_goals simp
    · split
      · refine ⟨⟨?_, ?_, ?_, ?_, ?_, ?_, ?_⟩, ?_⟩ <;> simp only [Option.getD_some, hlF] <;> try omega
        · intro x hx
          have := (he2 x hx).1
          omega
        · intro x hx
          have := (he2 x hx).2
          simp only [Lit.wf, IntKind.min, IntKind.max, IntKind.signed, IntKind.bits, Bool.and_eq_true, decide_eq_true_eq]
          simp
          omega
      · exact ⟨k0, by simp [hl0]⟩
  · exact ⟨k0, by simp [hl0]⟩

set_option maxRecDepth 100000 in
set_option maxHeartbeats 8000000 in
theorem parseH_any (Ma : Nat → Prop) (v0 : Value) (b : List UInt8) (w : World) (hd : Rd u8 Ma w v0 b) (hl : b.length ≤ 140737488355328) :
    Calls Tryz.prog 98 #[v0] w (ParseRet w b) := by
  have HFIT := Lib.hid (laid_fit2 b)
  have HLB := Lib.hid hl
  obtain ⟨R, hR⟩ : ∃ R, R = ParseRet w b := ⟨_, rfl⟩
  rw [← hR]
  have HR := Lib.hid hR
  clear hR
  obtain ⟨w0, hw0⟩ : ∃ w0, w0 = w.alloc (.cells (hlV hl0 (.slice none 0 0) (.slice none 0 0) (.slice none 0 0) (.slice none 0 0)).toArray 69) := ⟨_, rfl⟩
  have hz0 : w.heap.size + 1 = w0.heap.size := by rw [hw0]; simp
  have hs0 : Stp (fun _ => False) w w0 := by rw [hw0]; exact (Stp.refl _ _).alloc _
  have hb0 : HlB w0 w.heap.size hl0 (.slice none 0 0) (.slice none 0 0) (.slice none 0 0) (.slice none 0 0) := ⟨by rw [hw0]; exact heap_alloc_new w _, by simp [hl0]⟩
  obtain ⟨w1, hw1⟩ : ∃ w1, w1 = w0.alloc (.cells (hlV hl0 (.slice none 0 0) (.slice none 0 0) (.slice none 0 0) (.slice none 0 0)).toArray 69) := ⟨_, rfl⟩
  have hs1 : Stp (fun _ => False) w0 w1 := by rw [hw1]; exact (Stp.refl _ _).alloc _
  have hb1 : HlB w1 w0.heap.size hl0 (.slice none 0 0) (.slice none 0 0) (.slice none 0 0) (.slice none 0 0) := ⟨by rw [hw1]; exact heap_alloc_new w0 _, by simp [hl0]⟩
  have hz1 : w0.heap.size + 1 = w1.heap.size := by rw [hw1]; simp
  have hd1 := (hd.stp0 hs0).stp0 hs1
  have hq1 := hb0.stp0 hs1
  rw [hlV0] at hw0 hw1
  have HW0 := Lib.hid hw0
  have HW1 := Lib.hid hw1
  have HS1 := Lib.hid (hs0.trans hs1)
  clear hw0 hw1 hd hs0 hs1 hb0
  refine (callsIn_wide (n := 9)).1 (callsIn_of_wp_marks Tryz.func98 rfl trivial ?_ rfl)
  simp only [Tryz.ntmps98, List.size_toArray, List.length_cons, List.length_nil, Nat.reduceAdd, Nat.reduceSub, Array.replicate_succ, Array.replicate_zero, List.push_toArray, List.append_toArray, List.nil_append, List.cons_append]
  refine wpIn_mono (Q := noPanic _) (wpIn_wide.2 ?_) noPanic_of
  go_wp2_with (go_at_call 132; refine stopc ?_)
  refine Stop.go ?_
  rw [← HW0.out, ← HW1.out]
  rw [← hz0] at hz1 hb1 ⊢
  generalize e0 : w.heap.size = g0 at *
  generalize e1 : g0 + 1 = gh at *
  have E0 := Lib.hid e0
  have hg0 : g0 < gh := by omega
  have hgw1 : gh < w1.heap.size := hb1.lt
  clear e0 e1 hz0 HW0 HW1
  refine (read_any _ v0 b _ hd1 (by omega)).mono ?_
  rintro e w3 ⟨gi, rfl, hi3, hs3⟩
  have hg1 : gh < gi := by have := hi3.1; omega
  obtain ⟨Mi, hMi⟩ : ∃ M : Nat → Prop, M = fun k => k < w1.heap.size ∨ w3.heap.size ≤ k := ⟨_, rfl⟩
  have HMI := Lib.hid (show ∀ k, k < w1.heap.size ∨ w3.heap.size ≤ k → Mi k by rw [hMi]; exact fun _ h => h)
  have HI3 := Lib.hid (hi3.weak (M' := Mi) (by rw [hMi]; intro k hk h; omega))
  have hgi3 : gi < w3.heap.size := hi3.lt
  have HQ3 := Lib.hid (hq1.stp0 hs3)
  have HB3 := Lib.hid (hb1.stp0 hs3)
  have HS3 := Lib.hid (HS1.out.trans hs3)
  have hsz3 := hs3.size
  clear hMi hi3 hs3 hq1 hb1 hd1 HS1 hz1
  go_wp2_with (go_at_call 133; refine stopc ?_)
  refine Stop.go ?_
  refine (num_any Mi gi (b, false) _ _ HI3.out (by simp; omega)).mono ?_
  rintro e w4 ⟨rfl, hi4, hs4⟩
  have hq4 := HQ3.out.step hs4 (by omega)
  have hb4 := HB3.out.step hs4 (by omega)
  have HS4 := Lib.hid (HS3.out.new hs4 (by rw [E0.out]; omega))
  have hsz4 := hs4.size
  obtain ⟨c4, -⟩ := hb4.cells
  have f4 := hb4.free 0
  have HI4 := Lib.hid (show IsRd Mi w4 gi (rd1 b).2 from hi4)
  have HQ4 := Lib.hid hq4
  have HB4 := Lib.hid hb4
  clear hq4 hb4
  clear hs4 hi4 HI3 HQ3 HB3 HS3
  go_wp2_with fail
  have hs5 := (Stp.refl (fun k => k = gh) w4).setg 0 (.int .i64 (rnum (b, false) 2).1)
  obtain ⟨w5, hw5⟩ : ∃ w5, w5 = w4.setCell ⟨gh, 0, none⟩ (.int .i64 (rnum (b, false) 2).1) := ⟨_, rfl⟩
  have hb5 := HB4.out.set0 (rnum (b, false) 2).1
  rw [← hw5] at hs5 hb5 ⊢
  have hq5 := HQ4.out.step hs5 (by omega)
  have hi5 := HI4.out.step hs5 (fun k hk he => HMI.out k (by omega))
  have HS5 := Lib.hid (HS4.out.then_ hs5 (fun k hk he => by rw [E0.out] at hk; omega))
  have hsz5 := hs5.size
  have hl1 : (rd1 b).2.1.length ≤ b.length := rnum_len (b, false) 2
  have HB5 := Lib.hid hb5
  have HQ5 := Lib.hid hq5
  have HI5 := Lib.hid hi5
  clear hb5 hq5 hi5
  clear hw5 hs5 c4 f4 HI4 HQ4 HB4 HS4
  refine wp_region_held_drew (S := (fun _ => True)) (by kernel_rfl) (trivial) (fun hHeld => ?_)
  try (change wpAnyH _ _ _ _ _ _ _ _ (World.drew _))
  refine rg_take (i := 0) (o := { dst := some 16, op := Op.fieldAddr 69 (Operand.tmp 4) 1, type := 0, pos := "hello.go:63", after := #[], guard := none }) (v := ?rgv1) rfl (by kernel_rfl) (by kernel_rfl) (by kernel_rfl) (fun _ _ _ h => h) (by rfl) (fun w hSw => ?rgy1) hHeld ?_
  case rgy1 => (try dsimp only at hSw); first | (go_simp; done) | (go_simp; with_reducible rfl)
  try simp only [Act.put, List.setIfInBounds_toArray, List.set_cons_zero, List.set_cons_succ]
  refine rg_take (i := 1) (o := { dst := some 17, op := Op.slice 66 (Operand.tmp 16) none none none, type := 22, pos := "hello.go:63", after := #[{ on := 0, ground := Ground.data }], guard := none }) (v := ?rgv2) rfl (by kernel_rfl) (by kernel_rfl) (by kernel_rfl) (fun _ _ _ h => h) (by rfl) (fun w hSw => ?rgy2) hHeld ?_
  case rgy2 => (try dsimp only at hSw); first | (go_simp; done) | (go_simp; with_reducible rfl)
  try simp only [Act.put, List.setIfInBounds_toArray, List.set_cons_zero, List.set_cons_succ]
  refine rg_take (i := 2) (o := { dst := some 18, op := Op.move (Operand.tmp 5), type := 164, pos := "hello.go:63", after := #[], guard := none }) (v := ?rgv3) rfl (by kernel_rfl) (by kernel_rfl) (by kernel_rfl) (fun _ _ _ h => h) (by rfl) (fun w hSw => ?rgy3) hHeld ?_
  case rgy3 => (try dsimp only at hSw); first | (go_simp; done) | (go_simp; with_reducible rfl)
  try simp only [Act.put, List.setIfInBounds_toArray, List.set_cons_zero, List.set_cons_succ]
  refine wpAnyH_ready (rs := [3]) (by kernel_rfl) (by simp) ?_
  refine (AllReadyH.cons (o := { dst := some 19, op := Op.call { callee := Callee.value (Operand.func 134), args := #[Operand.tmp 18, Operand.const (Value.int IntKind.i64 32)], argTypes := #[164, 3] }, type := 22, pos := "hello.go:63", after := #[{ on := 2, ground := Ground.data }], guard := none }) rfl (fun K hK => ?_) AllReadyH.nil)
  go_simp
  refine (take_any Mi gi _ _ _ (HI5.out.stp0 ((Stp.refl _ _).drew)) (by omega)).mono ?_
  rintro e w6 ⟨v6, rfl, ho6, hi6, hs6⟩
  have hs6' := ((Stp.refl (fun k => k = gi) w5).drew).trans hs6
  have hq6 := HQ5.out.step hs6' (by omega)
  have hb6 := HB5.out.step hs6' (by omega)
  have HS6 := Lib.hid (HS5.out.then_ hs6' (fun k hk he => by rw [E0.out] at hk; omega))
  have HI6 := Lib.hid (show IsRd Mi w6 gi (rd2 b).2 from hi6)
  have HO6 := Lib.hid ho6
  have hsz6 := hs6'.size
  have HQ6 := Lib.hid hq6
  have HB6 := Lib.hid hb6
  clear hq6 hb6
  clear ho6 hi6 hs6 hs6'
  show K _ _
  clear hHeld
  refine hK.out _ _ (trivial) (fun hHeld => ?_)
  clear hK K
  try simp only [Act.put, List.setIfInBounds_toArray, List.set_cons_zero, List.set_cons_succ]
  refine wpAnyH_ready (rs := [4]) (by kernel_rfl) (by simp) ?_
  refine (AllReadyH.cons (o := { dst := some 20, op := Op.call { callee := Callee.builtin Builtin.copy, args := #[Operand.tmp 17, Operand.tmp 19], argTypes := #[22, 22] }, type := 3, pos := "hello.go:63", after := #[{ on := 1, ground := Ground.data }, { on := 3, ground := Ground.data }, { on := 3, ground := Ground.chain }], guard := none }) rfl (fun K hK => ?_) AllReadyH.nil)
  refine op_copyRnd HB6.out _ _ _ _ (by rfl) 5 Tryz.underlying22 size_u8 (HO6.out.rd (h1 := fun _ => rfl) (M := fun _ => False) (fun _ _ => id)) (rd2_len b) (by rfl) (by rfl) ?_
  intro w7 hb7 hs7
  show K _ _
  clear hHeld
  refine hK.out _ _ (trivial) (fun hHeld => ?_)
  clear hK K
  try simp only [Act.put, List.setIfInBounds_toArray, List.set_cons_zero, List.set_cons_succ]
  clear hHeld
  refine wpAnyH_done (by kernel_rfl) ?_ _
  have hq7 := HQ6.out.step hs7 (by omega)
  have HI7 := Lib.hid (HI6.out.step hs7 (fun k hk he => HMI.out k (by omega)))
  have HS7 := Lib.hid (HS6.out.then_ hs7 (fun k hk he => by rw [E0.out] at hk; omega))
  have hsz7 := hs7.size
  have HQ7 := Lib.hid hq7
  have HB7 := Lib.hid hb7
  clear hq7 hb7
  clear hs7 HI6 HQ6 HB6 HS6 HO6 HI5 HQ5 HB5 HS5
  have hl2 : (rd2 b).2.1.length ≤ (rd1 b).2.1.length := rtake_len2 _ _
  go_wp2_with (go_at_call 135; refine stopc ?_)
  refine Stop.go ?_
  refine (rvec_any Mi gi _ _ _ HI7.out (by omega)).mono ?_
  rintro e w8 ⟨v8, rfl, ho8, hi8, hs8⟩
  replace ho8 : Own enc8 5 w7.heap.size w8 v8 (rd3 b).1 := ho8
  obtain ⟨A8, k8, rfl, hle8⟩ := ho8.form
  have hb8 := HB7.out.step hs8 (by omega)
  have hq8 := HQ7.out.step hs8 (by omega)
  have HV8 := Lib.hid (ho8.rd (h1 := fun _ => rfl) (M := fun k => k ≤ gi) (fun k hk h => by have := (ho8.lt k hk).1; omega))
  obtain ⟨-, c33, -⟩ := hb8.cells
  have f33 := hb8.free 33
  have HI8 := Lib.hid (show IsRd Mi w8 gi (rd3 b).2 from hi8)
  have HS8 := Lib.hid (HS7.out.then_ hs8 (fun k hk he => by rw [E0.out] at hk; omega))
  have hsz8 := hs8.size
  have hs9 := (Stp.refl (fun k => k = gh) w8).setg 33 (.slice A8 (rd3 b).1.length k8)
  have hb9 := hb8.set33 (.slice A8 (rd3 b).1.length k8) (rd3 b).1
  have hq9 := hq8.step hs9 (by omega)
  have hi9 := HI8.out.step hs9 (fun k hk he => HMI.out k (by omega))
  have HV9 := Lib.hid (HV8.out.step hs9 (fun k hk he => by omega))
  have HS9 := Lib.hid (HS8.out.then_ hs9 (fun k hk he => by rw [E0.out] at hk; omega))
  have hsz9 := hs9.size
  have hl3 : (rd3 b).2.1.length ≤ (rd2 b).2.1.length := rvec_len _ _
  have HB9 := Lib.hid hb9
  have HQ9 := Lib.hid hq9
  have HI9 := Lib.hid hi9
  clear hb9 hq9 hi9
  clear ho8 hi8 hs8 hb8 hq8 hs9 HI8 HI7 HB7 HQ7 HS7 HS8
  go_wp2_with (go_at_call 135; refine stopc ?_)
  refine Stop.go ?_
  generalize hw9 : w8.setCell ⟨gh, 33, none⟩ (.slice A8 (rd3 b).1.length k8) = w9 at *
  clear hw9 c33 f33 HV8
  refine (rvec_any Mi gi _ _ _ HI9.out (by omega)).mono ?_
  rintro e w10 ⟨v10, rfl, ho10, hi10, hs10⟩
  replace ho10 : Own enc8 5 w9.heap.size w10 v10 (rd4 b).1 := ho10
  obtain ⟨A10, k10, rfl, hle10⟩ := ho10.form
  have HB10 := Lib.hid (HB9.out.step hs10 (by omega))
  have HQ10 := Lib.hid (HQ9.out.step hs10 (by omega))
  have HV10 := Lib.hid (HV9.out.step hs10 (fun k hk he => by omega))
  have HC10 := Lib.hid (ho10.rd (h1 := fun _ => rfl) (M := fun k => k ≤ gi) (fun k hk h => by have := (ho10.lt k hk).1; omega))
  have HI10 := Lib.hid (show IsRd Mi w10 gi (rd4 b).2 from hi10)
  have HS10 := Lib.hid (HS9.out.then_ hs10 (fun k hk he => by rw [E0.out] at hk; omega))
  have hsz10 := hs10.size
  have hl4 : (rd4 b).2.1.length ≤ (rd3 b).2.1.length := rvec_len _ _
  have HCAP := Lib.hid (show k10 ≤ 9223372036854775807 by
    rcases ho10.2 with ⟨h, _⟩ | ⟨g, cap, cur, h, _, _, _, hm, _⟩
    · injection h with _ _ h
      omega
    · injection h with _ _ h
      rw [h]
      exact hm)
  clear ho10 hi10 hs10 HB9 HQ9 HI9 HV9 HS9
  go_wp2_with (go_at_call 135; refine stopc ?_)
  refine Stop.go ?_
  refine (rvec_any Mi gi _ _ _ HI10.out (by omega)).mono ?_
  rintro e w11 ⟨v11, rfl, ho11, hi11, hs11⟩
  replace ho11 : Own enc8 5 w10.heap.size w11 v11 (rd5 b).1 := ho11
  obtain ⟨A11, k11, rfl, hle11⟩ := ho11.form
  have hb11 := HB10.out.step hs11 (by omega)
  have hq11 := HQ10.out.step hs11 (by omega)
  have HV11 := Lib.hid (HV10.out.step hs11 (fun k hk he => by omega))
  have HC11 := Lib.hid (HC10.out.step hs11 (fun k hk he => by omega))
  have HM11 := Lib.hid (ho11.rd (h1 := fun _ => rfl) (M := fun k => k ≤ gi) (fun k hk h => by have := (ho11.lt k hk).1; omega))
  obtain ⟨-, -, -, c35, -⟩ := hb11.cells
  have f35 := hb11.free 35
  have HI11 := Lib.hid (show IsRd Mi w11 gi (rd5 b).2 from hi11)
  have HS11 := Lib.hid (HS10.out.then_ hs11 (fun k hk he => by rw [E0.out] at hk; omega))
  have hsz11 := hs11.size
  have hs12 := (Stp.refl (fun k => k = gh) w11).setg 35 (.slice A11 (rd5 b).1.length k11)
  have hb12 := hb11.set35 (.slice A11 (rd5 b).1.length k11) (rd5 b).1
  have hq12 := hq11.step hs12 (by omega)
  have hi12 := HI11.out.step hs12 (fun k hk he => HMI.out k (by omega))
  have hc12 := hb12.cells
  have HV12 := Lib.hid (HV11.out.step hs12 (fun k hk he => by omega))
  have HC12 := Lib.hid (HC11.out.step hs12 (fun k hk he => by omega))
  have HM12 := Lib.hid (HM11.out.step hs12 (fun k hk he => by omega))
  have HS12 := Lib.hid (HS11.out.then_ hs12 (fun k hk he => by rw [E0.out] at hk; omega))
  obtain ⟨-, -, c34, c35b, c36, c37⟩ := hc12
  have hsz12 := hs12.size
  have hl5 : (rd5 b).2.1.length ≤ (rd4 b).2.1.length := rvec_len _ _
  have HB12 := Lib.hid hb12
  have HQ12 := Lib.hid hq12
  have HI12 := Lib.hid hi12
  clear hb12 hq12 hi12
  clear ho11 hi11 hs11 hb11 hq11 hs12 HI11 HI10 HB10 HQ10 HS10 HS11 HV10 HC10 HV11 HC11 HM11
  go_upto_region 8 with fail
  generalize hw12 : w11.setCell ⟨gh, 35, none⟩ (.slice A11 (rd5 b).1.length k11) = w12 at *
  clear hw12 c35 f35
  obtain ⟨tt, htt⟩ : ∃ tt : Bool, tt = !decide (okFH b) := ⟨_, rfl⟩
  have HTT := Lib.hid htt
  clear htt
  go_cut [47] from 29 to 96 (fun t wx => t = .bool tt ∧ wx = w12)
  case first =>
    go_wp2_with (go_at_call 136; refine stopc ?_)
    refine Stop.go ?_
    refine (bad_any Mi gi _ _ HI12.out).mono ?_
    rintro e wx ⟨rfl, rfl⟩
    by_cases z1 : (rd5 b).2.2 = true
    · rw [z1]
      have hno : ¬ okFH b := fun h => by have := h.1; rw [z1] at this; cases this
      have HNO := Lib.hid hno
      have Z1 := Lib.hid z1
      clear hno z1
      go_wp2_with fail
      go_meet
      exact ⟨by rw [HTT.out]; simp [HNO.out], rfl⟩
    have z1' : (rd5 b).2.2 = false := by simpa using z1
    rw [z1']
    clear z1
    by_cases z2 : (rd4 b).1.length = 0
    · have z2' : (((rd4 b).1.length : Int) == 0) = true := by simp [z2]
      have hno : ¬ okFH b := fun h => h.2.1 z2
      have HNO := Lib.hid hno
      have Z1' := Lib.hid z1'
      clear hno z1'
      clear z2
      go_wp2_with fail
      go_meet
      exact ⟨by rw [HTT.out]; simp [HNO.out], rfl⟩
    have z2' : (((rd4 b).1.length : Int) == 0) = false := by rw [beq_eq_false_iff_ne]; omega
    by_cases z3 : (rd4 b).1.length % 2 = 1
    · have hno : ¬ okFH b := fun h => by have := h.2.2.1; omega
      have z3' : (((rd4 b).1.length : Int) % 2 != 0) = true := by
        have : ((rd4 b).1.length : Int) % 2 = 1 := by omega
        rw [this]; rfl
      have HNO := Lib.hid hno
      have Z1' := Lib.hid z1'
      clear hno z1'
      clear z2 z3
      go_wp2_with fail
      go_meet
      exact ⟨by rw [HTT.out]; simp [HNO.out], rfl⟩
    have z3' : (((rd4 b).1.length : Int) % 2 != 0) = false := by
      have : ((rd4 b).1.length : Int) % 2 = 0 := by omega
      rw [this]; rfl
    by_cases z4 : (rd5 b).1.length = 0
    · have hno : ¬ okFH b := fun h => h.2.2.2 z4
      have z4' : (((rd5 b).1.length : Int) == 0) = true := by simp [z4]
      have HNO := Lib.hid hno
      have Z1' := Lib.hid z1'
      clear hno z1'
      clear z2 z3 z4
      go_wp2_with fail
      go_meet
      exact ⟨by rw [HTT.out]; simp [HNO.out], rfl⟩
    · have hyes : okFH b := ⟨z1', z2, by omega, z4⟩
      have z4' : (((rd5 b).1.length : Int) == 0) = false := by rw [beq_eq_false_iff_ne]; omega
      have HYES := Lib.hid hyes
      have Z1' := Lib.hid z1'
      clear hyes z1'
      clear z2 z3 z4
      go_wp2_with fail
      go_meet
      exact ⟨by rw [HTT.out]; simp [HYES.out], rfl⟩
  case rest =>
    obtain ⟨rfl, rfl⟩ := hcut
    by_cases hF : okFH b
    case neg =>
      have hlz : laidS b = none := by unfold laidS; rw [if_neg hF]
      have hp := parseS_none b (by rw [hlz]; rfl)
      obtain rfl : tt = true := by rw [HTT.out]; simp [hF]
      have HLZ := Lib.hid hlz
      have HF := Lib.hid hF
      have HP := Lib.hid hp
      clear hlz hF hp
      go_wp2_with (with_reducible refine stop (N := 48) rfl ?_)
      refine Stop.go ?_
      refine wpList_val9 (v := .agg (hlV hl0 (.slice none 0 0) (.slice none 0 0) (.slice none 0 0) (.slice none 0 0)).toArray) rfl (by kernel_rfl) ?_
      refine wpList_store_row rfl _ _ _ rfl g0 _ rfl rfl _ _ HQ12.out.1 size_hello (by rfl) (hlV_one rfl rfl rfl rfl) ?_
      go_wp2
      try simp only [Exit.inBlock, Exit.then]
      refine leave0 (results_row9 rfl _ _ g0 _ _ _ _ rfl (hello_row HQ12.out.1 _) Tryz.underlying69 rfl size_hello) ?_
      rw [HR.out]
      refine ⟨_, by rw [HP.out]; rfl, ?_, HS12.out.setRow (by rw [E0.out]; omega) _⟩
      rw [HP.out]
      exact IsHl.nil _ _
    obtain rfl : tt = false := by rw [HTT.out]; simp [hF]
    obtain ⟨hF1, hF2, hF3, hF4⟩ := id hF
    obtain ⟨a, ha⟩ : ∃ a, a = (rd4 b).1 := ⟨_, rfl⟩
    rw [← ha] at hF2 hF3 HC12 hle10 ⊢
    obtain ⟨m, hm⟩ : ∃ m, a.length = 2 * m := ⟨a.length / 2, by omega⟩
    rw [hm] at HC12 hle10 ⊢
    have hal : a.length ≤ 1000000000 := by
      have h1 : a.length < 65536 := by rw [ha]; exact rvec_max _ 2
      omega
    have HHF := Lib.hid hF
    have HA := Lib.hid ha
    have HM := Lib.hid hm
    have HAL := Lib.hid hal
    have hcap := HCAP.out
    have hm1 : m ≤ 500000000 := by omega
    have hm0 : 0 < m := by omega
    obtain ⟨ad, rfl, hadM, -⟩ := plain_cell (c := k10) (A := A10) (n := 2 * m) HC12.out 0 (by omega)
    clear c34 c35b c36 c37 hF4 hF1 hF2 hF3 hF HTT ha hm hal
    go_wp2_with (go_at_call 137; refine stopc ?_)
    refine Stop.go ?_
    refine (chunk_any _ _ _ _).mono ?_
    rintro e w13 ⟨rfl, hw13⟩
    go_wp2_with fail
    rw [← hw13]
    have hn1 : wc.heap.size + 2 = w13.heap.size := by rw [hw13]; simp
    have hBs : w13.cell? ⟨wc.heap.size, 0, none⟩ = some (.slice (some ad) (2 * m) k10) := by
      rw [hw13]
      exact ((Stp.refl (fun _ => False) _).alloc _).cell (blk_cell (j := 0) (heap_alloc_new wc _)) id
    have hBn : w13.cell? ⟨wc.heap.size + 1, 0, none⟩ = some (.int .i64 2) := by
      have h := blk_cell (j := 0) (heap_alloc_new (wc.alloc (.cells #[.slice (some ad) (2 * m) k10] 22)) (.cells #[.int .i64 2] 3))
      rw [hw13]
      simp
    have hs13 : Stp (fun _ => False) wc w13 := by rw [hw13]; exact ((Stp.refl _ _).alloc _).alloc _
    clear hw13
    have HQ13 := Lib.hid (HQ12.out.stp0 hs13)
    obtain ⟨us, hus⟩ : ∃ v, v = Value.slice A8 (rd3 b).1.length k8 := ⟨_, rfl⟩
    obtain ⟨um, hum⟩ : ∃ v, v = Value.slice A11 (rd5 b).1.length k11 := ⟨_, rfl⟩
    have HUS := Lib.hid (show us.oneCell' = true by rw [hus]; rfl)
    have HUM := Lib.hid (show um.oneCell' = true by rw [hum]; rfl)
    have HB13 := Lib.hid (show HlB w13 gh { hlF b with cip := [] } (.slice A8 (rd3 b).1.length k8) (.slice none 0 0) (.slice A11 (rd5 b).1.length k11) (.slice none 0 0) from HB12.out.stp0 hs13)
    have HI13 := Lib.hid (HI12.out.stp0 hs13)
    have HV13 := Lib.hid ((HV12.out.stp0 hs13).weak (M' := fun k => k ≤ gi ∨ w13.heap.size ≤ k) (by decide) (fun k hk h => by omega))
    have HM13 := Lib.hid ((HM12.out.stp0 hs13).weak (M' := fun k => k ≤ gi ∨ w13.heap.size ≤ k) (by decide) (fun k hk h => by omega))
    have HC13 := Lib.hid ((HC12.out.stp0 hs13).weak (M' := fun k => k ≤ gi ∨ w13.heap.size ≤ k) (by decide) (fun k hk h => by omega))
    have HS13 := Lib.hid (HS12.out.trans hs13)
    have hsz13 := hs13.size
    rw [← hus, ← hum] at HB13
    rw [← hus] at HV13
    rw [← hum] at HM13
    clear hs13 HQ12 HB12 HI12 HV12 HM12 HC12 HS12 hus hum
    refine (wpIn_wide (n := 9)).1 (wpIn_range1 (F := Fence.wide) (q := 7) rfl (by omega) (lb := #[.pointer (some ⟨wc.heap.size, 0, none⟩), .pointer (some ⟨wc.heap.size + 1, 0, none⟩)]) rfl trivial (enters_of Tryz.func161 (by kernel_rfl) rfl) (fun x : Fin m => .slice (some (ad.add (2 * x.1))) 2 2)
      (chunk_stops Fence.wide 8 trivial rfl (by omega) wc.heap.size (wc.heap.size + 1) ad m k10 (by omega) (by omega) (by omega) w13 (by omega) (by omega) hBs hBn) (fun h k => h.trans k) ?kb (Below.refl _ _)
      (fun pre W => ∃ v34, Own (Value.int .i64) 3 w13.heap.size W v34 (pre.map fun j => fa a j.1) ∧ HlB W gh { hlF b with cip := pre.map fun j => fa a j.1 } us v34 um (.slice none 0 0) ∧ Stp (fun k => k = gh) w13 W) ?own ?start ?assign ?body ?done)
    case kb =>
      intro W l o o' hl2 ho hc hw
      have hb := belowK_b (Nat.le_refl w13.heap.size) W l o o' hl2 ho hc hw
      exact ⟨fun v hv => (hb.cell (p := ⟨wc.heap.size, 0, none⟩) (by show wc.heap.size < _; omega)).trans hv, fun v hv => (hb.cell (p := ⟨wc.heap.size + 1, 0, none⟩) (by show wc.heap.size + 1 < _; omega)).trans hv⟩
    case own =>
      rintro pre W W' row ⟨v34, ho, hb, hs⟩ hg hr
      have hst := (Stp.refl (fun k => row = some k) W).grown hg (fun k hk _ => hk)
      refine ⟨v34, ho.step hst (fun k hk he => ?_), hb.step hst (fun he => ?_), hs.grown hg (fun k hk he => ?_)⟩
      · obtain ⟨_, o, h1, h2⟩ := hr k he
        obtain ⟨cs, t, fr, h3⟩ := ho.blk hk
        rw [h3] at h1
        cases h1
        cases h2
      · have := (hr gh he).1
        have := HB13.out.lt
        omega
      · have := (hr k hk).1
        omega
    case start => exact ⟨_, Own.nil _ _ _ _, HB13.out, Stp.refl _ _⟩
    case assign =>
      intro l x W K hK
      simp only [List.setIfInBounds_toArray, List.set_cons_zero, List.set_cons_succ] at hK ⊢
      gi_wp2
      exact hK
    case body =>
      rintro l pre x W ⟨v34, ho, hb, hs⟩ hlen
      simp only [List.setIfInBounds_toArray, List.set_cons_zero, List.set_cons_succ]
      have hx2 := x.2
      have hpre : pre.length < m := hlen
      have ham : a.length = 2 * m := HM.out
      have hrd := HC13.out.step hs (fun k hk he => .inl (by omega))
      have hcell1 := plain_cell2 hrd (2 * x.1) (by omega)
      have hcell2 := plain_cell2 hrd (2 * x.1 + 1) (by omega)
      have hadd : ad.add (2 * x.1 + 1) = ⟨(ad.add (2 * x.1)).block, (ad.add (2 * x.1)).off + 1, none⟩ := by
        unfold Addr.add
        by_cases h : 2 * x.1 = 0 <;> simp [h] <;> omega
      rw [hadd] at hcell2
      obtain ⟨p1, hp1⟩ : ∃ p, p = a[2 * x.1] := ⟨_, rfl⟩
      obtain ⟨p2, hp2⟩ : ∃ p, p = a[2 * x.1 + 1] := ⟨_, rfl⟩
      have hfa : fa a x.1 = ((p1.toNat * 256 + p2.toNat : Nat) : Int) := by
        unfold fa
        rw [hp1, hp2, List.getD_eq_getElem?_getD, List.getD_eq_getElem?_getD, List.getElem?_eq_getElem (by omega), List.getElem?_eq_getElem (by omega)]
        rfl
      have HP1 := Lib.hid hp1
      have HP2 := Lib.hid hp2
      have HADD := Lib.hid hadd
      rw [← hp1] at hcell1
      rw [← hp2] at hcell2
      obtain ⟨xs, hxs⟩ : ∃ xs, xs = pre.map (fun j => fa a j.1) := ⟨_, rfl⟩
      rw [← hxs] at ho hb
      have hxl : xs.length = pre.length := by rw [hxs, List.length_map]
      have hb1 := p1.toNat_lt
      have hb2 := p2.toNat_lt
      simp only [enc8] at hcell1 hcell2
      have HFAX := Lib.hid hfa
      have HXS := Lib.hid hxs
      have HRD := Lib.hid hrd
      have HO := Lib.hid ho
      have HBW := Lib.hid hb
      have HS := Lib.hid hs
      obtain ⟨-, -, c34, -⟩ := hb.cells
      have hwz := hs.size
      clear hfa hxs hrd ho hb hs hadd hp1 hp2 hlen
      have e4 : IntKind.i64.wrap (p1.toNat : Int) = (p1.toNat : Int) := IntWalk.i64_in _ (by omega)
      have e5 : IntKind.i64.wrap (p2.toNat : Int) = (p2.toNat : Int) := IntWalk.i64_in _ (by omega)
      obtain ⟨z, hz⟩ : ∃ z, z = fa a x.1 := ⟨_, rfl⟩
      have hbnd : (0 : Int) ≤ (p1.toNat : Int) * 256 ∧ (p1.toNat : Int) * 256 ≤ 65280 ∧ (0 : Int) ≤ (p2.toNat : Int) ∧ (p2.toNat : Int) ≤ 255 := by omega
      have e6 : IntKind.i64.wrap ((p1.toNat : Int) * 256) = (p1.toNat : Int) * 256 := IntWalk.i64_in _ (by omega)
      have e7 : bits .or .i64 ((p1.toNat : Int) * 256) (p2.toNat : Int) = z := by
        rw [bits_join .i64 32 (by decide) (fun n h0 h1 => IntWalk.i64_in _ (by omega)) 8 _ _ (by omega) (by omega) (by omega) (by omega) (by omega) (by omega), hz, HFAX.out]
        simp
      have HZ := Lib.hid hz
      have c34' := ((Stp.refl (fun _ => False) W).alloc (.cells #[.int .i64 z] 3)).cell c34 id
      clear hz hbnd hb1 hb2
      gi_wp2_with fail
      refine wpIn_region_held_drew (S := (fun w' => w'.cell? (ad.add (2 * x.1)) = some (.int .u8 (p1.toNat : Int)) ∧ w'.cell? ⟨(ad.add (2 * x.1)).block, (ad.add (2 * x.1)).off + 1, none⟩ = some (.int .u8 (p2.toNat : Int)))) (by kernel_rfl) (by rfl) (by rintro ⟨_, _, h⟩; exact h) (⟨hcell1, hcell2⟩) (fun hHeld => ?_)
      try (change wpAnyH _ _ _ _ _ _ _ _ (World.drew _))
      refine rg_take (i := 0) (o := { dst := some 52, op := Op.fieldAddr 69 (Operand.tmp 4) 3, type := 0, pos := "hello.go:71", after := #[], guard := none }) (v := ?rgv4) rfl (by kernel_rfl) (by kernel_rfl) (by kernel_rfl) (fun _ _ _ h => h) (by rfl) (fun w hSw => ?rgy4) hHeld ?_
      case rgy4 => (try dsimp only at hSw); first | (go_simp; done) | (go_simp; with_reducible rfl)
      try simp only [Act.put, List.setIfInBounds_toArray, List.set_cons_zero, List.set_cons_succ]
      refine rg_take (i := 2) (o := { dst := some 54, op := Op.move (Operand.tmp 7), type := 22, pos := "hello.go:71", after := #[], guard := none }) (v := ?rgv5) rfl (by kernel_rfl) (by kernel_rfl) (by kernel_rfl) (fun _ _ _ h => h) (by rfl) (fun w hSw => ?rgy5) hHeld ?_
      case rgy5 => (try dsimp only at hSw); first | (go_simp; done) | (go_simp; with_reducible rfl)
      try simp only [Act.put, List.setIfInBounds_toArray, List.set_cons_zero, List.set_cons_succ]
      refine rg_take (i := 3) (o := { dst := some 55, op := Op.indexAddr 22 (Operand.tmp 54) (Operand.const (Value.int IntKind.i64 0)), type := 0, pos := "hello.go:71", after := #[{ on := 2, ground := Ground.data }], guard := none }) (v := ?rgv6) rfl (by kernel_rfl) (by kernel_rfl) (by kernel_rfl) (fun _ _ _ h => h) (by rfl) (fun w hSw => ?rgy6) hHeld ?_
      case rgy6 => (try dsimp only at hSw); first | (go_simp; done) | (go_simp; with_reducible rfl)
      try simp only [Act.put, List.setIfInBounds_toArray, List.set_cons_zero, List.set_cons_succ]
      refine rg_take (i := 4) (o := { dst := some 56, op := Op.load 5 (Operand.tmp 55), type := 5, pos := "hello.go:71", after := #[{ on := 3, ground := Ground.data }], guard := none }) (v := ?rgv7) rfl (by kernel_rfl) (by kernel_rfl) (by kernel_rfl) (fun _ _ _ h => h) (by rfl) (fun w hSw => ?rgy7) hHeld ?_
      case rgy7 => (try dsimp only at hSw); first | (go_simp; done) | (go_simp; with_reducible rfl)
      try simp only [Act.put, List.setIfInBounds_toArray, List.set_cons_zero, List.set_cons_succ]
      refine rg_take (i := 5) (o := { dst := some 57, op := Op.convert 5 3 (Operand.tmp 56), type := 3, pos := "hello.go:71", after := #[{ on := 4, ground := Ground.data }], guard := none }) (v := ?rgv8) rfl (by kernel_rfl) (by kernel_rfl) (by kernel_rfl) (fun _ _ _ h => h) (by rfl) (fun w hSw => ?rgy8) hHeld ?_
      case rgy8 => (try dsimp only at hSw); first | (go_simp; done) | (go_simp; with_reducible rfl)
      try simp only [Act.put, List.setIfInBounds_toArray, List.set_cons_zero, List.set_cons_succ]
      refine rg_take (i := 6) (o := { dst := some 58, op := Op.binOp BinOp.shl 3 (Operand.tmp 57) (Operand.const (Value.int IntKind.u64 8)) 102, type := 3, pos := "hello.go:71", after := #[{ on := 5, ground := Ground.data }], guard := none }) (v := ?rgv9) rfl (by kernel_rfl) (by kernel_rfl) (by kernel_rfl) (fun _ _ _ h => h) (by rfl) (fun w hSw => ?rgy9) hHeld ?_
      case rgy9 => (try dsimp only at hSw); first | (go_simp; done) | (go_simp; with_reducible rfl)
      try simp only [Act.put, List.setIfInBounds_toArray, List.set_cons_zero, List.set_cons_succ]
      refine rg_take (i := 7) (o := { dst := some 59, op := Op.move (Operand.tmp 7), type := 22, pos := "hello.go:71", after := #[], guard := none }) (v := ?rgv10) rfl (by kernel_rfl) (by kernel_rfl) (by kernel_rfl) (fun _ _ _ h => h) (by rfl) (fun w hSw => ?rgy10) hHeld ?_
      case rgy10 => (try dsimp only at hSw); first | (go_simp; done) | (go_simp; with_reducible rfl)
      try simp only [Act.put, List.setIfInBounds_toArray, List.set_cons_zero, List.set_cons_succ]
      refine rg_take (i := 8) (o := { dst := some 60, op := Op.indexAddr 22 (Operand.tmp 59) (Operand.const (Value.int IntKind.i64 1)), type := 0, pos := "hello.go:71", after := #[{ on := 7, ground := Ground.data }], guard := none }) (v := ?rgv11) rfl (by kernel_rfl) (by kernel_rfl) (by kernel_rfl) (fun _ _ _ h => h) (by rfl) (fun w hSw => ?rgy11) hHeld ?_
      case rgy11 => (try dsimp only at hSw); first | (go_simp; done) | (go_simp; with_reducible rfl)
      try simp only [Act.put, List.setIfInBounds_toArray, List.set_cons_zero, List.set_cons_succ]
      refine rg_take (i := 9) (o := { dst := some 61, op := Op.load 5 (Operand.tmp 60), type := 5, pos := "hello.go:71", after := #[{ on := 8, ground := Ground.data }], guard := none }) (v := ?rgv12) rfl (by kernel_rfl) (by kernel_rfl) (by kernel_rfl) (fun _ _ _ h => h) (by rfl) (fun w hSw => ?rgy12) hHeld ?_
      case rgy12 => (try dsimp only at hSw); first | (go_simp; done) | (go_simp; with_reducible rfl)
      try simp only [Act.put, List.setIfInBounds_toArray, List.set_cons_zero, List.set_cons_succ]
      refine rg_take (i := 10) (o := { dst := some 62, op := Op.convert 5 3 (Operand.tmp 61), type := 3, pos := "hello.go:71", after := #[{ on := 9, ground := Ground.data }], guard := none }) (v := ?rgv13) rfl (by kernel_rfl) (by kernel_rfl) (by kernel_rfl) (fun _ _ _ h => h) (by rfl) (fun w hSw => ?rgy13) hHeld ?_
      case rgy13 => (try dsimp only at hSw); first | (go_simp; done) | (go_simp; with_reducible rfl)
      try simp only [Act.put, List.setIfInBounds_toArray, List.set_cons_zero, List.set_cons_succ]
      refine rg_take (i := 11) (o := { dst := some 63, op := Op.binOp BinOp.or 3 (Operand.tmp 58) (Operand.tmp 62) 3, type := 3, pos := "hello.go:71", after := #[{ on := 6, ground := Ground.data }, { on := 10, ground := Ground.data }], guard := none }) (v := ?rgv14) rfl (by kernel_rfl) (by kernel_rfl) (by kernel_rfl) (fun _ _ _ h => h) (by rfl) (fun w hSw => ?rgy14) hHeld ?_
      case rgy14 => (try dsimp only at hSw); first | (go_simp; done) | (go_simp; with_reducible rfl)
      try simp only [Act.put, List.setIfInBounds_toArray, List.set_cons_zero, List.set_cons_succ]
      refine wpAnyH_ready (rs := [1, 12]) (by kernel_rfl) (by simp) ?_
      refine (AllReadyH.cons (o := { dst := some 53, op := Op.load 27 (Operand.tmp 52), type := 27, pos := "hello.go:71", after := #[{ on := 0, ground := Ground.data }], guard := none }) rfl (fun K hK => ?_) (AllReadyH.cons (o := { dst := some 64, op := Op.buildSlice 27 1 #[(0, Operand.tmp 63)], type := 27, pos := "hello.go:71", after := #[{ on := 11, ground := Ground.data }], guard := none }) rfl (fun K hK => ?_) AllReadyH.nil))
      · skip
        go_simp
        show K _ _
        clear hHeld
        refine hK.out _ _ (by first | exact ⟨(((Stp.refl (fun _ => False) W).drew).alloc _).cell hcell1 id, (((Stp.refl (fun _ => False) W).drew).alloc _).cell hcell2 id⟩ | exact ⟨hcell1, hcell2⟩) (fun hHeld => ?_)
        clear hK K
        try simp only [Act.put, List.setIfInBounds_toArray, List.set_cons_zero, List.set_cons_succ]
        refine wpAnyH_ready (rs := [12]) (by kernel_rfl) (by simp) ?_
        refine (AllReadyH.cons (o := { dst := some 64, op := Op.buildSlice 27 1 #[(0, Operand.tmp 63)], type := 27, pos := "hello.go:71", after := #[{ on := 11, ground := Ground.data }], guard := none }) rfl (fun K hK => ?_) AllReadyH.nil)
        go_simp
        show K _ _
        clear hHeld
        refine hK.out _ _ (⟨(((Stp.refl (fun _ => False) W).drew).alloc _).cell hcell1 id, (((Stp.refl (fun _ => False) W).drew).alloc _).cell hcell2 id⟩) (fun hHeld => ?_)
        clear hK K
        try simp only [Act.put, List.setIfInBounds_toArray, List.set_cons_zero, List.set_cons_succ]
        refine wpAnyH_ready (rs := [13]) (by kernel_rfl) (by simp) ?_
        refine (AllReadyH.cons (o := { dst := some 65, op := Op.call { callee := Callee.builtin Builtin.append, args := #[Operand.tmp 53, Operand.tmp 64], argTypes := #[27, 27] }, type := 27, pos := "hello.go:71", after := #[{ on := 1, ground := Ground.data }, { on := 12, ground := Ground.data }], guard := none }) rfl (fun K hK => ?_) AllReadyH.nil)
        refine op_appendRd (Value.int .i64) (h1e := fun _ => rfl) (M := fun _ => False) (ys := [z]) _ _ _ (by rfl) Tryz.underlying27 info_int (by rfl) ((HO.out.stp0 ((Stp.refl _ _).drew)).stp0 ((Stp.refl _ _).alloc _)) (Rd.lit (W := W.drew) [z] #[.int .i64 z] rfl (by simp) id) (by rfl) (by rfl) (by simp; omega) (by simp; omega) (by simp; omega) ?_
        intro v9 w9 ho9 hg9
        obtain ⟨ys, hys⟩ : ∃ ys, ys = xs ++ [z] := ⟨_, rfl⟩
        rw [← hys] at ho9
        obtain ⟨A19, c19, rfl, hle19⟩ := ho9.form
        have HYS := Lib.hid (show ys = (pre ++ [x]).map (fun j => fa a j.1) by rw [hys, HXS.out, HZ.out]; simp)
        have hs9' : Stp (fun k => v34.ownBlock = some k) W w9 := ((((Stp.refl _ _).drew).alloc _).grown hg9 (fun k hk he => hk))
        have HSO := Lib.hid hs9'
        have HS9 := Lib.hid (HS.out.then_ hs9' (fun k hk he => by have := (HO.out.lt k he).1; omega))
        have hb9 := HBW.out.step hs9' (fun he => by have := (HO.out.lt _ he).1; have := HB13.out.lt; omega)
        have HO9 := Lib.hid ho9
        have hf9 := hb9.free 34
        obtain ⟨-, -, c349, -⟩ := hb9.cells
        have HB9 := Lib.hid hb9
        have hr9 := HRD.out.step hs9' (fun k hk he => .inr (HO.out.lt k he).1)
        have HS10 := Lib.hid ((Stp.refl (fun k => k = gh) w9).setg 34 (.slice A19 ys.length c19))
        have hr10 := hr9.step HS10.out (fun k hk he => .inl (by omega))
        have hk1 : w9.cell? (ad.add (2 * x.1)) = some (.int .u8 (p1.toNat : Int)) ∧ w9.cell? ⟨(ad.add (2 * x.1)).block, (ad.add (2 * x.1)).off + 1, none⟩ = some (.int .u8 (p2.toNat : Int)) :=
          ⟨by rw [HP1.out]; exact plain_cell2 hr9 _ (by have := HM.out; omega), by rw [HP2.out, ← HADD.out]; exact plain_cell2 hr9 (2 * x.1 + 1) (by have := HM.out; omega)⟩
        have hk2 : (w9.setCell ⟨gh, 34, none⟩ (.slice A19 ys.length c19)).cell? (ad.add (2 * x.1)) = some (.int .u8 (p1.toNat : Int)) ∧ (w9.setCell ⟨gh, 34, none⟩ (.slice A19 ys.length c19)).cell? ⟨(ad.add (2 * x.1)).block, (ad.add (2 * x.1)).off + 1, none⟩ = some (.int .u8 (p2.toNat : Int)) :=
          ⟨by rw [HP1.out]; exact plain_cell2 hr10 _ (by have := HM.out; omega), by rw [HP2.out, ← HADD.out]; exact plain_cell2 hr10 (2 * x.1 + 1) (by have := HM.out; omega)⟩
        clear ho9 hg9 hb9 hys hs9'
        show K _ _
        clear hHeld
        refine hK.out _ _ (hk1) (fun hHeld => ?_)
        clear hK K
        try simp only [Act.put, List.setIfInBounds_toArray, List.set_cons_zero, List.set_cons_succ]
        refine rg_take (i := 14) (o := { dst := some 66, op := Op.fieldAddr 69 (Operand.tmp 4) 3, type := 0, pos := "hello.go:71", after := #[{ on := 0, ground := Ground.phase }, { on := 1, ground := Ground.phase }, { on := 2, ground := Ground.phase }, { on := 3, ground := Ground.phase }, { on := 4, ground := Ground.phase }, { on := 5, ground := Ground.phase }, { on := 6, ground := Ground.phase }, { on := 7, ground := Ground.phase }, { on := 8, ground := Ground.phase }, { on := 9, ground := Ground.phase }, { on := 10, ground := Ground.phase }, { on := 11, ground := Ground.phase }, { on := 12, ground := Ground.phase }, { on := 13, ground := Ground.phase }], guard := none }) (v := ?rgv15) rfl (by kernel_rfl) (by kernel_rfl) (by kernel_rfl) (fun _ _ _ h => h) (by rfl) (fun w hSw => ?rgy15) hHeld ?_
        case rgy15 => (try dsimp only at hSw); first | (go_simp; done) | (go_simp; with_reducible rfl)
        try simp only [Act.put, List.setIfInBounds_toArray, List.set_cons_zero, List.set_cons_succ]
        refine wpAnyH_ready (rs := [15]) (by kernel_rfl) (by simp) ?_
        refine (AllReadyH.cons (o := { dst := none, op := Op.store 27 (Operand.tmp 66) (Operand.tmp 65), type := 0, pos := "hello.go:71", after := #[{ on := 14, ground := Ground.data }, { on := 13, ground := Ground.data }, { on := 13, ground := Ground.chain }, { on := 0, ground := Ground.phase }, { on := 1, ground := Ground.phase }, { on := 2, ground := Ground.phase }, { on := 3, ground := Ground.phase }, { on := 4, ground := Ground.phase }, { on := 5, ground := Ground.phase }, { on := 6, ground := Ground.phase }, { on := 7, ground := Ground.phase }, { on := 8, ground := Ground.phase }, { on := 9, ground := Ground.phase }, { on := 10, ground := Ground.phase }, { on := 11, ground := Ground.phase }, { on := 12, ground := Ground.phase }, { on := 13, ground := Ground.phase }], guard := none }) rfl (fun K hK => ?_) AllReadyH.nil)
        go_simp
        clear hHeld
        refine hK.out _ _ (hk2) (fun hHeld => ?_)
        clear hK K
        try simp only [Act.put, List.setIfInBounds_toArray, List.set_cons_zero, List.set_cons_succ]
        clear hHeld
        refine wpAnyH_done (by kernel_rfl) ?_ _
        gi_wp2
        refine ⟨⟨?_, ?_⟩, ⟨?_, ?_⟩, .slice A19 ys.length c19, ?_, ?_, HS9.out.then_ HS10.out (fun k hk he => he)⟩
        · exact Nat.le_trans HSO.out.size HS10.out.size
        · (intro k o hk ho hc; refine HS10.out.blk (HSO.out.blk ho (fun he => ?_)) (fun he => by have := HB13.out.lt; omega); obtain ⟨cs, t, fr, h3⟩ := HO.out.blk he; rw [h3] at ho; cases ho; cases hc)
        · exact fun v hv => HS10.out.cell (HSO.out.cell hv (fun he => by have := (HO.out.lt _ he).1; simp only at this; omega)) (fun he => by have := HB13.out.lt; simp only at he; omega)
        · exact fun v hv => HS10.out.cell (HSO.out.cell hv (fun he => by have := (HO.out.lt _ he).1; simp only at this; omega)) (fun he => by have := HB13.out.lt; simp only at he; omega)
        · (rw [← HYS.out]; exact HO9.out.step HS10.out (fun k hk he => by have := (HO9.out.lt k hk).1; have := HB13.out.lt; omega))
        · (rw [← HYS.out]; exact HB9.out.set34 _ _)
      · skip
        go_simp
        show K _ _
        clear hHeld
        refine hK.out _ _ (⟨(((Stp.refl (fun _ => False) W).drew).alloc _).cell hcell1 id, (((Stp.refl (fun _ => False) W).drew).alloc _).cell hcell2 id⟩) (fun hHeld => ?_)
        clear hK K
        try simp only [Act.put, List.setIfInBounds_toArray, List.set_cons_zero, List.set_cons_succ]
        refine wpAnyH_ready (rs := [1]) (by kernel_rfl) (by simp) ?_
        refine (AllReadyH.cons (o := { dst := some 53, op := Op.load 27 (Operand.tmp 52), type := 27, pos := "hello.go:71", after := #[{ on := 0, ground := Ground.data }], guard := none }) rfl (fun K hK => ?_) AllReadyH.nil)
        go_simp
        show K _ _
        clear hHeld
        refine hK.out _ _ (by first | exact ⟨(((Stp.refl (fun _ => False) W).drew).alloc _).cell hcell1 id, (((Stp.refl (fun _ => False) W).drew).alloc _).cell hcell2 id⟩ | exact ⟨hcell1, hcell2⟩) (fun hHeld => ?_)
        clear hK K
        try simp only [Act.put, List.setIfInBounds_toArray, List.set_cons_zero, List.set_cons_succ]
        refine wpAnyH_ready (rs := [13]) (by kernel_rfl) (by simp) ?_
        refine (AllReadyH.cons (o := { dst := some 65, op := Op.call { callee := Callee.builtin Builtin.append, args := #[Operand.tmp 53, Operand.tmp 64], argTypes := #[27, 27] }, type := 27, pos := "hello.go:71", after := #[{ on := 1, ground := Ground.data }, { on := 12, ground := Ground.data }], guard := none }) rfl (fun K hK => ?_) AllReadyH.nil)
        refine op_appendRd (Value.int .i64) (h1e := fun _ => rfl) (M := fun _ => False) (ys := [z]) _ _ _ (by rfl) Tryz.underlying27 info_int (by rfl) ((HO.out.stp0 ((Stp.refl _ _).drew)).stp0 ((Stp.refl _ _).alloc _)) (Rd.lit (W := W.drew) [z] #[.int .i64 z] rfl (by simp) id) (by rfl) (by rfl) (by simp; omega) (by simp; omega) (by simp; omega) ?_
        intro v9 w9 ho9 hg9
        obtain ⟨ys, hys⟩ : ∃ ys, ys = xs ++ [z] := ⟨_, rfl⟩
        rw [← hys] at ho9
        obtain ⟨A19, c19, rfl, hle19⟩ := ho9.form
        have HYS := Lib.hid (show ys = (pre ++ [x]).map (fun j => fa a j.1) by rw [hys, HXS.out, HZ.out]; simp)
        have hs9' : Stp (fun k => v34.ownBlock = some k) W w9 := ((((Stp.refl _ _).drew).alloc _).grown hg9 (fun k hk he => hk))
        have HSO := Lib.hid hs9'
        have HS9 := Lib.hid (HS.out.then_ hs9' (fun k hk he => by have := (HO.out.lt k he).1; omega))
        have hb9 := HBW.out.step hs9' (fun he => by have := (HO.out.lt _ he).1; have := HB13.out.lt; omega)
        have HO9 := Lib.hid ho9
        have hf9 := hb9.free 34
        obtain ⟨-, -, c349, -⟩ := hb9.cells
        have HB9 := Lib.hid hb9
        have hr9 := HRD.out.step hs9' (fun k hk he => .inr (HO.out.lt k he).1)
        have HS10 := Lib.hid ((Stp.refl (fun k => k = gh) w9).setg 34 (.slice A19 ys.length c19))
        have hr10 := hr9.step HS10.out (fun k hk he => .inl (by omega))
        have hk1 : w9.cell? (ad.add (2 * x.1)) = some (.int .u8 (p1.toNat : Int)) ∧ w9.cell? ⟨(ad.add (2 * x.1)).block, (ad.add (2 * x.1)).off + 1, none⟩ = some (.int .u8 (p2.toNat : Int)) :=
          ⟨by rw [HP1.out]; exact plain_cell2 hr9 _ (by have := HM.out; omega), by rw [HP2.out, ← HADD.out]; exact plain_cell2 hr9 (2 * x.1 + 1) (by have := HM.out; omega)⟩
        have hk2 : (w9.setCell ⟨gh, 34, none⟩ (.slice A19 ys.length c19)).cell? (ad.add (2 * x.1)) = some (.int .u8 (p1.toNat : Int)) ∧ (w9.setCell ⟨gh, 34, none⟩ (.slice A19 ys.length c19)).cell? ⟨(ad.add (2 * x.1)).block, (ad.add (2 * x.1)).off + 1, none⟩ = some (.int .u8 (p2.toNat : Int)) :=
          ⟨by rw [HP1.out]; exact plain_cell2 hr10 _ (by have := HM.out; omega), by rw [HP2.out, ← HADD.out]; exact plain_cell2 hr10 (2 * x.1 + 1) (by have := HM.out; omega)⟩
        clear ho9 hg9 hb9 hys hs9'
        show K _ _
        clear hHeld
        refine hK.out _ _ (hk1) (fun hHeld => ?_)
        clear hK K
        try simp only [Act.put, List.setIfInBounds_toArray, List.set_cons_zero, List.set_cons_succ]
        refine rg_take (i := 14) (o := { dst := some 66, op := Op.fieldAddr 69 (Operand.tmp 4) 3, type := 0, pos := "hello.go:71", after := #[{ on := 0, ground := Ground.phase }, { on := 1, ground := Ground.phase }, { on := 2, ground := Ground.phase }, { on := 3, ground := Ground.phase }, { on := 4, ground := Ground.phase }, { on := 5, ground := Ground.phase }, { on := 6, ground := Ground.phase }, { on := 7, ground := Ground.phase }, { on := 8, ground := Ground.phase }, { on := 9, ground := Ground.phase }, { on := 10, ground := Ground.phase }, { on := 11, ground := Ground.phase }, { on := 12, ground := Ground.phase }, { on := 13, ground := Ground.phase }], guard := none }) (v := ?rgv16) rfl (by kernel_rfl) (by kernel_rfl) (by kernel_rfl) (fun _ _ _ h => h) (by rfl) (fun w hSw => ?rgy16) hHeld ?_
        case rgy16 => (try dsimp only at hSw); first | (go_simp; done) | (go_simp; with_reducible rfl)
        try simp only [Act.put, List.setIfInBounds_toArray, List.set_cons_zero, List.set_cons_succ]
        refine wpAnyH_ready (rs := [15]) (by kernel_rfl) (by simp) ?_
        refine (AllReadyH.cons (o := { dst := none, op := Op.store 27 (Operand.tmp 66) (Operand.tmp 65), type := 0, pos := "hello.go:71", after := #[{ on := 14, ground := Ground.data }, { on := 13, ground := Ground.data }, { on := 13, ground := Ground.chain }, { on := 0, ground := Ground.phase }, { on := 1, ground := Ground.phase }, { on := 2, ground := Ground.phase }, { on := 3, ground := Ground.phase }, { on := 4, ground := Ground.phase }, { on := 5, ground := Ground.phase }, { on := 6, ground := Ground.phase }, { on := 7, ground := Ground.phase }, { on := 8, ground := Ground.phase }, { on := 9, ground := Ground.phase }, { on := 10, ground := Ground.phase }, { on := 11, ground := Ground.phase }, { on := 12, ground := Ground.phase }, { on := 13, ground := Ground.phase }], guard := none }) rfl (fun K hK => ?_) AllReadyH.nil)
        go_simp
        clear hHeld
        refine hK.out _ _ (hk2) (fun hHeld => ?_)
        clear hK K
        try simp only [Act.put, List.setIfInBounds_toArray, List.set_cons_zero, List.set_cons_succ]
        clear hHeld
        refine wpAnyH_done (by kernel_rfl) ?_ _
        gi_wp2
        refine ⟨⟨?_, ?_⟩, ⟨?_, ?_⟩, .slice A19 ys.length c19, ?_, ?_, HS9.out.then_ HS10.out (fun k hk he => he)⟩
        · exact Nat.le_trans HSO.out.size HS10.out.size
        · (intro k o hk ho hc; refine HS10.out.blk (HSO.out.blk ho (fun he => ?_)) (fun he => by have := HB13.out.lt; omega); obtain ⟨cs, t, fr, h3⟩ := HO.out.blk he; rw [h3] at ho; cases ho; cases hc)
        · exact fun v hv => HS10.out.cell (HSO.out.cell hv (fun he => by have := (HO.out.lt _ he).1; simp only at this; omega)) (fun he => by have := HB13.out.lt; simp only at he; omega)
        · exact fun v hv => HS10.out.cell (HSO.out.cell hv (fun he => by have := (HO.out.lt _ he).1; simp only at this; omega)) (fun he => by have := HB13.out.lt; simp only at he; omega)
        · (rw [← HYS.out]; exact HO9.out.step HS10.out (fun k hk he => by have := (HO9.out.lt k hk).1; have := HB13.out.lt; omega))
        · (rw [← HYS.out]; exact HB9.out.set34 _ _)
    case done =>
      rintro D ys W hD rfl ⟨v34, ho, hb, hs⟩ hK
      rw [← twos_fin m a HM.out] at ho hb
      have hbF : HlB W gh (hlF b) us v34 um (.slice none 0 0) := by
        have : { hlF b with cip := twos a } = hlF b := by rw [HA.out]; rfl
        rw [← this]
        exact hb
      obtain ⟨M1, hM1⟩ : ∃ M : Nat → Prop, M = fun k => k ≤ gi ∨ k = D := ⟨_, rfl⟩
      have HM1 := Lib.hid (show ∀ k, M1 k ↔ (k ≤ gi ∨ k = D) by rw [hM1]; exact fun _ => Iff.rfl)
      have HBF := Lib.hid hbF
      have HQr := Lib.hid (HQ13.out.step hs (by omega))
      have HIr := Lib.hid (HI13.out.step hs (fun k hk he => HMI.out k (by omega)))
      have HVr := Lib.hid ((HV13.out.step hs (fun k hk he => .inl (by omega))).weak (M' := M1) (by decide) (fun k hk h => by rw [HM1.out] at h; omega))
      have HMr := Lib.hid ((HM13.out.step hs (fun k hk he => .inl (by omega))).weak (M' := M1) (by decide) (fun k hk h => by rw [HM1.out] at h; omega))
      have HCr := Lib.hid (ho.rd (h1 := fun _ => rfl) (M := M1) (fun k hk h => by
        rw [HM1.out] at h
        have := (ho.lt k hk).1
        rcases h with h | h
        · omega
        · obtain ⟨cs, t, fr, h3⟩ := ho.blk hk
          rw [h, hK] at h3
          cases h3))
      rw [HA.out] at HCr
      have HV34 := Lib.hid (show v34.oneCell' = true by obtain ⟨_, _, rfl, _⟩ := ho.form; rfl)
      have HSr := Lib.hid (HS13.out.then_ hs (fun k hk he => by rw [E0.out] at hk; omega))
      have HKD := Lib.hid hK
      have HDn := Lib.hid (And.intro hD hs.size)
      have hlf : laidS b = if (rd5 b).2.1.length = 0 then some (hlF b) else if okX b then some { hlF b with has := true, exs := (extS (rd6 b).1).1 } else none := by unfold laidS; rw [if_pos HHF.out]
      have HLF := Lib.hid hlf
      clear hbF hb ho hs hK HQ13 HI13 HV13 HM13 HB13 HC13 HS13 hM1 hlf hD hadM
      dsimp only
      obtain ⟨dn, hdn⟩ : ∃ dn, dn = (((rd5 b).2.1.length : Int) == 0) := ⟨_, rfl⟩
      have HDD := Lib.hid hdn
      have hb1 := HBF.out.set36 (!dn)
      have f36 := HBF.out.free 36
      obtain ⟨-, -, -, -, c36, -⟩ := HBF.out.cells
      have hF1 := HHF.out.1
      have HDN := Lib.hid hdn
      have HF1 := Lib.hid hF1
      have HB1 := Lib.hid hb1
      clear hdn hF1 hb1
      go_upto_if 72 with (go_at_call 138; refine (done_any Mi gi _ _ HIr.out (by omega)).mono ?_; rintro e w' ⟨rfl, rfl⟩; rw [HF1.out, ← HDN.out])
      have hs1 := (Stp.refl (fun k => k = gh) W).setg 36 (.bool !dn)
      obtain ⟨w14, hw14⟩ : ∃ w14, w14 = W.setCell ⟨gh, 36, none⟩ (.bool !dn) := ⟨_, rfl⟩
      rw [← hw14] at hs1 HB1 ⊢
      have HQ14 := Lib.hid (HQr.out.step hs1 (by omega))
      have HI14 := Lib.hid (HIr.out.step hs1 (fun k hk he => HMI.out k (by omega)))
      have HV14 := Lib.hid (HVr.out.step hs1 (fun k hk he => (HM1.out k).2 (.inl (by omega))))
      have HM14 := Lib.hid (HMr.out.step hs1 (fun k hk he => (HM1.out k).2 (.inl (by omega))))
      have HC14 := Lib.hid (HCr.out.step hs1 (fun k hk he => (HM1.out k).2 (.inl (by omega))))
      have HS14 := Lib.hid (HSr.out.then_ hs1 (fun k hk he => by rw [E0.out] at hk; omega))
      have HK14 := Lib.hid (hs1.blk HKD.out (by have := HDn.out.1; omega))
      have hsz14 := hs1.size
      have hsW := HDn.out.2
      have hl6 : (rd6 b).1.length < 65536 := rvec_max _ 2
      have hl6' : (rd6 b).2.1.length ≤ (rd5 b).2.1.length := rvec_len _ _
      have hD1 := HDn.out.1
      clear hw14 hs1 HQr HIr HVr HMr HCr HSr HKD HBF f36 c36
      go_cut [8, 9] from 73 to 96 (fun _ _ wx => ∃ h' v37, laidS b = some h' ∧ v37.oneCell' = true ∧ IsHl M1 wx (hlV h' us v34 um v37).toArray h' ∧ HlB wx gh h' us v34 um v37 ∧ HlB wx g0 hl0 (.slice none 0 0) (.slice none 0 0) (.slice none 0 0) (.slice none 0 0) ∧ Stp (fun _ => False) w wx ∧ wx.heap[D]? = some (.deferred (some [])))
      case first =>
        cases dn with
        | true =>
          have hz : (rd5 b).2.1.length = 0 := by have := HDN.out; simpa using this.symm
          have HZ := Lib.hid hz
          clear hz
          go_wp2_with fail
          go_meet
          exact ⟨hlF b, _, by rw [HLF.out, if_pos HZ.out], rfl, ⟨us, v34, um, _, rfl, HB1.out.2, HV14.out, HC14.out, HM14.out, Rd.nil _ _ _⟩, HB1.out, HQ14.out, HS14.out, HK14.out⟩
        | false =>
          have hz : ¬ (rd5 b).2.1.length = 0 := by have := HDN.out; simpa using this.symm
          have HLZ := Lib.hid (show laidS b = if okX b then some { hlF b with has := true, exs := (extS (rd6 b).1).1 } else none by rw [HLF.out, if_neg hz])
          clear hz
          go_wp2_with (go_at_call 135; refine stopc ?_)
          refine Stop.go ?_
          refine (rvec_any Mi gi _ _ _ HI14.out (by omega)).mono ?_
          rintro e w15 ⟨v15, rfl, ho15, hi15, hs15⟩
          replace ho15 : Own enc8 5 w14.heap.size w15 v15 (rd6 b).1 := ho15
          obtain ⟨A15, c15, rfl, hle15⟩ := ho15.form
          have HI15 := Lib.hid (show IsRd Mi w15 gi (rd6 b).2 from hi15)
          have HX15 := Lib.hid (ho15.rd (h1 := fun _ => rfl) (M := fun _ => False) (fun _ _ => id))
          have HQ15 := Lib.hid (HQ14.out.step hs15 (by omega))
          have HB15 := Lib.hid (HB1.out.step hs15 (by omega))
          have HV15 := Lib.hid (HV14.out.step hs15 (fun k hk he => (HM1.out k).2 (.inl (by omega))))
          have HM15 := Lib.hid (HM14.out.step hs15 (fun k hk he => (HM1.out k).2 (.inl (by omega))))
          have HC15 := Lib.hid (HC14.out.step hs15 (fun k hk he => (HM1.out k).2 (.inl (by omega))))
          have HS15 := Lib.hid (HS14.out.then_ hs15 (fun k hk he => by rw [E0.out] at hk; omega))
          have HK15 := Lib.hid (hs15.blk HK14.out (by omega))
          have hsz15 := hs15.size
          have hD15 : D < w15.heap.size := blk_lt HK15.out
          clear ho15 hi15 hs15 HI14 HQ14 HB1 HV14 HM14 HC14 HS14 HK14
          go_wp2_with (go_at_call 139; refine stopc ?_)
          refine Stop.go ?_
          refine (extsH_any _ _ _ _ HX15.out (by omega)).mono ?_
          rintro e w16 ⟨v16, rfl, hx16, hs16⟩
          have hx16' := hx16.weak (M' := M1) (by decide) (fun k hk h => by
            rw [HM1.out] at h
            omega)
          obtain ⟨A16, c16, rfl, hle16⟩ := hx16'.form
          have HI16 := Lib.hid (HI15.out.stp0 hs16)
          have HQ16 := Lib.hid (HQ15.out.stp0 hs16)
          have HB16 := Lib.hid (HB15.out.stp0 hs16)
          have HV16 := Lib.hid (HV15.out.stp0 hs16)
          have HM16 := Lib.hid (HM15.out.stp0 hs16)
          have HC16 := Lib.hid (HC15.out.stp0 hs16)
          have HS16 := Lib.hid (HS15.out.trans hs16)
          have HK16 := Lib.hid (hs16.blk HK15.out id)
          have HX16 := Lib.hid hx16'
          obtain ⟨ok, hok⟩ : ∃ ok, ok = (extS (rd6 b).1).2 := ⟨_, rfl⟩
          obtain ⟨X, hX⟩ : ∃ X, X = (extS (rd6 b).1).1 := ⟨_, rfl⟩
          rw [← hX] at HX16 HLZ ⊢
          rw [← hok]
          obtain ⟨d2, hd2⟩ : ∃ d2, d2 = (!(rd6 b).2.2 && ((rd6 b).2.1.length : Int) == 0) := ⟨_, rfl⟩
          have HOX := Lib.hid (show okX b ↔ (d2 = true ∧ ok = true) by
            rw [hd2, hok]
            unfold okX
            simp [and_assoc])
          have HD2 := Lib.hid hd2
          clear hx16 hx16' hs16 hX hok hd2 HX15 HI15 HQ15 HB15 HV15 HM15 HC15 HS15 HK15 hle16
          cases d2 with
          | false =>
            have hp := parseS_none b (by rw [HLZ.out, if_neg (fun h => by have := (HOX.out.1 h).1; cases this)]; rfl)
            have HP := Lib.hid hp
            clear hp
            go_wp2_with (first
              | (go_at_call 138; refine (done_any Mi gi _ _ HI16.out (by omega)).mono ?_; rintro e w' ⟨rfl, rfl⟩; rw [← HD2.out])
              | (with_reducible refine stop (N := 86) rfl ?_))
            refine Stop.go ?_
            refine wpList_val9 (v := .agg (hlV hl0 (.slice none 0 0) (.slice none 0 0) (.slice none 0 0) (.slice none 0 0)).toArray) rfl (by kernel_rfl) ?_
            refine wpList_store_row rfl _ _ _ rfl g0 _ rfl rfl _ _ HQ16.out.1 size_hello (by rfl) (hlV_one rfl rfl rfl rfl) ?_
            go_wp2
            try simp only [Exit.inBlock, Exit.then]
            refine leave1 (((Stp.refl (fun k => k = g0) w16).setRow (fun _ => rfl) _).blk HK16.out (by omega)) (results_row9 rfl _ _ g0 _ _ _ _ rfl ((World.putObj_heap_other (by omega)).trans (hello_row HQ16.out.1 _)) Tryz.underlying69 rfl size_hello) ?_
            rw [HR.out]
            refine ⟨_, by rw [HP.out]; rfl, ?_, (HS16.out.setRow (by rw [E0.out]; omega) _).grown (grownBy_putObj' _ D _) (fun k hk he => by injection hk with hk; rw [E0.out] at he; omega)⟩
            rw [HP.out]
            exact IsHl.nil _ _
          | true =>
            cases ok with
            | false =>
              have hp := parseS_none b (by rw [HLZ.out, if_neg (fun h => by have := (HOX.out.1 h).2; cases this)]; rfl)
              have HP := Lib.hid hp
              clear hp
              go_wp2_with (first
                | (go_at_call 138; refine (done_any Mi gi _ _ HI16.out (by omega)).mono ?_; rintro e w' ⟨rfl, rfl⟩; rw [← HD2.out])
                | (with_reducible refine stop (N := 86) rfl ?_))
              refine Stop.go ?_
              refine wpList_val9 (v := .agg (hlV hl0 (.slice none 0 0) (.slice none 0 0) (.slice none 0 0) (.slice none 0 0)).toArray) rfl (by kernel_rfl) ?_
              refine wpList_store_row rfl _ _ _ rfl g0 _ rfl rfl _ _ HQ16.out.1 size_hello (by rfl) (hlV_one rfl rfl rfl rfl) ?_
              go_wp2
              try simp only [Exit.inBlock, Exit.then]
              refine leave1 (((Stp.refl (fun k => k = g0) w16).setRow (fun _ => rfl) _).blk HK16.out (by omega)) (results_row9 rfl _ _ g0 _ _ _ _ rfl ((World.putObj_heap_other (by omega)).trans (hello_row HQ16.out.1 _)) Tryz.underlying69 rfl size_hello) ?_
              rw [HR.out]
              refine ⟨_, by rw [HP.out]; rfl, ?_, (HS16.out.setRow (by rw [E0.out]; omega) _).grown (grownBy_putObj' _ D _) (fun k hk he => by injection hk with hk; rw [E0.out] at he; omega)⟩
              rw [HP.out]
              exact IsHl.nil _ _
            | true =>
              have HL := Lib.hid (show laidS b = some { hlF b with has := true, exs := X } by rw [HLZ.out, if_pos (HOX.out.2 ⟨rfl, rfl⟩)])
              have hb17 := HB16.out.set37 (.slice A16 X.length c16) X
              have f37 := HB16.out.free 37
              obtain ⟨-, -, -, -, -, c37⟩ := HB16.out.cells
              have hs17 := (Stp.refl (fun k => k = gh) w16).setg 37 (.slice A16 X.length c16)
              obtain ⟨w17, hw17⟩ : ∃ w17, w17 = w16.setCell ⟨gh, 37, none⟩ (.slice A16 X.length c16) := ⟨_, rfl⟩
              have HW17 := Lib.hid hw17
              rw [← hw17] at hb17 hs17
              have HQ17 := Lib.hid (HQ16.out.step hs17 (by omega))
              have HV17 := Lib.hid (HV16.out.step hs17 (fun k hk he => (HM1.out k).2 (.inl (by omega))))
              have HM17 := Lib.hid (HM16.out.step hs17 (fun k hk he => (HM1.out k).2 (.inl (by omega))))
              have HC17 := Lib.hid (HC16.out.step hs17 (fun k hk he => (HM1.out k).2 (.inl (by omega))))
              have HX17 := Lib.hid (HX16.out.step hs17 (fun k hk he => (HM1.out k).2 (.inl (by omega))))
              have HS17 := Lib.hid (HS16.out.then_ hs17 (fun k hk he => by rw [E0.out] at hk; omega))
              have HK17 := Lib.hid (hs17.blk HK16.out (by omega))
              have HB17 := Lib.hid (show HlB w17 gh { hlF b with has := true, exs := X } us v34 um (.slice A16 X.length c16) from hb17)
              clear hb17 hs17 hw17
              go_wp2_with (first | (go_at_call 138; refine (done_any Mi gi _ _ HI16.out (by omega)).mono ?_; rintro e w' ⟨rfl, rfl⟩; rw [← HD2.out]))
              rw [← HW17.out]
              go_meet
              exact ⟨_, _, HL.out, rfl, ⟨us, v34, um, _, rfl, HB17.out.2, HV17.out, HC17.out, HM17.out, HX17.out⟩, HB17.out, HQ17.out, HS17.out, HK17.out⟩
      case rest =>
        obtain ⟨h', v37, hl', hv37, hh, hb, hq, hs, hk⟩ := hcut
        obtain ⟨cs, hcs⟩ : ∃ cs, cs = (hlV h' us v34 um v37).toArray := ⟨_, rfl⟩
        rw [← hcs] at hh
        have hb2 : wc.heap[gh]? = some (.cells cs 69 (0, 0)) := by rw [hcs]; exact hb.1
        have HSZ := Lib.hid hh.info
        have HSC := Lib.hid hh.size
        have HONE := Lib.hid hh.one
        have HH := Lib.hid hh
        have HBB := Lib.hid hb2
        have HQQ := Lib.hid hq
        have HSS := Lib.hid hs
        have HKK := Lib.hid hk
        have hfit := HFIT.out
        rw [hl'] at hfit
        have HFT := Lib.hid (show HlFit h' ∧ h'.exs.length ≤ 1000000000 from hfit)
        have hp := parseS_some b (by rw [hl']; rfl)
        rw [hl'] at hp
        have HP := Lib.hid (show parseS b = if wrongH h' = 0 then (h', 0) else (hl0, wrongH h') from hp)
        clear hh hb2 hb hq hs hk hfit hp hcs hl'
        go_wp2_with (with_reducible refine stop (N := 89) rfl ?_)
        refine Stop.go ?_
        refine wpList_load_row rfl _ _ rfl gh rfl _ cs (0, 0) _ HBB.out Tryz.underlying69 rfl HSZ.out ?_
        go_wp2_with (go_at_call 140; refine stopc ?_)
        refine Stop.go ?_
        refine (wrongH_any M1 cs h' _ HH.out HFT.out.1 HFT.out.2).mono ?_
        rintro e wz ⟨rfl, hsz⟩
        have HHz := Lib.hid (HH.out.stp0 hsz)
        have HBz := Lib.hid (hsz.blk HBB.out id)
        have HQz := Lib.hid (HQQ.out.stp0 hsz)
        have HSz := Lib.hid (HSS.out.trans hsz)
        have HKz := Lib.hid (hsz.blk HKK.out id)
        obtain ⟨q, hq⟩ : ∃ q, q = wrongH h' := ⟨_, rfl⟩
        rw [← hq] at HP ⊢
        clear hsz HH HBB HQQ HSS HKK hq
        by_cases hq0 : q = 0
        · subst hq0
          go_wp2_with (with_reducible refine stop (N := 95) rfl ?_)
          refine Stop.go ?_
          refine wpList_load_row rfl _ _ rfl gh rfl _ cs (0, 0) _ HBz.out Tryz.underlying69 rfl HSZ.out ?_
          refine wpList_store_row rfl _ _ _ rfl g0 cs rfl rfl _ _ HQz.out.1 HSZ.out (by rw [HSC.out]; rfl) HONE.out ?_
          go_wp2
          try simp only [Exit.inBlock, Exit.then]
          refine leave1 (((Stp.refl (fun k => k = g0) wz).setRow (fun _ => rfl) _).blk HKz.out (by omega)) (results_row9 rfl _ _ g0 _ _ _ _ rfl ((World.putObj_heap_other (by omega)).trans (hello_row HQz.out.1 cs)) Tryz.underlying69 rfl HSZ.out) ?_
          rw [HR.out]
          have hst : Stp (fun k => k = g0 ∨ k = D) wz ((wz.setRow g0 cs).putObj D (.deferred none)) := ((Stp.refl _ wz).setRow (fun _ => .inl rfl) cs).grown (grownBy_putObj' _ D _) (fun k hk _ => by injection hk with hk; exact .inr hk.symm)
          refine ⟨cs, by rw [HP.out]; rfl, ?_, HSz.out.then_ hst (fun k hk he => by rw [E0.out] at hk; omega)⟩
          rw [HP.out, if_pos trivial, E0.out]
          exact (HHz.out.step hst (fun k hk he => (HM1.out k).2 (by omega))).weak (fun k hk h => (HM1.out k).2 (by omega))
        · have hq1 : (q != 0) = true := by simpa using hq0
          rw [if_neg hq0] at HP
          go_wp2_with (with_reducible refine stop (N := 93) rfl ?_)
          refine Stop.go ?_
          refine wpList_val9 (v := .agg (hlV hl0 (.slice none 0 0) (.slice none 0 0) (.slice none 0 0) (.slice none 0 0)).toArray) rfl (by kernel_rfl) ?_
          go_wp2_with (refine wpList_store_row rfl _ _ _ rfl g0 _ rfl rfl _ _ HQz.out.1 size_hello (by rfl) (hlV_one rfl rfl rfl rfl) ?_)
          try simp only [Exit.inBlock, Exit.then]
          refine leave1 (((Stp.refl (fun k => k = g0) wz).setRow (fun _ => rfl) _).blk HKz.out (by omega)) (results_row9 rfl _ _ g0 _ _ _ _ rfl ((World.putObj_heap_other (by omega)).trans (hello_row HQz.out.1 _)) Tryz.underlying69 rfl size_hello) ?_
          rw [HR.out]
          refine ⟨_, by rw [HP.out]; rfl, ?_, (HSz.out.setRow (by rw [E0.out]; omega) _).grown (grownBy_putObj' _ D _) (fun k hk he => by injection hk with hk; rw [E0.out] at he; omega)⟩
          rw [HP.out]
          exact IsHl.nil _ _
end Go.Proofs.YtligofmhbbgalaaGreatDoor.L
