/- Texts of the proof, joined: Hq. -/
import Derived.Test.YtligofmhbbgalaaGreatDoorG07
set_option linter.unusedVariables false
set_option linter.unusedSimpArgs false
/- The document's own laid, Parse. -/
namespace Go.Proofs.YtligofmhbbgalaaGreatDoor.L
open Go.RowKit Go.Proofs

/-- What is handed back of bytes that are laid out. -/
def LaidRet (w : World) (b : List UInt8) (e : Ending) (w' : World) : Prop :=
  ∃ cs, e = .returned (.tuple #[.agg cs, .bool (laidS b).isSome]) ∧ IsHl (fun k => k < w.heap.size) w' cs ((laidS b).getD hl0) ∧ Stp (fun _ => False) w w'

theorem hlV_one {h : Hl} {vs vc vm vx : Value} (h1 : vs.oneCell' = true) (h2 : vc.oneCell' = true) (h3 : vm.oneCell' = true) (h4 : vx.oneCell' = true) : (hlV h vs vc vm vx).toArray.all (·.oneCell') = true := by
  simp only [hlV, List.all_toArray, List.all_cons, List.all_append, List.all_map, List.all_nil]
  simp [h1, h2, h3, h4, enc8]
  exact ⟨rfl, fun _ _ => rfl, rfl⟩
theorem HlB.row {W : World} {g : Nat} {h h' : Hl} {vs vc vm vx us uc um ux : Value} (hb : HlB W g h vs vc vm vx) (hr : h'.rnd.length = 32) : HlB (W.setRow g (hlV h' us uc um ux).toArray) g h' us uc um ux := ⟨setRow_heap W g _ _ _ _ hb.1, hr⟩
theorem Stp.setRow {S : Nat → Prop} {w w1 : World} (h : Stp S w w1) {g : Nat} (hg : g < w.heap.size → S g) (cs : Array Value) : Stp S w (w1.setRow g cs) :=
  h.then_ (T := fun k => k = g) ⟨rfl, rfl, rfl, by simp, fun k _ hk => setRow_other w1 g k _ hk⟩ (fun k hk he => by subst he; exact hg hk)
theorem size_hello : (Tryz.prog.info? 69).map (·.size) = some 38 := by kernel_rfl

theorem IsRf.stp {M : Nat → Prop} {W W1 : World} {g : Nat} {s : RSt} (h : IsRf M W g s) (hs : Stp M W W1) : IsRf M W1 g s := h.step hs (fun _ _ h => h)
set_option maxRecDepth 100000 in
set_option maxHeartbeats 8000000 in
theorem laidR_any (Ma : Nat → Prop) (v0 : Value) (b : List UInt8) (w : World) (hd : Rd u8 Ma w v0 b) (hl : b.length ≤ 1000000000) :
    Calls Tryz.prog 83 #[v0] w (LaidRet w b) := by
  obtain ⟨A0, c0, rfl, hle0⟩ := hd.form
  have HD := Lib.hid (hd.weak (M' := fun k => w.heap.size ≤ k) (by decide) (fun k hk h => absurd h (by omega)))
  clear hd
  obtain ⟨R, hR⟩ : ∃ R, R = LaidRet w b := ⟨_, rfl⟩
  rw [← hR]
  have HR := Lib.hid hR
  clear hR
  go_enter Tryz.func83, Tryz.ntmps83
  go_wp2_with (go_at_call 119; refine stopc ?_)
  refine Stop.go ?_
  obtain ⟨w0, hw0⟩ : ∃ w0, w0 = w.alloc (.cells (hlV hl0 (.slice none 0 0) (.slice none 0 0) (.slice none 0 0) (.slice none 0 0)).toArray 69) := ⟨_, rfl⟩
  have hz0 : w.heap.size + 1 = w0.heap.size := by rw [hw0]; simp
  have hs0 : Stp (fun _ => False) w w0 := by rw [hw0]; exact (Stp.refl _ _).alloc _
  have hb0 : HlB w0 w.heap.size hl0 (.slice none 0 0) (.slice none 0 0) (.slice none 0 0) (.slice none 0 0) := ⟨by rw [hw0]; exact heap_alloc_new w _, by simp [hl0]⟩
  have hr1 := newRf (M := fun k => w.heap.size ≤ k ∧ k ≠ w0.heap.size) (HD.out.stp0 hs0) (by omega) (by simp) (fun k hk h => h.1)
  have hs1 := (Stp.refl (fun _ => False) w0).alloc (.cells #[.slice A0 b.length c0, .int .i64 0, .bool false] 159)
  obtain ⟨w1, hw1⟩ : ∃ w1, w1 = w0.alloc (.cells #[.slice A0 b.length c0, .int .i64 0, .bool false] 159) := ⟨_, rfl⟩
  have hz1 : w0.heap.size + 1 = w1.heap.size := by rw [hw1]; simp
  rw [← hw1] at hr1 hs1
  obtain ⟨w2, hw2⟩ : ∃ w2, w2 = w1.alloc (.cells (hlV hl0 (.slice none 0 0) (.slice none 0 0) (.slice none 0 0) (.slice none 0 0)).toArray 69) := ⟨_, rfl⟩
  have hs2 : Stp (fun _ => False) w1 w2 := by rw [hw2]; exact (Stp.refl _ _).alloc _
  have hb2 : HlB w2 w1.heap.size hl0 (.slice none 0 0) (.slice none 0 0) (.slice none 0 0) (.slice none 0 0) := ⟨by rw [hw2]; exact heap_alloc_new w1 _, by simp [hl0]⟩
  rw [hlV0] at hw0 hw2
  rw [← hw0, ← hw1, ← hw2]
  rw [← hz0] at hr1 hz1
  rw [← hz1] at hb2
  have hsz2 := hs2.size
  rw [← hz1] at hsz2
  clear hw0 hw1 hw2 hz0 hz1
  generalize e0 : w.heap.size = g0 at *
  generalize e1 : g0 + 1 = gr at *
  generalize e2 : gr + 1 = gh at *
  have hg1 : g0 < gr := by omega
  have hg2 : gr < gh := by omega
  have E0 := Lib.hid e0
  clear e1 e2 e0
  refine (numR_any _ gr _ _ _ (hr1.stp0 hs2)).mono ?_
  rintro e w3 ⟨rfl, hi3, hs3⟩
  have hq0 := ((hb0.stp0 hs1).stp0 hs2).step hs3 (by omega)
  have hb3 := hb2.step hs3 (by omega)
  have HS3 := Lib.hid ((((hs0.trans hs1).trans hs2)).new hs3 (by rw [E0.out]; omega))
  obtain ⟨c3, -⟩ := hb3.cells
  have f3 := hb3.free 0
  have HI3 := Lib.hid (show IsRf (fun k => g0 ≤ k ∧ k ≠ gr) w3 gr (rd1 b).2 from hi3)
  have HQ0 := Lib.hid hq0
  have HB3 := Lib.hid hb3
  clear hq0 hb3
  clear hr1 hs0 hs1 hs2 hs3 hb0 hb2 hi3 w0 w1
  go_wp2_with fail
  have hs4 := (Stp.refl (fun k => k = gh) w3).setg 0 (.int .i64 (rnum (b, false) 2).1)
  obtain ⟨w4, hw4⟩ : ∃ w4, w4 = w3.setCell ⟨gh, 0, none⟩ (.int .i64 (rnum (b, false) 2).1) := ⟨_, rfl⟩
  have hb4 := HB3.out.set0 (rnum (b, false) 2).1
  rw [← hw4] at hs4 hb4 ⊢
  have hq4 := HQ0.out.step hs4 (by omega)
  have hi4 := HI3.out.step hs4 (fun k hk he => ⟨by omega, by omega⟩)
  have HS4 := Lib.hid (HS3.out.then_ hs4 (fun k hk he => by rw [E0.out] at hk; omega))
  have HB4 := Lib.hid hb4
  have HQ4 := Lib.hid hq4
  have HI4 := Lib.hid hi4
  clear hb4 hq4 hi4
  clear hw4 hs4 c3 f3
  refine wp_region_held_drew (S := (fun _ => True)) (by kernel_rfl) (trivial) (fun hHeld => ?_)
  try (change wpAnyH _ _ _ _ _ _ _ _ (World.drew _))
  refine rg_take (i := 0) (o := { dst := some 17, op := Op.fieldAddr 69 (Operand.tmp 5) 1, type := 0, pos := "ref.go:29", after := #[], guard := none }) (v := ?rgv1) rfl (by kernel_rfl) (by kernel_rfl) (by kernel_rfl) (fun _ _ _ h => h) (by rfl) (fun w hSw => ?rgy1) hHeld ?_
  case rgy1 => (try dsimp only at hSw); first | (go_simp; done) | (go_simp; with_reducible rfl)
  try simp only [Act.put, List.setIfInBounds_toArray, List.set_cons_zero, List.set_cons_succ]
  refine rg_take (i := 1) (o := { dst := some 18, op := Op.slice 66 (Operand.tmp 17) none none none, type := 22, pos := "ref.go:29", after := #[{ on := 0, ground := Ground.data }], guard := none }) (v := ?rgv2) rfl (by kernel_rfl) (by kernel_rfl) (by kernel_rfl) (fun _ _ _ h => h) (by rfl) (fun w hSw => ?rgy2) hHeld ?_
  case rgy2 => (try dsimp only at hSw); first | (go_simp; done) | (go_simp; with_reducible rfl)
  try simp only [Act.put, List.setIfInBounds_toArray, List.set_cons_zero, List.set_cons_succ]
  refine rg_take (i := 2) (o := { dst := some 19, op := Op.move (Operand.tmp 4), type := 157, pos := "ref.go:29", after := #[], guard := none }) (v := ?rgv3) rfl (by kernel_rfl) (by kernel_rfl) (by kernel_rfl) (fun _ _ _ h => h) (by rfl) (fun w hSw => ?rgy3) hHeld ?_
  case rgy3 => (try dsimp only at hSw); first | (go_simp; done) | (go_simp; with_reducible rfl)
  try simp only [Act.put, List.setIfInBounds_toArray, List.set_cons_zero, List.set_cons_succ]
  refine wpAnyH_ready (rs := [3]) (by kernel_rfl) (by simp) ?_
  refine (AllReadyH.cons (o := { dst := some 20, op := Op.call { callee := Callee.value (Operand.func 120), args := #[Operand.tmp 19, Operand.const (Value.int IntKind.i64 32)], argTypes := #[157, 3] }, type := 22, pos := "ref.go:29", after := #[{ on := 2, ground := Ground.data }], guard := none }) rfl (fun K hK => ?_) AllReadyH.nil)
  go_simp
  refine (takeR_any _ gr _ _ _ (HI4.out.stp0 ((Stp.refl _ _).drew))).mono ?_
  rintro e w5 ⟨v5, rfl, ho5, hi5, hs5⟩
  have hq5 := HQ4.out.step (((Stp.refl (fun k => k = gr) w4).drew).trans hs5) (by omega)
  have hb5 := HB4.out.step (((Stp.refl (fun k => k = gr) w4).drew).trans hs5) (by omega)
  have HS5 := Lib.hid (HS4.out.then_ (((Stp.refl (fun k => k = gr) w4).drew).trans hs5) (fun k hk he => by rw [E0.out] at hk; omega))
  have HI5 := Lib.hid (show IsRf (fun k => g0 ≤ k ∧ k ≠ gr) w5 gr (rd2 b).2 from hi5)
  have HO5 := Lib.hid ho5
  have HQ5 := Lib.hid hq5
  have HB5 := Lib.hid hb5
  clear hq5 hb5
  clear ho5 hi5 hs5
  show K _ _
  clear hHeld
  refine hK.out _ _ (trivial) (fun hHeld => ?_)
  clear hK K
  try simp only [Act.put, List.setIfInBounds_toArray, List.set_cons_zero, List.set_cons_succ]
  refine wpAnyH_ready (rs := [4]) (by kernel_rfl) (by simp) ?_
  refine (AllReadyH.cons (o := { dst := some 21, op := Op.call { callee := Callee.builtin Builtin.copy, args := #[Operand.tmp 18, Operand.tmp 20], argTypes := #[22, 22] }, type := 3, pos := "ref.go:29", after := #[{ on := 1, ground := Ground.data }, { on := 3, ground := Ground.data }, { on := 3, ground := Ground.chain }], guard := none }) rfl (fun K hK => ?_) AllReadyH.nil)
  refine op_copyRnd HB5.out _ _ _ _ (by rfl) 5 Tryz.underlying22 size_u8 (HO5.out.rd (h1 := fun _ => rfl) (M := fun _ => False) (fun _ _ => id)) (rd2_len b) (by rfl) (by rfl) ?_
  intro w6 hb6 hs6
  show K _ _
  clear hHeld
  refine hK.out _ _ (trivial) (fun hHeld => ?_)
  clear hK K
  try simp only [Act.put, List.setIfInBounds_toArray, List.set_cons_zero, List.set_cons_succ]
  clear hHeld
  refine wpAnyH_done (by kernel_rfl) ?_ _
  have hq6 := HQ5.out.step hs6 (by omega)
  have HI6 := Lib.hid (HI5.out.step hs6 (fun k hk he => ⟨by omega, by omega⟩))
  have HS6 := Lib.hid (HS5.out.then_ hs6 (fun k hk he => by rw [E0.out] at hk; omega))
  have hlt6 : gh < w6.heap.size := hb6.lt
  have HQ6 := Lib.hid hq6
  have HB6 := Lib.hid hb6
  clear hq6 hb6
  clear hs6 HI5 HQ5 HB5 HS5 HO5 HI4 HQ4 HB4 HS4 HI3 HQ0 HB3 HS3
  go_wp2_with (go_at_call 121; refine stopc ?_)
  refine Stop.go ?_
  refine (rvecR_any _ gr _ _ _ HI6.out).mono ?_
  rintro e w7 ⟨v7, rfl, ho7, hi7, hs7⟩
  replace ho7 : Own enc8 5 w6.heap.size w7 v7 (rd3 b).1 := ho7
  obtain ⟨A7, k7, rfl, hle7⟩ := ho7.form
  have hb7 := HB6.out.step hs7 (by omega)
  have hq7 := HQ6.out.step hs7 (by omega)
  have HV7 := Lib.hid (ho7.rd (h1 := fun _ => rfl) (M := fun k => k ≤ gh) (fun k hk h => by have := (ho7.lt k hk).1; omega))
  obtain ⟨-, c33, -⟩ := hb7.cells
  have f33 := hb7.free 33
  have HI7 := Lib.hid (show IsRf (fun k => g0 ≤ k ∧ k ≠ gr) w7 gr (rd3 b).2 from hi7)
  have HS7 := Lib.hid (HS6.out.then_ hs7 (fun k hk he => by rw [E0.out] at hk; omega))
  have hlt7 := hb7.lt
  have hs8 := (Stp.refl (fun k => k = gh) w7).setg 33 (.slice A7 (rd3 b).1.length k7)
  have hb8 := hb7.set33 (.slice A7 (rd3 b).1.length k7) (rd3 b).1
  have hq8 := hq7.step hs8 (by omega)
  have hi8 := HI7.out.step hs8 (fun k hk he => ⟨by omega, by omega⟩)
  have HV8 := Lib.hid (HV7.out.step hs8 (fun k hk he => by omega))
  have HS8 := Lib.hid (HS7.out.then_ hs8 (fun k hk he => by rw [E0.out] at hk; omega))
  have hsz8 := hs8.size
  have HB8 := Lib.hid hb8
  have HQ8 := Lib.hid hq8
  have HI8 := Lib.hid hi8
  clear hb8 hq8 hi8
  clear ho7 hi7 hs7 hb7 hq7 hs8 HI7 HI6 HB6 HQ6 HS6 HS7
  go_wp2_with (go_at_call 121; refine stopc ?_)
  refine Stop.go ?_
  generalize hw8 : w7.setCell ⟨gh, 33, none⟩ (.slice A7 (rd3 b).1.length k7) = w8 at *
  clear hw8 c33 f33 HV7
  refine (rvecR_any _ gr _ _ _ HI8.out).mono ?_
  rintro e w9 ⟨v9, rfl, ho9, hi9, hs9⟩
  replace ho9 : Own enc8 5 w8.heap.size w9 v9 (rd4 b).1 := ho9
  obtain ⟨A9, k9, rfl, hle9⟩ := ho9.form
  have HB9 := Lib.hid (HB8.out.step hs9 (by omega))
  have HQ9 := Lib.hid (HQ8.out.step hs9 (by omega))
  have HV9 := Lib.hid (HV8.out.step hs9 (fun k hk he => by omega))
  have HC9 := Lib.hid (ho9.rd (h1 := fun _ => rfl) (M := fun k => k ≤ gh) (fun k hk h => by have := (ho9.lt k hk).1; omega))
  have HI9 := Lib.hid (show IsRf (fun k => g0 ≤ k ∧ k ≠ gr) w9 gr (rd4 b).2 from hi9)
  have HS9 := Lib.hid (HS8.out.then_ hs9 (fun k hk he => by rw [E0.out] at hk; omega))
  have hsz9 := hs9.size
  clear ho9 hi9 hs9 HB8 HQ8 HI8 HV8 HS8
  go_wp2_with (go_at_call 121; refine stopc ?_)
  refine Stop.go ?_
  refine (rvecR_any _ gr _ _ _ HI9.out).mono ?_
  rintro e w10 ⟨v10, rfl, ho10, hi10, hs10⟩
  replace ho10 : Own enc8 5 w9.heap.size w10 v10 (rd5 b).1 := ho10
  obtain ⟨A10, k10, rfl, hle10⟩ := ho10.form
  have hb10 := HB9.out.step hs10 (by omega)
  have hq10 := HQ9.out.step hs10 (by omega)
  have HV10 := Lib.hid (HV9.out.step hs10 (fun k hk he => by omega))
  have HC10 := Lib.hid (HC9.out.step hs10 (fun k hk he => by omega))
  have HM10 := Lib.hid (ho10.rd (h1 := fun _ => rfl) (M := fun k => k ≤ gh) (fun k hk h => by have := (ho10.lt k hk).1; omega))
  obtain ⟨-, -, -, c35, -⟩ := hb10.cells
  have f35 := hb10.free 35
  have HI10 := Lib.hid (show IsRf (fun k => g0 ≤ k ∧ k ≠ gr) w10 gr (rd5 b).2 from hi10)
  have HS10 := Lib.hid (HS9.out.then_ hs10 (fun k hk he => by rw [E0.out] at hk; omega))
  have hsz10 := hs10.size
  have hs11 := (Stp.refl (fun k => k = gh) w10).setg 35 (.slice A10 (rd5 b).1.length k10)
  have hb11 := hb10.set35 (.slice A10 (rd5 b).1.length k10) (rd5 b).1
  have hq11 := hq10.step hs11 (by omega)
  have hi11 := HI10.out.step hs11 (fun k hk he => ⟨by omega, by omega⟩)
  have hoff := hi11.off
  have hc11 := hb11.cells
  have HV11 := Lib.hid (HV10.out.step hs11 (fun k hk he => by omega))
  have HC11 := Lib.hid (HC10.out.step hs11 (fun k hk he => by omega))
  have HM11 := Lib.hid (HM10.out.step hs11 (fun k hk he => by omega))
  have HS11 := Lib.hid (HS10.out.then_ hs11 (fun k hk he => by rw [E0.out] at hk; omega))
  obtain ⟨-, -, c34, c35b, c36, c37⟩ := hc11
  have hsz11 := hs11.size
  have HB11 := Lib.hid hb11
  have HQ11 := Lib.hid hq11
  have HI11 := Lib.hid hi11
  clear hb11 hq11 hi11
  clear ho10 hi10 hs10 hb10 hq10 hs11 HI10 HI9 HB9 HQ9 HS9 HS10 HV9 HC9 HV10 HC10 HM10
  go_upto_region 8 with fail
  generalize hw11 : w10.setCell ⟨gh, 35, none⟩ (.slice A10 (rd5 b).1.length k10) = w11 at *
  clear hw11 c35 f35
  obtain ⟨tt, htt⟩ : ∃ tt : Bool, tt = !decide (okFH b) := ⟨_, rfl⟩
  have HTT := Lib.hid htt
  clear htt
  go_cut [50] (fun t wx => t = .bool tt ∧ wx = w11)
  case first =>
    by_cases z1 : (rd5 b).2.2 = true
    · rw [z1] at hoff
      have hno : ¬ okFH b := fun h => by have := h.1; rw [z1] at this; cases this
      have HNO := Lib.hid hno
      have Z1 := Lib.hid z1
      clear hno z1
      go_wp2_with fail
      go_meet
      exact ⟨by rw [HTT.out]; simp [HNO.out], rfl⟩
    have z1' : (rd5 b).2.2 = false := by simpa using z1
    rw [z1'] at hoff
    clear z1
    by_cases z2 : ((rd4 b).1.length : Int) < 2
    · by_cases z3 : (rd4 b).1.length % 2 = 1
      · have hno : ¬ okFH b := fun h => by have := h.2.2.1; omega
        have HNO := Lib.hid hno
        have Z1' := Lib.hid z1'
        clear hno z1'
        go_wp2_with fail
        go_meet
        exact ⟨by rw [HTT.out]; simp [HNO.out], rfl⟩
      · have hno : ¬ okFH b := fun h => by have := h.2.1; omega
        have HNO := Lib.hid hno
        have Z1' := Lib.hid z1'
        clear hno z1'
        go_wp2_with fail
        go_meet
        exact ⟨by rw [HTT.out]; simp [HNO.out], rfl⟩
    by_cases z3 : (rd4 b).1.length % 2 = 1
    · have hno : ¬ okFH b := fun h => by have := h.2.2.1; omega
      have z3' : (((rd4 b).1.length : Int) % 2 == 1) = true := by
        have : ((rd4 b).1.length : Int) % 2 = 1 := by omega
        rw [this]; rfl
      have HNO := Lib.hid hno
      have Z1' := Lib.hid z1'
      clear hno z1'
      clear z3
      go_wp2_with fail
      go_meet
      exact ⟨by rw [HTT.out]; simp [HNO.out], rfl⟩
    have z3' : (((rd4 b).1.length : Int) % 2 == 1) = false := by
      have : ((rd4 b).1.length : Int) % 2 = 0 := by omega
      rw [this]; rfl
    by_cases z4 : (rd5 b).1.length = 0
    · have hno : ¬ okFH b := fun h => h.2.2.2 z4
      have z4' : (((rd5 b).1.length : Int) == 0) = true := by simpa using z4
      have HNO := Lib.hid hno
      have Z1' := Lib.hid z1'
      clear hno z1'
      clear z3 z4
      go_wp2_with fail
      go_meet
      exact ⟨by rw [HTT.out]; simp [HNO.out], rfl⟩
    · have hyes : okFH b := ⟨z1', by omega, by omega, z4⟩
      have z4' : (((rd5 b).1.length : Int) == 0) = false := by simpa using z4
      have HYES := Lib.hid hyes
      have Z1' := Lib.hid z1'
      clear hyes z1'
      clear z3 z4
      go_wp2_with fail
      go_meet
      exact ⟨by rw [HTT.out]; simp [HYES.out], rfl⟩
  case rest =>
    obtain ⟨rfl, rfl⟩ := hcut
    by_cases hF : okFH b
    case neg =>
      have hlz : laidS b = none := by unfold laidS; rw [if_neg hF]
      obtain rfl : tt = true := by rw [HTT.out]; simp [hF]
      have HLZ := Lib.hid hlz
      have HF := Lib.hid hF
      clear hlz hF
      go_wp2_with (with_reducible refine stop (N := 51) rfl ?_)
      refine Stop.go ?_
      refine wpList_val9 (v := .agg (hlV hl0 (.slice none 0 0) (.slice none 0 0) (.slice none 0 0) (.slice none 0 0)).toArray) rfl (by kernel_rfl) ?_
      refine wpList_store_row rfl _ _ _ rfl g0 _ rfl rfl _ _ HQ11.out.1 size_hello (by rfl) (hlV_one rfl rfl rfl rfl) ?_
      go_wp2
      try simp only [Exit.inBlock, Exit.then]
      refine bodyPost_ret (results_row9 rfl _ _ g0 _ _ _ _ rfl (HQ11.out.row (h' := hl0) (us := .slice none 0 0) (uc := .slice none 0 0) (um := .slice none 0 0) (ux := .slice none 0 0) (by simp [hl0])).1 Tryz.underlying69 rfl size_hello) rfl ?_
      rw [HR.out]
      refine ⟨_, by rw [HLZ.out]; rfl, ?_, HS11.out.setRow (by rw [E0.out]; omega) _⟩
      rw [HLZ.out]
      exact ⟨_, _, _, _, rfl, by simp [hl0], Rd.nil _ _ _, Rd.nil _ _ _, Rd.nil _ _ _, Rd.nil _ _ _⟩
    obtain rfl : tt = false := by rw [HTT.out]; simp [hF]
    obtain ⟨hF1, hF2, hF3, hF4⟩ := id hF
    obtain ⟨a, ha⟩ : ∃ a, a = (rd4 b).1 := ⟨_, rfl⟩
    have hlF : laidS b = if (rd5 b).2.1.length = 0 then some (hlF b) else if okX b then some { hlF b with has := true, exs := (extS (rd6 b).1).1 } else none := by unfold laidS; rw [if_pos hF]
    have HLF := Lib.hid hlF
    clear hlF
    have hl5 : (rd5 b).2.1.length ≤ 1000000000 := by
      have h0 : (rd5 b).2.1.length ≤ (rd4 b).2.1.length := rvec_len _ _
      have h1 : (rd4 b).2.1.length ≤ (rd3 b).2.1.length := rvec_len _ _
      have h2 : (rd3 b).2.1.length ≤ (rd2 b).2.1.length := rvec_len _ _
      have h3 : (rd2 b).2.1.length ≤ (rd1 b).2.1.length := rtake_len2 _ _
      have h4 : (rd1 b).2.1.length ≤ b.length := rnum_len (b, false) 2
      omega
    rw [← ha] at hF2 hF3 hle9 HC11
    have hal : a.length ≤ 1000000000 := by
      have h1 : a.length ≤ (rd3 b).2.1.length := by rw [ha]; exact rvec_len1 _ _
      have h2 : (rd3 b).2.1.length ≤ (rd2 b).2.1.length := rvec_len _ _
      have h3 : (rd2 b).2.1.length ≤ (rd1 b).2.1.length := rtake_len2 _ _
      have h4 : (rd1 b).2.1.length ≤ b.length := rnum_len (b, false) 2
      omega
    have HAL := Lib.hid hal
    have HL5 := Lib.hid hl5
    have HFA := Lib.hid ha
    have HB := Lib.hid (show HlB wc gh { hlF b with cip := [] } (.slice A7 (rd3 b).1.length k7) (.slice none 0 0) (.slice A10 (rd5 b).1.length k10) (.slice none 0 0) from HB11.out)
    obtain ⟨us, hus⟩ : ∃ v, v = Value.slice A7 (rd3 b).1.length k7 := ⟨_, rfl⟩
    obtain ⟨um, hum⟩ : ∃ v, v = Value.slice A10 (rd5 b).1.length k10 := ⟨_, rfl⟩
    have hus1 : us.oneCell' = true := by rw [hus]; rfl
    have hum1 : um.oneCell' = true := by rw [hum]; rfl
    rw [← hus, ← hum] at HB
    rw [← hus] at HV11
    rw [← hum] at HM11
    have HUS := Lib.hid hus1
    have HUM := Lib.hid hum1
    have hgw : gh < wc.heap.size := HB.out.lt
    rw [hF1] at hoff
    rw [← ha]
    clear c34 c35b c36 c37 hF4 hF1 HB11 hus hum hus1 hum1 hF HTT ha hl5
    go_wp2_with fail
    go_loopw [7] (fun i wr => ∃ p xs v34, p ≤ a.length ∧ p % 2 = 0 ∧ i = .int .i64 (p : Nat) ∧ twos a = xs ++ twos (a.drop p) ∧ xs.length ≤ p ∧ Own (Value.int .i64) 3 wc.heap.size wr v34 xs ∧ HlB wr gh { hlF b with cip := xs } us v34 um (.slice none 0 0) ∧ Stp (fun k => k = gh) wc wr) (fun i _ => a.length - (intOf i).toNat)
    case atStart => exact ⟨0, [], _, Nat.zero_le _, rfl, rfl, by simp, by simp, Own.nil _ _ _ _, HB.out, Stp.refl _ _⟩
    case round =>
      obtain ⟨p, xs, v34, hp, hpe, rfl, hm, hxl, ho, hb, hs⟩ := hrel
      have HM := Lib.hid hm
      have HS := Lib.hid hs
      have HO := Lib.hid ho
      have HBr := Lib.hid hb
      have hws := HS.out.size
      clear hm hs ho
      by_cases hlt : p < a.length
      · have hlt2 : p + 1 < a.length := by omega
        obtain ⟨-, -, c34, -⟩ := hb.cells
        have c34' := ((Stp.refl (fun _ => False) wr).alloc (.cells #[.int .i64 ((a[p].toNat : Int) * 256 + (a[p + 1].toNat : Int))] 3)).cell c34 id
        have hrd := HC11.out.step HS.out (fun k hk he => by omega)
        obtain ⟨ad, rfl, _, hcell1⟩ := plain_cell hrd p hlt
        have hcell2 := plain_cell2 hrd (p + 1) hlt2
        have hadd : ad.add (p + 1) = ⟨ad.block, ad.off + (p + 1), none⟩ := by unfold Addr.add; simp
        rw [hadd] at hcell2
        have HADD := Lib.hid hadd
        have HRD := Lib.hid hrd
        have hdr : a.drop p = a[p] :: a[p + 1] :: a.drop (p + 2) := by rw [List.drop_eq_getElem_cons hlt, List.drop_eq_getElem_cons hlt2]
        have HDR := Lib.hid hdr
        have hb1 := a[p].toNat_lt
        have hb2 := a[p + 1].toNat_lt
        simp only [enc8] at hcell1 hcell2
        clear hrd hdr hadd hb
        have e1 : IntKind.i64.wrap ((p : Int) + 1) = (p : Int) + 1 := IntWalk.i64_in _ (by omega)
        have e2 : (0 : Int) ≤ (p : Int) + 1 ∧ (p : Int) + 1 < (a.length : Int) := by omega
        have e3 : ((p : Int) + 1).toNat = p + 1 := by omega
        have e4 : IntKind.i64.wrap (a[p].toNat : Int) = (a[p].toNat : Int) := IntWalk.i64_in _ (by omega)
        have e5 : IntKind.i64.wrap (a[p + 1].toNat : Int) = (a[p + 1].toNat : Int) := IntWalk.i64_in _ (by omega)
        have e6 : IntKind.i64.wrap ((a[p].toNat : Int) * 256) = (a[p].toNat : Int) * 256 := IntWalk.i64_in _ (by omega)
        have e7 : IntKind.i64.wrap ((a[p].toNat : Int) * 256 + (a[p + 1].toNat : Int)) = (a[p].toNat : Int) * 256 + (a[p + 1].toNat : Int) := IntWalk.i64_in _ (by omega)
        obtain ⟨e21, e22⟩ := e2
        go_wp2_with fail
        refine wp_region_held_drew (S := (fun w' => w'.cell? (ad.add p) = some (.int .u8 (a[p].toNat : Int)) ∧ w'.cell? ⟨ad.block, ad.off + (p + 1), none⟩ = some (.int .u8 (a[p + 1].toNat : Int)))) (by kernel_rfl) (⟨hcell1, hcell2⟩) (fun hHeld => ?_)
        try (change wpAnyH _ _ _ _ _ _ _ _ (World.drew _))
        refine rg_take (i := 0) (o := { dst := some 58, op := Op.fieldAddr 69 (Operand.tmp 5) 3, type := 0, pos := "ref.go:37", after := #[], guard := none }) (v := ?rgv4) rfl (by kernel_rfl) (by kernel_rfl) (by kernel_rfl) (fun _ _ _ h => h) (by rfl) (fun w hSw => ?rgy4) hHeld ?_
        case rgy4 => (try dsimp only at hSw); first | (go_simp; done) | (go_simp; with_reducible rfl)
        try simp only [Act.put, List.setIfInBounds_toArray, List.set_cons_zero, List.set_cons_succ]
        refine rg_take (i := 2) (o := { dst := some 60, op := Op.move (Operand.tmp 6), type := 22, pos := "ref.go:37", after := #[], guard := none }) (v := ?rgv5) rfl (by kernel_rfl) (by kernel_rfl) (by kernel_rfl) (fun _ _ _ h => h) (by rfl) (fun w hSw => ?rgy5) hHeld ?_
        case rgy5 => (try dsimp only at hSw); first | (go_simp; done) | (go_simp; with_reducible rfl)
        try simp only [Act.put, List.setIfInBounds_toArray, List.set_cons_zero, List.set_cons_succ]
        refine rg_take (i := 3) (o := { dst := some 61, op := Op.move (Operand.tmp 7), type := 3, pos := "ref.go:37", after := #[], guard := none }) (v := ?rgv6) rfl (by kernel_rfl) (by kernel_rfl) (by kernel_rfl) (fun _ _ _ h => h) (by rfl) (fun w hSw => ?rgy6) hHeld ?_
        case rgy6 => (try dsimp only at hSw); first | (go_simp; done) | (go_simp; with_reducible rfl)
        try simp only [Act.put, List.setIfInBounds_toArray, List.set_cons_zero, List.set_cons_succ]
        refine rg_take (i := 4) (o := { dst := some 62, op := Op.indexAddr 22 (Operand.tmp 60) (Operand.tmp 61), type := 0, pos := "ref.go:37", after := #[{ on := 2, ground := Ground.data }, { on := 3, ground := Ground.data }], guard := none }) (v := ?rgv7) rfl (by kernel_rfl) (by kernel_rfl) (by kernel_rfl) (fun _ _ _ h => h) (by rfl) (fun w hSw => ?rgy7) hHeld ?_
        case rgy7 => (try dsimp only at hSw); first | (go_simp; done) | (go_simp; with_reducible rfl)
        try simp only [Act.put, List.setIfInBounds_toArray, List.set_cons_zero, List.set_cons_succ]
        refine rg_take (i := 5) (o := { dst := some 63, op := Op.load 5 (Operand.tmp 62), type := 5, pos := "ref.go:37", after := #[{ on := 4, ground := Ground.data }], guard := none }) (v := ?rgv8) rfl (by kernel_rfl) (by kernel_rfl) (by kernel_rfl) (fun _ _ _ h => h) (by rfl) (fun w hSw => ?rgy8) hHeld ?_
        case rgy8 => (try dsimp only at hSw); first | (go_simp; done) | (go_simp; with_reducible rfl)
        try simp only [Act.put, List.setIfInBounds_toArray, List.set_cons_zero, List.set_cons_succ]
        refine rg_take (i := 6) (o := { dst := some 64, op := Op.convert 5 3 (Operand.tmp 63), type := 3, pos := "ref.go:37", after := #[{ on := 5, ground := Ground.data }], guard := none }) (v := ?rgv9) rfl (by kernel_rfl) (by kernel_rfl) (by kernel_rfl) (fun _ _ _ h => h) (by rfl) (fun w hSw => ?rgy9) hHeld ?_
        case rgy9 => (try dsimp only at hSw); first | (go_simp; done) | (go_simp; with_reducible rfl)
        try simp only [Act.put, List.setIfInBounds_toArray, List.set_cons_zero, List.set_cons_succ]
        refine rg_take (i := 7) (o := { dst := some 65, op := Op.binOp BinOp.mul 3 (Operand.tmp 64) (Operand.const (Value.int IntKind.i64 256)) 3, type := 3, pos := "ref.go:37", after := #[{ on := 6, ground := Ground.data }], guard := none }) (v := ?rgv10) rfl (by kernel_rfl) (by kernel_rfl) (by kernel_rfl) (fun _ _ _ h => h) (by rfl) (fun w hSw => ?rgy10) hHeld ?_
        case rgy10 => (try dsimp only at hSw); first | (go_simp; done) | (go_simp; with_reducible rfl)
        try simp only [Act.put, List.setIfInBounds_toArray, List.set_cons_zero, List.set_cons_succ]
        refine rg_take (i := 8) (o := { dst := some 66, op := Op.move (Operand.tmp 6), type := 22, pos := "ref.go:37", after := #[], guard := none }) (v := ?rgv11) rfl (by kernel_rfl) (by kernel_rfl) (by kernel_rfl) (fun _ _ _ h => h) (by rfl) (fun w hSw => ?rgy11) hHeld ?_
        case rgy11 => (try dsimp only at hSw); first | (go_simp; done) | (go_simp; with_reducible rfl)
        try simp only [Act.put, List.setIfInBounds_toArray, List.set_cons_zero, List.set_cons_succ]
        refine rg_take (i := 9) (o := { dst := some 67, op := Op.move (Operand.tmp 7), type := 3, pos := "ref.go:37", after := #[], guard := none }) (v := ?rgv12) rfl (by kernel_rfl) (by kernel_rfl) (by kernel_rfl) (fun _ _ _ h => h) (by rfl) (fun w hSw => ?rgy12) hHeld ?_
        case rgy12 => (try dsimp only at hSw); first | (go_simp; done) | (go_simp; with_reducible rfl)
        try simp only [Act.put, List.setIfInBounds_toArray, List.set_cons_zero, List.set_cons_succ]
        refine rg_take (i := 10) (o := { dst := some 68, op := Op.binOp BinOp.add 3 (Operand.tmp 67) (Operand.const (Value.int IntKind.i64 1)) 3, type := 3, pos := "ref.go:37", after := #[{ on := 9, ground := Ground.data }], guard := none }) (v := ?rgv13) rfl (by kernel_rfl) (by kernel_rfl) (by kernel_rfl) (fun _ _ _ h => h) (by rfl) (fun w hSw => ?rgy13) hHeld ?_
        case rgy13 => (try dsimp only at hSw); first | (go_simp; done) | (go_simp; with_reducible rfl)
        try simp only [Act.put, List.setIfInBounds_toArray, List.set_cons_zero, List.set_cons_succ]
        refine rg_take (i := 11) (o := { dst := some 69, op := Op.indexAddr 22 (Operand.tmp 66) (Operand.tmp 68), type := 0, pos := "ref.go:37", after := #[{ on := 8, ground := Ground.data }, { on := 10, ground := Ground.data }], guard := none }) (v := ?rgv14) rfl (by kernel_rfl) (by kernel_rfl) (by kernel_rfl) (fun _ _ _ h => h) (by rfl) (fun w hSw => ?rgy14) hHeld ?_
        case rgy14 => (try dsimp only at hSw); first | (go_simp; done) | (go_simp; with_reducible rfl)
        try simp only [Act.put, List.setIfInBounds_toArray, List.set_cons_zero, List.set_cons_succ]
        refine rg_take (i := 12) (o := { dst := some 70, op := Op.load 5 (Operand.tmp 69), type := 5, pos := "ref.go:37", after := #[{ on := 11, ground := Ground.data }], guard := none }) (v := ?rgv15) rfl (by kernel_rfl) (by kernel_rfl) (by kernel_rfl) (fun _ _ _ h => h) (by rfl) (fun w hSw => ?rgy15) hHeld ?_
        case rgy15 => (try dsimp only at hSw); first | (go_simp; done) | (go_simp; with_reducible rfl)
        try simp only [Act.put, List.setIfInBounds_toArray, List.set_cons_zero, List.set_cons_succ]
        refine rg_take (i := 13) (o := { dst := some 71, op := Op.convert 5 3 (Operand.tmp 70), type := 3, pos := "ref.go:37", after := #[{ on := 12, ground := Ground.data }], guard := none }) (v := ?rgv16) rfl (by kernel_rfl) (by kernel_rfl) (by kernel_rfl) (fun _ _ _ h => h) (by rfl) (fun w hSw => ?rgy16) hHeld ?_
        case rgy16 => (try dsimp only at hSw); first | (go_simp; done) | (go_simp; with_reducible rfl)
        try simp only [Act.put, List.setIfInBounds_toArray, List.set_cons_zero, List.set_cons_succ]
        refine rg_take (i := 14) (o := { dst := some 72, op := Op.binOp BinOp.add 3 (Operand.tmp 65) (Operand.tmp 71) 3, type := 3, pos := "ref.go:37", after := #[{ on := 7, ground := Ground.data }, { on := 13, ground := Ground.data }], guard := none }) (v := ?rgv17) rfl (by kernel_rfl) (by kernel_rfl) (by kernel_rfl) (fun _ _ _ h => h) (by rfl) (fun w hSw => ?rgy17) hHeld ?_
        case rgy17 => (try dsimp only at hSw); first | (go_simp; done) | (go_simp; with_reducible rfl)
        try simp only [Act.put, List.setIfInBounds_toArray, List.set_cons_zero, List.set_cons_succ]
        refine wpAnyH_ready (rs := [1, 15]) (by kernel_rfl) (by simp) ?_
        refine (AllReadyH.cons (o := { dst := some 59, op := Op.load 27 (Operand.tmp 58), type := 27, pos := "ref.go:37", after := #[{ on := 0, ground := Ground.data }], guard := none }) rfl (fun K hK => ?_) (AllReadyH.cons (o := { dst := some 73, op := Op.buildSlice 27 1 #[(0, Operand.tmp 72)], type := 27, pos := "ref.go:37", after := #[{ on := 14, ground := Ground.data }], guard := none }) rfl (fun K hK => ?_) AllReadyH.nil))
        · skip
          go_simp
          show K _ _
          clear hHeld
          refine hK.out _ _ (by first | exact ⟨(((Stp.refl (fun _ => False) wr).drew).alloc _).cell hcell1 id, (((Stp.refl (fun _ => False) wr).drew).alloc _).cell hcell2 id⟩ | exact ⟨hcell1, hcell2⟩) (fun hHeld => ?_)
          clear hK K
          try simp only [Act.put, List.setIfInBounds_toArray, List.set_cons_zero, List.set_cons_succ]
          refine wpAnyH_ready (rs := [15]) (by kernel_rfl) (by simp) ?_
          refine (AllReadyH.cons (o := { dst := some 73, op := Op.buildSlice 27 1 #[(0, Operand.tmp 72)], type := 27, pos := "ref.go:37", after := #[{ on := 14, ground := Ground.data }], guard := none }) rfl (fun K hK => ?_) AllReadyH.nil)
          go_simp
          show K _ _
          clear hHeld
          refine hK.out _ _ (⟨(((Stp.refl (fun _ => False) wr).drew).alloc _).cell hcell1 id, (((Stp.refl (fun _ => False) wr).drew).alloc _).cell hcell2 id⟩) (fun hHeld => ?_)
          clear hK K
          try simp only [Act.put, List.setIfInBounds_toArray, List.set_cons_zero, List.set_cons_succ]
          refine wpAnyH_ready (rs := [16]) (by kernel_rfl) (by simp) ?_
          refine (AllReadyH.cons (o := { dst := some 74, op := Op.call { callee := Callee.builtin Builtin.append, args := #[Operand.tmp 59, Operand.tmp 73], argTypes := #[27, 27] }, type := 27, pos := "ref.go:37", after := #[{ on := 1, ground := Ground.data }, { on := 15, ground := Ground.data }], guard := none }) rfl (fun K hK => ?_) AllReadyH.nil)
          refine op_appendRd (Value.int .i64) (h1e := fun _ => rfl) (M := fun _ => False) (ys := [(a[p].toNat : Int) * 256 + (a[p + 1].toNat : Int)]) _ _ _ (by rfl) Tryz.underlying27 info_int (by rfl) ((HO.out.stp0 ((Stp.refl _ _).drew)).stp0 ((Stp.refl _ _).alloc _)) (Rd.lit (W := wr.drew) [(a[p].toNat : Int) * 256 + (a[p + 1].toNat : Int)] #[.int .i64 ((a[p].toNat : Int) * 256 + (a[p + 1].toNat : Int))] rfl (by simp) id) (by rfl) (by rfl) (by simp; omega) (by simp; omega) (by simp; omega) ?_
          intro v9 w9 ho9 hg9
          obtain ⟨ys, hys⟩ : ∃ ys, ys = xs ++ [(a[p].toNat : Int) * 256 + (a[p + 1].toNat : Int)] := ⟨_, rfl⟩
          rw [← hys] at ho9
          obtain ⟨A19, c19, rfl, hle19⟩ := ho9.form
          have HYS := Lib.hid hys
          have HS9 := Lib.hid (((HS.out.drew).alloc _).grown hg9 (fun k hk he => by have := (HO.out.lt k hk).1; omega))
          have hb9 := HBr.out.step (S := fun k => wc.heap.size ≤ k) ((((Stp.refl _ _).drew).alloc _).grown hg9 (fun k hk he => (HO.out.lt k hk).1)) (by omega)
          have HO9 := Lib.hid ho9
          have hf9 := hb9.free 34
          obtain ⟨-, -, c349, -⟩ := hb9.cells
          have HB9 := Lib.hid hb9
          have HR9 := Lib.hid (HC11.out.step HS9.out (fun k hk he => by omega))
          have HS10 := Lib.hid ((Stp.refl (fun k => k = gh) w9).setg 34 (.slice A19 ys.length c19))
          have HR10 := Lib.hid (HR9.out.step HS10.out (fun k hk he => by omega))
          clear ho9 hg9 hb9 hys
          show K _ _
          clear hHeld
          refine hK.out _ _ (⟨plain_cell2 HR9.out p hlt, by rw [← HADD.out]; exact plain_cell2 HR9.out (p + 1) hlt2⟩) (fun hHeld => ?_)
          clear hK K
          try simp only [Act.put, List.setIfInBounds_toArray, List.set_cons_zero, List.set_cons_succ]
          refine rg_take (i := 17) (o := { dst := some 75, op := Op.fieldAddr 69 (Operand.tmp 5) 3, type := 0, pos := "ref.go:37", after := #[{ on := 0, ground := Ground.phase }, { on := 1, ground := Ground.phase }, { on := 2, ground := Ground.phase }, { on := 3, ground := Ground.phase }, { on := 4, ground := Ground.phase }, { on := 5, ground := Ground.phase }, { on := 6, ground := Ground.phase }, { on := 7, ground := Ground.phase }, { on := 8, ground := Ground.phase }, { on := 9, ground := Ground.phase }, { on := 10, ground := Ground.phase }, { on := 11, ground := Ground.phase }, { on := 12, ground := Ground.phase }, { on := 13, ground := Ground.phase }, { on := 14, ground := Ground.phase }, { on := 15, ground := Ground.phase }, { on := 16, ground := Ground.phase }], guard := none }) (v := ?rgv18) rfl (by kernel_rfl) (by kernel_rfl) (by kernel_rfl) (fun _ _ _ h => h) (by rfl) (fun w hSw => ?rgy18) hHeld ?_
          case rgy18 => (try dsimp only at hSw); first | (go_simp; done) | (go_simp; with_reducible rfl)
          try simp only [Act.put, List.setIfInBounds_toArray, List.set_cons_zero, List.set_cons_succ]
          refine wpAnyH_ready (rs := [18]) (by kernel_rfl) (by simp) ?_
          refine (AllReadyH.cons (o := { dst := none, op := Op.store 27 (Operand.tmp 75) (Operand.tmp 74), type := 0, pos := "ref.go:37", after := #[{ on := 17, ground := Ground.data }, { on := 16, ground := Ground.data }, { on := 16, ground := Ground.chain }, { on := 0, ground := Ground.phase }, { on := 1, ground := Ground.phase }, { on := 2, ground := Ground.phase }, { on := 3, ground := Ground.phase }, { on := 4, ground := Ground.phase }, { on := 5, ground := Ground.phase }, { on := 6, ground := Ground.phase }, { on := 7, ground := Ground.phase }, { on := 8, ground := Ground.phase }, { on := 9, ground := Ground.phase }, { on := 10, ground := Ground.phase }, { on := 11, ground := Ground.phase }, { on := 12, ground := Ground.phase }, { on := 13, ground := Ground.phase }, { on := 14, ground := Ground.phase }, { on := 15, ground := Ground.phase }, { on := 16, ground := Ground.phase }], guard := none }) rfl (fun K hK => ?_) AllReadyH.nil)
          go_simp
          clear hHeld
          refine hK.out _ _ (⟨plain_cell2 HR10.out p hlt, by rw [← HADD.out]; exact plain_cell2 HR10.out (p + 1) hlt2⟩) (fun hHeld => ?_)
          clear hK K
          try simp only [Act.put, List.setIfInBounds_toArray, List.set_cons_zero, List.set_cons_succ]
          clear hHeld
          refine wpAnyH_done (by kernel_rfl) ?_ _
          go_wp2
          go_roundw
          case rel => (refine ⟨p + 2, ys, _, by omega, by omega, by go_num, ?_, by rw [HYS.out]; simp; omega, HO9.out.step HS10.out (fun k hk he => by have := (HO9.out.lt k hk).1; omega), HB9.out.set34 _ _, HS9.out.then_ HS10.out (fun k hk he => he)⟩; rw [HM.out, HDR.out, HYS.out]; simp [twos])
          case measure => simp [intOf]; omega
        · skip
          go_simp
          show K _ _
          clear hHeld
          refine hK.out _ _ (⟨(((Stp.refl (fun _ => False) wr).drew).alloc _).cell hcell1 id, (((Stp.refl (fun _ => False) wr).drew).alloc _).cell hcell2 id⟩) (fun hHeld => ?_)
          clear hK K
          try simp only [Act.put, List.setIfInBounds_toArray, List.set_cons_zero, List.set_cons_succ]
          refine wpAnyH_ready (rs := [1]) (by kernel_rfl) (by simp) ?_
          refine (AllReadyH.cons (o := { dst := some 59, op := Op.load 27 (Operand.tmp 58), type := 27, pos := "ref.go:37", after := #[{ on := 0, ground := Ground.data }], guard := none }) rfl (fun K hK => ?_) AllReadyH.nil)
          go_simp
          show K _ _
          clear hHeld
          refine hK.out _ _ (by first | exact ⟨(((Stp.refl (fun _ => False) wr).drew).alloc _).cell hcell1 id, (((Stp.refl (fun _ => False) wr).drew).alloc _).cell hcell2 id⟩ | exact ⟨hcell1, hcell2⟩) (fun hHeld => ?_)
          clear hK K
          try simp only [Act.put, List.setIfInBounds_toArray, List.set_cons_zero, List.set_cons_succ]
          refine wpAnyH_ready (rs := [16]) (by kernel_rfl) (by simp) ?_
          refine (AllReadyH.cons (o := { dst := some 74, op := Op.call { callee := Callee.builtin Builtin.append, args := #[Operand.tmp 59, Operand.tmp 73], argTypes := #[27, 27] }, type := 27, pos := "ref.go:37", after := #[{ on := 1, ground := Ground.data }, { on := 15, ground := Ground.data }], guard := none }) rfl (fun K hK => ?_) AllReadyH.nil)
          refine op_appendRd (Value.int .i64) (h1e := fun _ => rfl) (M := fun _ => False) (ys := [(a[p].toNat : Int) * 256 + (a[p + 1].toNat : Int)]) _ _ _ (by rfl) Tryz.underlying27 info_int (by rfl) ((HO.out.stp0 ((Stp.refl _ _).drew)).stp0 ((Stp.refl _ _).alloc _)) (Rd.lit (W := wr.drew) [(a[p].toNat : Int) * 256 + (a[p + 1].toNat : Int)] #[.int .i64 ((a[p].toNat : Int) * 256 + (a[p + 1].toNat : Int))] rfl (by simp) id) (by rfl) (by rfl) (by simp; omega) (by simp; omega) (by simp; omega) ?_
          intro v9 w9 ho9 hg9
          obtain ⟨ys, hys⟩ : ∃ ys, ys = xs ++ [(a[p].toNat : Int) * 256 + (a[p + 1].toNat : Int)] := ⟨_, rfl⟩
          rw [← hys] at ho9
          obtain ⟨A19, c19, rfl, hle19⟩ := ho9.form
          have HYS := Lib.hid hys
          have HS9 := Lib.hid (((HS.out.drew).alloc _).grown hg9 (fun k hk he => by have := (HO.out.lt k hk).1; omega))
          have hb9 := HBr.out.step (S := fun k => wc.heap.size ≤ k) ((((Stp.refl _ _).drew).alloc _).grown hg9 (fun k hk he => (HO.out.lt k hk).1)) (by omega)
          have HO9 := Lib.hid ho9
          have hf9 := hb9.free 34
          obtain ⟨-, -, c349, -⟩ := hb9.cells
          have HB9 := Lib.hid hb9
          have HR9 := Lib.hid (HC11.out.step HS9.out (fun k hk he => by omega))
          have HS10 := Lib.hid ((Stp.refl (fun k => k = gh) w9).setg 34 (.slice A19 ys.length c19))
          have HR10 := Lib.hid (HR9.out.step HS10.out (fun k hk he => by omega))
          clear ho9 hg9 hb9 hys
          show K _ _
          clear hHeld
          refine hK.out _ _ (⟨plain_cell2 HR9.out p hlt, by rw [← HADD.out]; exact plain_cell2 HR9.out (p + 1) hlt2⟩) (fun hHeld => ?_)
          clear hK K
          try simp only [Act.put, List.setIfInBounds_toArray, List.set_cons_zero, List.set_cons_succ]
          refine rg_take (i := 17) (o := { dst := some 75, op := Op.fieldAddr 69 (Operand.tmp 5) 3, type := 0, pos := "ref.go:37", after := #[{ on := 0, ground := Ground.phase }, { on := 1, ground := Ground.phase }, { on := 2, ground := Ground.phase }, { on := 3, ground := Ground.phase }, { on := 4, ground := Ground.phase }, { on := 5, ground := Ground.phase }, { on := 6, ground := Ground.phase }, { on := 7, ground := Ground.phase }, { on := 8, ground := Ground.phase }, { on := 9, ground := Ground.phase }, { on := 10, ground := Ground.phase }, { on := 11, ground := Ground.phase }, { on := 12, ground := Ground.phase }, { on := 13, ground := Ground.phase }, { on := 14, ground := Ground.phase }, { on := 15, ground := Ground.phase }, { on := 16, ground := Ground.phase }], guard := none }) (v := ?rgv19) rfl (by kernel_rfl) (by kernel_rfl) (by kernel_rfl) (fun _ _ _ h => h) (by rfl) (fun w hSw => ?rgy19) hHeld ?_
          case rgy19 => (try dsimp only at hSw); first | (go_simp; done) | (go_simp; with_reducible rfl)
          try simp only [Act.put, List.setIfInBounds_toArray, List.set_cons_zero, List.set_cons_succ]
          refine wpAnyH_ready (rs := [18]) (by kernel_rfl) (by simp) ?_
          refine (AllReadyH.cons (o := { dst := none, op := Op.store 27 (Operand.tmp 75) (Operand.tmp 74), type := 0, pos := "ref.go:37", after := #[{ on := 17, ground := Ground.data }, { on := 16, ground := Ground.data }, { on := 16, ground := Ground.chain }, { on := 0, ground := Ground.phase }, { on := 1, ground := Ground.phase }, { on := 2, ground := Ground.phase }, { on := 3, ground := Ground.phase }, { on := 4, ground := Ground.phase }, { on := 5, ground := Ground.phase }, { on := 6, ground := Ground.phase }, { on := 7, ground := Ground.phase }, { on := 8, ground := Ground.phase }, { on := 9, ground := Ground.phase }, { on := 10, ground := Ground.phase }, { on := 11, ground := Ground.phase }, { on := 12, ground := Ground.phase }, { on := 13, ground := Ground.phase }, { on := 14, ground := Ground.phase }, { on := 15, ground := Ground.phase }, { on := 16, ground := Ground.phase }], guard := none }) rfl (fun K hK => ?_) AllReadyH.nil)
          go_simp
          clear hHeld
          refine hK.out _ _ (⟨plain_cell2 HR10.out p hlt, by rw [← HADD.out]; exact plain_cell2 HR10.out (p + 1) hlt2⟩) (fun hHeld => ?_)
          clear hK K
          try simp only [Act.put, List.setIfInBounds_toArray, List.set_cons_zero, List.set_cons_succ]
          clear hHeld
          refine wpAnyH_done (by kernel_rfl) ?_ _
          go_wp2
          go_roundw
          case rel => (refine ⟨p + 2, ys, _, by omega, by omega, by go_num, ?_, by rw [HYS.out]; simp; omega, HO9.out.step HS10.out (fun k hk he => by have := (HO9.out.lt k hk).1; omega), HB9.out.set34 _ _, HS9.out.then_ HS10.out (fun k hk he => he)⟩; rw [HM.out, HDR.out, HYS.out]; simp [twos])
          case measure => simp [intOf]; omega
      · obtain rfl : p = a.length := by omega
        have hx : xs = twos a := by rw [HM.out]; simp [twos]
        subst hx
        have hbF : HlB wr gh (hlF b) us v34 um (.slice none 0 0) := by
          have : { hlF b with cip := twos a } = hlF b := by rw [HFA.out]; rfl
          rw [← this]
          exact HBr.out
        have HBF := Lib.hid hbF
        have HIr := Lib.hid (HI11.out.step HS.out (fun k hk he => ⟨by omega, by omega⟩))
        have HQr := Lib.hid (HQ11.out.step HS.out (by omega))
        have HVr := Lib.hid (HV11.out.step HS.out (fun k hk he => by omega))
        have HMr := Lib.hid (HM11.out.step HS.out (fun k hk he => by omega))
        have HCr := Lib.hid (HO.out.rd (h1 := fun _ => rfl) (M := fun k => k ≤ gh) (fun k hk h => by have := (HO.out.lt k hk).1; omega))
        have HSr := Lib.hid (HS11.out.then_ HS.out (fun k hk he => by rw [E0.out] at hk; omega))
        have hv34 : v34.oneCell' = true := by obtain ⟨_, _, rfl, _⟩ := HO.out.form; rfl
        clear hbF hoff hle9 HC11 HV11 HM11 HI11 HQ11 HS11 HBr HB hxl
        go_wp2_with (go_at_call 122; refine stopc ?_)
        refine Stop.go ?_
        refine (leftR_any _ gr _ _ HIr.out).mono ?_
        rintro e w12 ⟨rfl, hs12⟩
        have HI12 := Lib.hid (HIr.out.stp0 hs12)
        have HQ12 := Lib.hid (HQr.out.stp0 hs12)
        have HB12 := Lib.hid (HBF.out.stp0 hs12)
        have HV12 := Lib.hid (HVr.out.stp0 hs12)
        have HM12 := Lib.hid (HMr.out.stp0 hs12)
        have HC12 := Lib.hid (HCr.out.stp0 hs12)
        have HS12 := Lib.hid (HSr.out.trans hs12)
        have HV34 := Lib.hid hv34
        clear hs12 HIr HQr HBF HVr HMr HCr HSr hv34 HS HO
        by_cases hz : (rd5 b).2.1.length = 0
        · have hlz : laidS b = some (hlF b) := by rw [HLF.out, if_pos hz]
          have hz' : (((rd5 b).2.1.length : Int) == 0) = true := by simpa using hz
          have HLZ := Lib.hid hlz
          clear hlz
          clear hz
          go_wp2_with (with_reducible refine stop (N := 79) rfl ?_)
          refine Stop.go ?_
          refine wpList_load_row rfl _ _ rfl gh rfl _ (hlV (hlF b) us v34 um (.slice none 0 0)).toArray (0, 0) _ HB12.out.1 Tryz.underlying69 rfl (by rw [List.size_toArray, (hlV_at HB12.out.2).1]; kernel_rfl) ?_
          have hszF : (Tryz.prog.info? 69).map (·.size) = some (hlV (hlF b) us v34 um (.slice none 0 0)).toArray.size := by rw [List.size_toArray, (hlV_at HB12.out.2).1]; exact size_hello
          have HSZ := Lib.hid hszF
          clear hszF
          refine wpList_store_row rfl _ _ _ rfl g0 _ rfl rfl _ _ HQ12.out.1 HSZ.out (by rw [List.size_toArray, List.size_toArray, (hlV_at HB12.out.2).1]; rfl) (hlV_one HUS.out HV34.out HUM.out rfl) ?_
          go_wp2
          try simp only [Exit.inBlock, Exit.then]
          refine bodyPost_ret (results_row9 rfl _ _ g0 _ _ _ _ rfl (HQ12.out.row HB12.out.2).1 Tryz.underlying69 rfl HSZ.out) rfl ?_
          have hs13 := (Stp.refl (fun k => k = g0) w12).setRow (fun _ => rfl) (hlV (hlF b) us v34 um (.slice none 0 0)).toArray
          rw [HR.out]
          refine ⟨_, by rw [HLZ.out]; rfl, ?_, HS12.out.then_ hs13 (fun k hk he => by rw [E0.out] at hk; omega)⟩
          rw [HLZ.out]
          refine ⟨us, v34, um, _, rfl, HB12.out.2, (HV12.out.step hs13 (fun k hk he => by omega)).weak (by decide) (fun k hk h => by rw [E0.out] at h; omega), ?_, (HM12.out.step hs13 (fun k hk he => by omega)).weak (by decide) (fun k hk h => by rw [E0.out] at h; omega), Rd.nil _ _ _⟩
          have := (HC12.out.step hs13 (fun k hk he => by omega)).weak (M' := fun k => k < w.heap.size) (by decide) (fun k hk h => by rw [E0.out] at h; omega)
          rw [HFA.out] at this
          exact this
        · have hlz : laidS b = if okX b then some { hlF b with has := true, exs := (extS (rd6 b).1).1 } else none := by rw [HLF.out, if_neg hz]
          have hz' : (((rd5 b).2.1.length : Int) == 0) = false := by simpa using hz
          have HLZ := Lib.hid hlz
          clear hlz
          have HFA2 := Lib.hid HFA.out
          clear hz HLF HFA
          go_wp2_with (go_at_call 121; refine stopc ?_)
          refine Stop.go ?_
          refine (rvecR_any _ gr _ _ _ HI12.out).mono ?_
          rintro e w13 ⟨v13, rfl, ho13, hi13, hs13⟩
          replace ho13 : Own enc8 5 w12.heap.size w13 v13 (rd6 b).1 := ho13
          have hl6 : (rd6 b).1.length ≤ 1000000000 := Nat.le_trans (rvec_len1 _ _) HL5.out
          obtain ⟨A13, c13, rfl, hle13⟩ := ho13.form
          have HI13 := Lib.hid (show IsRf (fun k => g0 ≤ k ∧ k ≠ gr) w13 gr (rd6 b).2 from hi13)
          have hgw12 : gh < w12.heap.size := HB12.out.lt
          have HX13 := Lib.hid (ho13.rd (h1 := fun _ => rfl) (M := fun _ => False) (fun _ _ => id))
          have HQ13 := Lib.hid (HQ12.out.step hs13 (by omega))
          have HB13 := Lib.hid (HB12.out.step hs13 (by omega))
          have HV13 := Lib.hid (HV12.out.step hs13 (fun k hk he => by omega))
          have HM13 := Lib.hid (HM12.out.step hs13 (fun k hk he => by omega))
          have HC13 := Lib.hid (HC12.out.step hs13 (fun k hk he => by omega))
          have HS13 := Lib.hid (HS12.out.then_ hs13 (fun k hk he => by rw [E0.out] at hk; omega))
          have HL6 := Lib.hid hl6
          have hgw13 : gh < w13.heap.size := HB13.out.lt
          clear ho13 hi13 hs13 HI12 HQ12 HB12 HV12 HM12 HC12 HS12 hz' hl6
          go_wp2_with (go_at_call 123; refine stopc ?_)
          refine Stop.go ?_
          refine (extR_any _ _ _ _ HX13.out HL6.out).mono ?_
          rintro e w14 ⟨v14, rfl, hx14, hs14⟩
          obtain ⟨X, hX⟩ : ∃ X, X = if (extS (rd6 b).1).2 = true then (extS (rd6 b).1).1 else [] := ⟨_, rfl⟩
          rw [← hX] at hx14
          have hx14' := hx14.weak (M' := fun k => k ≤ gh) (by decide) (fun k hk h => by omega)
          obtain ⟨A14, c14, rfl, hle14⟩ := hx14'.form
          have HI14 := Lib.hid (HI13.out.stp0 hs14)
          have HQ14 := Lib.hid (HQ13.out.stp0 hs14)
          have HB14 := Lib.hid (HB13.out.stp0 hs14)
          have HV14 := Lib.hid (HV13.out.stp0 hs14)
          have HM14 := Lib.hid (HM13.out.stp0 hs14)
          have HC14 := Lib.hid (HC13.out.stp0 hs14)
          have HS14 := Lib.hid (HS13.out.trans hs14)
          have HX14 := Lib.hid hx14'
          have HXX := Lib.hid hX
          have hoff := HI14.out.off
          obtain ⟨ok, hok⟩ : ∃ ok, ok = (extS (rd6 b).1).2 := ⟨_, rfl⟩
          rw [← hok] at hX ⊢
          have HOK := Lib.hid hok
          clear hx14 hx14' hs14 hX HX13 HI13 HQ13 HB13 HV13 HM13 HC13 HS13 hle13 hok
          go_upto_region 18 with fail
          obtain ⟨t2, ht2⟩ : ∃ t2 : Bool, t2 = !decide (okX b) := ⟨_, rfl⟩
          have HT2 := Lib.hid ht2
          clear ht2
          go_cut [99] (fun t wx => t = .bool t2 ∧ Stp (fun _ => False) w14 wx)
          case first =>
            by_cases z1 : (rd6 b).2.2 = true
            · rw [z1] at hoff
              have hno : ¬ okX b := fun h => by have := h.1; rw [z1] at this; cases this
              have HNO := Lib.hid hno
              have Z1 := Lib.hid z1
              clear hno z1
              go_wp2_with fail
              go_meet
              exact ⟨by rw [HT2.out]; simp [HNO.out], Stp.refl _ _⟩
            have z1' : (rd6 b).2.2 = false := by simpa using z1
            rw [z1'] at hoff
            clear z1
            by_cases z2 : 0 < (rd6 b).2.1.length
            · have hno : ¬ okX b := fun h => by have := h.2.1; omega
              have HNO := Lib.hid hno
              have Z1' := Lib.hid z1'
              clear hno z1'
              go_wp2_with (go_at_call 122; refine stopc ?_)
              refine Stop.go ?_
              refine (leftR_any _ gr _ _ HI14.out).mono ?_
              rintro e w15 ⟨rfl, hs15⟩
              have HS15 := Lib.hid hs15
              clear hs15
              go_wp2_with fail
              go_meet
              exact ⟨by rw [HT2.out]; simp [HNO.out], HS15.out⟩
            have z2' : (rd6 b).2.1.length = 0 := by omega
            cases ok with
            | false =>
              have hno : ¬ okX b := fun h => by have := h.2.2; rw [← HOK.out] at this; cases this
              have HNO := Lib.hid hno
              have Z1' := Lib.hid z1'
              clear hno z1'
              go_wp2_with (go_at_call 122; refine stopc ?_)
              refine Stop.go ?_
              refine (leftR_any _ gr _ _ HI14.out).mono ?_
              rintro e w15 ⟨rfl, hs15⟩
              have HS15 := Lib.hid hs15
              clear hs15
              go_wp2_with fail
              go_meet
              exact ⟨by rw [HT2.out]; simp [HNO.out], HS15.out⟩
            | true =>
              have hyes : okX b := ⟨z1', z2', HOK.out.symm⟩
              have HYES := Lib.hid hyes
              have Z1' := Lib.hid z1'
              clear hyes z1'
              go_wp2_with (go_at_call 122; refine stopc ?_)
              refine Stop.go ?_
              refine (leftR_any _ gr _ _ HI14.out).mono ?_
              rintro e w15 ⟨rfl, hs15⟩
              have HS15 := Lib.hid hs15
              clear hs15
              go_wp2_with fail
              go_meet
              exact ⟨by rw [HT2.out]; simp [HYES.out], HS15.out⟩
          case rest =>
            obtain ⟨rfl, hs15⟩ := hcut
            have HQ15 := Lib.hid (HQ14.out.stp0 hs15)
            have HB15 := Lib.hid (HB14.out.stp0 hs15)
            have HV15 := Lib.hid (HV14.out.stp0 hs15)
            have HM15 := Lib.hid (HM14.out.stp0 hs15)
            have HC15 := Lib.hid (HC14.out.stp0 hs15)
            have HX15 := Lib.hid (HX14.out.stp0 hs15)
            have HS15 := Lib.hid (HS14.out.trans hs15)
            clear hs15 HQ14 HB14 HV14 HM14 HC14 HX14 HS14 hoff HI14
            by_cases hF : okX b
            case neg =>
              rw [if_neg hF] at HLZ
              obtain rfl : t2 = true := by rw [HT2.out]; simp [hF]
              have HF := Lib.hid hF
              clear hF
              go_wp2_with (with_reducible refine stop (N := 100) rfl ?_)
              refine Stop.go ?_
              refine wpList_val9 (v := .agg (hlV hl0 (.slice none 0 0) (.slice none 0 0) (.slice none 0 0) (.slice none 0 0)).toArray) rfl (by kernel_rfl) ?_
              refine wpList_store_row rfl _ _ _ rfl g0 _ rfl rfl _ _ HQ15.out.1 size_hello (by rfl) (hlV_one rfl rfl rfl rfl) ?_
              go_wp2
              try simp only [Exit.inBlock, Exit.then]
              refine bodyPost_ret (results_row9 rfl _ _ g0 _ _ _ _ rfl (HQ15.out.row (h' := hl0) (us := .slice none 0 0) (uc := .slice none 0 0) (um := .slice none 0 0) (ux := .slice none 0 0) (by simp [hl0])).1 Tryz.underlying69 rfl size_hello) rfl ?_
              rw [HR.out]
              refine ⟨_, by rw [HLZ.out]; rfl, ?_, HS15.out.setRow (by rw [E0.out]; omega) _⟩
              rw [HLZ.out]
              exact ⟨_, _, _, _, rfl, by simp [hl0], Rd.nil _ _ _, Rd.nil _ _ _, Rd.nil _ _ _, Rd.nil _ _ _⟩
            rw [if_pos hF] at HLZ
            obtain rfl : t2 = false := by rw [HT2.out]; simp [hF]
            have hXX : X = (extS (rd6 b).1).1 := by rw [HXX.out]; first | rw [if_pos hF.2.2] | rw [HOK.out, if_pos hF.2.2]
            have f36 := HB15.out.free 36
            obtain ⟨-, -, -, -, c36, -⟩ := HB15.out.cells
            have hb16 := HB15.out.set36 true
            have f37 := hb16.free 37
            obtain ⟨-, -, -, -, -, c37⟩ := hb16.cells
            have hb17 := hb16.set37 (.slice A14 X.length c14) (extS (rd6 b).1).1
            have hs17 := ((Stp.refl (fun k => k = gh) wc).setg 36 (.bool true)).setg 37 (.slice A14 X.length c14)
            have hs17' : HlB _ gh { hlF b with has := true, exs := (extS (rd6 b).1).1 } us v34 um (.slice A14 X.length c14) := hb17
            have HQ17 := Lib.hid (HQ15.out.step hs17 (by omega))
            have HV17 := Lib.hid (HV15.out.step hs17 (fun k hk he => by omega))
            have HM17 := Lib.hid (HM15.out.step hs17 (fun k hk he => by omega))
            have HC17 := Lib.hid (HC15.out.step hs17 (fun k hk he => by omega))
            have HX17 := Lib.hid (HX15.out.step hs17 (fun k hk he => by omega))
            have HS17 := Lib.hid (HS15.out.then_ hs17 (fun k hk he => by rw [E0.out] at hk; omega))
            have HB17 := Lib.hid hs17'
            clear hs17 hs17' hb16 hb17 hF
            have HXE := Lib.hid hXX
            clear hXX
            go_wp2_with (with_reducible refine stop (N := 104) rfl ?_)
            refine Stop.go ?_
            refine wpList_load_row rfl _ _ rfl gh rfl _ (hlV { hlF b with has := true, exs := (extS (rd6 b).1).1 } us v34 um (.slice A14 X.length c14)).toArray (0, 0) _ HB17.out.1 Tryz.underlying69 rfl (by rw [List.size_toArray, (hlV_at HB17.out.2).1]; kernel_rfl) ?_
            have hszF : (Tryz.prog.info? 69).map (·.size) = some (hlV { hlF b with has := true, exs := (extS (rd6 b).1).1 } us v34 um (.slice A14 X.length c14)).toArray.size := by rw [List.size_toArray, (hlV_at HB17.out.2).1]; exact size_hello
            have HSZ := Lib.hid hszF
            clear hszF
            refine wpList_store_row rfl _ _ _ rfl g0 _ rfl rfl _ _ HQ17.out.1 HSZ.out (by rw [List.size_toArray, List.size_toArray, (hlV_at HB17.out.2).1]; rfl) (hlV_one HUS.out HV34.out HUM.out rfl) ?_
            go_wp2
            try simp only [Exit.inBlock, Exit.then]
            refine bodyPost_ret (results_row9 rfl _ _ g0 _ _ _ _ rfl (HQ17.out.row HB17.out.2).1 Tryz.underlying69 rfl HSZ.out) rfl ?_
            obtain ⟨w17, hw17⟩ : ∃ w17, w17 = (wc.setCell ⟨gh, 36, none⟩ (.bool true)).setCell ⟨gh, 37, none⟩ (.slice A14 X.length c14) := ⟨_, rfl⟩
            rw [← hw17] at HB17 HV17 HM17 HC17 HX17 HS17 ⊢
            have hs18 := (Stp.refl (fun k => k = g0) w17).setRow (fun _ => rfl) (hlV { hlF b with has := true, exs := (extS (rd6 b).1).1 } us v34 um (.slice A14 X.length c14)).toArray
            rw [HR.out]
            refine ⟨_, by rw [HLZ.out]; rfl, ?_, HS17.out.then_ hs18 (fun k hk he => by rw [E0.out] at hk; omega)⟩
            rw [HLZ.out]
            refine ⟨us, v34, um, _, rfl, HB17.out.2, (HV17.out.step hs18 (fun k hk he => by omega)).weak (by decide) (fun k hk h => by rw [E0.out] at h; omega), ?_, (HM17.out.step hs18 (fun k hk he => by omega)).weak (by decide) (fun k hk h => by rw [E0.out] at h; omega), ?_⟩
            · have := (HC17.out.step hs18 (fun k hk he => by omega)).weak (M' := fun k => k < w.heap.size) (by decide) (fun k hk h => by rw [E0.out] at h; omega)
              rw [HFA2.out] at this
              exact this
            · have := (HX17.out.step hs18 (fun k hk he => by omega)).weak (M' := fun k => k < w.heap.size) (by decide) (fun k hk h => by rw [E0.out] at h; omega)
              rw [HXE.out] at this
              rw [HXE.out]
              exact this
end Go.Proofs.YtligofmhbbgalaaGreatDoor.L
