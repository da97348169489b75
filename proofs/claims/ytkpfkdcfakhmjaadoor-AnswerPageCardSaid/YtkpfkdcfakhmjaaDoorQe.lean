/- Layer 22: what bytes tell. -/
import Derived.Test.YtkpfkdcfakhmjaaDoorQd
import Derived.OwnWalk
set_option linter.unusedVariables false
set_option linter.unusedSimpArgs false
namespace Go.Proofs.YtkpfkdcfakhmjaaDoor.L
open Go.RowKit Go.Proofs

/-- What bytes tell. -/
def readS (b : List UInt8) : Int × Int × Bool :=
  if b.length = 7 ∧ b.take 6 = [21, 3, 3, 0, 2, 2] then (1, ((b.getD 6 0).toNat : Int), true) else if b = page400 then (2, 400, true) else if b = page403 then (2, 403, true) else (0, 0, false)
def readV (b : List UInt8) : Value := .tuple #[.int .i64 (readS b).1, .int .i64 (readS b).2.1, .bool (readS b).2.2]
def ReadRet (w : World) (b : List UInt8) (e : Ending) (w' : World) : Prop := e = .returned (readV b) ∧ Stp (fun _ => False) w w'
theorem readV400 : readV page400 = .tuple #[.int .i64 2, .int .i64 400, .bool true] := by
  unfold readV
  rw [show readS page400 = (2, 400, true) by decide]
theorem readV403 : readV page403 = .tuple #[.int .i64 2, .int .i64 403, .bool true] := by
  unfold readV
  rw [show readS page403 = (2, 403, true) by decide]
theorem beq_strB (x y : List UInt8) : ((strB x).toList == (strB y).toList) = decide (x = y) := by
  rw [Bool.eq_iff_iff, beq_iff_eq, decide_eq_true_eq, ByteArray.toList_eq, ByteArray.toList_eq]
  simp [strB]
theorem cut6 (A : Option Addr) (c : Nat) (hc : 7 ≤ c) : (∀ W : World, (Instr.slice 34 (.slice A 7 c) none (some (.int .i64 6)) none).run Tryd.prog W = .ok (.slice A 6 c) W) ∧ ∀ (M : Nat → Prop) (W : World) (xs : List UInt8), Rd u8 M W (.slice A 7 c) xs → Rd u8 M W (.slice A 6 c) (xs.take 6) :=
  have h := cut_hi (P := Tryd.prog) u8 34 5 Tryd.underlying34 size_u8 A 7 c 6 (by omega) hc
  ⟨fun W => h.1 W .i64, h.2⟩

theorem plain_cell2 {α : Type} {enc : α → Value} {h1 : ∀ x, (enc x).oneCell' = true} {M : Nat → Prop} {W : World} {xs : List α} {ad : Addr} {n c : Nat} (h : Rd (.plain enc h1) M W (.slice (some ad) n c) xs) (j : Nat) (hj : j < xs.length) : W.cell? (ad.add j) = some (enc xs[j]) := by
  obtain ⟨ad', h1, _, h2⟩ := plain_cell h j hj
  injection h1 with h1
  rw [h1]
  exact h2

set_option maxRecDepth 100000 in
set_option maxHeartbeats 4000000 in
theorem read_any (M : Nat → Prop) (v : Value) (b : List UInt8) (w : World) (hb : Rd u8 M w v b) (ht : TabP w) :
    Calls Tryd.prog 15 #[v] w (ReadRet w b) := by
  obtain ⟨A, c, rfl, hle⟩ := hb.form
  obtain ⟨n, hn⟩ : ∃ n, n = b.length := ⟨_, rfl⟩
  rw [← hn] at hb hle ⊢
  obtain ⟨R, hR⟩ : ∃ R, R = ReadRet w b := ⟨_, rfl⟩
  rw [← hR]
  have HR := Lib.hid hR
  have HB := Lib.hid hb
  have HN := Lib.hid hn
  have HT := Lib.hid ht
  clear hR hb hn ht
  go_enter Tryd.func15, Tryd.ntmps15
  go_wp2_with (go_at_call 19; refine stopc ?_)
  refine Stop.go ?_
  refine (record_any 0 _).mono ?_
  rintro e w1 ⟨v1, rfl, hr1, -, hs1⟩
  obtain ⟨A1, c1, rfl, hle1⟩ := hr1.form
  rw [show (recS 0).length = 7 from rfl] at hr1 hle1 ⊢
  have HS1 := Lib.hid hs1
  clear hs1
  clear hr1 hle1
  go_upto_if 26 with fail
  go_cut [26] (fun t26 wx => ∃ q : Bool, t26 = .bool q ∧ (q = true ↔ (n = 7 ∧ b.take 6 = [21, 3, 3, 0, 2, 2])) ∧ Stp (fun _ => False) w wx)
  case first =>
    by_cases h7 : n = 7
    · subst h7
      have hb := HB.out
      obtain ⟨-, -, -, ha⟩ := hb.at_
      obtain ⟨ad, rfl, -⟩ := ha (by rw [← HN.out]; decide)
      clear ha
      obtain ⟨hct1, hct2⟩ := cut6 (some ad) c hle
      have hk : ∀ w', Stp (fun _ => False) w1 w' → convB w' (.slice (some ad) 6 c) (b.take 6) := fun w' h => conv_of (hct2 _ _ _ ((HB.out.stp0 HS1.out).stp0 h))
      obtain ⟨q, hq⟩ : ∃ q, q = decide (b.take 6 = [21, 3, 3, 0, 2, 2]) := ⟨_, rfl⟩
      have heq : ((strB (b.take 6)).toList == (strB [21, 3, 3, 0, 2, 2]).toList) = q := by rw [beq_strB, hq]
      have HK := Lib.hid hk
      have HQ := Lib.hid hq
      clear hk hq
      clear hb hct2
      refine wp_region_held_drew (S := (fun w' => convB w' (.slice (some ad) 6 c) (b.take 6))) (by kernel_rfl) (HK.out _ (Stp.refl _ _).drew) (fun hHeld => ?_)
      try (change wpAnyH _ _ _ _ _ _ _ _ (World.drew _))
      refine rg_take (i := 0) (o := { dst := some 11, op := Op.move (Operand.tmp 0), type := 34, pos := "answer.go:86", after := #[], guard := none }) (v := ?rgv1) rfl (by kernel_rfl) (by kernel_rfl) (by kernel_rfl) (fun _ _ _ h => h) (by rfl) (fun w hSw => ?rgy1) hHeld ?_
      case rgy1 => (try dsimp only at hSw); first | (go_simp; done) | (go_simp; with_reducible rfl)
      try simp only [Act.put, List.setIfInBounds_toArray, List.set_cons_zero, List.set_cons_succ]
      refine rg_take (i := 1) (o := { dst := some 12, op := Op.call { callee := Callee.builtin Builtin.len, args := #[Operand.tmp 11], argTypes := #[34] }, type := 3, pos := "answer.go:86", after := #[{ on := 0, ground := Ground.data }], guard := none }) (v := ?rgv2) rfl (by kernel_rfl) (by kernel_rfl) (by kernel_rfl) (fun _ _ _ h => h) (by rfl) (fun w hSw => ?rgy2) hHeld ?_
      case rgy2 => (try dsimp only at hSw); first | (go_simp; done) | (go_simp; with_reducible rfl)
      try simp only [Act.put, List.setIfInBounds_toArray, List.set_cons_zero, List.set_cons_succ]
      refine rg_take (i := 2) (o := { dst := some 13, op := Op.move (Operand.tmp 5), type := 3, pos := "answer.go:86", after := #[], guard := none }) (v := ?rgv3) rfl (by kernel_rfl) (by kernel_rfl) (by kernel_rfl) (fun _ _ _ h => h) (by rfl) (fun w hSw => ?rgy3) hHeld ?_
      case rgy3 => (try dsimp only at hSw); first | (go_simp; done) | (go_simp; with_reducible rfl)
      try simp only [Act.put, List.setIfInBounds_toArray, List.set_cons_zero, List.set_cons_succ]
      refine rg_take (i := 3) (o := { dst := some 14, op := Op.binOp BinOp.add 3 (Operand.tmp 13) (Operand.const (Value.int IntKind.i64 1)) 3, type := 3, pos := "answer.go:86", after := #[{ on := 2, ground := Ground.data }], guard := none }) (v := ?rgv4) rfl (by kernel_rfl) (by kernel_rfl) (by kernel_rfl) (fun _ _ _ h => h) (by rfl) (fun w hSw => ?rgy4) hHeld ?_
      case rgy4 => (try dsimp only at hSw); first | (go_simp; done) | (go_simp; with_reducible rfl)
      try simp only [Act.put, List.setIfInBounds_toArray, List.set_cons_zero, List.set_cons_succ]
      refine rg_take (i := 4) (o := { dst := some 15, op := Op.binOp BinOp.eql 3 (Operand.tmp 12) (Operand.tmp 14) 3, type := 4, pos := "answer.go:86", after := #[{ on := 1, ground := Ground.data }, { on := 3, ground := Ground.data }], guard := none }) (v := ?rgv5) rfl (by kernel_rfl) (by kernel_rfl) (by kernel_rfl) (fun _ _ _ h => h) (by rfl) (fun w hSw => ?rgy5) hHeld ?_
      case rgy5 => (try dsimp only at hSw); first | (go_simp; done) | (go_simp; with_reducible rfl)
      try simp only [Act.put, List.setIfInBounds_toArray, List.set_cons_zero, List.set_cons_succ]
      refine rg_take (i := 5) (o := { dst := some 16, op := Op.move (Operand.tmp 15), type := 4, pos := "answer.go:86", after := #[{ on := 4, ground := Ground.data }], guard := none }) (v := ?rgv6) rfl (by kernel_rfl) (by kernel_rfl) (by kernel_rfl) (fun _ _ _ h => h) (by rfl) (fun w hSw => ?rgy6) hHeld ?_
      case rgy6 => (try dsimp only at hSw); first | (go_simp; done) | (go_simp; with_reducible rfl)
      try simp only [Act.put, List.setIfInBounds_toArray, List.set_cons_zero, List.set_cons_succ]
      refine rg_take (i := 6) (o := { dst := some 17, op := Op.move (Operand.tmp 0), type := 34, pos := "answer.go:86", after := #[{ on := 5, ground := Ground.guard }], guard := some (5, true) }) (v := ?rgv7) rfl (by kernel_rfl) (by kernel_rfl) (by kernel_rfl) (fun _ _ _ h => h) (by rfl) (fun w hSw => ?rgy7) hHeld ?_
      case rgy7 => (try dsimp only at hSw); first | (go_simp; done) | (go_simp; with_reducible rfl)
      try simp only [Act.put, List.setIfInBounds_toArray, List.set_cons_zero, List.set_cons_succ]
      refine rg_take (i := 7) (o := { dst := some 18, op := Op.move (Operand.tmp 5), type := 3, pos := "answer.go:86", after := #[{ on := 5, ground := Ground.guard }], guard := some (5, true) }) (v := ?rgv8) rfl (by kernel_rfl) (by kernel_rfl) (by kernel_rfl) (fun _ _ _ h => h) (by rfl) (fun w hSw => ?rgy8) hHeld ?_
      case rgy8 => (try dsimp only at hSw); first | (go_simp; done) | (go_simp; with_reducible rfl)
      try simp only [Act.put, List.setIfInBounds_toArray, List.set_cons_zero, List.set_cons_succ]
      refine rg_take (i := 8) (o := { dst := some 19, op := Op.slice 34 (Operand.tmp 17) none (some (Operand.tmp 18)) none, type := 34, pos := "answer.go:86", after := #[{ on := 6, ground := Ground.data }, { on := 7, ground := Ground.data }, { on := 5, ground := Ground.guard }], guard := some (5, true) }) (v := ?rgv9) rfl (by kernel_rfl) (by kernel_rfl) (by kernel_rfl) (fun _ _ _ h => h) (by rfl) (fun w hSw => ?rgy9) hHeld ?_
      case rgy9 => (try dsimp only at hSw); first | (go_simp; done) | (go_simp; with_reducible rfl)
      try simp only [Act.put, List.setIfInBounds_toArray, List.set_cons_zero, List.set_cons_succ]
      refine rg_take (i := 9) (o := { dst := some 20, op := Op.convert 34 9 (Operand.tmp 19), type := 9, pos := "answer.go:86", after := #[{ on := 8, ground := Ground.data }, { on := 5, ground := Ground.guard }], guard := some (5, true) }) (v := ?rgv10) rfl (by kernel_rfl) (by kernel_rfl) (by kernel_rfl) (fun _ _ _ h => h) (by rfl) (fun w hSw => ?rgy10) hHeld ?_
      case rgy10 => (try dsimp only at hSw); first | (go_simp; done) | (go_simp; with_reducible rfl)
      try simp only [Act.put, List.setIfInBounds_toArray, List.set_cons_zero, List.set_cons_succ]
      refine rg_take (i := 11) (o := { dst := some 22, op := Op.move (Operand.tmp 5), type := 3, pos := "answer.go:86", after := #[{ on := 5, ground := Ground.guard }], guard := some (5, true) }) (v := ?rgv11) rfl (by kernel_rfl) (by kernel_rfl) (by kernel_rfl) (fun _ _ _ h => h) (by rfl) (fun w hSw => ?rgy11) hHeld ?_
      case rgy11 => (try dsimp only at hSw); first | (go_simp; done) | (go_simp; with_reducible rfl)
      try simp only [Act.put, List.setIfInBounds_toArray, List.set_cons_zero, List.set_cons_succ]
      refine wpAnyH_ready (rs := [10]) (by kernel_rfl) (by simp) ?_
      refine (AllReadyH.cons (o := { dst := some 21, op := Op.call { callee := Callee.value (Operand.func 19), args := #[Operand.const (Value.int IntKind.i64 0)], argTypes := #[3] }, type := 34, pos := "answer.go:86", after := #[{ on := 5, ground := Ground.chain }, { on := 5, ground := Ground.guard }], guard := some (5, true) }) rfl (fun K hK => ?_) AllReadyH.nil)
      go_simp
      refine (record_any 0 _).mono ?_
      rintro e w2 ⟨v2, rfl, hr2, -, hs2⟩
      obtain ⟨A2, c2, rfl, hle2⟩ := hr2.form
      rw [show (recS 0).length = 7 from rfl] at hr2 hle2 ⊢
      obtain ⟨hcs1, hcs2⟩ := cut6 A2 c2 hle2
      have hk2 := conv_of (hcs2 _ _ _ hr2)
      have HS2 := Lib.hid ((Stp.refl (fun _ => False) w1).drew.trans hs2)
      clear hs2 hr2 hle2 hcs2
      show K _ _
      clear hHeld
      refine hK.out _ _ (HK.out _ HS2.out) (fun hHeld => ?_)
      clear hK K
      try simp only [Act.put, List.setIfInBounds_toArray, List.set_cons_zero, List.set_cons_succ]
      refine rg_more (T := (fun w' => convB w' (.slice A2 6 c2) [21, 3, 3, 0, 2, 2])) ?_
      replace hHeld := And.intro hHeld (hk2)
      refine rg_take (i := 12) (o := { dst := some 23, op := Op.slice 34 (Operand.tmp 21) none (some (Operand.tmp 22)) none, type := 34, pos := "answer.go:86", after := #[{ on := 10, ground := Ground.data }, { on := 11, ground := Ground.data }, { on := 5, ground := Ground.guard }], guard := some (5, true) }) (v := ?rgv12) rfl (by kernel_rfl) (by kernel_rfl) (by kernel_rfl) (fun _ _ _ h => h) (by rfl) (fun w hSw => ?rgy12) hHeld ?_
      case rgy12 => (try dsimp only at hSw); first | (go_simp; done) | (go_simp; with_reducible rfl)
      try simp only [Act.put, List.setIfInBounds_toArray, List.set_cons_zero, List.set_cons_succ]
      refine rg_take (i := 13) (o := { dst := some 24, op := Op.convert 34 9 (Operand.tmp 23), type := 9, pos := "answer.go:86", after := #[{ on := 12, ground := Ground.data }, { on := 5, ground := Ground.guard }], guard := some (5, true) }) (v := ?rgv13) rfl (by kernel_rfl) (by kernel_rfl) (by kernel_rfl) (fun _ _ _ h => h) (by rfl) (fun w hSw => ?rgy13) hHeld ?_
      case rgy13 => (try dsimp only at hSw); first | (go_simp; done) | (go_simp; with_reducible rfl)
      try simp only [Act.put, List.setIfInBounds_toArray, List.set_cons_zero, List.set_cons_succ]
      refine rg_take (i := 14) (o := { dst := some 25, op := Op.binOp BinOp.eql 9 (Operand.tmp 20) (Operand.tmp 24) 9, type := 4, pos := "answer.go:86", after := #[{ on := 9, ground := Ground.data }, { on := 13, ground := Ground.data }, { on := 5, ground := Ground.guard }], guard := some (5, true) }) (v := ?rgv14) rfl (by kernel_rfl) (by kernel_rfl) (by kernel_rfl) (fun _ _ _ h => h) (by rfl) (fun w hSw => ?rgy14) hHeld ?_
      case rgy14 => (try dsimp only at hSw); first | (go_simp; done) | (go_simp; with_reducible rfl)
      try simp only [Act.put, List.setIfInBounds_toArray, List.set_cons_zero, List.set_cons_succ]
      refine rg_take (i := 15) (o := { dst := some 26, op := Op.pick (Operand.tmp 16) (Operand.tmp 25) (Operand.const (Value.bool false)), type := 4, pos := "answer.go:86", after := #[{ on := 5, ground := Ground.data }, { on := 14, ground := Ground.data }], guard := none }) (v := ?rgv15) rfl (by kernel_rfl) (by kernel_rfl) (by kernel_rfl) (fun _ _ _ h => h) (by rfl) (fun w hSw => ?rgy15) hHeld ?_
      case rgy15 => (try dsimp only at hSw); first | (go_simp; done) | (go_simp; with_reducible rfl)
      try simp only [Act.put, List.setIfInBounds_toArray, List.set_cons_zero, List.set_cons_succ]
      clear hHeld
      refine wpAnyH_done (by kernel_rfl) ?_ _
      have HS3 := Lib.hid (HS1.out.trans HS2.out)
      go_wp2_with fail
      go_meet
      exact ⟨q, by simp; exact fun _ => rfl, by rw [HQ.out]; simp, HS3.out⟩
    · have hb7 : ((n : Int) == 7) = false := by simpa using (by omega : (n : Int) ≠ 7)
      have hw7 : ((n : Int) == IntKind.i64.wrap 7) = false := hb7
      have H7 := Lib.hid h7
      clear h7
      refine wp_region_held_drew (S := (fun _ => True)) (by kernel_rfl) (trivial) (fun hHeld => ?_)
      try (change wpAnyH _ _ _ _ _ _ _ _ (World.drew _))
      refine rg_take (i := 0) (o := { dst := some 11, op := Op.move (Operand.tmp 0), type := 34, pos := "answer.go:86", after := #[], guard := none }) (v := ?rgv16) rfl (by kernel_rfl) (by kernel_rfl) (by kernel_rfl) (fun _ _ _ h => h) (by rfl) (fun w hSw => ?rgy16) hHeld ?_
      case rgy16 => (try dsimp only at hSw); first | (go_simp; done) | (go_simp; with_reducible rfl)
      try simp only [Act.put, List.setIfInBounds_toArray, List.set_cons_zero, List.set_cons_succ]
      refine rg_take (i := 1) (o := { dst := some 12, op := Op.call { callee := Callee.builtin Builtin.len, args := #[Operand.tmp 11], argTypes := #[34] }, type := 3, pos := "answer.go:86", after := #[{ on := 0, ground := Ground.data }], guard := none }) (v := ?rgv17) rfl (by kernel_rfl) (by kernel_rfl) (by kernel_rfl) (fun _ _ _ h => h) (by rfl) (fun w hSw => ?rgy17) hHeld ?_
      case rgy17 => (try dsimp only at hSw); first | (go_simp; done) | (go_simp; with_reducible rfl)
      try simp only [Act.put, List.setIfInBounds_toArray, List.set_cons_zero, List.set_cons_succ]
      refine rg_take (i := 2) (o := { dst := some 13, op := Op.move (Operand.tmp 5), type := 3, pos := "answer.go:86", after := #[], guard := none }) (v := ?rgv18) rfl (by kernel_rfl) (by kernel_rfl) (by kernel_rfl) (fun _ _ _ h => h) (by rfl) (fun w hSw => ?rgy18) hHeld ?_
      case rgy18 => (try dsimp only at hSw); first | (go_simp; done) | (go_simp; with_reducible rfl)
      try simp only [Act.put, List.setIfInBounds_toArray, List.set_cons_zero, List.set_cons_succ]
      refine rg_take (i := 3) (o := { dst := some 14, op := Op.binOp BinOp.add 3 (Operand.tmp 13) (Operand.const (Value.int IntKind.i64 1)) 3, type := 3, pos := "answer.go:86", after := #[{ on := 2, ground := Ground.data }], guard := none }) (v := ?rgv19) rfl (by kernel_rfl) (by kernel_rfl) (by kernel_rfl) (fun _ _ _ h => h) (by rfl) (fun w hSw => ?rgy19) hHeld ?_
      case rgy19 => (try dsimp only at hSw); first | (go_simp; done) | (go_simp; with_reducible rfl)
      try simp only [Act.put, List.setIfInBounds_toArray, List.set_cons_zero, List.set_cons_succ]
      refine rg_take (i := 4) (o := { dst := some 15, op := Op.binOp BinOp.eql 3 (Operand.tmp 12) (Operand.tmp 14) 3, type := 4, pos := "answer.go:86", after := #[{ on := 1, ground := Ground.data }, { on := 3, ground := Ground.data }], guard := none }) (v := ?rgv20) rfl (by kernel_rfl) (by kernel_rfl) (by kernel_rfl) (fun _ _ _ h => h) (by rfl) (fun w hSw => ?rgy20) hHeld ?_
      case rgy20 => (try dsimp only at hSw); first | (go_simp; done) | (go_simp; with_reducible rfl)
      try simp only [Act.put, List.setIfInBounds_toArray, List.set_cons_zero, List.set_cons_succ]
      refine rg_take (i := 5) (o := { dst := some 16, op := Op.move (Operand.tmp 15), type := 4, pos := "answer.go:86", after := #[{ on := 4, ground := Ground.data }], guard := none }) (v := ?rgv21) rfl (by kernel_rfl) (by kernel_rfl) (by kernel_rfl) (fun _ _ _ h => h) (by rfl) (fun w hSw => ?rgy21) hHeld ?_
      case rgy21 => (try dsimp only at hSw); first | (go_simp; done) | (go_simp; with_reducible rfl)
      try simp only [Act.put, List.setIfInBounds_toArray, List.set_cons_zero, List.set_cons_succ]
      refine rg_off (i := 6) (o := { dst := some 17, op := Op.move (Operand.tmp 0), type := 34, pos := "answer.go:86", after := #[{ on := 5, ground := Ground.guard }], guard := some (5, true) }) rfl (by kernel_rfl) (by kernel_rfl) (by kernel_rfl) (fun _ _ _ h => h) (by rfl) hHeld ?_
      try simp only [Act.put, List.setIfInBounds_toArray, List.set_cons_zero, List.set_cons_succ]
      refine rg_off (i := 7) (o := { dst := some 18, op := Op.move (Operand.tmp 5), type := 3, pos := "answer.go:86", after := #[{ on := 5, ground := Ground.guard }], guard := some (5, true) }) rfl (by kernel_rfl) (by kernel_rfl) (by kernel_rfl) (fun _ _ _ h => h) (by rfl) hHeld ?_
      try simp only [Act.put, List.setIfInBounds_toArray, List.set_cons_zero, List.set_cons_succ]
      refine rg_off (i := 8) (o := { dst := some 19, op := Op.slice 34 (Operand.tmp 17) none (some (Operand.tmp 18)) none, type := 34, pos := "answer.go:86", after := #[{ on := 6, ground := Ground.data }, { on := 7, ground := Ground.data }, { on := 5, ground := Ground.guard }], guard := some (5, true) }) rfl (by kernel_rfl) (by kernel_rfl) (by kernel_rfl) (fun _ _ _ h => h) (by rfl) hHeld ?_
      try simp only [Act.put, List.setIfInBounds_toArray, List.set_cons_zero, List.set_cons_succ]
      refine rg_off (i := 9) (o := { dst := some 20, op := Op.convert 34 9 (Operand.tmp 19), type := 9, pos := "answer.go:86", after := #[{ on := 8, ground := Ground.data }, { on := 5, ground := Ground.guard }], guard := some (5, true) }) rfl (by kernel_rfl) (by kernel_rfl) (by kernel_rfl) (fun _ _ _ h => h) (by rfl) hHeld ?_
      try simp only [Act.put, List.setIfInBounds_toArray, List.set_cons_zero, List.set_cons_succ]
      refine rg_off (i := 10) (o := { dst := some 21, op := Op.call { callee := Callee.value (Operand.func 19), args := #[Operand.const (Value.int IntKind.i64 0)], argTypes := #[3] }, type := 34, pos := "answer.go:86", after := #[{ on := 5, ground := Ground.chain }, { on := 5, ground := Ground.guard }], guard := some (5, true) }) rfl (by kernel_rfl) (by kernel_rfl) (by kernel_rfl) (fun _ _ _ h => h) (by rfl) hHeld ?_
      try simp only [Act.put, List.setIfInBounds_toArray, List.set_cons_zero, List.set_cons_succ]
      refine rg_off (i := 11) (o := { dst := some 22, op := Op.move (Operand.tmp 5), type := 3, pos := "answer.go:86", after := #[{ on := 5, ground := Ground.guard }], guard := some (5, true) }) rfl (by kernel_rfl) (by kernel_rfl) (by kernel_rfl) (fun _ _ _ h => h) (by rfl) hHeld ?_
      try simp only [Act.put, List.setIfInBounds_toArray, List.set_cons_zero, List.set_cons_succ]
      refine rg_off (i := 12) (o := { dst := some 23, op := Op.slice 34 (Operand.tmp 21) none (some (Operand.tmp 22)) none, type := 34, pos := "answer.go:86", after := #[{ on := 10, ground := Ground.data }, { on := 11, ground := Ground.data }, { on := 5, ground := Ground.guard }], guard := some (5, true) }) rfl (by kernel_rfl) (by kernel_rfl) (by kernel_rfl) (fun _ _ _ h => h) (by rfl) hHeld ?_
      try simp only [Act.put, List.setIfInBounds_toArray, List.set_cons_zero, List.set_cons_succ]
      refine rg_off (i := 13) (o := { dst := some 24, op := Op.convert 34 9 (Operand.tmp 23), type := 9, pos := "answer.go:86", after := #[{ on := 12, ground := Ground.data }, { on := 5, ground := Ground.guard }], guard := some (5, true) }) rfl (by kernel_rfl) (by kernel_rfl) (by kernel_rfl) (fun _ _ _ h => h) (by rfl) hHeld ?_
      try simp only [Act.put, List.setIfInBounds_toArray, List.set_cons_zero, List.set_cons_succ]
      refine rg_off (i := 14) (o := { dst := some 25, op := Op.binOp BinOp.eql 9 (Operand.tmp 20) (Operand.tmp 24) 9, type := 4, pos := "answer.go:86", after := #[{ on := 9, ground := Ground.data }, { on := 13, ground := Ground.data }, { on := 5, ground := Ground.guard }], guard := some (5, true) }) rfl (by kernel_rfl) (by kernel_rfl) (by kernel_rfl) (fun _ _ _ h => h) (by rfl) hHeld ?_
      try simp only [Act.put, List.setIfInBounds_toArray, List.set_cons_zero, List.set_cons_succ]
      refine rg_take (i := 15) (o := { dst := some 26, op := Op.pick (Operand.tmp 16) (Operand.tmp 25) (Operand.const (Value.bool false)), type := 4, pos := "answer.go:86", after := #[{ on := 5, ground := Ground.data }, { on := 14, ground := Ground.data }], guard := none }) (v := ?rgv22) rfl (by kernel_rfl) (by kernel_rfl) (by kernel_rfl) (fun _ _ _ h => h) (by rfl) (fun w hSw => ?rgy22) hHeld ?_
      case rgy22 => (try dsimp only at hSw); first | (go_simp; done) | (go_simp; with_reducible rfl)
      try simp only [Act.put, List.setIfInBounds_toArray, List.set_cons_zero, List.set_cons_succ]
      clear hHeld
      refine wpAnyH_done (by kernel_rfl) ?_ _
      go_wp2_with fail
      go_meet
      exact ⟨false, by simp, by simp [H7.out], HS1.out.drew⟩
  case rest =>
    obtain ⟨q, rfl, hq, hs⟩ := hcut
    have HS := Lib.hid hs
    have HQ := Lib.hid hq
    clear hs hq
    cases q with
    | true =>
      obtain ⟨h7, h6⟩ := HQ.out.1 rfl
      subst h7
      have hb := HB.out
      obtain ⟨-, -, -, ha⟩ := hb.at_
      obtain ⟨ad, rfl, -⟩ := ha (by rw [← HN.out]; decide)
      clear ha hb
      have hlt : 6 < b.length := by have := HN.out; omega
      have hcell : wc.cell? (ad.add 6) = some (.int .u8 (b[6].toNat : Int)) := plain_cell2 (HB.out.stp0 HS.out) 6 hlt
      obtain ⟨z, hz⟩ : ∃ z, z = b[6] := ⟨_, rfl⟩
      rw [← hz] at hcell
      rw [show ad.add 6 = ⟨ad.block, ad.off + 6, none⟩ from by unfold Addr.add; rw [if_neg (by decide)]] at hcell
      have hv : readV b = .tuple #[.int .i64 1, .int .i64 z.toNat, .bool true] := by
        unfold readV readS
        rw [if_pos ⟨HN.out.symm, h6⟩, hz]
        simp [List.getD_eq_getElem?_getD, hlt]
      have hz2 : IntKind.i64.wrap (z.toNat : Int) = z.toNat := by
        have := UInt8.toNat_lt z
        simp [IntKind.wrap, IntKind.signed, IntKind.bits]
        omega
      have HV := Lib.hid hv
      have HZ := Lib.hid hz
      clear hv hz
      clear h6
      go_wp2_with fail
      refine wp_region_held_drew (S := (fun w' => w'.cell? ⟨ad.block, ad.off + 6, none⟩ = some (.int .u8 (z.toNat : Int)))) (by kernel_rfl) (hcell) (fun hHeld => ?_)
      try (change wpAnyH _ _ _ _ _ _ _ _ (World.drew _))
      refine rg_take (i := 0) (o := { dst := some 27, op := Op.move (Operand.tmp 0), type := 34, pos := "answer.go:87", after := #[{ on := 5, ground := Ground.gcOnly Departure.lateStores }], guard := none }) (v := ?rgv23) rfl (by kernel_rfl) (by kernel_rfl) (by kernel_rfl) (fun _ _ _ h => h) (by rfl) (fun w hSw => ?rgy23) hHeld ?_
      case rgy23 => (try dsimp only at hSw); first | (go_simp; done) | (go_simp; with_reducible rfl)
      try simp only [Act.put, List.setIfInBounds_toArray, List.set_cons_zero, List.set_cons_succ]
      refine rg_take (i := 1) (o := { dst := some 28, op := Op.move (Operand.tmp 5), type := 3, pos := "answer.go:87", after := #[{ on := 5, ground := Ground.gcOnly Departure.lateStores }], guard := none }) (v := ?rgv24) rfl (by kernel_rfl) (by kernel_rfl) (by kernel_rfl) (fun _ _ _ h => h) (by rfl) (fun w hSw => ?rgy24) hHeld ?_
      case rgy24 => (try dsimp only at hSw); first | (go_simp; done) | (go_simp; with_reducible rfl)
      try simp only [Act.put, List.setIfInBounds_toArray, List.set_cons_zero, List.set_cons_succ]
      refine rg_take (i := 2) (o := { dst := some 29, op := Op.indexAddr 34 (Operand.tmp 27) (Operand.tmp 28), type := 0, pos := "answer.go:87", after := #[{ on := 0, ground := Ground.data }, { on := 1, ground := Ground.data }, { on := 5, ground := Ground.gcOnly Departure.lateStores }], guard := none }) (v := ?rgv25) rfl (by kernel_rfl) (by kernel_rfl) (by kernel_rfl) (fun _ _ _ h => h) (by rfl) (fun w hSw => ?rgy25) hHeld ?_
      case rgy25 => (try dsimp only at hSw); first | (go_simp; done) | (go_simp; with_reducible rfl)
      try simp only [Act.put, List.setIfInBounds_toArray, List.set_cons_zero, List.set_cons_succ]
      refine rg_take (i := 3) (o := { dst := some 30, op := Op.load 5 (Operand.tmp 29), type := 5, pos := "answer.go:87", after := #[{ on := 2, ground := Ground.data }, { on := 5, ground := Ground.gcOnly Departure.lateStores }], guard := none }) (v := ?rgv26) rfl (by kernel_rfl) (by kernel_rfl) (by kernel_rfl) (fun _ _ _ h => h) (by rfl) (fun w hSw => ?rgy26) hHeld ?_
      case rgy26 => (try dsimp only at hSw); first | (go_simp; done) | (go_simp; with_reducible rfl)
      try simp only [Act.put, List.setIfInBounds_toArray, List.set_cons_zero, List.set_cons_succ]
      refine rg_take (i := 4) (o := { dst := some 31, op := Op.convert 5 3 (Operand.tmp 30), type := 3, pos := "answer.go:87", after := #[{ on := 3, ground := Ground.data }, { on := 5, ground := Ground.gcOnly Departure.lateStores }], guard := none }) (v := ?rgv27) rfl (by kernel_rfl) (by kernel_rfl) (by kernel_rfl) (fun _ _ _ h => h) (by rfl) (fun w hSw => ?rgy27) hHeld ?_
      case rgy27 => (try dsimp only at hSw); first | (go_simp; done) | (go_simp; with_reducible rfl)
      try simp only [Act.put, List.setIfInBounds_toArray, List.set_cons_zero, List.set_cons_succ]
      refine rg_take (i := 5) (o := { dst := some 2, op := Op.assign (Operand.const (Value.int IntKind.i64 1)), type := 3, pos := "answer.go:87", after := #[{ on := 0, ground := Ground.textOnly Departure.lateStores }, { on := 1, ground := Ground.textOnly Departure.lateStores }, { on := 2, ground := Ground.textOnly Departure.lateStores }, { on := 3, ground := Ground.textOnly Departure.lateStores }, { on := 4, ground := Ground.textOnly Departure.lateStores }], guard := none }) (v := ?rgv28) rfl (by kernel_rfl) (by kernel_rfl) (by kernel_rfl) (fun _ _ _ h => h) (by rfl) (fun w hSw => ?rgy28) hHeld ?_
      case rgy28 => (try dsimp only at hSw); first | (go_simp; done) | (go_simp; with_reducible rfl)
      try simp only [Act.put, List.setIfInBounds_toArray, List.set_cons_zero, List.set_cons_succ]
      refine rg_take (i := 6) (o := { dst := some 3, op := Op.assign (Operand.tmp 31), type := 3, pos := "answer.go:87", after := #[{ on := 4, ground := Ground.data }, { on := 5, ground := Ground.chain }, { on := 0, ground := Ground.phase }, { on := 1, ground := Ground.phase }, { on := 2, ground := Ground.phase }, { on := 3, ground := Ground.phase }, { on := 4, ground := Ground.phase }, { on := 5, ground := Ground.phase }], guard := none }) (v := ?rgv29) rfl (by kernel_rfl) (by kernel_rfl) (by kernel_rfl) (fun _ _ _ h => h) (by rfl) (fun w hSw => ?rgy29) hHeld ?_
      case rgy29 => (try dsimp only at hSw); first | (go_simp; done) | (go_simp; with_reducible rfl)
      try simp only [Act.put, List.setIfInBounds_toArray, List.set_cons_zero, List.set_cons_succ]
      refine rg_take (i := 7) (o := { dst := some 4, op := Op.assign (Operand.const (Value.bool true)), type := 4, pos := "answer.go:87", after := #[{ on := 6, ground := Ground.chain }, { on := 0, ground := Ground.phase }, { on := 1, ground := Ground.phase }, { on := 2, ground := Ground.phase }, { on := 3, ground := Ground.phase }, { on := 4, ground := Ground.phase }, { on := 5, ground := Ground.phase }, { on := 6, ground := Ground.phase }], guard := none }) (v := ?rgv30) rfl (by kernel_rfl) (by kernel_rfl) (by kernel_rfl) (fun _ _ _ h => h) (by rfl) (fun w hSw => ?rgy30) hHeld ?_
      case rgy30 => (try dsimp only at hSw); first | (go_simp; done) | (go_simp; with_reducible rfl)
      try simp only [Act.put, List.setIfInBounds_toArray, List.set_cons_zero, List.set_cons_succ]
      clear hHeld
      refine wpAnyH_done (by kernel_rfl) ?_ _
      go_wp2
      go_ret3

      rw [HR.out]
      exact ⟨by rw [HV.out]; rfl, HS.out.drew⟩
    | false =>
      have hnr : ¬ (b.length = 7 ∧ b.take 6 = [21, 3, 3, 0, 2, 2]) := fun h => by have := HQ.out.2 ⟨by rw [HN.out, h.1], h.2⟩; cases this
      have HNR := Lib.hid hnr
      clear hnr
      go_wp2
      go_loopw [34] (fun i wr => ∃ k : Nat, k ≤ 2 ∧ i = .int .i64 k ∧ (0 < k → b ≠ page400) ∧ (1 < k → b ≠ page403) ∧ Stp (fun _ => False) (wc.alloc (.cells #[.int .i64 400, .int .i64 403] 3)) wr) (fun i _ => 2 - (intOf i).toNat)
      case atStart => exact ⟨0, by decide, rfl, fun h => absurd h (by decide), fun h => absurd h (by decide), Stp.refl _ _⟩
      case round =>
        obtain ⟨k, hk, rfl, h4, h3, hs⟩ := hrel
        have hbk := hs.blk (heap_alloc_new wc _) id
        have HBK := Lib.hid hbk
        have HS4 := Lib.hid (HS.out.trans (((Stp.refl (fun _ => False) wc).alloc _).trans hs))
        have HS := Lib.hid hs
        clear hs
        clear hbk
        match k, hk with
        | 0, _ =>
          have hc0 : wr.cell? ⟨wc.heap.size, 0, none⟩ = some (.int .i64 400) := blk_cell (j := 0) HBK.out
          have hk : ∀ w', Stp (fun _ => False) wr w' → convB w' (.slice A n c) b := fun w' h => conv_of ((HB.out.stp0 HS4.out).stp0 h)
          obtain ⟨q, hq⟩ : ∃ q, q = decide (b = page400) := ⟨_, rfl⟩
          have heq : ((strB b).toList == (strB page400).toList) = q := by rw [beq_strB, hq]
          have HK := Lib.hid hk
          have HQ := Lib.hid hq
          clear hk hq
          have H4 := Lib.hid h4
          have H3 := Lib.hid h3
          clear h4 h3
          obtain ⟨pg, hpg⟩ : ∃ pg, pg = page400 := ⟨_, rfl⟩
          rw [← hpg] at heq
          have HPG := Lib.hid hpg
          clear hpg
          go_wp2_with fail
          refine wp_region_held_drew (S := (fun w' => convB w' (.slice A n c) b)) (by kernel_rfl) (HK.out _ (Stp.refl _ _).drew) (fun hHeld => ?_)
          try (change wpAnyH _ _ _ _ _ _ _ _ (World.drew _))
          refine rg_take (i := 0) (o := { dst := some 38, op := Op.move (Operand.tmp 0), type := 34, pos := "answer.go:90", after := #[], guard := none }) (v := ?rgv31) rfl (by kernel_rfl) (by kernel_rfl) (by kernel_rfl) (fun _ _ _ h => h) (by rfl) (fun w hSw => ?rgy31) hHeld ?_
          case rgy31 => (try dsimp only at hSw); first | (go_simp; done) | (go_simp; with_reducible rfl)
          try simp only [Act.put, List.setIfInBounds_toArray, List.set_cons_zero, List.set_cons_succ]
          refine rg_take (i := 1) (o := { dst := some 39, op := Op.convert 34 9 (Operand.tmp 38), type := 9, pos := "answer.go:90", after := #[{ on := 0, ground := Ground.data }], guard := none }) (v := ?rgv32) rfl (by kernel_rfl) (by kernel_rfl) (by kernel_rfl) (fun _ _ _ h => h) (by rfl) (fun w hSw => ?rgy32) hHeld ?_
          case rgy32 => (try dsimp only at hSw); first | (go_simp; done) | (go_simp; with_reducible rfl)
          try simp only [Act.put, List.setIfInBounds_toArray, List.set_cons_zero, List.set_cons_succ]
          refine rg_take (i := 2) (o := { dst := some 40, op := Op.move (Operand.tmp 7), type := 3, pos := "answer.go:90", after := #[], guard := none }) (v := ?rgv33) rfl (by kernel_rfl) (by kernel_rfl) (by kernel_rfl) (fun _ _ _ h => h) (by rfl) (fun w hSw => ?rgy33) hHeld ?_
          case rgy33 => (try dsimp only at hSw); first | (go_simp; done) | (go_simp; with_reducible rfl)
          try simp only [Act.put, List.setIfInBounds_toArray, List.set_cons_zero, List.set_cons_succ]
          refine wpAnyH_ready (rs := [3]) (by kernel_rfl) (by simp) ?_
          refine (AllReadyH.cons (o := { dst := some 41, op := Op.call { callee := Callee.value (Operand.func 20), args := #[Operand.tmp 40], argTypes := #[3] }, type := 34, pos := "answer.go:90", after := #[{ on := 2, ground := Ground.data }], guard := none }) rfl (fun K hK => ?_) AllReadyH.nil)
          go_simp
          refine (page400_any _ (HT.out.step (HS4.out.trans (Stp.refl (fun _ => False) wr).drew))).mono ?_
          rintro e w2 ⟨v2, rfl, hr2, -, hs2⟩
          have hk2 := conv_of hr2
          have HS2 := Lib.hid ((Stp.refl (fun _ => False) wr).drew.trans hs2)
          rw [← HPG.out] at hk2 hr2
          clear hs2
          obtain ⟨A2, c2, rfl, hle2⟩ := hr2.form
          clear hr2 hle2
          show K _ _
          clear hHeld
          refine hK.out _ _ (HK.out _ HS2.out) (fun hHeld => ?_)
          clear hK K
          try simp only [Act.put, List.setIfInBounds_toArray, List.set_cons_zero, List.set_cons_succ]
          refine rg_more (T := (fun w' => convB w' (.slice A2 pg.length c2) pg)) ?_
          replace hHeld := And.intro hHeld (hk2)
          refine rg_take (i := 4) (o := { dst := some 42, op := Op.convert 34 9 (Operand.tmp 41), type := 9, pos := "answer.go:90", after := #[{ on := 3, ground := Ground.data }], guard := none }) (v := ?rgv34) rfl (by kernel_rfl) (by kernel_rfl) (by kernel_rfl) (fun _ _ _ h => h) (by rfl) (fun w hSw => ?rgy34) hHeld ?_
          case rgy34 => (try dsimp only at hSw); first | (go_simp; done) | (go_simp; with_reducible rfl)
          try simp only [Act.put, List.setIfInBounds_toArray, List.set_cons_zero, List.set_cons_succ]
          refine rg_take (i := 5) (o := { dst := some 43, op := Op.binOp BinOp.eql 9 (Operand.tmp 39) (Operand.tmp 42) 9, type := 4, pos := "answer.go:90", after := #[{ on := 1, ground := Ground.data }, { on := 4, ground := Ground.data }], guard := none }) (v := ?rgv35) rfl (by kernel_rfl) (by kernel_rfl) (by kernel_rfl) (fun _ _ _ h => h) (by rfl) (fun w hSw => ?rgy35) hHeld ?_
          case rgy35 => (try dsimp only at hSw); first | (go_simp; done) | (go_simp; with_reducible rfl)
          try simp only [Act.put, List.setIfInBounds_toArray, List.set_cons_zero, List.set_cons_succ]
          clear hHeld
          refine wpAnyH_done (by kernel_rfl) ?_ _
          clear hk2
          cases q with
          | true =>
            have hv : readV b = .tuple #[.int .i64 2, .int .i64 400, .bool true] := by
              obtain rfl : b = page400 := by simpa using HQ.out
              exact readV400
            have HV := Lib.hid hv
            clear hv
            go_wp2
            go_ret3
            rw [HR.out]
            exact ⟨by rw [HV.out]; rfl, HS4.out.trans HS2.out⟩
          | false =>
            go_wp2
            go_roundw
            case rel => exact ⟨1, by decide, rfl, fun _ h => by have := HQ.out; simp [h] at this, fun h => absurd h (by decide), HS.out.trans HS2.out⟩
            case measure => simp [intOf]
        | 1, _ =>
          have hc0 : wr.cell? ⟨wc.heap.size, 1, none⟩ = some (.int .i64 403) := blk_cell (j := 1) HBK.out
          have hk : ∀ w', Stp (fun _ => False) wr w' → convB w' (.slice A n c) b := fun w' h => conv_of ((HB.out.stp0 HS4.out).stp0 h)
          obtain ⟨q, hq⟩ : ∃ q, q = decide (b = page403) := ⟨_, rfl⟩
          have heq : ((strB b).toList == (strB page403).toList) = q := by rw [beq_strB, hq]
          have HK := Lib.hid hk
          have HQ := Lib.hid hq
          clear hk hq
          have H4 := Lib.hid h4
          have H3 := Lib.hid h3
          clear h4 h3
          obtain ⟨pg, hpg⟩ : ∃ pg, pg = page403 := ⟨_, rfl⟩
          rw [← hpg] at heq
          have HPG := Lib.hid hpg
          clear hpg
          go_wp2_with fail
          refine wp_region_held_drew (S := (fun w' => convB w' (.slice A n c) b)) (by kernel_rfl) (HK.out _ (Stp.refl _ _).drew) (fun hHeld => ?_)
          try (change wpAnyH _ _ _ _ _ _ _ _ (World.drew _))
          refine rg_take (i := 0) (o := { dst := some 38, op := Op.move (Operand.tmp 0), type := 34, pos := "answer.go:90", after := #[], guard := none }) (v := ?rgv36) rfl (by kernel_rfl) (by kernel_rfl) (by kernel_rfl) (fun _ _ _ h => h) (by rfl) (fun w hSw => ?rgy36) hHeld ?_
          case rgy36 => (try dsimp only at hSw); first | (go_simp; done) | (go_simp; with_reducible rfl)
          try simp only [Act.put, List.setIfInBounds_toArray, List.set_cons_zero, List.set_cons_succ]
          refine rg_take (i := 1) (o := { dst := some 39, op := Op.convert 34 9 (Operand.tmp 38), type := 9, pos := "answer.go:90", after := #[{ on := 0, ground := Ground.data }], guard := none }) (v := ?rgv37) rfl (by kernel_rfl) (by kernel_rfl) (by kernel_rfl) (fun _ _ _ h => h) (by rfl) (fun w hSw => ?rgy37) hHeld ?_
          case rgy37 => (try dsimp only at hSw); first | (go_simp; done) | (go_simp; with_reducible rfl)
          try simp only [Act.put, List.setIfInBounds_toArray, List.set_cons_zero, List.set_cons_succ]
          refine rg_take (i := 2) (o := { dst := some 40, op := Op.move (Operand.tmp 7), type := 3, pos := "answer.go:90", after := #[], guard := none }) (v := ?rgv38) rfl (by kernel_rfl) (by kernel_rfl) (by kernel_rfl) (fun _ _ _ h => h) (by rfl) (fun w hSw => ?rgy38) hHeld ?_
          case rgy38 => (try dsimp only at hSw); first | (go_simp; done) | (go_simp; with_reducible rfl)
          try simp only [Act.put, List.setIfInBounds_toArray, List.set_cons_zero, List.set_cons_succ]
          refine wpAnyH_ready (rs := [3]) (by kernel_rfl) (by simp) ?_
          refine (AllReadyH.cons (o := { dst := some 41, op := Op.call { callee := Callee.value (Operand.func 20), args := #[Operand.tmp 40], argTypes := #[3] }, type := 34, pos := "answer.go:90", after := #[{ on := 2, ground := Ground.data }], guard := none }) rfl (fun K hK => ?_) AllReadyH.nil)
          go_simp
          refine (page403_any _ (HT.out.step (HS4.out.trans (Stp.refl (fun _ => False) wr).drew))).mono ?_
          rintro e w2 ⟨v2, rfl, hr2, -, hs2⟩
          have hk2 := conv_of hr2
          have HS2 := Lib.hid ((Stp.refl (fun _ => False) wr).drew.trans hs2)
          rw [← HPG.out] at hk2 hr2
          clear hs2
          obtain ⟨A2, c2, rfl, hle2⟩ := hr2.form
          clear hr2 hle2
          show K _ _
          clear hHeld
          refine hK.out _ _ (HK.out _ HS2.out) (fun hHeld => ?_)
          clear hK K
          try simp only [Act.put, List.setIfInBounds_toArray, List.set_cons_zero, List.set_cons_succ]
          refine rg_more (T := (fun w' => convB w' (.slice A2 pg.length c2) pg)) ?_
          replace hHeld := And.intro hHeld (hk2)
          refine rg_take (i := 4) (o := { dst := some 42, op := Op.convert 34 9 (Operand.tmp 41), type := 9, pos := "answer.go:90", after := #[{ on := 3, ground := Ground.data }], guard := none }) (v := ?rgv39) rfl (by kernel_rfl) (by kernel_rfl) (by kernel_rfl) (fun _ _ _ h => h) (by rfl) (fun w hSw => ?rgy39) hHeld ?_
          case rgy39 => (try dsimp only at hSw); first | (go_simp; done) | (go_simp; with_reducible rfl)
          try simp only [Act.put, List.setIfInBounds_toArray, List.set_cons_zero, List.set_cons_succ]
          refine rg_take (i := 5) (o := { dst := some 43, op := Op.binOp BinOp.eql 9 (Operand.tmp 39) (Operand.tmp 42) 9, type := 4, pos := "answer.go:90", after := #[{ on := 1, ground := Ground.data }, { on := 4, ground := Ground.data }], guard := none }) (v := ?rgv40) rfl (by kernel_rfl) (by kernel_rfl) (by kernel_rfl) (fun _ _ _ h => h) (by rfl) (fun w hSw => ?rgy40) hHeld ?_
          case rgy40 => (try dsimp only at hSw); first | (go_simp; done) | (go_simp; with_reducible rfl)
          try simp only [Act.put, List.setIfInBounds_toArray, List.set_cons_zero, List.set_cons_succ]
          clear hHeld
          refine wpAnyH_done (by kernel_rfl) ?_ _
          clear hk2
          cases q with
          | true =>
            have hv : readV b = .tuple #[.int .i64 2, .int .i64 403, .bool true] := by
              obtain rfl : b = page403 := by simpa using HQ.out
              exact readV403
            have HV := Lib.hid hv
            clear hv
            go_wp2
            go_ret3
            rw [HR.out]
            exact ⟨by rw [HV.out]; rfl, HS4.out.trans HS2.out⟩
          | false =>
            go_wp2
            go_roundw
            case rel => exact ⟨2, by decide, rfl, fun _ => H4.out (by decide), fun _ h => by have := HQ.out; simp [h] at this, HS.out.trans HS2.out⟩
            case measure => simp [intOf]
        | 2, _ =>
          have hv : readV b = .tuple #[.int .i64 0, .int .i64 0, .bool false] := by
            unfold readV readS
            rw [if_neg HNR.out, if_neg (h4 (by decide)), if_neg (h3 (by decide))]
          have HV := Lib.hid hv
          have H4 := Lib.hid h4
          have H3 := Lib.hid h3
          clear hv h4 h3
          go_wp2
          go_ret3
          rw [HR.out]
          exact ⟨by rw [HV.out]; rfl, HS4.out⟩
set_option maxRecDepth 100000 in
set_option maxHeartbeats 4000000 in
theorem readR_any (M : Nat → Prop) (v : Value) (b : List UInt8) (w : World) (hb : Rd u8 M w v b) :
    Calls Tryd.prog 16 #[v] w (ReadRet w b) := by
  obtain ⟨A, c, rfl, hle⟩ := hb.form
  obtain ⟨n, hn⟩ : ∃ n, n = b.length := ⟨_, rfl⟩
  rw [← hn] at hb hle ⊢
  obtain ⟨R, hR⟩ : ∃ R, R = ReadRet w b := ⟨_, rfl⟩
  rw [← hR]
  have HR := Lib.hid hR
  have HB := Lib.hid hb
  have HN := Lib.hid hn
  clear hR hb hn
  go_enter Tryd.func16, Tryd.ntmps16
  go_upto_if 15 with fail
  go_cut [15] (fun t15 wx => ∃ q : Bool, t15 = .bool q ∧ (q = true ↔ (n = 7 ∧ b.take 6 = [21, 3, 3, 0, 2, 2])) ∧ Stp (fun _ => False) w wx)
  case first =>
    by_cases h7 : n = 7
    · subst h7
      have hb := HB.out
      obtain ⟨-, -, -, ha⟩ := hb.at_
      obtain ⟨ad, rfl, -⟩ := ha (by rw [← HN.out]; decide)
      clear ha
      obtain ⟨hct1, hct2⟩ := cut6 (some ad) c hle
      have hk : ∀ w', Stp (fun _ => False) w w' → convB w' (.slice (some ad) 6 c) (b.take 6) := fun w' h => conv_of (hct2 _ _ _ (HB.out.stp0 h))
      obtain ⟨q, hq⟩ : ∃ q, q = decide (b.take 6 = [21, 3, 3, 0, 2, 2]) := ⟨_, rfl⟩
      have heq : ((strB (b.take 6)).toList == (strB [21, 3, 3, 0, 2, 2]).toList) = q := by rw [beq_strB, hq]
      have HK := Lib.hid hk
      have HQ := Lib.hid hq
      clear hk hq
      clear hb hct2
      refine wp_region_held_drew (S := (fun w' => convB w' (.slice (some ad) 6 c) (b.take 6))) (by kernel_rfl) (HK.out _ (Stp.refl _ _).drew) (fun hHeld => ?_)
      try (change wpAnyH _ _ _ _ _ _ _ _ (World.drew _))
      refine rg_take (i := 0) (o := { dst := some 5, op := Op.move (Operand.tmp 0), type := 34, pos := "ref.go:61", after := #[], guard := none }) (v := ?rgv41) rfl (by kernel_rfl) (by kernel_rfl) (by kernel_rfl) (fun _ _ _ h => h) (by rfl) (fun w hSw => ?rgy41) hHeld ?_
      case rgy41 => (try dsimp only at hSw); first | (go_simp; done) | (go_simp; with_reducible rfl)
      try simp only [Act.put, List.setIfInBounds_toArray, List.set_cons_zero, List.set_cons_succ]
      refine rg_take (i := 1) (o := { dst := some 6, op := Op.call { callee := Callee.builtin Builtin.len, args := #[Operand.tmp 5], argTypes := #[34] }, type := 3, pos := "ref.go:61", after := #[{ on := 0, ground := Ground.data }], guard := none }) (v := ?rgv42) rfl (by kernel_rfl) (by kernel_rfl) (by kernel_rfl) (fun _ _ _ h => h) (by rfl) (fun w hSw => ?rgy42) hHeld ?_
      case rgy42 => (try dsimp only at hSw); first | (go_simp; done) | (go_simp; with_reducible rfl)
      try simp only [Act.put, List.setIfInBounds_toArray, List.set_cons_zero, List.set_cons_succ]
      refine rg_take (i := 2) (o := { dst := some 7, op := Op.binOp BinOp.eql 3 (Operand.tmp 6) (Operand.const (Value.int IntKind.i64 7)) 3, type := 4, pos := "ref.go:61", after := #[{ on := 1, ground := Ground.data }], guard := none }) (v := ?rgv43) rfl (by kernel_rfl) (by kernel_rfl) (by kernel_rfl) (fun _ _ _ h => h) (by rfl) (fun w hSw => ?rgy43) hHeld ?_
      case rgy43 => (try dsimp only at hSw); first | (go_simp; done) | (go_simp; with_reducible rfl)
      try simp only [Act.put, List.setIfInBounds_toArray, List.set_cons_zero, List.set_cons_succ]
      refine rg_take (i := 3) (o := { dst := some 8, op := Op.move (Operand.tmp 7), type := 4, pos := "ref.go:61", after := #[{ on := 2, ground := Ground.data }], guard := none }) (v := ?rgv44) rfl (by kernel_rfl) (by kernel_rfl) (by kernel_rfl) (fun _ _ _ h => h) (by rfl) (fun w hSw => ?rgy44) hHeld ?_
      case rgy44 => (try dsimp only at hSw); first | (go_simp; done) | (go_simp; with_reducible rfl)
      try simp only [Act.put, List.setIfInBounds_toArray, List.set_cons_zero, List.set_cons_succ]
      refine rg_take (i := 4) (o := { dst := some 9, op := Op.move (Operand.tmp 0), type := 34, pos := "ref.go:61", after := #[{ on := 3, ground := Ground.guard }], guard := some (3, true) }) (v := ?rgv45) rfl (by kernel_rfl) (by kernel_rfl) (by kernel_rfl) (fun _ _ _ h => h) (by rfl) (fun w hSw => ?rgy45) hHeld ?_
      case rgy45 => (try dsimp only at hSw); first | (go_simp; done) | (go_simp; with_reducible rfl)
      try simp only [Act.put, List.setIfInBounds_toArray, List.set_cons_zero, List.set_cons_succ]
      refine rg_take (i := 5) (o := { dst := some 10, op := Op.slice 34 (Operand.tmp 9) none (some (Operand.const (Value.int IntKind.i64 6))) none, type := 34, pos := "ref.go:61", after := #[{ on := 4, ground := Ground.data }, { on := 3, ground := Ground.guard }], guard := some (3, true) }) (v := ?rgv46) rfl (by kernel_rfl) (by kernel_rfl) (by kernel_rfl) (fun _ _ _ h => h) (by rfl) (fun w hSw => ?rgy46) hHeld ?_
      case rgy46 => (try dsimp only at hSw); first | (go_simp; done) | (go_simp; with_reducible rfl)
      try simp only [Act.put, List.setIfInBounds_toArray, List.set_cons_zero, List.set_cons_succ]
      refine rg_take (i := 6) (o := { dst := some 11, op := Op.convert 34 9 (Operand.tmp 10), type := 9, pos := "ref.go:61", after := #[{ on := 5, ground := Ground.data }, { on := 3, ground := Ground.guard }], guard := some (3, true) }) (v := ?rgv47) rfl (by kernel_rfl) (by kernel_rfl) (by kernel_rfl) (fun _ _ _ h => h) (by rfl) (fun w hSw => ?rgy47) hHeld ?_
      case rgy47 => (try dsimp only at hSw); first | (go_simp; done) | (go_simp; with_reducible rfl)
      try simp only [Act.put, List.setIfInBounds_toArray, List.set_cons_zero, List.set_cons_succ]
      refine wpAnyH_ready (rs := [7]) (by kernel_rfl) (by simp) ?_
      refine (AllReadyH.cons (o := { dst := some 12, op := Op.buildSlice 34 6 #[(0, Operand.const (Value.int IntKind.u8 21)), (1, Operand.const (Value.int IntKind.u8 3)), (2, Operand.const (Value.int IntKind.u8 3)), (3, Operand.const (Value.int IntKind.u8 0)), (4, Operand.const (Value.int IntKind.u8 2)), (5, Operand.const (Value.int IntKind.u8 2))], type := 34, pos := "ref.go:61", after := #[{ on := 3, ground := Ground.guard }], guard := some (3, true) }) rfl (fun K hK => ?_) AllReadyH.nil)
      go_simp
      have HS2 := Lib.hid ((Stp.refl (fun _ => False) w).drew.alloc (.cells #[.int .u8 21, .int .u8 3, .int .u8 3, .int .u8 0, .int .u8 2, .int .u8 2] 5))
      have hk2 : convB (w.drew.alloc (.cells #[.int .u8 21, .int .u8 3, .int .u8 3, .int .u8 0, .int .u8 2, .int .u8 2] 5)) (.slice (some ⟨w.heap.size, 0, none⟩) 6 6) [21, 3, 3, 0, 2, 2] := conv_of (Rd.lit (M := fun _ => False) (enc := enc8) (h1 := fun _ => rfl) (W := w.drew) [21, 3, 3, 0, 2, 2] _ rfl (by simp) id)
      show K _ _
      clear hHeld
      refine hK.out _ _ (HK.out _ HS2.out) (fun hHeld => ?_)
      clear hK K
      try simp only [Act.put, List.setIfInBounds_toArray, List.set_cons_zero, List.set_cons_succ]
      refine rg_more (T := (fun w' => convB w' (.slice (some ⟨w.heap.size, 0, none⟩) 6 6) [21, 3, 3, 0, 2, 2])) ?_
      replace hHeld := And.intro hHeld (hk2)
      refine rg_take (i := 8) (o := { dst := some 13, op := Op.convert 34 9 (Operand.tmp 12), type := 9, pos := "ref.go:61", after := #[{ on := 7, ground := Ground.data }, { on := 3, ground := Ground.guard }], guard := some (3, true) }) (v := ?rgv48) rfl (by kernel_rfl) (by kernel_rfl) (by kernel_rfl) (fun _ _ _ h => h) (by rfl) (fun w hSw => ?rgy48) hHeld ?_
      case rgy48 => (try dsimp only at hSw); first | (go_simp; done) | (go_simp; with_reducible rfl)
      try simp only [Act.put, List.setIfInBounds_toArray, List.set_cons_zero, List.set_cons_succ]
      refine rg_take (i := 9) (o := { dst := some 14, op := Op.binOp BinOp.eql 9 (Operand.tmp 11) (Operand.tmp 13) 9, type := 4, pos := "ref.go:61", after := #[{ on := 6, ground := Ground.data }, { on := 8, ground := Ground.data }, { on := 3, ground := Ground.guard }], guard := some (3, true) }) (v := ?rgv49) rfl (by kernel_rfl) (by kernel_rfl) (by kernel_rfl) (fun _ _ _ h => h) (by rfl) (fun w hSw => ?rgy49) hHeld ?_
      case rgy49 => (try dsimp only at hSw); first | (go_simp; done) | (go_simp; with_reducible rfl)
      try simp only [Act.put, List.setIfInBounds_toArray, List.set_cons_zero, List.set_cons_succ]
      refine rg_take (i := 10) (o := { dst := some 15, op := Op.pick (Operand.tmp 8) (Operand.tmp 14) (Operand.const (Value.bool false)), type := 4, pos := "ref.go:61", after := #[{ on := 3, ground := Ground.data }, { on := 9, ground := Ground.data }], guard := none }) (v := ?rgv50) rfl (by kernel_rfl) (by kernel_rfl) (by kernel_rfl) (fun _ _ _ h => h) (by rfl) (fun w hSw => ?rgy50) hHeld ?_
      case rgy50 => (try dsimp only at hSw); first | (go_simp; done) | (go_simp; with_reducible rfl)
      try simp only [Act.put, List.setIfInBounds_toArray, List.set_cons_zero, List.set_cons_succ]
      clear hHeld
      refine wpAnyH_done (by kernel_rfl) ?_ _
      go_wp2_with fail
      go_meet
      exact ⟨q, by simp, by rw [HQ.out]; simp, HS2.out⟩
    · have hb7 : ((n : Int) == 7) = false := by simpa using (by omega : (n : Int) ≠ 7)
      have H7 := Lib.hid h7
      clear h7
      refine wp_region_held_drew (S := (fun _ => True)) (by kernel_rfl) (trivial) (fun hHeld => ?_)
      try (change wpAnyH _ _ _ _ _ _ _ _ (World.drew _))
      refine rg_take (i := 0) (o := { dst := some 5, op := Op.move (Operand.tmp 0), type := 34, pos := "ref.go:61", after := #[], guard := none }) (v := ?rgv51) rfl (by kernel_rfl) (by kernel_rfl) (by kernel_rfl) (fun _ _ _ h => h) (by rfl) (fun w hSw => ?rgy51) hHeld ?_
      case rgy51 => (try dsimp only at hSw); first | (go_simp; done) | (go_simp; with_reducible rfl)
      try simp only [Act.put, List.setIfInBounds_toArray, List.set_cons_zero, List.set_cons_succ]
      refine rg_take (i := 1) (o := { dst := some 6, op := Op.call { callee := Callee.builtin Builtin.len, args := #[Operand.tmp 5], argTypes := #[34] }, type := 3, pos := "ref.go:61", after := #[{ on := 0, ground := Ground.data }], guard := none }) (v := ?rgv52) rfl (by kernel_rfl) (by kernel_rfl) (by kernel_rfl) (fun _ _ _ h => h) (by rfl) (fun w hSw => ?rgy52) hHeld ?_
      case rgy52 => (try dsimp only at hSw); first | (go_simp; done) | (go_simp; with_reducible rfl)
      try simp only [Act.put, List.setIfInBounds_toArray, List.set_cons_zero, List.set_cons_succ]
      refine rg_take (i := 2) (o := { dst := some 7, op := Op.binOp BinOp.eql 3 (Operand.tmp 6) (Operand.const (Value.int IntKind.i64 7)) 3, type := 4, pos := "ref.go:61", after := #[{ on := 1, ground := Ground.data }], guard := none }) (v := ?rgv53) rfl (by kernel_rfl) (by kernel_rfl) (by kernel_rfl) (fun _ _ _ h => h) (by rfl) (fun w hSw => ?rgy53) hHeld ?_
      case rgy53 => (try dsimp only at hSw); first | (go_simp; done) | (go_simp; with_reducible rfl)
      try simp only [Act.put, List.setIfInBounds_toArray, List.set_cons_zero, List.set_cons_succ]
      refine rg_take (i := 3) (o := { dst := some 8, op := Op.move (Operand.tmp 7), type := 4, pos := "ref.go:61", after := #[{ on := 2, ground := Ground.data }], guard := none }) (v := ?rgv54) rfl (by kernel_rfl) (by kernel_rfl) (by kernel_rfl) (fun _ _ _ h => h) (by rfl) (fun w hSw => ?rgy54) hHeld ?_
      case rgy54 => (try dsimp only at hSw); first | (go_simp; done) | (go_simp; with_reducible rfl)
      try simp only [Act.put, List.setIfInBounds_toArray, List.set_cons_zero, List.set_cons_succ]
      refine rg_off (i := 4) (o := { dst := some 9, op := Op.move (Operand.tmp 0), type := 34, pos := "ref.go:61", after := #[{ on := 3, ground := Ground.guard }], guard := some (3, true) }) rfl (by kernel_rfl) (by kernel_rfl) (by kernel_rfl) (fun _ _ _ h => h) (by rfl) hHeld ?_
      try simp only [Act.put, List.setIfInBounds_toArray, List.set_cons_zero, List.set_cons_succ]
      refine rg_off (i := 5) (o := { dst := some 10, op := Op.slice 34 (Operand.tmp 9) none (some (Operand.const (Value.int IntKind.i64 6))) none, type := 34, pos := "ref.go:61", after := #[{ on := 4, ground := Ground.data }, { on := 3, ground := Ground.guard }], guard := some (3, true) }) rfl (by kernel_rfl) (by kernel_rfl) (by kernel_rfl) (fun _ _ _ h => h) (by rfl) hHeld ?_
      try simp only [Act.put, List.setIfInBounds_toArray, List.set_cons_zero, List.set_cons_succ]
      refine rg_off (i := 6) (o := { dst := some 11, op := Op.convert 34 9 (Operand.tmp 10), type := 9, pos := "ref.go:61", after := #[{ on := 5, ground := Ground.data }, { on := 3, ground := Ground.guard }], guard := some (3, true) }) rfl (by kernel_rfl) (by kernel_rfl) (by kernel_rfl) (fun _ _ _ h => h) (by rfl) hHeld ?_
      try simp only [Act.put, List.setIfInBounds_toArray, List.set_cons_zero, List.set_cons_succ]
      refine rg_off (i := 7) (o := { dst := some 12, op := Op.buildSlice 34 6 #[(0, Operand.const (Value.int IntKind.u8 21)), (1, Operand.const (Value.int IntKind.u8 3)), (2, Operand.const (Value.int IntKind.u8 3)), (3, Operand.const (Value.int IntKind.u8 0)), (4, Operand.const (Value.int IntKind.u8 2)), (5, Operand.const (Value.int IntKind.u8 2))], type := 34, pos := "ref.go:61", after := #[{ on := 3, ground := Ground.guard }], guard := some (3, true) }) rfl (by kernel_rfl) (by kernel_rfl) (by kernel_rfl) (fun _ _ _ h => h) (by rfl) hHeld ?_
      try simp only [Act.put, List.setIfInBounds_toArray, List.set_cons_zero, List.set_cons_succ]
      refine rg_off (i := 8) (o := { dst := some 13, op := Op.convert 34 9 (Operand.tmp 12), type := 9, pos := "ref.go:61", after := #[{ on := 7, ground := Ground.data }, { on := 3, ground := Ground.guard }], guard := some (3, true) }) rfl (by kernel_rfl) (by kernel_rfl) (by kernel_rfl) (fun _ _ _ h => h) (by rfl) hHeld ?_
      try simp only [Act.put, List.setIfInBounds_toArray, List.set_cons_zero, List.set_cons_succ]
      refine rg_off (i := 9) (o := { dst := some 14, op := Op.binOp BinOp.eql 9 (Operand.tmp 11) (Operand.tmp 13) 9, type := 4, pos := "ref.go:61", after := #[{ on := 6, ground := Ground.data }, { on := 8, ground := Ground.data }, { on := 3, ground := Ground.guard }], guard := some (3, true) }) rfl (by kernel_rfl) (by kernel_rfl) (by kernel_rfl) (fun _ _ _ h => h) (by rfl) hHeld ?_
      try simp only [Act.put, List.setIfInBounds_toArray, List.set_cons_zero, List.set_cons_succ]
      refine rg_take (i := 10) (o := { dst := some 15, op := Op.pick (Operand.tmp 8) (Operand.tmp 14) (Operand.const (Value.bool false)), type := 4, pos := "ref.go:61", after := #[{ on := 3, ground := Ground.data }, { on := 9, ground := Ground.data }], guard := none }) (v := ?rgv55) rfl (by kernel_rfl) (by kernel_rfl) (by kernel_rfl) (fun _ _ _ h => h) (by rfl) (fun w hSw => ?rgy55) hHeld ?_
      case rgy55 => (try dsimp only at hSw); first | (go_simp; done) | (go_simp; with_reducible rfl)
      try simp only [Act.put, List.setIfInBounds_toArray, List.set_cons_zero, List.set_cons_succ]
      clear hHeld
      refine wpAnyH_done (by kernel_rfl) ?_ _
      go_wp2_with fail
      go_meet
      exact ⟨false, by simp, by simp [H7.out], (Stp.refl _ _).drew⟩
  case rest =>
    obtain ⟨q, rfl, hq, hs⟩ := hcut
    have HS := Lib.hid hs
    have HQ := Lib.hid hq
    clear hs hq
    cases q with
    | true =>
      obtain ⟨h7, h6⟩ := HQ.out.1 rfl
      subst h7
      have hb := HB.out
      obtain ⟨-, -, -, ha⟩ := hb.at_
      obtain ⟨ad, rfl, -⟩ := ha (by rw [← HN.out]; decide)
      clear ha hb
      have hlt : 6 < b.length := by have := HN.out; omega
      have hcell : wc.cell? (ad.add 6) = some (.int .u8 (b[6].toNat : Int)) := plain_cell2 (HB.out.stp0 HS.out) 6 hlt
      obtain ⟨z, hz⟩ : ∃ z, z = b[6] := ⟨_, rfl⟩
      rw [← hz] at hcell
      rw [show ad.add 6 = ⟨ad.block, ad.off + 6, none⟩ from by unfold Addr.add; rw [if_neg (by decide)]] at hcell
      have hv : readV b = .tuple #[.int .i64 1, .int .i64 z.toNat, .bool true] := by
        unfold readV readS
        rw [if_pos ⟨HN.out.symm, h6⟩, hz]
        simp [List.getD_eq_getElem?_getD, hlt]
      have hz2 : IntKind.i64.wrap (z.toNat : Int) = z.toNat := by
        have := UInt8.toNat_lt z
        simp [IntKind.wrap, IntKind.signed, IntKind.bits]
        omega
      have HV := Lib.hid hv
      have HZ := Lib.hid hz
      clear hv hz
      clear h6
      go_wp2_with fail
      refine wp_region_held_drew (S := (fun w' => w'.cell? ⟨ad.block, ad.off + 6, none⟩ = some (.int .u8 (z.toNat : Int)))) (by kernel_rfl) (hcell) (fun hHeld => ?_)
      try (change wpAnyH _ _ _ _ _ _ _ _ (World.drew _))
      refine rg_take (i := 0) (o := { dst := some 16, op := Op.move (Operand.tmp 0), type := 34, pos := "ref.go:62", after := #[{ on := 4, ground := Ground.gcOnly Departure.lateStores }], guard := none }) (v := ?rgv56) rfl (by kernel_rfl) (by kernel_rfl) (by kernel_rfl) (fun _ _ _ h => h) (by rfl) (fun w hSw => ?rgy56) hHeld ?_
      case rgy56 => (try dsimp only at hSw); first | (go_simp; done) | (go_simp; with_reducible rfl)
      try simp only [Act.put, List.setIfInBounds_toArray, List.set_cons_zero, List.set_cons_succ]
      refine rg_take (i := 1) (o := { dst := some 17, op := Op.indexAddr 34 (Operand.tmp 16) (Operand.const (Value.int IntKind.i64 6)), type := 0, pos := "ref.go:62", after := #[{ on := 0, ground := Ground.data }, { on := 4, ground := Ground.gcOnly Departure.lateStores }], guard := none }) (v := ?rgv57) rfl (by kernel_rfl) (by kernel_rfl) (by kernel_rfl) (fun _ _ _ h => h) (by rfl) (fun w hSw => ?rgy57) hHeld ?_
      case rgy57 => (try dsimp only at hSw); first | (go_simp; done) | (go_simp; with_reducible rfl)
      try simp only [Act.put, List.setIfInBounds_toArray, List.set_cons_zero, List.set_cons_succ]
      refine rg_take (i := 2) (o := { dst := some 18, op := Op.load 5 (Operand.tmp 17), type := 5, pos := "ref.go:62", after := #[{ on := 1, ground := Ground.data }, { on := 4, ground := Ground.gcOnly Departure.lateStores }], guard := none }) (v := ?rgv58) rfl (by kernel_rfl) (by kernel_rfl) (by kernel_rfl) (fun _ _ _ h => h) (by rfl) (fun w hSw => ?rgy58) hHeld ?_
      case rgy58 => (try dsimp only at hSw); first | (go_simp; done) | (go_simp; with_reducible rfl)
      try simp only [Act.put, List.setIfInBounds_toArray, List.set_cons_zero, List.set_cons_succ]
      refine rg_take (i := 3) (o := { dst := some 19, op := Op.convert 5 3 (Operand.tmp 18), type := 3, pos := "ref.go:62", after := #[{ on := 2, ground := Ground.data }, { on := 4, ground := Ground.gcOnly Departure.lateStores }], guard := none }) (v := ?rgv59) rfl (by kernel_rfl) (by kernel_rfl) (by kernel_rfl) (fun _ _ _ h => h) (by rfl) (fun w hSw => ?rgy59) hHeld ?_
      case rgy59 => (try dsimp only at hSw); first | (go_simp; done) | (go_simp; with_reducible rfl)
      try simp only [Act.put, List.setIfInBounds_toArray, List.set_cons_zero, List.set_cons_succ]
      refine rg_take (i := 4) (o := { dst := some 2, op := Op.assign (Operand.const (Value.int IntKind.i64 1)), type := 3, pos := "ref.go:62", after := #[{ on := 0, ground := Ground.textOnly Departure.lateStores }, { on := 1, ground := Ground.textOnly Departure.lateStores }, { on := 2, ground := Ground.textOnly Departure.lateStores }, { on := 3, ground := Ground.textOnly Departure.lateStores }], guard := none }) (v := ?rgv60) rfl (by kernel_rfl) (by kernel_rfl) (by kernel_rfl) (fun _ _ _ h => h) (by rfl) (fun w hSw => ?rgy60) hHeld ?_
      case rgy60 => (try dsimp only at hSw); first | (go_simp; done) | (go_simp; with_reducible rfl)
      try simp only [Act.put, List.setIfInBounds_toArray, List.set_cons_zero, List.set_cons_succ]
      refine rg_take (i := 5) (o := { dst := some 3, op := Op.assign (Operand.tmp 19), type := 3, pos := "ref.go:62", after := #[{ on := 3, ground := Ground.data }, { on := 4, ground := Ground.chain }, { on := 0, ground := Ground.phase }, { on := 1, ground := Ground.phase }, { on := 2, ground := Ground.phase }, { on := 3, ground := Ground.phase }, { on := 4, ground := Ground.phase }], guard := none }) (v := ?rgv61) rfl (by kernel_rfl) (by kernel_rfl) (by kernel_rfl) (fun _ _ _ h => h) (by rfl) (fun w hSw => ?rgy61) hHeld ?_
      case rgy61 => (try dsimp only at hSw); first | (go_simp; done) | (go_simp; with_reducible rfl)
      try simp only [Act.put, List.setIfInBounds_toArray, List.set_cons_zero, List.set_cons_succ]
      refine rg_take (i := 6) (o := { dst := some 4, op := Op.assign (Operand.const (Value.bool true)), type := 4, pos := "ref.go:62", after := #[{ on := 5, ground := Ground.chain }, { on := 0, ground := Ground.phase }, { on := 1, ground := Ground.phase }, { on := 2, ground := Ground.phase }, { on := 3, ground := Ground.phase }, { on := 4, ground := Ground.phase }, { on := 5, ground := Ground.phase }], guard := none }) (v := ?rgv62) rfl (by kernel_rfl) (by kernel_rfl) (by kernel_rfl) (fun _ _ _ h => h) (by rfl) (fun w hSw => ?rgy62) hHeld ?_
      case rgy62 => (try dsimp only at hSw); first | (go_simp; done) | (go_simp; with_reducible rfl)
      try simp only [Act.put, List.setIfInBounds_toArray, List.set_cons_zero, List.set_cons_succ]
      clear hHeld
      refine wpAnyH_done (by kernel_rfl) ?_ _
      go_wp2
      go_ret3
      rw [HR.out]
      exact ⟨by rw [HV.out]; rfl, HS.out.drew⟩
    | false =>
      have hnr : ¬ (b.length = 7 ∧ b.take 6 = [21, 3, 3, 0, 2, 2]) := fun h => by have := HQ.out.2 ⟨by rw [HN.out, h.1], h.2⟩; cases this
      have HNR := Lib.hid hnr
      clear hnr
      have hk400 : ∀ w', Stp (fun _ => False) wc w' → convB w' (.slice A n c) b := fun w' h => conv_of ((HB.out.stp0 HS.out).stp0 h)
      obtain ⟨q400, hq400⟩ : ∃ q, q = decide (b = page400) := ⟨_, rfl⟩
      have heq400 : ((strB b).toList == (strB page400).toList) = q400 := by rw [beq_strB, hq400]
      obtain ⟨pg400, hpg400⟩ : ∃ pg, pg = page400 := ⟨_, rfl⟩
      rw [← hpg400] at heq400
      have HK400 := Lib.hid hk400
      have HQ400 := Lib.hid hq400
      have HPG400 := Lib.hid hpg400
      clear hk400 hq400 hpg400
      go_wp2_with fail
      refine wp_region_held_drew (S := (fun w' => convB w' (.slice A n c) b)) (by kernel_rfl) (HK400.out _ (Stp.refl _ _).drew) (fun hHeld => ?_)
      try (change wpAnyH _ _ _ _ _ _ _ _ (World.drew _))
      refine rg_take (i := 0) (o := { dst := some 20, op := Op.move (Operand.tmp 0), type := 34, pos := "ref.go:64", after := #[], guard := none }) (v := ?rgv63) rfl (by kernel_rfl) (by kernel_rfl) (by kernel_rfl) (fun _ _ _ h => h) (by rfl) (fun w hSw => ?rgy63) hHeld ?_
      case rgy63 => (try dsimp only at hSw); first | (go_simp; done) | (go_simp; with_reducible rfl)
      try simp only [Act.put, List.setIfInBounds_toArray, List.set_cons_zero, List.set_cons_succ]
      refine rg_take (i := 1) (o := { dst := some 21, op := Op.convert 34 9 (Operand.tmp 20), type := 9, pos := "ref.go:64", after := #[{ on := 0, ground := Ground.data }], guard := none }) (v := ?rgv64) rfl (by kernel_rfl) (by kernel_rfl) (by kernel_rfl) (fun _ _ _ h => h) (by rfl) (fun w hSw => ?rgy64) hHeld ?_
      case rgy64 => (try dsimp only at hSw); first | (go_simp; done) | (go_simp; with_reducible rfl)
      try simp only [Act.put, List.setIfInBounds_toArray, List.set_cons_zero, List.set_cons_succ]
      refine wpAnyH_ready (rs := [2]) (by kernel_rfl) (by simp) ?_
      refine (AllReadyH.cons (o := { dst := some 22, op := Op.call { callee := Callee.value (Operand.func 21), args := #[Operand.const (Value.int IntKind.i64 400)], argTypes := #[3] }, type := 34, pos := "ref.go:64", after := #[], guard := none }) rfl (fun K hK => ?_) AllReadyH.nil)
      go_simp
      refine (pageR400_any _).mono ?_
      rintro e w400 ⟨v400, rfl, hr400, -, hs400⟩
      have hk2 := conv_of hr400
      have HT400 := Lib.hid ((Stp.refl (fun _ => False) wc).drew.trans hs400)
      rw [← HPG400.out] at hk2 hr400
      clear hs400
      obtain ⟨A400, c400, rfl, hle400⟩ := hr400.form
      clear hr400 hle400
      show K _ _
      clear hHeld
      refine hK.out _ _ (HK400.out _ HT400.out) (fun hHeld => ?_)
      clear hK K
      try simp only [Act.put, List.setIfInBounds_toArray, List.set_cons_zero, List.set_cons_succ]
      refine rg_more (T := (fun w' => convB w' (.slice A400 pg400.length c400) pg400)) ?_
      replace hHeld := And.intro hHeld (hk2)
      refine rg_take (i := 3) (o := { dst := some 23, op := Op.convert 34 9 (Operand.tmp 22), type := 9, pos := "ref.go:64", after := #[{ on := 2, ground := Ground.data }], guard := none }) (v := ?rgv65) rfl (by kernel_rfl) (by kernel_rfl) (by kernel_rfl) (fun _ _ _ h => h) (by rfl) (fun w hSw => ?rgy65) hHeld ?_
      case rgy65 => (try dsimp only at hSw); first | (go_simp; done) | (go_simp; with_reducible rfl)
      try simp only [Act.put, List.setIfInBounds_toArray, List.set_cons_zero, List.set_cons_succ]
      refine rg_take (i := 4) (o := { dst := some 24, op := Op.binOp BinOp.eql 9 (Operand.tmp 21) (Operand.tmp 23) 9, type := 4, pos := "ref.go:64", after := #[{ on := 1, ground := Ground.data }, { on := 3, ground := Ground.data }], guard := none }) (v := ?rgv66) rfl (by kernel_rfl) (by kernel_rfl) (by kernel_rfl) (fun _ _ _ h => h) (by rfl) (fun w hSw => ?rgy66) hHeld ?_
      case rgy66 => (try dsimp only at hSw); first | (go_simp; done) | (go_simp; with_reducible rfl)
      try simp only [Act.put, List.setIfInBounds_toArray, List.set_cons_zero, List.set_cons_succ]
      clear hHeld
      refine wpAnyH_done (by kernel_rfl) ?_ _
      clear hk2
      have HU400 := Lib.hid (HS.out.trans HT400.out)
      cases q400 with
      | true =>
        have hv : readV b = .tuple #[.int .i64 2, .int .i64 400, .bool true] := by
          obtain rfl : b = page400 := by simpa using HQ400.out
          exact readV400
        have HV := Lib.hid hv
        clear hv
        go_wp2
        go_ret3
        rw [HR.out]
        exact ⟨by rw [HV.out]; rfl, HU400.out⟩
      | false =>
        have hne400 : b ≠ page400 := fun h => by have := HQ400.out; simp [h] at this
        have HNE400 := Lib.hid hne400
        clear hne400
        have hk403 : ∀ w', Stp (fun _ => False) w400 w' → convB w' (.slice A n c) b := fun w' h => conv_of ((HB.out.stp0 HU400.out).stp0 h)
        obtain ⟨q403, hq403⟩ : ∃ q, q = decide (b = page403) := ⟨_, rfl⟩
        have heq403 : ((strB b).toList == (strB page403).toList) = q403 := by rw [beq_strB, hq403]
        obtain ⟨pg403, hpg403⟩ : ∃ pg, pg = page403 := ⟨_, rfl⟩
        rw [← hpg403] at heq403
        have HK403 := Lib.hid hk403
        have HQ403 := Lib.hid hq403
        have HPG403 := Lib.hid hpg403
        clear hk403 hq403 hpg403
        go_wp2_with fail
        refine wp_region_held_drew (S := (fun w' => convB w' (.slice A n c) b)) (by kernel_rfl) (HK403.out _ (Stp.refl _ _).drew) (fun hHeld => ?_)
        try (change wpAnyH _ _ _ _ _ _ _ _ (World.drew _))
        refine rg_take (i := 0) (o := { dst := some 25, op := Op.move (Operand.tmp 0), type := 34, pos := "ref.go:67", after := #[], guard := none }) (v := ?rgv67) rfl (by kernel_rfl) (by kernel_rfl) (by kernel_rfl) (fun _ _ _ h => h) (by rfl) (fun w hSw => ?rgy67) hHeld ?_
        case rgy67 => (try dsimp only at hSw); first | (go_simp; done) | (go_simp; with_reducible rfl)
        try simp only [Act.put, List.setIfInBounds_toArray, List.set_cons_zero, List.set_cons_succ]
        refine rg_take (i := 1) (o := { dst := some 26, op := Op.convert 34 9 (Operand.tmp 25), type := 9, pos := "ref.go:67", after := #[{ on := 0, ground := Ground.data }], guard := none }) (v := ?rgv68) rfl (by kernel_rfl) (by kernel_rfl) (by kernel_rfl) (fun _ _ _ h => h) (by rfl) (fun w hSw => ?rgy68) hHeld ?_
        case rgy68 => (try dsimp only at hSw); first | (go_simp; done) | (go_simp; with_reducible rfl)
        try simp only [Act.put, List.setIfInBounds_toArray, List.set_cons_zero, List.set_cons_succ]
        refine wpAnyH_ready (rs := [2]) (by kernel_rfl) (by simp) ?_
        refine (AllReadyH.cons (o := { dst := some 27, op := Op.call { callee := Callee.value (Operand.func 21), args := #[Operand.const (Value.int IntKind.i64 403)], argTypes := #[3] }, type := 34, pos := "ref.go:67", after := #[], guard := none }) rfl (fun K hK => ?_) AllReadyH.nil)
        go_simp
        refine (pageR403_any _).mono ?_
        rintro e w403 ⟨v403, rfl, hr403, -, hs403⟩
        have hk2 := conv_of hr403
        have HT403 := Lib.hid ((Stp.refl (fun _ => False) w400).drew.trans hs403)
        rw [← HPG403.out] at hk2 hr403
        clear hs403
        obtain ⟨A403, c403, rfl, hle403⟩ := hr403.form
        clear hr403 hle403
        show K _ _
        clear hHeld
        refine hK.out _ _ (HK403.out _ HT403.out) (fun hHeld => ?_)
        clear hK K
        try simp only [Act.put, List.setIfInBounds_toArray, List.set_cons_zero, List.set_cons_succ]
        refine rg_more (T := (fun w' => convB w' (.slice A403 pg403.length c403) pg403)) ?_
        replace hHeld := And.intro hHeld (hk2)
        refine rg_take (i := 3) (o := { dst := some 28, op := Op.convert 34 9 (Operand.tmp 27), type := 9, pos := "ref.go:67", after := #[{ on := 2, ground := Ground.data }], guard := none }) (v := ?rgv69) rfl (by kernel_rfl) (by kernel_rfl) (by kernel_rfl) (fun _ _ _ h => h) (by rfl) (fun w hSw => ?rgy69) hHeld ?_
        case rgy69 => (try dsimp only at hSw); first | (go_simp; done) | (go_simp; with_reducible rfl)
        try simp only [Act.put, List.setIfInBounds_toArray, List.set_cons_zero, List.set_cons_succ]
        refine rg_take (i := 4) (o := { dst := some 29, op := Op.binOp BinOp.eql 9 (Operand.tmp 26) (Operand.tmp 28) 9, type := 4, pos := "ref.go:67", after := #[{ on := 1, ground := Ground.data }, { on := 3, ground := Ground.data }], guard := none }) (v := ?rgv70) rfl (by kernel_rfl) (by kernel_rfl) (by kernel_rfl) (fun _ _ _ h => h) (by rfl) (fun w hSw => ?rgy70) hHeld ?_
        case rgy70 => (try dsimp only at hSw); first | (go_simp; done) | (go_simp; with_reducible rfl)
        try simp only [Act.put, List.setIfInBounds_toArray, List.set_cons_zero, List.set_cons_succ]
        clear hHeld
        refine wpAnyH_done (by kernel_rfl) ?_ _
        clear hk2
        have HU403 := Lib.hid (HU400.out.trans HT403.out)
        cases q403 with
        | true =>
          have hv : readV b = .tuple #[.int .i64 2, .int .i64 403, .bool true] := by
            obtain rfl : b = page403 := by simpa using HQ403.out
            exact readV403
          have HV := Lib.hid hv
          clear hv
          go_wp2
          go_ret3
          rw [HR.out]
          exact ⟨by rw [HV.out]; rfl, HU403.out⟩
        | false =>
          have hne403 : b ≠ page403 := fun h => by have := HQ403.out; simp [h] at this
          have HNE403 := Lib.hid hne403
          clear hne403
          have hv : readV b = .tuple #[.int .i64 0, .int .i64 0, .bool false] := by
            unfold readV readS
            rw [if_neg HNR.out, if_neg HNE400.out, if_neg HNE403.out]
          have HV := Lib.hid hv
          clear hv
          go_wp2
          go_ret3
          rw [HR.out]
          exact ⟨by rw [HV.out]; rfl, HU403.out⟩
end Go.Proofs.YtkpfkdcfakhmjaaDoor.L
