/- Layer 16: the law HttppeekTakes. -/
import Derived.Test.YtgjmaifgkgejgaaGreatDoorJk
set_option linter.unusedVariables false
set_option linter.unusedSimpArgs false
namespace Go.Proofs.YtgjmaifgkgejgaaGreatDoor.L
open Go.RowKit Go.Proofs

/-- What holds of one that took bytes. -/
structure TkOk (t : Hs × Vd × Nat) (n : Nat) : Prop where
  ok : HsOk t.1 t.2.2
  op : t.2.1.st = 0 → t.2.1 = .open_
  le : t.2.2 ≤ n
theorem TkOk.take {t : Hs × Vd × Nat} {n : Nat} (h : TkOk t n) (c : UInt8) : TkOk (takeH t c) (n + 1) := by
  unfold takeH
  split
  · exact ⟨h.ok.step c, step_open, Nat.succ_le_succ h.le⟩
  · exact ⟨h.ok, h.op, Nat.le_succ_of_le h.le⟩
theorem take_any (g : Nat) (t : Hs × Vd × Nat) (n : Nat) (c : UInt8) (w : World) (h : PkB w g t.1 t.2.1 t.2.2) (he : EnvB g w) (hk : TkOk t n) (hn : n < 1000000) :
    Calls Tryz.prog 14 #[.pointer (some ⟨g, 0, none⟩), .int .u8 (c.toNat : Int)] w (TkP w g (takeH t c).1 (takeH t c).2.1 (takeH t c).2.2) := by
  unfold takeH
  by_cases h0 : t.2.1.st = 0
  · rw [if_pos h0]
    have e := hk.op h0
    rw [e] at h
    exact take_open g t.1 t.2.2 c w h he hk.ok (Nat.lt_of_le_of_lt hk.le hn)
  · rw [if_neg h0]
    exact take_known g t.1 t.2.1 t.2.2 c w h h0
def foldH (b : List UInt8) : Hs × Vd × Nat := b.foldl takeH (.new, .open_, 0)
theorem fold_all (b : List UInt8) : (foldH b).2 = allH b := takes_run .new 0 b
theorem fold_next (b : List UInt8) (k : Nat) (h : k < b.length) : foldH (b.take (k + 1)) = takeH (foldH (b.take k)) b[k] := by
  unfold foldH
  rw [List.take_succ_eq_append_getElem h, List.foldl_append]
  rfl
set_option maxRecDepth 100000 in
set_option maxHeartbeats 8000000 in
theorem takes16_any (M : Nat → Prop) (vb : Value) (b : List UInt8) (w : World) (hb : Rd u8 M w vb b) (he : EnvP w) :
    Calls Tryz.prog 4 #[vb] w (TrueV w) := by
  obtain ⟨A, cp, rfl, hle⟩ := hb.form
  have hcm := hb.at_.2.2.1
  unfold maxLen at hcm
  obtain ⟨R, hR⟩ : ∃ R, R = TrueV w := ⟨_, rfl⟩
  rw [← hR]
  have HR := Lib.hid hR
  have HM := Lib.hid he
  have HB := Lib.hid hb
  clear hR he hb
  by_cases hbig : b.length ≤ 400
  · have h1 : decide ((400 : Int) < (b.length : Int)) = false := decide_eq_false (by omega)
    have HS0 := Lib.hid (Stp.refl (fun _ => False) w)
    go_enter Tryz.func4, Tryz.ntmps4
    go_wp2_with (go_at_call 9; refine stopc ?_)
    refine Stop.go ?_
    refine (small16_any _ (HM.out.step HS0.out)).mono ?_
    rintro e w1 ⟨he, hs1⟩
    subst he
    have HS1 := Lib.hid (HS0.out.trans hs1)
    clear hs1
    go_wp2_with (go_at_call 13; refine stopc ?_)
    refine Stop.go ?_
    refine (pnew_any _).mono ?_
    rintro e w2 ⟨g, rfl, hgw, hp, hs2⟩
    have HS2 := Lib.hid (HS1.out.trans hs2)
    clear hs2
    have HP := Lib.hid (show PkB _ g .new .open_ 0 from ⟨_, hp⟩)
    have hgw1 : w.heap.size ≤ g := Nat.le_trans HS1.out.size hgw
    clear hgw hp
    go_wp2
    go_loopg [5] b.length (fun gf i wr => ∃ (k : Nat), k + gf = b.length ∧ i = .int .i64 k ∧ PkB wr g (foldH (b.take k)).1 (foldH (b.take k)).2.1 (foldH (b.take k)).2.2 ∧ TkOk (foldH (b.take k)) k ∧ Stp (fun _ => False) w wr)
    case atStart => exact ⟨0, by omega, rfl, HP.out, ⟨HsOk.new, fun _ => rfl, Nat.le_refl _⟩, HS2.out⟩
    case round =>
      obtain ⟨k, hk, rfl, hp, hok, hs⟩ := hrel
      have HP := Lib.hid hp
      have HOK := Lib.hid hok
      have HS := Lib.hid hs
      clear hp hok hs
      by_cases hlt : k < b.length
      · obtain ⟨ad, rfl, -, -⟩ := plain_cell (HB.out.stp0 HS.out) k hlt
        have hnx := fold_next b k hlt
        obtain ⟨c, hcc⟩ : ∃ c, c = b[k] := ⟨_, rfl⟩
        rw [← hcc] at hnx
        have HCELL : Hid (∀ W, Stp (fun _ => False) w W → W.cell? (ad.add k) = some (.int .u8 (c.toNat : Int))) := Lib.hid (fun W hW => by
          obtain ⟨_, ⟨⟩, -, h⟩ := plain_cell (HB.out.stp0 hW) k hlt
          rw [hcc]
          exact h)
        obtain ⟨hc1, hc2⟩ := cut_hi (P := Tryz.prog) u8 22 5 Tryz.underlying22 (by kernel_rfl) (some ad) b.length cp (k + 1) hlt hle
        have htk : (b.take (k + 1)).length = k + 1 := by rw [List.length_take]; omega
        have hal := fold_all (b.take (k + 1))
        obtain ⟨V, hV⟩ : ∃ V, V = vdV (allH (b.take (k + 1))).1 (allH (b.take (k + 1))).2 := ⟨_, rfl⟩
        have HCT : Hid (∀ W, PkB W g (foldH (b.take k)).1 (foldH (b.take k)).2.1 (foldH (b.take k)).2.2 → Stp (fun _ => False) w W → Calls Tryz.prog 14 #[.pointer (some ⟨g, 0, none⟩), .int .u8 (c.toNat : Int)] W fun e w' => e = .returned V ∧ PkB w' g (foldH (b.take (k + 1))).1 (foldH (b.take (k + 1))).2.1 (foldH (b.take (k + 1))).2.2 ∧ Stp (NoVd g W) W w') := Lib.hid (fun W hp hs => by
          have h := take_any g _ k c W hp ⟨w, HM.out, hgw1, hs⟩ HOK.out (by omega)
          rw [← hnx] at h
          rw [hV, ← hal]
          exact h)
        have HCA : Hid (∀ W, Stp (fun _ => False) w W → Calls Tryz.prog 12 #[.slice (some ad) (k + 1) cp] W fun e w' => e = .returned V ∧ Stp (fun _ => False) W w') := Lib.hid (fun W hs => by
          have h := pallR_any M (.slice (some ad) (k + 1) cp) (b.take (k + 1)) W (hc2 M W b (HB.out.stp0 hs)) (by omega)
          rw [hV]
          exact h)
        have HCS : Hid (∀ W, Calls Tryz.prog 10 #[V, V] W (TrueV W)) := Lib.hid (fun W => by
          rw [hV]
          exact same15_eq _ _ W)
        have HNX : Hid (TkOk (foldH (b.take (k + 1))) (k + 1)) := Lib.hid (by rw [hnx]; exact HOK.out.take c)
        have hin : (k : Int) < (b.length : Int) := by omega
        have hw : IntKind.i64.wrap ((k : Int) + 1) = (k : Int) + 1 := IntWalk.i64_in _ (by omega)
        have hk1 : ((k : Int) + 1) ≤ (b.length : Int) := by omega
        have hsl : ∀ (W : World) (kh : IntKind), (Instr.slice 22 (.slice (some ad) b.length cp) none (some (.int kh ((k : Int) + 1))) none).run Tryz.prog W = .ok (.slice (some ad) (k + 1) cp) W := fun W kh => hc1 W kh
        clear hnx hcc hc2 hc1 htk hal hV
        go_wp2_with fail
        have hT0 : Stp (fun _ => False) wr wr.drew := (Stp.refl _ _).drew
        refine wp_region_held_drew (S := (fun W => W.cell? (ad.add k) = some (.int .u8 (c.toNat : Int)))) (by kernel_rfl) (HCELL.out _ (HS.out.drew)) (fun hHeld => ?_)
        try (change wpAnyH _ _ _ _ _ _ _ _ (World.drew _))
        generalize wr.drew = W0 at hT0 hHeld ⊢
        have HT := Lib.hid (HS.out.trans hT0)
        have HPP := Lib.hid (HP.out.stp0 hT0)
        clear hT0
        refine rg_take (i := 0) (o := { dst := some 26, op := Op.move (Operand.tmp 4), type := 34, pos := "law.go:47", after := #[], guard := none }) (v := ?rgv1) rfl (by kernel_rfl) (by kernel_rfl) (by kernel_rfl) (fun _ _ _ h => h) (by rfl) (fun w hSw => ?rgy1) hHeld ?_
        case rgy1 => (try dsimp only at hSw); first | (go_simp; done) | (go_simp; with_reducible rfl)
        try simp only [Act.put, List.setIfInBounds_toArray, List.set_cons_zero, List.set_cons_succ]
        refine rg_take (i := 1) (o := { dst := some 27, op := Op.move (Operand.tmp 0), type := 22, pos := "law.go:47", after := #[], guard := none }) (v := ?rgv2) rfl (by kernel_rfl) (by kernel_rfl) (by kernel_rfl) (fun _ _ _ h => h) (by rfl) (fun w hSw => ?rgy2) hHeld ?_
        case rgy2 => (try dsimp only at hSw); first | (go_simp; done) | (go_simp; with_reducible rfl)
        try simp only [Act.put, List.setIfInBounds_toArray, List.set_cons_zero, List.set_cons_succ]
        refine rg_take (i := 2) (o := { dst := some 28, op := Op.move (Operand.tmp 5), type := 3, pos := "law.go:47", after := #[], guard := none }) (v := ?rgv3) rfl (by kernel_rfl) (by kernel_rfl) (by kernel_rfl) (fun _ _ _ h => h) (by rfl) (fun w hSw => ?rgy3) hHeld ?_
        case rgy3 => (try dsimp only at hSw); first | (go_simp; done) | (go_simp; with_reducible rfl)
        try simp only [Act.put, List.setIfInBounds_toArray, List.set_cons_zero, List.set_cons_succ]
        refine rg_take (i := 3) (o := { dst := some 29, op := Op.indexAddr 22 (Operand.tmp 27) (Operand.tmp 28), type := 0, pos := "law.go:47", after := #[{ on := 1, ground := Ground.data }, { on := 2, ground := Ground.data }], guard := none }) (v := ?rgv4) rfl (by kernel_rfl) (by kernel_rfl) (by kernel_rfl) (fun _ _ _ h => h) (by rfl) (fun w hSw => ?rgy4) hHeld ?_
        case rgy4 => (try dsimp only at hSw); first | (go_simp; done) | (go_simp; with_reducible rfl)
        try simp only [Act.put, List.setIfInBounds_toArray, List.set_cons_zero, List.set_cons_succ]
        refine rg_take (i := 4) (o := { dst := some 30, op := Op.load 5 (Operand.tmp 29), type := 5, pos := "law.go:47", after := #[{ on := 3, ground := Ground.data }], guard := none }) (v := ?rgv5) rfl (by kernel_rfl) (by kernel_rfl) (by kernel_rfl) (fun _ _ _ h => h) (by rfl) (fun w hSw => ?rgy5) hHeld ?_
        case rgy5 => (try dsimp only at hSw); first | (go_simp; done) | (go_simp; with_reducible rfl)
        try simp only [Act.put, List.setIfInBounds_toArray, List.set_cons_zero, List.set_cons_succ]
        refine rg_take (i := 6) (o := { dst := some 32, op := Op.move (Operand.tmp 0), type := 22, pos := "law.go:47", after := #[], guard := none }) (v := ?rgv6) rfl (by kernel_rfl) (by kernel_rfl) (by kernel_rfl) (fun _ _ _ h => h) (by rfl) (fun w hSw => ?rgy6) hHeld ?_
        case rgy6 => (try dsimp only at hSw); first | (go_simp; done) | (go_simp; with_reducible rfl)
        try simp only [Act.put, List.setIfInBounds_toArray, List.set_cons_zero, List.set_cons_succ]
        refine rg_take (i := 7) (o := { dst := some 33, op := Op.move (Operand.tmp 5), type := 3, pos := "law.go:47", after := #[], guard := none }) (v := ?rgv7) rfl (by kernel_rfl) (by kernel_rfl) (by kernel_rfl) (fun _ _ _ h => h) (by rfl) (fun w hSw => ?rgy7) hHeld ?_
        case rgy7 => (try dsimp only at hSw); first | (go_simp; done) | (go_simp; with_reducible rfl)
        try simp only [Act.put, List.setIfInBounds_toArray, List.set_cons_zero, List.set_cons_succ]
        refine rg_take (i := 8) (o := { dst := some 34, op := Op.binOp BinOp.add 3 (Operand.tmp 33) (Operand.const (Value.int IntKind.i64 1)) 3, type := 3, pos := "law.go:47", after := #[{ on := 7, ground := Ground.data }], guard := none }) (v := ?rgv8) rfl (by kernel_rfl) (by kernel_rfl) (by kernel_rfl) (fun _ _ _ h => h) (by rfl) (fun w hSw => ?rgy8) hHeld ?_
        case rgy8 => (try dsimp only at hSw); first | (go_simp; done) | (go_simp; with_reducible rfl)
        try simp only [Act.put, List.setIfInBounds_toArray, List.set_cons_zero, List.set_cons_succ]
        refine rg_take (i := 9) (o := { dst := some 35, op := Op.slice 22 (Operand.tmp 32) none (some (Operand.tmp 34)) none, type := 22, pos := "law.go:47", after := #[{ on := 6, ground := Ground.data }, { on := 8, ground := Ground.data }], guard := none }) (v := ?rgv9) rfl (by kernel_rfl) (by kernel_rfl) (by kernel_rfl) (fun _ _ _ h => h) (by rfl) (fun w hSw => ?rgy9) hHeld ?_
        case rgy9 => (try dsimp only at hSw); first | (go_simp; done) | (go_simp; with_reducible rfl)
        try simp only [Act.put, List.setIfInBounds_toArray, List.set_cons_zero, List.set_cons_succ]
        refine wpAnyH_ready (rs := [5]) (by kernel_rfl) (by simp) ?_
        refine (AllReadyH.cons (o := { dst := some 31, op := Op.call { callee := Callee.value (Operand.func 14), args := #[Operand.tmp 26, Operand.tmp 30], argTypes := #[34, 5] }, type := 31, pos := "law.go:47", after := #[{ on := 0, ground := Ground.data }, { on := 4, ground := Ground.data }], guard := none }) rfl (fun K hK => ?_) AllReadyH.nil)
        go_simp
        refine (HCT.out _ HPP.out HT.out).mono ?_
        rintro e W1 ⟨rfl, hp1, hs1⟩
        replace HPP := Lib.hid hp1
        replace HT := Lib.hid (HT.out.then_ hs1 (fun j hj h => by have := h.1; omega))
        clear hp1 hs1
        show K _ _
        clear hHeld
        refine hK.out _ _ (HCELL.out _ HT.out) (fun hHeld => ?_)
        clear hK K
        try simp only [Act.put, List.setIfInBounds_toArray, List.set_cons_zero, List.set_cons_succ]
        refine wpAnyH_ready (rs := [10]) (by kernel_rfl) (by simp) ?_
        refine (AllReadyH.cons (o := { dst := some 36, op := Op.call { callee := Callee.value (Operand.func 12), args := #[Operand.tmp 35], argTypes := #[22] }, type := 31, pos := "law.go:47", after := #[{ on := 9, ground := Ground.data }, { on := 5, ground := Ground.chain }], guard := none }) rfl (fun K hK => ?_) AllReadyH.nil)
        go_simp
        refine (HCA.out _ HT.out).mono ?_
        rintro e W2 ⟨rfl, hs1⟩
        replace HT := Lib.hid (HT.out.trans hs1)
        first | replace HPP := Lib.hid (PkB.stp0 HPP.out hs1) | skip
        clear hs1
        show K _ _
        clear hHeld
        refine hK.out _ _ (HCELL.out _ HT.out) (fun hHeld => ?_)
        clear hK K
        try simp only [Act.put, List.setIfInBounds_toArray, List.set_cons_zero, List.set_cons_succ]
        refine wpAnyH_ready (rs := [11]) (by kernel_rfl) (by simp) ?_
        refine (AllReadyH.cons (o := { dst := some 37, op := Op.call { callee := Callee.value (Operand.func 10), args := #[Operand.tmp 31, Operand.tmp 36], argTypes := #[31, 31] }, type := 4, pos := "law.go:47", after := #[{ on := 5, ground := Ground.data }, { on := 10, ground := Ground.data }, { on := 10, ground := Ground.chain }], guard := none }) rfl (fun K hK => ?_) AllReadyH.nil)
        go_simp
        refine (HCS.out _).mono ?_
        rintro e W3 ⟨rfl, hs1⟩
        replace HT := Lib.hid (HT.out.trans hs1)
        replace HPP := Lib.hid (PkB.stp0 HPP.out hs1)
        clear hs1
        show K _ _
        clear hHeld
        refine hK.out _ _ (HCELL.out _ HT.out) (fun hHeld => ?_)
        clear hK K
        try simp only [Act.put, List.setIfInBounds_toArray, List.set_cons_zero, List.set_cons_succ]
        refine rg_take (i := 12) (o := { dst := some 38, op := Op.unOp UnOp.not 4 (Operand.tmp 37), type := 4, pos := "law.go:47", after := #[{ on := 11, ground := Ground.data }], guard := none }) (v := ?rgv10) rfl (by kernel_rfl) (by kernel_rfl) (by kernel_rfl) (fun _ _ _ h => h) (by rfl) (fun w hSw => ?rgy10) hHeld ?_
        case rgy10 => (try dsimp only at hSw); first | (go_simp; done) | (go_simp; with_reducible rfl)
        try simp only [Act.put, List.setIfInBounds_toArray, List.set_cons_zero, List.set_cons_succ]
        clear hHeld
        refine wpAnyH_done (by kernel_rfl) ?_ _
        obtain ⟨g', rfl⟩ : ∃ g', gk = g' + 1 := ⟨gk - 1, by omega⟩
        go_wp2
        go_roundg g'
        case measure => omega
        case rel => exact ⟨k + 1, by omega, by go_num, HPP.out, HNX.out, HT.out⟩
      · have HS9 := Lib.hid HS.out
        go_wp2
        rw [HR.out]
        exact ⟨rfl, HS9.out⟩
  · have h1 : decide ((400 : Int) < (b.length : Int)) = true := decide_eq_true (by omega)
    clear hbig
    have HS0 := Lib.hid (Stp.refl (fun _ => False) w)
    go_enter Tryz.func4, Tryz.ntmps4
    go_wp2_with (go_at_call 9; refine stopc ?_)
    refine Stop.go ?_
    refine (small16_any _ (HM.out.step HS0.out)).mono ?_
    rintro e w1 ⟨he, hs1⟩
    subst he
    have HS1 := Lib.hid (HS0.out.trans hs1)
    clear hs1
    go_wp2_with (go_at_call 13; refine stopc ?_)
    refine Stop.go ?_
    refine (pnew_any _).mono ?_
    rintro e w2 ⟨g, rfl, hgw, hp, hs2⟩
    have HS2 := Lib.hid (HS1.out.trans hs2)
    clear hs2
    clear hgw hp
    go_wp2
    rw [HR.out]
    exact ⟨rfl, HS2.out⟩
end Go.Proofs.YtgjmaifgkgejgaaGreatDoor.L
