/- Texts of the proof, joined: Wa. -/
import Derived.Test.YtligofmhbbgalaaGreatDoorG14
import Derived.Test.YtligofmhbbgalaaGreatDoorG21
set_option linter.unusedVariables false
set_option linter.unusedSimpArgs false
/- Layers 3, 13: the document's small functions. -/
namespace Go.Proofs.YtligofmhbbgalaaGreatDoor.L
open Go.RowKit Go.Proofs

theorem hex16_all : ∀ d : Fin 16, ((⟨#[48, 49, 50, 51, 52, 53, 54, 55, 56, 57, 97, 98, 99, 100, 101, 102]⟩ : ByteArray).extract d.1 (d.1 + 1)).data.toList = [hxC d.1] := by decide
theorem hex16_at (n : Nat) (h : n < 16) : (⟨#[48, 49, 50, 51, 52, 53, 54, 55, 56, 57, 97, 98, 99, 100, 101, 102]⟩ : ByteArray).extract n (n + 1) = strB [hxC n] := by
  have := hex16_all ⟨n, h⟩
  rw [← sB_self (ByteArray.extract _ _ _), this]

set_option maxRecDepth 100000 in
set_option maxHeartbeats 4000000 in
theorem hexRT_any (n : Nat) (w : World) (h : n < 65536) :
    Calls Tryz.prog 130 #[.int .i64 (n : Int)] w fun e w' => e = .returned (.string (strB (hxT n))) ∧ w' = w := by
  induction n using Nat.strongRecOn generalizing w with
  | ind n ih =>
    obtain ⟨R, hR⟩ : ∃ R : ByteArray, R = strB (hxT n) := ⟨_, rfl⟩
    rw [← hR]
    by_cases h16 : n < 16
    · have HR := Lib.hid (show R = (⟨#[48, 49, 50, 51, 52, 53, 54, 55, 56, 57, 97, 98, 99, 100, 101, 102]⟩ : ByteArray).extract n (n + 1) by rw [hR, hex16_at n h16, hxT, dif_pos h16])
      clear hR ih
      go_enter Tryz.func130, Tryz.ntmps130
      go_wp2
      go_ret
      exact ⟨ret_s HR.out.symm, rfl⟩
    · have i1 := fun W => ih (n / 16) (by omega) W (by omega)
      have i2 := fun W => ih (n % 16) (by omega) W (by omega)
      have HR := Lib.hid (show R = strB (hxT (n / 16)) ++ strB (hxT (n % 16)) by
        rw [hR, strB_append, show hxT (n % 16) = [hxC (n % 16)] by rw [hxT, dif_pos (by omega)]]
        conv => lhs; rw [hxT, dif_neg h16])
      obtain ⟨x, hx⟩ : ∃ x, x = strB (hxT (n / 16)) := ⟨_, rfl⟩
      obtain ⟨y, hy⟩ : ∃ y, y = strB (hxT (n % 16)) := ⟨_, rfl⟩
      rw [← hx] at i1 HR
      rw [← hy] at i2 HR
      have hxs : x.size ≤ 20 := by rw [hx, strB_size]; have := hxT_len (n / 16) 3 (by omega); omega
      have hys : y.size ≤ 20 := by rw [hy, strB_size]; have := hxT_len (n % 16) 3 (by omega); omega
      clear hR ih hx hy
      have e1 : ((n : Int) / 16) = ((n / 16 : Nat) : Int) := by omega
      have e2 : ((n : Int) % 16) = ((n % 16 : Nat) : Int) := by omega
      rw [← e1] at i1
      rw [← e2] at i2
      clear e1 e2
      go_enter Tryz.func130, Tryz.ntmps130
      go_wp2_with (go_at_call 130; refine stopc ?_)
      refine Stop.go ?_
      refine (i1 _).mono ?_
      rintro e w1 ⟨rfl, rfl⟩
      go_wp2_with (go_at_call 130; refine stopc ?_)
      refine Stop.go ?_
      refine (i2 _).mono ?_
      rintro e w2 ⟨rfl, rfl⟩
      go_wp2
      go_ret
      exact ⟨ret_s HR.out.symm, rfl⟩
end Go.Proofs.YtligofmhbbgalaaGreatDoor.L

/-! Layer 3: the document's addresses: of four, groups, dotted texts. -/
namespace Go.Proofs.YtligofmhbbgalaaGreatDoor.L
open Go.RowKit Go.Proofs

set_option maxRecDepth 100000 in
set_option maxHeartbeats 4000000 in
theorem groupR_any (a : List UInt8) (ha : a.length = 16) (k n : Nat) (hk : k < 8) (hn : (pairsN a)[k]? = some n) (w : World) :
    Calls Tryz.prog 129 #[.agg (cellsA a), .int .i64 (k : Int)] w fun e w' => e = .returned (.int .i64 (n : Int)) ∧ Stp (fun _ => False) w w' := by
  have h1 : 2 * k < a.length := by omega
  have h2 : 2 * k + 1 < a.length := by omega
  obtain ⟨x, hx⟩ : ∃ x, x = a[2 * k] := ⟨_, rfl⟩
  obtain ⟨y, hy⟩ : ∃ y, y = a[2 * k + 1] := ⟨_, rfl⟩
  have hnv : (n : Int) = (x.toNat : Int) * 256 + (y.toNat : Int) := by
    have := pairs_at a 8 k ha hk
    rw [hn, ← hx, ← hy] at this
    injection this with this
    omega
  have hx8 := UInt8.toNat_lt x
  have hy8 := UInt8.toNat_lt y
  have HN := Lib.hid hnv
  have i1 : IntKind.i64.wrap (2 * (k : Int)) = 2 * (k : Int) := IntWalk.i64_in _ (by omega)
  have i2 : IntKind.i64.wrap (2 * (k : Int) + 1) = 2 * (k : Int) + 1 := IntWalk.i64_in _ (by omega)
  have i3 : (0 : Int) ≤ 2 * (k : Int) := by omega
  have i4 : (0 : Int) ≤ 2 * (k : Int) + 1 := by omega
  have i5 : 2 * (k : Int) < 16 := by omega
  have i6 : 2 * (k : Int) + 1 < 16 := by omega
  have i7 : (2 * (k : Int)).toNat = 2 * k := by omega
  have i8 : (2 * (k : Int) + 1).toNat = 2 * k + 1 := by omega
  have w1 : IntKind.i64.wrap (x.toNat : Int) = (x.toNat : Int) := IntWalk.i64_in _ (by omega)
  have w2 : IntKind.i64.wrap (y.toNat : Int) = (y.toNat : Int) := IntWalk.i64_in _ (by omega)
  have w3 : IntKind.i64.wrap ((x.toNat : Int) * 256) = (x.toNat : Int) * 256 := IntWalk.i64_in _ (by omega)
  have w4 : IntKind.i64.wrap ((x.toNat : Int) * 256 + (y.toNat : Int)) = (x.toNat : Int) * 256 + (y.toNat : Int) := IntWalk.i64_in _ (by omega)
  have HX := Lib.hid hx
  have HY := Lib.hid hy
  clear hx hy hnv hn hx8 hy8
  go_enter Tryz.func129, Tryz.ntmps129
  go_wp2
  refine wp_gen (fun W => Arr w.heap.size 76 a W ∧ Stp (fun _ => False) w W) ⟨arr_new _ _ _ _ rfl, (Stp.refl _ w).alloc _⟩ ?_
  rintro W1 ⟨hA, hs⟩
  have HA := Lib.hid hA
  have HS := Lib.hid hs
  clear hA hs
  refine wp_region_held_drew (S := (fun W => W.cell? ⟨w.heap.size, 2 * k, none⟩ = some (.int .u8 (x.toNat : Int)) ∧ W.cell? ⟨w.heap.size, 2 * k + 1, none⟩ = some (.int .u8 (y.toNat : Int)))) (by kernel_rfl) (⟨by rw [HX.out]; exact HA.out.drew.cell (2 * k) h1, by rw [HY.out]; exact HA.out.drew.cell (2 * k + 1) h2⟩) (fun hHeld => ?_)
  try (change wpAnyH _ _ _ _ _ _ _ _ (World.drew _))
  refine rg_take (i := 0) (o := { dst := some 5, op := Op.move (Operand.tmp 1), type := 3, pos := "ref.go:136", after := #[], guard := none }) (v := ?rgv1) rfl (by kernel_rfl) (by kernel_rfl) (by kernel_rfl) (fun _ _ _ h => h) (by rfl) (fun w hSw => ?rgy1) hHeld ?_
  case rgy1 => (try dsimp only at hSw); first | (go_simp; done) | (go_simp; with_reducible rfl)
  try simp only [Act.put, List.setIfInBounds_toArray, List.set_cons_zero, List.set_cons_succ]
  refine rg_take (i := 1) (o := { dst := some 6, op := Op.binOp BinOp.mul 3 (Operand.const (Value.int IntKind.i64 2)) (Operand.tmp 5) 3, type := 3, pos := "ref.go:136", after := #[{ on := 0, ground := Ground.data }], guard := none }) (v := ?rgv2) rfl (by kernel_rfl) (by kernel_rfl) (by kernel_rfl) (fun _ _ _ h => h) (by rfl) (fun w hSw => ?rgy2) hHeld ?_
  case rgy2 => (try dsimp only at hSw); first | (go_simp; done) | (go_simp; with_reducible rfl)
  try simp only [Act.put, List.setIfInBounds_toArray, List.set_cons_zero, List.set_cons_succ]
  refine rg_take (i := 2) (o := { dst := some 7, op := Op.indexAddr 76 (Operand.tmp 2) (Operand.tmp 6), type := 0, pos := "ref.go:136", after := #[{ on := 1, ground := Ground.data }], guard := none }) (v := ?rgv3) rfl (by kernel_rfl) (by kernel_rfl) (by kernel_rfl) (fun _ _ _ h => h) (by rfl) (fun w hSw => ?rgy3) hHeld ?_
  case rgy3 => (try dsimp only at hSw); first | (go_simp; done) | (go_simp; with_reducible rfl)
  try simp only [Act.put, List.setIfInBounds_toArray, List.set_cons_zero, List.set_cons_succ]
  refine rg_take (i := 3) (o := { dst := some 8, op := Op.load 5 (Operand.tmp 7), type := 5, pos := "ref.go:136", after := #[{ on := 2, ground := Ground.data }], guard := none }) (v := ?rgv4) rfl (by kernel_rfl) (by kernel_rfl) (by kernel_rfl) (fun _ _ _ h => h) (by rfl) (fun w hSw => ?rgy4) hHeld ?_
  case rgy4 => (have hk0 := hSw.1; go_simp; with_reducible rfl)
  try simp only [Act.put, List.setIfInBounds_toArray, List.set_cons_zero, List.set_cons_succ]
  refine rg_take (i := 4) (o := { dst := some 9, op := Op.convert 5 3 (Operand.tmp 8), type := 3, pos := "ref.go:136", after := #[{ on := 3, ground := Ground.data }], guard := none }) (v := ?rgv5) rfl (by kernel_rfl) (by kernel_rfl) (by kernel_rfl) (fun _ _ _ h => h) (by rfl) (fun w hSw => ?rgy5) hHeld ?_
  case rgy5 => (try dsimp only at hSw); first | (go_simp; done) | (go_simp; with_reducible rfl)
  try simp only [Act.put, List.setIfInBounds_toArray, List.set_cons_zero, List.set_cons_succ]
  refine rg_take (i := 5) (o := { dst := some 10, op := Op.binOp BinOp.mul 3 (Operand.tmp 9) (Operand.const (Value.int IntKind.i64 256)) 3, type := 3, pos := "ref.go:136", after := #[{ on := 4, ground := Ground.data }], guard := none }) (v := ?rgv6) rfl (by kernel_rfl) (by kernel_rfl) (by kernel_rfl) (fun _ _ _ h => h) (by rfl) (fun w hSw => ?rgy6) hHeld ?_
  case rgy6 => (try dsimp only at hSw); first | (go_simp; done) | (go_simp; with_reducible rfl)
  try simp only [Act.put, List.setIfInBounds_toArray, List.set_cons_zero, List.set_cons_succ]
  refine rg_take (i := 6) (o := { dst := some 11, op := Op.move (Operand.tmp 1), type := 3, pos := "ref.go:136", after := #[], guard := none }) (v := ?rgv7) rfl (by kernel_rfl) (by kernel_rfl) (by kernel_rfl) (fun _ _ _ h => h) (by rfl) (fun w hSw => ?rgy7) hHeld ?_
  case rgy7 => (try dsimp only at hSw); first | (go_simp; done) | (go_simp; with_reducible rfl)
  try simp only [Act.put, List.setIfInBounds_toArray, List.set_cons_zero, List.set_cons_succ]
  refine rg_take (i := 7) (o := { dst := some 12, op := Op.binOp BinOp.mul 3 (Operand.const (Value.int IntKind.i64 2)) (Operand.tmp 11) 3, type := 3, pos := "ref.go:136", after := #[{ on := 6, ground := Ground.data }], guard := none }) (v := ?rgv8) rfl (by kernel_rfl) (by kernel_rfl) (by kernel_rfl) (fun _ _ _ h => h) (by rfl) (fun w hSw => ?rgy8) hHeld ?_
  case rgy8 => (try dsimp only at hSw); first | (go_simp; done) | (go_simp; with_reducible rfl)
  try simp only [Act.put, List.setIfInBounds_toArray, List.set_cons_zero, List.set_cons_succ]
  refine rg_take (i := 8) (o := { dst := some 13, op := Op.binOp BinOp.add 3 (Operand.tmp 12) (Operand.const (Value.int IntKind.i64 1)) 3, type := 3, pos := "ref.go:136", after := #[{ on := 7, ground := Ground.data }], guard := none }) (v := ?rgv9) rfl (by kernel_rfl) (by kernel_rfl) (by kernel_rfl) (fun _ _ _ h => h) (by rfl) (fun w hSw => ?rgy9) hHeld ?_
  case rgy9 => (try dsimp only at hSw); first | (go_simp; done) | (go_simp; with_reducible rfl)
  try simp only [Act.put, List.setIfInBounds_toArray, List.set_cons_zero, List.set_cons_succ]
  refine rg_take (i := 9) (o := { dst := some 14, op := Op.indexAddr 76 (Operand.tmp 2) (Operand.tmp 13), type := 0, pos := "ref.go:136", after := #[{ on := 8, ground := Ground.data }], guard := none }) (v := ?rgv10) rfl (by kernel_rfl) (by kernel_rfl) (by kernel_rfl) (fun _ _ _ h => h) (by rfl) (fun w hSw => ?rgy10) hHeld ?_
  case rgy10 => (try dsimp only at hSw); first | (go_simp; done) | (go_simp; with_reducible rfl)
  try simp only [Act.put, List.setIfInBounds_toArray, List.set_cons_zero, List.set_cons_succ]
  refine rg_take (i := 10) (o := { dst := some 15, op := Op.load 5 (Operand.tmp 14), type := 5, pos := "ref.go:136", after := #[{ on := 9, ground := Ground.data }], guard := none }) (v := ?rgv11) rfl (by kernel_rfl) (by kernel_rfl) (by kernel_rfl) (fun _ _ _ h => h) (by rfl) (fun w hSw => ?rgy11) hHeld ?_
  case rgy11 => (have hk0 := hSw.2; go_simp; with_reducible rfl)
  try simp only [Act.put, List.setIfInBounds_toArray, List.set_cons_zero, List.set_cons_succ]
  refine rg_take (i := 11) (o := { dst := some 16, op := Op.convert 5 3 (Operand.tmp 15), type := 3, pos := "ref.go:136", after := #[{ on := 10, ground := Ground.data }], guard := none }) (v := ?rgv12) rfl (by kernel_rfl) (by kernel_rfl) (by kernel_rfl) (fun _ _ _ h => h) (by rfl) (fun w hSw => ?rgy12) hHeld ?_
  case rgy12 => (try dsimp only at hSw); first | (go_simp; done) | (go_simp; with_reducible rfl)
  try simp only [Act.put, List.setIfInBounds_toArray, List.set_cons_zero, List.set_cons_succ]
  refine rg_take (i := 12) (o := { dst := some 17, op := Op.binOp BinOp.add 3 (Operand.tmp 10) (Operand.tmp 16) 3, type := 3, pos := "ref.go:136", after := #[{ on := 5, ground := Ground.data }, { on := 11, ground := Ground.data }], guard := none }) (v := ?rgv13) rfl (by kernel_rfl) (by kernel_rfl) (by kernel_rfl) (fun _ _ _ h => h) (by rfl) (fun w hSw => ?rgy13) hHeld ?_
  case rgy13 => (try dsimp only at hSw); first | (go_simp; done) | (go_simp; with_reducible rfl)
  try simp only [Act.put, List.setIfInBounds_toArray, List.set_cons_zero, List.set_cons_succ]
  refine rg_take (i := 13) (o := { dst := some 4, op := Op.assign (Operand.tmp 17), type := 3, pos := "ref.go:136", after := #[{ on := 12, ground := Ground.data }, { on := 0, ground := Ground.phase }, { on := 1, ground := Ground.phase }, { on := 2, ground := Ground.phase }, { on := 3, ground := Ground.phase }, { on := 4, ground := Ground.phase }, { on := 5, ground := Ground.phase }, { on := 6, ground := Ground.phase }, { on := 7, ground := Ground.phase }, { on := 8, ground := Ground.phase }, { on := 9, ground := Ground.phase }, { on := 10, ground := Ground.phase }, { on := 11, ground := Ground.phase }, { on := 12, ground := Ground.phase }], guard := none }) (v := ?rgv14) rfl (by kernel_rfl) (by kernel_rfl) (by kernel_rfl) (fun _ _ _ h => h) (by rfl) (fun w hSw => ?rgy14) hHeld ?_
  case rgy14 => (try dsimp only at hSw); first | (go_simp; done) | (go_simp; with_reducible rfl)
  try simp only [Act.put, List.setIfInBounds_toArray, List.set_cons_zero, List.set_cons_succ]
  clear hHeld
  refine wpAnyH_done (by kernel_rfl) ?_ _
  skip
  go_wp2
  go_ret
  exact ⟨by rw [HN.out]; rfl, HS.out.drew⟩

set_option maxRecDepth 100000 in
set_option maxHeartbeats 4000000 in
theorem fourR_any (a : List UInt8) (ha : a.length = 16) (w : World) : Calls Tryz.prog 127 #[.agg (cellsA a)] w fun e w' => e = .returned (.bool (fourB a)) ∧ Stp (fun _ => False) w w' := by
  obtain ⟨R, hR⟩ : ∃ R : Ending → World → Prop, R = fun e w' => e = .returned (.bool (fourB a)) ∧ Stp (fun _ => False) w w' := ⟨_, rfl⟩
  rw [← hR]
  have HR := Lib.hid hR
  have HL := Lib.hid ha
  clear hR
  go_enter Tryz.func127, Tryz.ntmps127
  go_wp2
  refine wp_gen (fun W => Arr w.heap.size 76 a W ∧ Stp (fun _ => False) w W) ⟨arr_new _ _ _ _ rfl, (Stp.refl _ w).alloc _⟩ ?_
  rintro W1 ⟨hA, hs⟩
  have HA := Lib.hid hA
  have HS := Lib.hid hs
  clear hA hs
  go_loopg [3] 10 (fun gf i wx => ∃ k : Nat, k + gf = 10 ∧ i = .int .i64 k ∧ (∀ j (hj : j < a.length), j < k → a[j] = 0) ∧ wx = W1)
  case atStart => exact ⟨0, rfl, rfl, fun j hj h => absurd h (by omega), rfl⟩
  case round =>
    obtain ⟨k, hk, rfl, hall, rfl⟩ := hrel
    have HALL := Lib.hid hall
    clear hall
    by_cases hlt : k < 10
    · have hka : k < a.length := by omega
      obtain ⟨x, hx⟩ : ∃ x, x = a[k] := ⟨_, rfl⟩
      have hc : wr.cell? ⟨w.heap.size, k, none⟩ = some (.int .u8 (x.toNat : Int)) := by rw [hx]; exact HA.out.cell k hka
      have h1 : decide ((k : Int) < 10) = true := decide_eq_true (by omega)
      have h2 : (k : Int) < 16 := by omega
      have hw : IntKind.i64.wrap ((k : Int) + 1) = (k : Int) + 1 := IntWalk.i64_in _ (by omega)
      have HX := Lib.hid hx
      clear hx
      by_cases h0 : x = 0
      · have hb : ((x.toNat : Int) != 0) = false := by rw [h0]; rfl
        have H0 := Lib.hid h0
        clear h0
        obtain ⟨g', rfl⟩ : ∃ g', gk = g' + 1 := ⟨gk - 1, by omega⟩
        go_wp2
        go_roundg g'
        case measure => omega
        case rel =>
          refine ⟨k + 1, by omega, by go_num, fun j hj h1 => ?_, rfl⟩
          by_cases hjk : j = k
          · subst hjk
            rw [← HX.out, H0.out]
          · exact HALL.out j hj (by omega)
      · have hb : ((x.toNat : Int) != 0) = true := by
          have : x.toNat ≠ 0 := fun e => h0 (UInt8.toNat_inj.1 e)
          simp
          omega
        have HD : Hid (fourB a = false) := Lib.hid (by
          unfold fourB
          rw [decide_eq_false_iff_not]
          intro e
          have h3 : (a.take 12)[k]? = aheadL[k]? := by rw [e]
          rw [List.getElem?_take, if_pos (by omega), List.getElem?_eq_getElem hka, ← HX.out] at h3
          have h4 : ∀ i : Fin 10, aheadL[i.1]? = some 0 := by decide
          rw [h4 ⟨k, hlt⟩] at h3
          exact h0 (Option.some.inj h3))
        clear h0
        go_wp2
        rw [HR.out, HD.out]
        exact ⟨rfl, HS.out⟩
    · obtain rfl : k = 10 := by omega
      obtain ⟨x, hx⟩ : ∃ x, x = a[10] := ⟨_, rfl⟩
      obtain ⟨y, hy⟩ : ∃ y, y = a[11] := ⟨_, rfl⟩
      have hc1 : wr.cell? ⟨w.heap.size, 10, none⟩ = some (.int .u8 (x.toNat : Int)) := by rw [hx]; exact HA.out.cell 10 (by omega)
      have hc2 : wr.cell? ⟨w.heap.size, 11, none⟩ = some (.int .u8 (y.toNat : Int)) := by rw [hy]; exact HA.out.cell 11 (by omega)
      have h1 : decide (((10 : Nat) : Int) < 10) = false := by decide
      have HD : Hid (fourB a = (((x.toNat : Int) == 255) && ((y.toNat : Int) == 255))) := Lib.hid (by
        have ht : a.take 12 = [0, 0, 0, 0, 0, 0, 0, 0, 0, 0, x, y] := by
          apply List.ext_getElem?
          intro i
          by_cases hi : i < 12
          · rw [List.getElem?_take, if_pos hi, List.getElem?_eq_getElem (by omega)]
            by_cases h10 : i < 10
            · rw [HALL.out i (by omega) h10]
              have h4 : ∀ i : Fin 10, ([0, 0, 0, 0, 0, 0, 0, 0, 0, 0, x, y] : List UInt8)[i.1]? = some 0 := by
                intro i
                match i with
                | 0 => rfl
                | 1 => rfl
                | 2 => rfl
                | 3 => rfl
                | 4 => rfl
                | 5 => rfl
                | 6 => rfl
                | 7 => rfl
                | 8 => rfl
                | 9 => rfl
              rw [h4 ⟨i, h10⟩]
            · by_cases h11 : i = 10
              · subst h11
                rw [← hx]
                rfl
              · obtain rfl : i = 11 := by omega
                rw [← hy]
                rfl
          · rw [List.getElem?_eq_none (by simp; omega), List.getElem?_eq_none (by simp; omega)]
        unfold fourB
        rw [ht]
        rw [Bool.eq_iff_iff]
        simp only [decide_eq_true_eq, Bool.and_eq_true, beq_iff_eq, aheadL, List.cons.injEq, true_and, and_true]
        constructor
        · rintro ⟨rfl, rfl⟩
          exact ⟨rfl, rfl⟩
        · rintro ⟨e1, e2⟩
          exact ⟨UInt8.toNat_inj.1 (by rw [show (255 : UInt8).toNat = 255 from rfl]; omega), UInt8.toNat_inj.1 (by rw [show (255 : UInt8).toNat = 255 from rfl]; omega)⟩)
      clear hx hy HALL
      cases b1 : ((x.toNat : Int) == 255)
      all_goals
        cases b2 : ((y.toNat : Int) == 255)
        all_goals
          rw [b1, b2] at HD
          go_wp2
          rw [HR.out, HD.out]
          exact ⟨rfl, HS.out⟩
end Go.Proofs.YtligofmhbbgalaaGreatDoor.L

/-! Layer 3: the document's dotted texts, and rows of groups. -/
namespace Go.Proofs.YtligofmhbbgalaaGreatDoor.L
open Go.RowKit Go.Proofs

def of4L (b : List UInt8) (k : Nat) : List UInt8 := aheadL ++ (b.take k ++ zerosL (4 - k))
theorem of4_put (b : List UInt8) (hb : b.length = 4) (k : Nat) (hk : k < 4) : (of4L b k).set (12 + k) (b[k]'(by omega)) = of4L b (k + 1) := by
  match b, hb with
  | [x, y, z, u], _ =>
    match k, hk with
    | 0, _ => rfl
    | 1, _ => rfl
    | 2, _ => rfl
    | 3, _ => rfl

set_option maxRecDepth 100000 in
set_option maxHeartbeats 4000000 in
theorem of4R_any (b : List UInt8) (hb : b.length = 4) (w : World) : Calls Tryz.prog 125 #[.agg (cellsA b)] w fun e w' => e = .returned (.agg (cellsA (aheadL ++ b))) ∧ Stp (fun _ => False) w w' := by
  obtain ⟨R, hR⟩ : ∃ R : Ending → World → Prop, R = fun e w' => e = .returned (.agg (cellsA (aheadL ++ b))) ∧ Stp (fun _ => False) w w' := ⟨_, rfl⟩
  rw [← hR]
  have HR := Lib.hid hR
  have HBL := Lib.hid hb
  clear hR
  go_enter Tryz.func125, Tryz.ntmps125
  go_wp2_with (with_reducible refine stop (N := 5) rfl ?_)
  refine Stop.go ?_
  refine wpl_gen (fun W => Arr w.heap.size 107 b W ∧ Arr (w.heap.size + 1) 76 (zerosL 16) W ∧ Arr (w.heap.size + 1 + 1) 76 (zerosL 16) W ∧ Stp (fun _ => False) w W)
    ⟨((arr_new _ _ _ _ rfl).alloc _).alloc _, (arr_new _ _ _ (zerosL 16) (by simp)).alloc _, arr_new _ _ _ (zerosL 16) (by simp), (((Stp.refl _ w).alloc _).alloc _).alloc _⟩ ?_
  rintro W1 ⟨hA, hB, hC, hs⟩
  have hc10 : W1.cell? ⟨w.heap.size + 1 + 1, 10, none⟩ = some (.int .u8 0) := hC.cell 10 (by decide)
  have hf10 : W1.frozen? ⟨w.heap.size + 1 + 1, 10, none⟩ = false := hC.free 10
  have hC1 := hC.set_ 10 255
  have hc11 : (W1.setCell ⟨w.heap.size + 1 + 1, 10, none⟩ (.int .u8 255)).cell? ⟨w.heap.size + 1 + 1, 11, none⟩ = some (.int .u8 0) := hC1.cell 11 (by decide)
  have hf11 : (W1.setCell ⟨w.heap.size + 1 + 1, 10, none⟩ (.int .u8 255)).frozen? ⟨w.heap.size + 1 + 1, 11, none⟩ = false := hC1.free 11
  have HC2 := Lib.hid (hC1.set_ 11 255)
  have st := (Stp.refl (fun j => j = w.heap.size + 1 + 1) W1).setg 10 (enc8 255)
  have st2 := Lib.hid ((st.setg 11 (enc8 255)))
  have HA := Lib.hid hA
  have HB := Lib.hid hB
  have HS := Lib.hid hs
  clear hA hB hC hC1 hs st
  go_wp2
  go_loopg [4] 4 (fun gf i wx => ∃ k : Nat, k + gf = 4 ∧ i = .int .i64 k ∧ Arr w.heap.size 107 b wx ∧ Arr (w.heap.size + 1) 76 (zerosL 16) wx ∧ Arr (w.heap.size + 1 + 1) 76 (of4L b k) wx ∧ Stp (fun _ => False) w wx)
  case atStart => exact ⟨0, rfl, rfl, HA.out.step st2.out (by omega), HB.out.step st2.out (by omega), HC2.out, HS.out.then_ st2.out (fun k hk h => absurd h (by omega))⟩
  case round =>
    obtain ⟨k, hk, rfl, ha, hb', hc, hst⟩ := hrel
    have HA1 := Lib.hid ha
    have HB1 := Lib.hid hb'
    have HC1 := Lib.hid hc
    have HS1 := Lib.hid hst
    clear ha hb' hc hst HA HB HC2 HS st2 hc10 hf10 hc11 hf11
    by_cases hlt : k < 4
    · obtain ⟨x, hx⟩ : ∃ x, x = b[k]'(by omega) := ⟨_, rfl⟩
      have c1 : wr.cell? ⟨w.heap.size, k, none⟩ = some (.int .u8 (x.toNat : Int)) := by rw [hx]; exact HA1.out.cell k (by omega)
      have hll : 12 + k < (of4L b k).length := by unfold of4L aheadL zerosL; simp; omega
      have c2 : wr.cell? ⟨w.heap.size + 1 + 1, 12 + k, none⟩ = some (enc8 (of4L b k)[12 + k]) := HC1.out.cell (12 + k) hll
      have f2 : wr.frozen? ⟨w.heap.size + 1 + 1, 12 + k, none⟩ = false := HC1.out.free (12 + k)
      have h1 : decide ((k : Int) < 4) = true := decide_eq_true (by omega)
      have h2 : (k : Int) < 4 := by omega
      have w1 : IntKind.i64.wrap (12 + (k : Int)) = 12 + (k : Int) := IntWalk.i64_in _ (by omega)
      have w2 : IntKind.i64.wrap ((k : Int) + 1) = (k : Int) + 1 := IntWalk.i64_in _ (by omega)
      have w3 : (0 : Int) ≤ 12 + (k : Int) := by omega
      have w4 : (12 + (k : Int)) < 16 := by omega
      have w5 : (12 + (k : Int)).toNat = 12 + k := by omega
      have HX := Lib.hid hx
      clear hx
      obtain ⟨g', rfl⟩ : ∃ g', gk = g' + 1 := ⟨gk - 1, by omega⟩
      go_wp2
      go_roundg g'
      case measure => omega
      case rel =>
        have s1 := (Stp.refl (fun j => j = w.heap.size + 1 + 1) wr).setg (12 + k) (enc8 x)
        have e1 := HC1.out.set_ (12 + k) x
        rw [HX.out, of4_put b HBL.out k hlt] at e1
        refine ⟨k + 1, by omega, by go_num, HA1.out.step s1 (by omega), HB1.out.step s1 (by omega), by rw [← HX.out] at e1; exact e1, HS1.out.then_ s1 (fun k hk h => absurd h (by omega))⟩
    · obtain rfl : k = 4 := by omega
      have hL : of4L b 4 = aheadL ++ b := by
        unfold of4L
        rw [List.take_of_length_le (by omega)]
        simp [zerosL]
      have hc := HC1.out
      rw [hL] at hc
      have HC3 := Lib.hid hc
      have h1 : decide (((4 : Nat) : Int) < 4) = false := by decide
      have hl16 : (aheadL ++ b).length = 16 := by simp [hb, aheadL]
      clear hc hL
      go_wp2_with (with_reducible refine stop (N := 17) rfl ?_)
      refine Stop.go ?_
      refine wp_loadA rfl _ _ rfl rfl HC3.out Tryz.underlying76 size_addr hl16 ?_
      refine wp_storeA rfl _ _ _ rfl rfl rfl HB1.out size_addr hl16 rfl ?_
      intro W4 hB4 hs4
      have HB4 := Lib.hid hB4
      have HS6 := Lib.hid (HS1.out.then_ hs4 (fun k hk h => absurd h (by omega)))
      clear hB4 hs4
      go_wp2
      refine bodyPost_ret (results_cell_row rfl _ _ (w.heap.size + 1) _ _ _ _ rfl HB4.out Tryz.underlying76 rfl (by rw [cellsA_size, hl16]; exact size_addr)) rfl ?_
      rw [HR.out]
      exact ⟨rfl, HS6.out⟩

def DotRP (w : World) (l : List UInt8) (e : Ending) (w' : World) : Prop :=
  ∃ v d, e = .returned (.tuple #[v, .bool (dotS l).isSome]) ∧ Own enc8 5 w.heap.size w' v d ∧ (∀ d', dotS l = some d' → d' = d) ∧ d.length ≤ 4 ∧ Stp (fun _ => False) w w'

set_option maxRecDepth 100000 in
set_option maxHeartbeats 4000000 in
theorem dottedR_any (s : ByteArray) (w : World) (hs : s.size < 4294967281) : Calls Tryz.prog 124 #[.string s] w (DotRP w s.data.toList) := by
  obtain ⟨R, hR⟩ : ∃ R, R = DotRP w s.data.toList := ⟨_, rfl⟩
  rw [← hR]
  have HR := Lib.hid hR
  clear hR
  have cc := fun W => cutR_any s 46 W hs
  go_enter Tryz.func124, Tryz.ntmps124
  go_wp2_with (go_at_call 92; refine stopc ?_)
  refine Stop.go ?_
  refine (cc _).mono ?_
  rintro e w1 ⟨v, X, rfl, hX, hown, hs1⟩
  have HX := Lib.hid hX
  have HL : Hid (X.length = (splitC 46 s.data.toList).length) := Lib.hid (by rw [← hX, List.length_map])
  have HZ : Hid (∀ x ∈ X, x.size ≤ s.size) := Lib.hid (fun x hx => by
    have := splitc_le 46 s.data.toList x.data.toList (by rw [← hX]; exact List.mem_map_of_mem hx)
    simpa using this)
  have HOX := Lib.hid hown
  have HS := Lib.hid hs1
  obtain ⟨A, c, rfl, hle⟩ := hown.form
  have HSZ : Hid (w.heap.size ≤ w1.heap.size) := Lib.hid hs1.size
  clear hX hown hs1
  by_cases h4 : X.length = 4
  · have hd : ((X.length : Int) != 4) = false := by simp; omega
    have HD : Hid (dotS s.data.toList = octsA [] (splitC 46 s.data.toList)) := Lib.hid (by unfold dotS; rw [if_pos (by rw [← HL.out]; exact h4)])
    obtain ⟨G, hAG, -⟩ := HOX.out.at_ (by omega)
    subst hAG
    have hx4 := HOX.out
    rw [h4] at hx4 hle
    have HOX4 := Lib.hid hx4
    clear hx4
    go_wp2
    go_loopg [5, 6] 4 (fun gf v i wx => ∃ (k : Nat) (bs : List UInt8), k + gf = 4 ∧ i = .int .i64 k ∧ bs.length = k ∧ octsA [] (splitC 46 s.data.toList) = octsA bs ((splitC 46 s.data.toList).drop k) ∧ Own enc8 5 w1.heap.size wx v bs ∧ Stp (fun _ => False) w1 wx)
    case atStart => exact ⟨0, [], rfl, rfl, rfl, rfl, Own.nil _ _ _ _, Stp.refl _ _⟩
    case round =>
      obtain ⟨k, bs, hk, rfl, hbl, ho, hob, hst⟩ := hrel
      have HO := Lib.hid ho
      have HST := Lib.hid hst
      have HBL := Lib.hid hbl
      have HOB := Lib.hid hob
      obtain ⟨A2, c2, rfl, hle2⟩ := HOB.out.form
      clear ho hst hbl hob
      by_cases hlt : k < 4
      · obtain ⟨gk', rfl⟩ : ∃ gk', gk = gk' + 1 := ⟨gk - 1, by omega⟩
        have hXk : k < X.length := by omega
        have hl2 : (k : Int) < 4 := by omega
        obtain ⟨x, hx⟩ : ∃ x, x = X[k] := ⟨_, rfl⟩
        have hc0 := (HOX4.out.stp0 HST.out).cellAt k hXk
        rw [← hx] at hc0
        have hc : wr.cell? ⟨G, k, none⟩ = some (.string x) := hc0
        have hxs : x.size ≤ s.size := HZ.out x (by rw [hx]; exact List.getElem_mem _)
        have HDR : Hid ((splitC 46 s.data.toList).drop k = x.data.toList :: (splitC 46 s.data.toList).drop (k + 1)) := Lib.hid (by
          have hk2 : k < (splitC 46 s.data.toList).length := by rw [← HL.out]; omega
          rw [List.drop_eq_getElem_cons hk2]
          congr 1
          have : (splitC 46 s.data.toList)[k]? = some x.data.toList := by rw [← HX.out, List.getElem?_map, List.getElem?_eq_getElem hXk, hx]; rfl
          exact (List.getElem?_eq_some_iff.1 this).2)
        have cn := fun W => numberR_any x 255 W (by omega)
        obtain ⟨n, b, hn⟩ : ∃ n b, numS x.data.toList 255 = (n, b) := ⟨_, _, rfl⟩
        rw [hn] at cn
        have hd4 : decide ((k : Int) < 4) = true := decide_eq_true (by omega)
        have hw1 : IntKind.i64.wrap ((k : Int) + 1) = (k : Int) + 1 := IntWalk.i64_in _ (by omega)
        clear hx hc0
        cases b with
        | false =>
          have HN := Lib.hid (octS_none hn)
          have HN2 : Hid (dotS s.data.toList = none) := Lib.hid (by rw [HD.out, HO.out, HDR.out, octsA, HN.out])
          clear hn
          go_wp2_with (go_at_call 159; refine stopc ?_)
          refine Stop.go ?_
          refine (cn _).mono ?_
          rintro e w2 ⟨rfl, hs2⟩
          have HS2 := Lib.hid ((HS.out.trans HST.out).trans hs2)
          clear hs2
          go_wp2
          rw [HR.out]
          unfold DotRP
          rw [HN2.out]
          exact ⟨_, [], rfl, Own.nil _ _ _ _, (fun d' h => by cases h), Nat.zero_le _, HS2.out⟩
        | true =>
          obtain ⟨c8, rfl, hcs⟩ := octS_some hn
          have HN := Lib.hid hcs
          clear hn hcs
          have hw : IntKind.u8.wrap (c8.toNat : Int) = (c8.toNat : Int) := IntWalk.u8_in _ (by have := UInt8.toNat_lt c8; omega)
          go_wp2_with (go_at_call 159; refine stopc ?_)
          refine Stop.go ?_
          refine (cn _).mono ?_
          rintro e w2 ⟨rfl, hs2⟩
          have HT2 := Lib.hid (HST.out.trans hs2)
          have HOB2 := Lib.hid (HOB.out.stp0 hs2)
          have hbl := HBL.out
          clear hs2
          go_wp2_with (with_reducible refine stop (N := 32) rfl ?_)
          refine Stop.go ?_
          refine wp_append1 enc8 c8 rfl rfl _ _ _ rfl Tryz.underlying22 info_u8 rfl (HOB2.out.stp0 ((Stp.refl _ _).alloc _)) ?_ ⟨w2.heap.size, 0, none⟩ 1 rfl ?_ (by omega) (by omega) (by have := HT2.out.size; simp; omega) ?_
          · first | rfl | (rw [hbl]; rfl)
          · exact blk_cell (j := 0) (heap_alloc_new _ _)
          · intro v3 w3 ho3 hg3
            have HO3 := Lib.hid ho3
            have HT3 := Lib.hid ((HT2.out.alloc _).own (HOB2.out.stp0 ((Stp.refl _ _).alloc _)) hg3)
            clear ho3 hg3
            go_wp2
            go_roundg gk'
            case measure => omega
            case rel => exact ⟨k + 1, bs ++ [c8], by omega, by go_num, by simp [HBL.out], by rw [HO.out, HDR.out, octsA, HN.out], HO3.out, HT3.out⟩
      · obtain rfl : k = 4 := by omega
        have hd4 : decide (((4 : Nat) : Int) < 4) = false := by decide
        have HN2 : Hid (dotS s.data.toList = some bs) := Lib.hid (by rw [HD.out, HO.out, List.drop_eq_nil_of_le (by rw [← HL.out]; omega), octsA])
        have hbl4 : bs.length ≤ 4 := by have := HBL.out; omega
        go_wp2
        rw [HR.out]
        unfold DotRP
        rw [HN2.out]
        exact ⟨_, bs, rfl, HOB.out.lower HSZ.out, (fun d' h => by injection h with h; exact h.symm), hbl4, HS.out.trans HST.out⟩
  · have hd : ((X.length : Int) != 4) = true := by simp; omega
    have HD : Hid (dotS s.data.toList = none) := Lib.hid (by unfold dotS; rw [if_neg (by rw [← HL.out]; exact h4)])
    go_wp2
    rw [HR.out]
    unfold DotRP
    rw [HD.out]
    exact ⟨_, [], rfl, Own.nil _ _ _ _, (fun d' h => by cases h), Nat.zero_le _, HS.out⟩
end Go.Proofs.YtligofmhbbgalaaGreatDoor.L

/-! Layer 3: the document's rows of groups. -/
namespace Go.Proofs.YtligofmhbbgalaaGreatDoor.L
open Go.RowKit Go.Proofs

set_option maxRecDepth 100000 in
set_option maxHeartbeats 4000000 in
theorem groupsR_any (s : ByteArray) (may : Bool) (w : World) (hs : s.size < 4294967281) : Calls Tryz.prog 126 #[.string s, .bool may] w (ReadP w may s.data.toList) := by
  obtain ⟨R, hR⟩ : ∃ R, R = ReadP w may s.data.toList := ⟨_, rfl⟩
  rw [← hR]
  have HR := Lib.hid hR
  clear hR
  by_cases h0 : s.data.toList = []
  · have ht : (s.toList == []) = true := by rw [list_eqb]; simp [h0]
    have HD : Hid (readS may s.data.toList = some []) := Lib.hid (by rw [h0]; rfl)
    clear h0
    go_enter Tryz.func126, Tryz.ntmps126
    go_wp2
    rw [HR.out]
    unfold ReadP
    rw [HD.out]
    exact ⟨_, [], rfl, Own.nil _ _ _ _, (fun o h => by injection h with h; exact h.symm), Nat.zero_le _, Stp.refl _ _⟩
  · have ht : (s.toList == []) = false := by rw [list_eqb]; simp [h0]
    have cc := fun W => cutR_any s 58 W hs
    have HD : Hid (readS may s.data.toList = grpsA may [] (splitC 58 s.data.toList)) := Lib.hid (by unfold readS; rw [if_neg h0])
    clear h0
    go_enter Tryz.func126, Tryz.ntmps126
    go_wp2_with (go_at_call 92; refine stopc ?_)
    refine Stop.go ?_
    refine (cc _).mono ?_
    rintro e w1 ⟨v, X, rfl, hX, hown, hs1⟩
    have HX := Lib.hid hX
    have HL : Hid (X.length = (splitC 58 s.data.toList).length) := Lib.hid (by rw [← hX, List.length_map])
    have HZ : Hid (∀ x ∈ X, x.size ≤ s.size) := Lib.hid (fun x hx => by
      have := splitc_le 58 s.data.toList x.data.toList (by rw [← hX]; exact List.mem_map_of_mem hx)
      simpa using this)
    have hXl : X.length ≤ s.size + 1 := by
      rw [HL.out, splitC_len]
      have := List.count_le_length (a := (58 : UInt8)) (l := s.data.toList)
      rw [size_list] at this
      omega
    have hXp : 0 < X.length := by
      rw [HL.out]
      exact List.length_pos_iff.2 (splitC_ne 58 _)
    have HOX := Lib.hid hown
    have HS := Lib.hid hs1
    obtain ⟨A0, c, rfl, hle⟩ := hown.form
    have HSZ : Hid (w.heap.size ≤ w1.heap.size) := Lib.hid hs1.size
    obtain ⟨G, hAG, -⟩ := HOX.out.at_ hXp
    subst hAG
    clear hX hown hs1
    go_wp2
    go_loopg [7, 8] X.length (fun gf v i wx => ∃ (k : Nat) (acc : List UInt8), k + gf = X.length ∧ i = .int .i64 k ∧ Own enc8 5 w1.heap.size wx v acc ∧ grpsA may [] (splitC 58 s.data.toList) = grpsA may acc ((splitC 58 s.data.toList).drop k) ∧ acc.length ≤ 4 * k ∧ Stp (fun _ => False) w1 wx)
    case atStart => exact ⟨0, [], by omega, rfl, Own.nil _ _ _ _, rfl, Nat.le_refl _, Stp.refl _ _⟩
    case round =>
      obtain ⟨k, acc, hk, rfl, hob, ho, hal, hst⟩ := hrel
      have HO := Lib.hid ho
      have HST := Lib.hid hst
      have HAL := Lib.hid hal
      have HOB := Lib.hid hob
      obtain ⟨A, c2, rfl, hle2⟩ := HOB.out.form
      clear ho hst hal hob
      by_cases hlt : k < X.length
      · obtain ⟨gk', rfl⟩ : ∃ gk', gk = gk' + 1 := ⟨gk - 1, by omega⟩
        have hl2 : (k : Int) < (X.length : Int) := by omega
        obtain ⟨x, hx⟩ : ∃ x, x = X[k] := ⟨_, rfl⟩
        have hc0 := (HOX.out.stp0 HST.out).cellAt k hlt
        rw [← hx] at hc0
        have hc : wr.cell? ⟨G, k, none⟩ = some (.string x) := hc0
        have hxs : x.size ≤ s.size := HZ.out x (by rw [hx]; exact List.getElem_mem _)
        have HDR : Hid ((splitC 58 s.data.toList).drop k = x.data.toList :: (splitC 58 s.data.toList).drop (k + 1)) := Lib.hid (by
          have hk2 : k < (splitC 58 s.data.toList).length := by rw [← HL.out]; omega
          rw [List.drop_eq_getElem_cons hk2]
          congr 1
          have : (splitC 58 s.data.toList)[k]? = some x.data.toList := by rw [← HX.out, List.getElem?_map, List.getElem?_eq_getElem hlt, hx]; rfl
          exact (List.getElem?_eq_some_iff.1 this).2)
        have ch := fun W => hexR_any x W (by omega)
        have cd := fun W => dottedR_any x W (by omega)
        obtain ⟨n, b, hn⟩ : ∃ n b, hexS x.data.toList = (n, b) := ⟨_, _, rfl⟩
        rw [hn] at ch
        have hw1 : IntKind.i64.wrap ((k : Int) + 1) = (k : Int) + 1 := IntWalk.i64_in _ (by omega)
        clear hx hc0
        cases b with
        | true =>
          obtain ⟨m, rfl, hmm⟩ := hexS_lt hn
          have HGR : Hid (∀ b, grpS b x.data.toList = some [UInt8.ofNat (m / 256), UInt8.ofNat (m % 256)]) := Lib.hid (fun b => by unfold grpS; rw [hn, if_pos rfl]; rfl)
          clear hn
          go_wp2_with (go_at_call 160; refine stopc ?_)
          refine Stop.go ?_
          refine (ch _).mono ?_
          rintro e w2 ⟨rfl, hs2⟩
          have HT2 := Lib.hid (HST.out.trans hs2)
          have HOB2 := Lib.hid (HOB.out.stp0 hs2)
          have hal := HAL.out
          clear hs2
          go_wp2_with (with_reducible refine stop (N := 40) rfl ?_)
          refine Stop.go ?_
          refine wp_appendRd enc8 (h1e := fun _ => rfl) rfl _ _ _ rfl Tryz.underlying22 info_u8 rfl (HOB2.out.stp0 ((Stp.refl _ _).alloc _)) (Rd.lit (M := fun _ => False) [UInt8.ofNat (m / 256), UInt8.ofNat (m % 256)] _ (by simp [enc8]; omega) (by simp) id) rfl rfl (by simp; omega) (by simp; omega) (by have := HT2.out.size; simp; omega) ?_
          intro v5 w5 ho5 hg5
          have HO5 := Lib.hid ho5
          have HT5 := Lib.hid ((HT2.out.alloc _).own (HOB2.out.stp0 ((Stp.refl _ _).alloc _)) hg5)
          clear ho5 hg5
          go_wp2
          go_roundg gk'
          case measure => omega
          case rel => exact ⟨k + 1, acc ++ [UInt8.ofNat (m / 256), UInt8.ofNat (m % 256)], by omega, by go_num, HO5.out, by rw [HO.out, HDR.out, grpsA, HGR.out], by simp; omega, HT5.out⟩
        | false =>
          have HGR : Hid (∀ b, grpS b x.data.toList = if b = true then dotS x.data.toList else none) := Lib.hid (fun b => by unfold grpS; rw [hn, if_neg (by simp)])
          have hwr : IntKind.i64.wrap ((X.length : Int) - 1) = (X.length : Int) - 1 := IntWalk.i64_in _ (by omega)
          have HRE : Hid (((splitC 58 s.data.toList).drop (k + 1)).isEmpty = decide (k + 1 = X.length)) := Lib.hid (by
            rw [Bool.eq_iff_iff, List.isEmpty_iff, List.drop_eq_nil_iff, decide_eq_true_eq, ← HL.out]
            omega)
          clear hn
          go_wp2_with (go_at_call 160; refine stopc ?_)
          refine Stop.go ?_
          refine (ch _).mono ?_
          rintro e w2 ⟨rfl, hs2⟩
          have HT2 := Lib.hid (HST.out.trans hs2)
          have HOB2 := Lib.hid (HOB.out.stp0 hs2)
          have hc2 : w2.cell? ⟨G, k, none⟩ = some (.string x) := hs2.cell hc id
          clear hs2
          go_wp2_with (go_at_call 124; refine stopc ?_)
          refine Stop.go ?_
          refine (cd _).mono ?_
          rintro e w3 ⟨vd, d, rfl, hown, hd, hdl, hs3⟩
          have HT3 := Lib.hid (HT2.out.trans hs3)
          have HOB3 := Lib.hid (HOB2.out.stp0 hs3)
          have HOD := Lib.hid hown
          have HD3 := Lib.hid hd
          obtain ⟨A3, c3, rfl, hle3⟩ := HOD.out.form
          obtain ⟨D, hDv⟩ : ∃ D, D = (dotS x.data.toList).isSome := ⟨_, rfl⟩
          rw [← hDv]
          have HDV := Lib.hid hDv
          have HDL := Lib.hid hdl
          clear hs3 hd hDv hown hdl
          have HNO : Hid ((D = false ∨ may = false ∨ k + 1 ≠ X.length) → readS may s.data.toList = none) := Lib.hid (by
            intro h
            rw [HD.out, HO.out, HDR.out, grpsA, HGR.out, HRE.out]
            have h2 : (if (may && decide (k + 1 = X.length)) = true then dotS x.data.toList else none) = none := by
              split
              · rename_i hh
                rw [Bool.and_eq_true, decide_eq_true_eq] at hh
                rcases h with h | h | h
                · rw [HDV.out] at h
                  cases hq : dotS x.data.toList with
                  | none => rfl
                  | some y => rw [hq] at h; cases h
                · rw [h] at hh
                  cases hh.1
                · exact absurd hh.2 h
              · rfl
            rw [h2])
          cases D with
          | false =>
            have HN2 := Lib.hid (HNO.out (Or.inl rfl))
            clear HNO
            go_wp2
            rw [HR.out]
            unfold ReadP
            rw [HN2.out]
            exact ⟨_, [], rfl, Own.nil _ _ _ _, (fun o h => by cases h), Nat.zero_le _, HS.out.trans HT3.out⟩
          | true =>
            cases may with
            | false =>
              have HN2 := Lib.hid (HNO.out (Or.inr (Or.inl rfl)))
              clear HNO
              go_wp2
              rw [HR.out]
              unfold ReadP
              rw [HN2.out]
              exact ⟨_, [], rfl, Own.nil _ _ _ _, (fun o h => by cases h), Nat.zero_le _, HS.out.trans HT3.out⟩
            | true =>
              by_cases hkl : k + 1 = X.length
              · have hq : decide ((k : Int) < (X.length : Int) - 1) = false := decide_eq_false (by omega)
                have HDD : Hid (dotS x.data.toList = some d) := Lib.hid (by
                  cases hq : dotS x.data.toList with
                  | none => have := HDV.out; rw [hq] at this; cases this
                  | some y => rw [HD3.out y hq])
                have hal := HAL.out
                have hdl := HDL.out
                clear HNO
                go_wp2_with (with_reducible refine stop (N := 64) rfl ?_)
                refine Stop.go ?_
                refine wp_appendRd enc8 (h1e := fun _ => rfl) rfl _ _ _ rfl Tryz.underlying22 info_u8 rfl HOB3.out (HOD.out.rd (h1 := fun _ => rfl) (M := fun _ => False) (fun _ _ => id)) rfl rfl (by omega) (by omega) HT3.out.size ?_
                intro v5 w5 ho5 hg5
                have HO5 := Lib.hid ho5
                have HT5 := Lib.hid (HT3.out.own HOB3.out hg5)
                clear ho5 hg5
                go_wp2
                go_roundg gk'
                case measure => omega
                case rel => exact ⟨k + 1, acc ++ d, by omega, by go_num, HO5.out, by rw [HO.out, HDR.out, grpsA, HGR.out, HRE.out, decide_eq_true hkl, Bool.and_true, if_pos rfl, HDD.out], by simp; omega, HT5.out⟩
              · have hq : decide ((k : Int) < (X.length : Int) - 1) = true := decide_eq_true (by omega)
                have HN2 := Lib.hid (HNO.out (Or.inr (Or.inr hkl)))
                clear HNO
                go_wp2
                rw [HR.out]
                unfold ReadP
                rw [HN2.out]
                exact ⟨_, [], rfl, Own.nil _ _ _ _, (fun o h => by cases h), Nat.zero_le _, HS.out.trans HT3.out⟩
      · obtain rfl : k = X.length := by omega
        have HN2 : Hid (readS may s.data.toList = some acc) := Lib.hid (by rw [HD.out, HO.out, List.drop_eq_nil_of_le (by rw [← HL.out]; omega), grpsA])
        have hsl : s.data.toList.length = s.size := size_list s
        go_wp2
        rw [HR.out]
        unfold ReadP
        rw [HN2.out]
        exact ⟨_, acc, rfl, HOB.out.lower HSZ.out, (fun o h => by injection h with h; exact h.symm), by have := HAL.out; omega, HS.out.trans HST.out⟩
end Go.Proofs.YtligofmhbbgalaaGreatDoor.L
