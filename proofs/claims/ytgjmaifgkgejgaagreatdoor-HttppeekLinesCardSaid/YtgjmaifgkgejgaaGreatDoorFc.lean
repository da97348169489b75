/- Layer 12: a field is printed. (The regions' ways: gen_xfc.py.) -/
import Derived.Test.YtgjmaifgkgejgaaGreatDoorFb
import Derived.Test.YtgjmaifgkgejgaaGreatDoorOpen
set_option linter.unusedVariables false
set_option linter.unusedSimpArgs false
namespace Go.Proofs.YtgjmaifgkgejgaaGreatDoor.L
open Go.RowKit Go.Proofs

theorem beqS (x : List UInt8) (n : ByteArray) : ((strB x).toList == n.toList) = decide (x = n.data.toList) := by
  rw [ByteArray.toList_eq, ByteArray.toList_eq, Bool.eq_iff_iff]
  simp [strB]
def StrB2 (w : World) (r : List UInt8 × Bool) (e : Ending) (w' : World) : Prop := e = .returned (.tuple #[.string (strB r.1), .bool r.2]) ∧ Stp (fun _ => False) w w'

set_option maxRecDepth 100000 in
set_option maxHeartbeats 8000000 in
theorem fprint_any (n t : ByteArray) (w : World) (hn : n.size ≤ 140737488351232) (htz : t.size ≤ 140737488351232) :
    Calls Tryz.prog 16 #[.agg #[.string n, .string t]] w (StrB2 w (printF n.data.toList t.data.toList)) := by
  obtain ⟨r, hr⟩ : ∃ r, r = printF n.data.toList t.data.toList := ⟨_, rfl⟩
  rw [← hr]
  have hb0 := heap_alloc_new w (.cells #[.string n, .string t] 46)
  have HS0 := Lib.hid ((Stp.refl (fun _ => False) w).alloc (.cells #[.string n, .string t] 46))
  have HT := Lib.hid ((Stp.refl (fun _ => False) (w.alloc (.cells #[.string n, .string t] 46))).drew)
  have HC := Lib.hid (fun w' (h : Stp (fun _ => False) (w.alloc (.cells #[.string n, .string t] 46)) w') => And.intro (blk_cell (j := 0) (h.blk hb0 id)) (blk_cell (j := 1) (h.blk hb0 id)))
  simp only [List.getElem?_toArray, List.getElem?_cons_zero, List.getElem?_cons_succ] at HC
  have ct := fun W => token_any n W (by omega)
  have cl := fun W => lower_any n W (by omega)
  have cs := fun W => anyStrange t W
  have cm := fun W => trim_any t W (by omega)
  have q1 := beqS (lowS n.data.toList) n
  have q2 := beqS (trimS t.data.toList) t
  have hok : r = if (allS tokR n.data.toList && decide (lowS n.data.toList = n.data.toList) && !anyS strR t.data.toList && decide (trimS t.data.toList = t.data.toList)) = true then (lineF n.data.toList t.data.toList, true) else ([], false) := hr
  have hline : strB (lineF n.data.toList t.data.toList) = n ++ ⟨#[58]⟩ ++ ⟨#[32]⟩ ++ t := by
    have e1 : (⟨#[58]⟩ : ByteArray) = strB [58] := rfl
    have e2 : (⟨#[32]⟩ : ByteArray) = strB [32] := rfl
    apply ByteArray.ext
    apply Array.ext'
    simp [lineF, strB]
  have HLINE := Lib.hid hline
  clear hline hb0 hr
  obtain ⟨x, hx⟩ : ∃ x, x = strB (lowS n.data.toList) := ⟨_, rfl⟩
  obtain ⟨z, hz⟩ : ∃ z, z = strB (trimS t.data.toList) := ⟨_, rfl⟩
  rw [← hx] at cl q1
  rw [← hz] at cm q2
  clear hx hz
  cases h1 : allS tokR n.data.toList with
  | false =>
    rw [h1] at ct hok
    rw [if_neg (by simp)] at hok
    have HR := Lib.hid hok
    clear hok h1 q1 q2
    go_enter Tryz.func16, Tryz.ntmps16
    go_wp2_with fail
    refine wp_region_held_drew (S := (fun w' => w'.cell? ⟨w.heap.size, 0, none⟩ = some (.string n) ∧ w'.cell? ⟨w.heap.size, 1, none⟩ = some (.string t))) (by kernel_rfl) (HC.out _ HT.out) (fun hHeld => ?_)
    try (change wpAnyH _ _ _ _ _ _ _ _ (World.drew _))
    refine rg_take (i := 0) (o := { dst := some 5, op := Op.fieldAddr 46 (Operand.tmp 1) 0, type := 0, pos := "field.go:34", after := #[], guard := none }) (v := ?rgv1) rfl (by kernel_rfl) (by kernel_rfl) (by kernel_rfl) (fun _ _ _ h => h) (by rfl) (fun w hSw => ?rgy1) hHeld ?_
    case rgy1 => (try dsimp only at hSw); first | (go_simp; done) | (go_simp; with_reducible rfl)
    try simp only [Act.put, List.setIfInBounds_toArray, List.set_cons_zero, List.set_cons_succ]
    refine rg_take (i := 1) (o := { dst := some 6, op := Op.load 9 (Operand.tmp 5), type := 9, pos := "field.go:34", after := #[{ on := 0, ground := Ground.data }], guard := none }) (v := ?rgv2) rfl (by kernel_rfl) (by kernel_rfl) (by kernel_rfl) (fun _ _ _ h => h) (by rfl) (fun w hSw => ?rgy2) hHeld ?_
    case rgy2 => (try dsimp only at hSw); first | (go_simp; done) | (go_simp; with_reducible rfl)
    try simp only [Act.put, List.setIfInBounds_toArray, List.set_cons_zero, List.set_cons_succ]
    refine wpAnyH_ready (rs := [2]) (by kernel_rfl) (by simp) ?_
    refine (AllReadyH.cons (o := { dst := some 7, op := Op.call { callee := Callee.value (Operand.func 27), args := #[Operand.tmp 6], argTypes := #[9] }, type := 4, pos := "field.go:34", after := #[{ on := 1, ground := Ground.data }], guard := none }) rfl (fun K hK => ?_) AllReadyH.nil)
    go_simp
    refine (ct _).mono ?_
    rintro e w3 ⟨rfl, hs3⟩
    replace HT := Lib.hid (HT.out.trans hs3)
    clear hs3
    show K _ _
    clear hHeld
    refine hK.out _ _ (HC.out _ HT.out) (fun hHeld => ?_)
    clear hK K
    try simp only [Act.put, List.setIfInBounds_toArray, List.set_cons_zero, List.set_cons_succ]
    refine rg_take (i := 3) (o := { dst := some 8, op := Op.move (Operand.tmp 7), type := 4, pos := "field.go:34", after := #[{ on := 2, ground := Ground.data }, { on := 2, ground := Ground.chain }], guard := none }) (v := ?rgv3) rfl (by kernel_rfl) (by kernel_rfl) (by kernel_rfl) (fun _ _ _ h => h) (by rfl) (fun w hSw => ?rgy3) hHeld ?_
    case rgy3 => (try dsimp only at hSw); first | (go_simp; done) | (go_simp; with_reducible rfl)
    try simp only [Act.put, List.setIfInBounds_toArray, List.set_cons_zero, List.set_cons_succ]
    refine rg_off (i := 4) (o := { dst := some 9, op := Op.fieldAddr 46 (Operand.tmp 1) 0, type := 0, pos := "field.go:34", after := #[{ on := 3, ground := Ground.guard }], guard := some (3, true) }) rfl (by kernel_rfl) (by kernel_rfl) (by kernel_rfl) (fun _ _ _ h => h) (by rfl) hHeld ?_
    try simp only [Act.put, List.setIfInBounds_toArray, List.set_cons_zero, List.set_cons_succ]
    refine rg_off (i := 5) (o := { dst := some 10, op := Op.load 9 (Operand.tmp 9), type := 9, pos := "field.go:34", after := #[{ on := 4, ground := Ground.data }, { on := 3, ground := Ground.guard }], guard := some (3, true) }) rfl (by kernel_rfl) (by kernel_rfl) (by kernel_rfl) (fun _ _ _ h => h) (by rfl) hHeld ?_
    try simp only [Act.put, List.setIfInBounds_toArray, List.set_cons_zero, List.set_cons_succ]
    refine rg_off (i := 6) (o := { dst := some 11, op := Op.call { callee := Callee.value (Operand.func 28), args := #[Operand.tmp 10], argTypes := #[9] }, type := 9, pos := "field.go:34", after := #[{ on := 5, ground := Ground.data }, { on := 3, ground := Ground.chain }, { on := 3, ground := Ground.guard }], guard := some (3, true) }) rfl (by kernel_rfl) (by kernel_rfl) (by kernel_rfl) (fun _ _ _ h => h) (by rfl) hHeld ?_
    try simp only [Act.put, List.setIfInBounds_toArray, List.set_cons_zero, List.set_cons_succ]
    refine rg_off (i := 7) (o := { dst := some 12, op := Op.fieldAddr 46 (Operand.tmp 1) 0, type := 0, pos := "field.go:34", after := #[{ on := 3, ground := Ground.guard }], guard := some (3, true) }) rfl (by kernel_rfl) (by kernel_rfl) (by kernel_rfl) (fun _ _ _ h => h) (by rfl) hHeld ?_
    try simp only [Act.put, List.setIfInBounds_toArray, List.set_cons_zero, List.set_cons_succ]
    refine rg_off (i := 8) (o := { dst := some 13, op := Op.load 9 (Operand.tmp 12), type := 9, pos := "field.go:34", after := #[{ on := 7, ground := Ground.data }, { on := 3, ground := Ground.guard }], guard := some (3, true) }) rfl (by kernel_rfl) (by kernel_rfl) (by kernel_rfl) (fun _ _ _ h => h) (by rfl) hHeld ?_
    try simp only [Act.put, List.setIfInBounds_toArray, List.set_cons_zero, List.set_cons_succ]
    refine rg_off (i := 9) (o := { dst := some 14, op := Op.binOp BinOp.eql 9 (Operand.tmp 11) (Operand.tmp 13) 9, type := 4, pos := "field.go:34", after := #[{ on := 6, ground := Ground.data }, { on := 8, ground := Ground.data }, { on := 3, ground := Ground.guard }], guard := some (3, true) }) rfl (by kernel_rfl) (by kernel_rfl) (by kernel_rfl) (fun _ _ _ h => h) (by rfl) hHeld ?_
    try simp only [Act.put, List.setIfInBounds_toArray, List.set_cons_zero, List.set_cons_succ]
    refine rg_take (i := 10) (o := { dst := some 15, op := Op.pick (Operand.tmp 8) (Operand.tmp 14) (Operand.const (Value.bool false)), type := 4, pos := "field.go:34", after := #[{ on := 3, ground := Ground.data }, { on := 9, ground := Ground.data }], guard := none }) (v := ?rgv4) rfl (by kernel_rfl) (by kernel_rfl) (by kernel_rfl) (fun _ _ _ h => h) (by rfl) (fun w hSw => ?rgy4) hHeld ?_
    case rgy4 => (try dsimp only at hSw); first | (go_simp; done) | (go_simp; with_reducible rfl)
    try simp only [Act.put, List.setIfInBounds_toArray, List.set_cons_zero, List.set_cons_succ]
    refine rg_take (i := 11) (o := { dst := some 16, op := Op.move (Operand.tmp 15), type := 4, pos := "field.go:34", after := #[{ on := 10, ground := Ground.data }, { on := 6, ground := Ground.chain }], guard := none }) (v := ?rgv5) rfl (by kernel_rfl) (by kernel_rfl) (by kernel_rfl) (fun _ _ _ h => h) (by rfl) (fun w hSw => ?rgy5) hHeld ?_
    case rgy5 => (try dsimp only at hSw); first | (go_simp; done) | (go_simp; with_reducible rfl)
    try simp only [Act.put, List.setIfInBounds_toArray, List.set_cons_zero, List.set_cons_succ]
    refine rg_off (i := 12) (o := { dst := some 17, op := Op.fieldAddr 46 (Operand.tmp 1) 1, type := 0, pos := "field.go:34", after := #[{ on := 11, ground := Ground.guard }], guard := some (11, true) }) rfl (by kernel_rfl) (by kernel_rfl) (by kernel_rfl) (fun _ _ _ h => h) (by rfl) hHeld ?_
    try simp only [Act.put, List.setIfInBounds_toArray, List.set_cons_zero, List.set_cons_succ]
    refine rg_off (i := 13) (o := { dst := some 18, op := Op.load 9 (Operand.tmp 17), type := 9, pos := "field.go:34", after := #[{ on := 12, ground := Ground.data }, { on := 11, ground := Ground.guard }], guard := some (11, true) }) rfl (by kernel_rfl) (by kernel_rfl) (by kernel_rfl) (fun _ _ _ h => h) (by rfl) hHeld ?_
    try simp only [Act.put, List.setIfInBounds_toArray, List.set_cons_zero, List.set_cons_succ]
    refine rg_off (i := 14) (o := { dst := some 19, op := Op.call { callee := Callee.value (Operand.func 29), args := #[Operand.tmp 18, Operand.func 30], argTypes := #[9, 69] }, type := 4, pos := "field.go:34", after := #[{ on := 13, ground := Ground.data }, { on := 11, ground := Ground.chain }, { on := 11, ground := Ground.guard }], guard := some (11, true) }) rfl (by kernel_rfl) (by kernel_rfl) (by kernel_rfl) (fun _ _ _ h => h) (by rfl) hHeld ?_
    try simp only [Act.put, List.setIfInBounds_toArray, List.set_cons_zero, List.set_cons_succ]
    refine rg_off (i := 15) (o := { dst := some 20, op := Op.unOp UnOp.not 4 (Operand.tmp 19), type := 4, pos := "field.go:34", after := #[{ on := 14, ground := Ground.data }, { on := 11, ground := Ground.guard }], guard := some (11, true) }) rfl (by kernel_rfl) (by kernel_rfl) (by kernel_rfl) (fun _ _ _ h => h) (by rfl) hHeld ?_
    try simp only [Act.put, List.setIfInBounds_toArray, List.set_cons_zero, List.set_cons_succ]
    refine rg_take (i := 16) (o := { dst := some 21, op := Op.pick (Operand.tmp 16) (Operand.tmp 20) (Operand.const (Value.bool false)), type := 4, pos := "field.go:34", after := #[{ on := 11, ground := Ground.data }, { on := 15, ground := Ground.data }], guard := none }) (v := ?rgv6) rfl (by kernel_rfl) (by kernel_rfl) (by kernel_rfl) (fun _ _ _ h => h) (by rfl) (fun w hSw => ?rgy6) hHeld ?_
    case rgy6 => (try dsimp only at hSw); first | (go_simp; done) | (go_simp; with_reducible rfl)
    try simp only [Act.put, List.setIfInBounds_toArray, List.set_cons_zero, List.set_cons_succ]
    refine rg_take (i := 17) (o := { dst := some 22, op := Op.move (Operand.tmp 21), type := 4, pos := "field.go:34", after := #[{ on := 16, ground := Ground.data }, { on := 14, ground := Ground.chain }], guard := none }) (v := ?rgv7) rfl (by kernel_rfl) (by kernel_rfl) (by kernel_rfl) (fun _ _ _ h => h) (by rfl) (fun w hSw => ?rgy7) hHeld ?_
    case rgy7 => (try dsimp only at hSw); first | (go_simp; done) | (go_simp; with_reducible rfl)
    try simp only [Act.put, List.setIfInBounds_toArray, List.set_cons_zero, List.set_cons_succ]
    refine rg_off (i := 18) (o := { dst := some 23, op := Op.fieldAddr 46 (Operand.tmp 1) 1, type := 0, pos := "field.go:34", after := #[{ on := 17, ground := Ground.guard }], guard := some (17, true) }) rfl (by kernel_rfl) (by kernel_rfl) (by kernel_rfl) (fun _ _ _ h => h) (by rfl) hHeld ?_
    try simp only [Act.put, List.setIfInBounds_toArray, List.set_cons_zero, List.set_cons_succ]
    refine rg_off (i := 19) (o := { dst := some 24, op := Op.load 9 (Operand.tmp 23), type := 9, pos := "field.go:34", after := #[{ on := 18, ground := Ground.data }, { on := 17, ground := Ground.guard }], guard := some (17, true) }) rfl (by kernel_rfl) (by kernel_rfl) (by kernel_rfl) (fun _ _ _ h => h) (by rfl) hHeld ?_
    try simp only [Act.put, List.setIfInBounds_toArray, List.set_cons_zero, List.set_cons_succ]
    refine rg_off (i := 20) (o := { dst := some 25, op := Op.call { callee := Callee.value (Operand.func 31), args := #[Operand.tmp 24], argTypes := #[9] }, type := 9, pos := "field.go:34", after := #[{ on := 19, ground := Ground.data }, { on := 17, ground := Ground.chain }, { on := 17, ground := Ground.guard }], guard := some (17, true) }) rfl (by kernel_rfl) (by kernel_rfl) (by kernel_rfl) (fun _ _ _ h => h) (by rfl) hHeld ?_
    try simp only [Act.put, List.setIfInBounds_toArray, List.set_cons_zero, List.set_cons_succ]
    refine rg_off (i := 21) (o := { dst := some 26, op := Op.fieldAddr 46 (Operand.tmp 1) 1, type := 0, pos := "field.go:34", after := #[{ on := 17, ground := Ground.guard }], guard := some (17, true) }) rfl (by kernel_rfl) (by kernel_rfl) (by kernel_rfl) (fun _ _ _ h => h) (by rfl) hHeld ?_
    try simp only [Act.put, List.setIfInBounds_toArray, List.set_cons_zero, List.set_cons_succ]
    refine rg_off (i := 22) (o := { dst := some 27, op := Op.load 9 (Operand.tmp 26), type := 9, pos := "field.go:34", after := #[{ on := 21, ground := Ground.data }, { on := 17, ground := Ground.guard }], guard := some (17, true) }) rfl (by kernel_rfl) (by kernel_rfl) (by kernel_rfl) (fun _ _ _ h => h) (by rfl) hHeld ?_
    try simp only [Act.put, List.setIfInBounds_toArray, List.set_cons_zero, List.set_cons_succ]
    refine rg_off (i := 23) (o := { dst := some 28, op := Op.binOp BinOp.eql 9 (Operand.tmp 25) (Operand.tmp 27) 9, type := 4, pos := "field.go:34", after := #[{ on := 20, ground := Ground.data }, { on := 22, ground := Ground.data }, { on := 17, ground := Ground.guard }], guard := some (17, true) }) rfl (by kernel_rfl) (by kernel_rfl) (by kernel_rfl) (fun _ _ _ h => h) (by rfl) hHeld ?_
    try simp only [Act.put, List.setIfInBounds_toArray, List.set_cons_zero, List.set_cons_succ]
    refine rg_take (i := 24) (o := { dst := some 29, op := Op.pick (Operand.tmp 22) (Operand.tmp 28) (Operand.const (Value.bool false)), type := 4, pos := "field.go:34", after := #[{ on := 17, ground := Ground.data }, { on := 23, ground := Ground.data }], guard := none }) (v := ?rgv8) rfl (by kernel_rfl) (by kernel_rfl) (by kernel_rfl) (fun _ _ _ h => h) (by rfl) (fun w hSw => ?rgy8) hHeld ?_
    case rgy8 => (try dsimp only at hSw); first | (go_simp; done) | (go_simp; with_reducible rfl)
    try simp only [Act.put, List.setIfInBounds_toArray, List.set_cons_zero, List.set_cons_succ]
    refine rg_take (i := 25) (o := { dst := some 4, op := Op.assign (Operand.tmp 29), type := 4, pos := "field.go:34", after := #[{ on := 24, ground := Ground.data }, { on := 20, ground := Ground.chain }, { on := 0, ground := Ground.phase }, { on := 1, ground := Ground.phase }, { on := 2, ground := Ground.phase }, { on := 3, ground := Ground.phase }, { on := 4, ground := Ground.phase }, { on := 5, ground := Ground.phase }, { on := 6, ground := Ground.phase }, { on := 7, ground := Ground.phase }, { on := 8, ground := Ground.phase }, { on := 9, ground := Ground.phase }, { on := 10, ground := Ground.phase }, { on := 11, ground := Ground.phase }, { on := 12, ground := Ground.phase }, { on := 13, ground := Ground.phase }, { on := 14, ground := Ground.phase }, { on := 15, ground := Ground.phase }, { on := 16, ground := Ground.phase }, { on := 17, ground := Ground.phase }, { on := 18, ground := Ground.phase }, { on := 19, ground := Ground.phase }, { on := 20, ground := Ground.phase }, { on := 21, ground := Ground.phase }, { on := 22, ground := Ground.phase }, { on := 23, ground := Ground.phase }, { on := 24, ground := Ground.phase }], guard := none }) (v := ?rgv9) rfl (by kernel_rfl) (by kernel_rfl) (by kernel_rfl) (fun _ _ _ h => h) (by rfl) (fun w hSw => ?rgy9) hHeld ?_
    case rgy9 => (try dsimp only at hSw); first | (go_simp; done) | (go_simp; with_reducible rfl)
    try simp only [Act.put, List.setIfInBounds_toArray, List.set_cons_zero, List.set_cons_succ]
    clear hHeld
    refine wpAnyH_done (by kernel_rfl) ?_ _
    go_wp2
    go_ret2
    exact ⟨by rw [HR.out]; rfl, HS0.out.trans HT.out⟩
  | true =>
    cases h2 : decide (lowS n.data.toList = n.data.toList) with
    | false =>
      rw [h1] at ct
      rw [h1, h2] at hok
      rw [h2] at q1
      rw [if_neg (by simp)] at hok
      have HR := Lib.hid hok
      clear hok h1 h2 q2
      go_enter Tryz.func16, Tryz.ntmps16
      go_wp2_with fail
      refine wp_region_held_drew (S := (fun w' => w'.cell? ⟨w.heap.size, 0, none⟩ = some (.string n) ∧ w'.cell? ⟨w.heap.size, 1, none⟩ = some (.string t))) (by kernel_rfl) (HC.out _ HT.out) (fun hHeld => ?_)
      try (change wpAnyH _ _ _ _ _ _ _ _ (World.drew _))
      refine rg_take (i := 0) (o := { dst := some 5, op := Op.fieldAddr 46 (Operand.tmp 1) 0, type := 0, pos := "field.go:34", after := #[], guard := none }) (v := ?rgv10) rfl (by kernel_rfl) (by kernel_rfl) (by kernel_rfl) (fun _ _ _ h => h) (by rfl) (fun w hSw => ?rgy10) hHeld ?_
      case rgy10 => (try dsimp only at hSw); first | (go_simp; done) | (go_simp; with_reducible rfl)
      try simp only [Act.put, List.setIfInBounds_toArray, List.set_cons_zero, List.set_cons_succ]
      refine rg_take (i := 1) (o := { dst := some 6, op := Op.load 9 (Operand.tmp 5), type := 9, pos := "field.go:34", after := #[{ on := 0, ground := Ground.data }], guard := none }) (v := ?rgv11) rfl (by kernel_rfl) (by kernel_rfl) (by kernel_rfl) (fun _ _ _ h => h) (by rfl) (fun w hSw => ?rgy11) hHeld ?_
      case rgy11 => (try dsimp only at hSw); first | (go_simp; done) | (go_simp; with_reducible rfl)
      try simp only [Act.put, List.setIfInBounds_toArray, List.set_cons_zero, List.set_cons_succ]
      refine wpAnyH_ready (rs := [2]) (by kernel_rfl) (by simp) ?_
      refine (AllReadyH.cons (o := { dst := some 7, op := Op.call { callee := Callee.value (Operand.func 27), args := #[Operand.tmp 6], argTypes := #[9] }, type := 4, pos := "field.go:34", after := #[{ on := 1, ground := Ground.data }], guard := none }) rfl (fun K hK => ?_) AllReadyH.nil)
      go_simp
      refine (ct _).mono ?_
      rintro e w3 ⟨rfl, hs3⟩
      replace HT := Lib.hid (HT.out.trans hs3)
      clear hs3
      show K _ _
      clear hHeld
      refine hK.out _ _ (HC.out _ HT.out) (fun hHeld => ?_)
      clear hK K
      try simp only [Act.put, List.setIfInBounds_toArray, List.set_cons_zero, List.set_cons_succ]
      refine rg_take (i := 3) (o := { dst := some 8, op := Op.move (Operand.tmp 7), type := 4, pos := "field.go:34", after := #[{ on := 2, ground := Ground.data }, { on := 2, ground := Ground.chain }], guard := none }) (v := ?rgv12) rfl (by kernel_rfl) (by kernel_rfl) (by kernel_rfl) (fun _ _ _ h => h) (by rfl) (fun w hSw => ?rgy12) hHeld ?_
      case rgy12 => (try dsimp only at hSw); first | (go_simp; done) | (go_simp; with_reducible rfl)
      try simp only [Act.put, List.setIfInBounds_toArray, List.set_cons_zero, List.set_cons_succ]
      refine rg_take (i := 4) (o := { dst := some 9, op := Op.fieldAddr 46 (Operand.tmp 1) 0, type := 0, pos := "field.go:34", after := #[{ on := 3, ground := Ground.guard }], guard := some (3, true) }) (v := ?rgv13) rfl (by kernel_rfl) (by kernel_rfl) (by kernel_rfl) (fun _ _ _ h => h) (by rfl) (fun w hSw => ?rgy13) hHeld ?_
      case rgy13 => (try dsimp only at hSw); first | (go_simp; done) | (go_simp; with_reducible rfl)
      try simp only [Act.put, List.setIfInBounds_toArray, List.set_cons_zero, List.set_cons_succ]
      refine rg_take (i := 5) (o := { dst := some 10, op := Op.load 9 (Operand.tmp 9), type := 9, pos := "field.go:34", after := #[{ on := 4, ground := Ground.data }, { on := 3, ground := Ground.guard }], guard := some (3, true) }) (v := ?rgv14) rfl (by kernel_rfl) (by kernel_rfl) (by kernel_rfl) (fun _ _ _ h => h) (by rfl) (fun w hSw => ?rgy14) hHeld ?_
      case rgy14 => (try dsimp only at hSw); first | (go_simp; done) | (go_simp; with_reducible rfl)
      try simp only [Act.put, List.setIfInBounds_toArray, List.set_cons_zero, List.set_cons_succ]
      refine rg_take (i := 7) (o := { dst := some 12, op := Op.fieldAddr 46 (Operand.tmp 1) 0, type := 0, pos := "field.go:34", after := #[{ on := 3, ground := Ground.guard }], guard := some (3, true) }) (v := ?rgv15) rfl (by kernel_rfl) (by kernel_rfl) (by kernel_rfl) (fun _ _ _ h => h) (by rfl) (fun w hSw => ?rgy15) hHeld ?_
      case rgy15 => (try dsimp only at hSw); first | (go_simp; done) | (go_simp; with_reducible rfl)
      try simp only [Act.put, List.setIfInBounds_toArray, List.set_cons_zero, List.set_cons_succ]
      refine rg_take (i := 8) (o := { dst := some 13, op := Op.load 9 (Operand.tmp 12), type := 9, pos := "field.go:34", after := #[{ on := 7, ground := Ground.data }, { on := 3, ground := Ground.guard }], guard := some (3, true) }) (v := ?rgv16) rfl (by kernel_rfl) (by kernel_rfl) (by kernel_rfl) (fun _ _ _ h => h) (by rfl) (fun w hSw => ?rgy16) hHeld ?_
      case rgy16 => (try dsimp only at hSw); first | (go_simp; done) | (go_simp; with_reducible rfl)
      try simp only [Act.put, List.setIfInBounds_toArray, List.set_cons_zero, List.set_cons_succ]
      refine wpAnyH_ready (rs := [6]) (by kernel_rfl) (by simp) ?_
      refine (AllReadyH.cons (o := { dst := some 11, op := Op.call { callee := Callee.value (Operand.func 28), args := #[Operand.tmp 10], argTypes := #[9] }, type := 9, pos := "field.go:34", after := #[{ on := 5, ground := Ground.data }, { on := 3, ground := Ground.chain }, { on := 3, ground := Ground.guard }], guard := some (3, true) }) rfl (fun K hK => ?_) AllReadyH.nil)
      go_simp
      refine (cl _).mono ?_
      rintro e w3 ⟨rfl, hs3⟩
      replace HT := Lib.hid (HT.out.trans hs3)
      clear hs3
      show K _ _
      clear hHeld
      refine hK.out _ _ (HC.out _ HT.out) (fun hHeld => ?_)
      clear hK K
      try simp only [Act.put, List.setIfInBounds_toArray, List.set_cons_zero, List.set_cons_succ]
      refine rg_take (i := 9) (o := { dst := some 14, op := Op.binOp BinOp.eql 9 (Operand.tmp 11) (Operand.tmp 13) 9, type := 4, pos := "field.go:34", after := #[{ on := 6, ground := Ground.data }, { on := 8, ground := Ground.data }, { on := 3, ground := Ground.guard }], guard := some (3, true) }) (v := ?rgv17) rfl (by kernel_rfl) (by kernel_rfl) (by kernel_rfl) (fun _ _ _ h => h) (by rfl) (fun w hSw => ?rgy17) hHeld ?_
      case rgy17 => (try dsimp only at hSw); first | (go_simp; done) | (go_simp; with_reducible rfl)
      try simp only [Act.put, List.setIfInBounds_toArray, List.set_cons_zero, List.set_cons_succ]
      refine rg_take (i := 10) (o := { dst := some 15, op := Op.pick (Operand.tmp 8) (Operand.tmp 14) (Operand.const (Value.bool false)), type := 4, pos := "field.go:34", after := #[{ on := 3, ground := Ground.data }, { on := 9, ground := Ground.data }], guard := none }) (v := ?rgv18) rfl (by kernel_rfl) (by kernel_rfl) (by kernel_rfl) (fun _ _ _ h => h) (by rfl) (fun w hSw => ?rgy18) hHeld ?_
      case rgy18 => (try dsimp only at hSw); first | (go_simp; done) | (go_simp; with_reducible rfl)
      try simp only [Act.put, List.setIfInBounds_toArray, List.set_cons_zero, List.set_cons_succ]
      refine rg_take (i := 11) (o := { dst := some 16, op := Op.move (Operand.tmp 15), type := 4, pos := "field.go:34", after := #[{ on := 10, ground := Ground.data }, { on := 6, ground := Ground.chain }], guard := none }) (v := ?rgv19) rfl (by kernel_rfl) (by kernel_rfl) (by kernel_rfl) (fun _ _ _ h => h) (by rfl) (fun w hSw => ?rgy19) hHeld ?_
      case rgy19 => (try dsimp only at hSw); first | (go_simp; done) | (go_simp; with_reducible rfl)
      try simp only [Act.put, List.setIfInBounds_toArray, List.set_cons_zero, List.set_cons_succ]
      refine rg_off (i := 12) (o := { dst := some 17, op := Op.fieldAddr 46 (Operand.tmp 1) 1, type := 0, pos := "field.go:34", after := #[{ on := 11, ground := Ground.guard }], guard := some (11, true) }) rfl (by kernel_rfl) (by kernel_rfl) (by kernel_rfl) (fun _ _ _ h => h) (by rfl) hHeld ?_
      try simp only [Act.put, List.setIfInBounds_toArray, List.set_cons_zero, List.set_cons_succ]
      refine rg_off (i := 13) (o := { dst := some 18, op := Op.load 9 (Operand.tmp 17), type := 9, pos := "field.go:34", after := #[{ on := 12, ground := Ground.data }, { on := 11, ground := Ground.guard }], guard := some (11, true) }) rfl (by kernel_rfl) (by kernel_rfl) (by kernel_rfl) (fun _ _ _ h => h) (by rfl) hHeld ?_
      try simp only [Act.put, List.setIfInBounds_toArray, List.set_cons_zero, List.set_cons_succ]
      refine rg_off (i := 14) (o := { dst := some 19, op := Op.call { callee := Callee.value (Operand.func 29), args := #[Operand.tmp 18, Operand.func 30], argTypes := #[9, 69] }, type := 4, pos := "field.go:34", after := #[{ on := 13, ground := Ground.data }, { on := 11, ground := Ground.chain }, { on := 11, ground := Ground.guard }], guard := some (11, true) }) rfl (by kernel_rfl) (by kernel_rfl) (by kernel_rfl) (fun _ _ _ h => h) (by rfl) hHeld ?_
      try simp only [Act.put, List.setIfInBounds_toArray, List.set_cons_zero, List.set_cons_succ]
      refine rg_off (i := 15) (o := { dst := some 20, op := Op.unOp UnOp.not 4 (Operand.tmp 19), type := 4, pos := "field.go:34", after := #[{ on := 14, ground := Ground.data }, { on := 11, ground := Ground.guard }], guard := some (11, true) }) rfl (by kernel_rfl) (by kernel_rfl) (by kernel_rfl) (fun _ _ _ h => h) (by rfl) hHeld ?_
      try simp only [Act.put, List.setIfInBounds_toArray, List.set_cons_zero, List.set_cons_succ]
      refine rg_take (i := 16) (o := { dst := some 21, op := Op.pick (Operand.tmp 16) (Operand.tmp 20) (Operand.const (Value.bool false)), type := 4, pos := "field.go:34", after := #[{ on := 11, ground := Ground.data }, { on := 15, ground := Ground.data }], guard := none }) (v := ?rgv20) rfl (by kernel_rfl) (by kernel_rfl) (by kernel_rfl) (fun _ _ _ h => h) (by rfl) (fun w hSw => ?rgy20) hHeld ?_
      case rgy20 => (try dsimp only at hSw); first | (go_simp; done) | (go_simp; with_reducible rfl)
      try simp only [Act.put, List.setIfInBounds_toArray, List.set_cons_zero, List.set_cons_succ]
      refine rg_take (i := 17) (o := { dst := some 22, op := Op.move (Operand.tmp 21), type := 4, pos := "field.go:34", after := #[{ on := 16, ground := Ground.data }, { on := 14, ground := Ground.chain }], guard := none }) (v := ?rgv21) rfl (by kernel_rfl) (by kernel_rfl) (by kernel_rfl) (fun _ _ _ h => h) (by rfl) (fun w hSw => ?rgy21) hHeld ?_
      case rgy21 => (try dsimp only at hSw); first | (go_simp; done) | (go_simp; with_reducible rfl)
      try simp only [Act.put, List.setIfInBounds_toArray, List.set_cons_zero, List.set_cons_succ]
      refine rg_off (i := 18) (o := { dst := some 23, op := Op.fieldAddr 46 (Operand.tmp 1) 1, type := 0, pos := "field.go:34", after := #[{ on := 17, ground := Ground.guard }], guard := some (17, true) }) rfl (by kernel_rfl) (by kernel_rfl) (by kernel_rfl) (fun _ _ _ h => h) (by rfl) hHeld ?_
      try simp only [Act.put, List.setIfInBounds_toArray, List.set_cons_zero, List.set_cons_succ]
      refine rg_off (i := 19) (o := { dst := some 24, op := Op.load 9 (Operand.tmp 23), type := 9, pos := "field.go:34", after := #[{ on := 18, ground := Ground.data }, { on := 17, ground := Ground.guard }], guard := some (17, true) }) rfl (by kernel_rfl) (by kernel_rfl) (by kernel_rfl) (fun _ _ _ h => h) (by rfl) hHeld ?_
      try simp only [Act.put, List.setIfInBounds_toArray, List.set_cons_zero, List.set_cons_succ]
      refine rg_off (i := 20) (o := { dst := some 25, op := Op.call { callee := Callee.value (Operand.func 31), args := #[Operand.tmp 24], argTypes := #[9] }, type := 9, pos := "field.go:34", after := #[{ on := 19, ground := Ground.data }, { on := 17, ground := Ground.chain }, { on := 17, ground := Ground.guard }], guard := some (17, true) }) rfl (by kernel_rfl) (by kernel_rfl) (by kernel_rfl) (fun _ _ _ h => h) (by rfl) hHeld ?_
      try simp only [Act.put, List.setIfInBounds_toArray, List.set_cons_zero, List.set_cons_succ]
      refine rg_off (i := 21) (o := { dst := some 26, op := Op.fieldAddr 46 (Operand.tmp 1) 1, type := 0, pos := "field.go:34", after := #[{ on := 17, ground := Ground.guard }], guard := some (17, true) }) rfl (by kernel_rfl) (by kernel_rfl) (by kernel_rfl) (fun _ _ _ h => h) (by rfl) hHeld ?_
      try simp only [Act.put, List.setIfInBounds_toArray, List.set_cons_zero, List.set_cons_succ]
      refine rg_off (i := 22) (o := { dst := some 27, op := Op.load 9 (Operand.tmp 26), type := 9, pos := "field.go:34", after := #[{ on := 21, ground := Ground.data }, { on := 17, ground := Ground.guard }], guard := some (17, true) }) rfl (by kernel_rfl) (by kernel_rfl) (by kernel_rfl) (fun _ _ _ h => h) (by rfl) hHeld ?_
      try simp only [Act.put, List.setIfInBounds_toArray, List.set_cons_zero, List.set_cons_succ]
      refine rg_off (i := 23) (o := { dst := some 28, op := Op.binOp BinOp.eql 9 (Operand.tmp 25) (Operand.tmp 27) 9, type := 4, pos := "field.go:34", after := #[{ on := 20, ground := Ground.data }, { on := 22, ground := Ground.data }, { on := 17, ground := Ground.guard }], guard := some (17, true) }) rfl (by kernel_rfl) (by kernel_rfl) (by kernel_rfl) (fun _ _ _ h => h) (by rfl) hHeld ?_
      try simp only [Act.put, List.setIfInBounds_toArray, List.set_cons_zero, List.set_cons_succ]
      refine rg_take (i := 24) (o := { dst := some 29, op := Op.pick (Operand.tmp 22) (Operand.tmp 28) (Operand.const (Value.bool false)), type := 4, pos := "field.go:34", after := #[{ on := 17, ground := Ground.data }, { on := 23, ground := Ground.data }], guard := none }) (v := ?rgv22) rfl (by kernel_rfl) (by kernel_rfl) (by kernel_rfl) (fun _ _ _ h => h) (by rfl) (fun w hSw => ?rgy22) hHeld ?_
      case rgy22 => (try dsimp only at hSw); first | (go_simp; done) | (go_simp; with_reducible rfl)
      try simp only [Act.put, List.setIfInBounds_toArray, List.set_cons_zero, List.set_cons_succ]
      refine rg_take (i := 25) (o := { dst := some 4, op := Op.assign (Operand.tmp 29), type := 4, pos := "field.go:34", after := #[{ on := 24, ground := Ground.data }, { on := 20, ground := Ground.chain }, { on := 0, ground := Ground.phase }, { on := 1, ground := Ground.phase }, { on := 2, ground := Ground.phase }, { on := 3, ground := Ground.phase }, { on := 4, ground := Ground.phase }, { on := 5, ground := Ground.phase }, { on := 6, ground := Ground.phase }, { on := 7, ground := Ground.phase }, { on := 8, ground := Ground.phase }, { on := 9, ground := Ground.phase }, { on := 10, ground := Ground.phase }, { on := 11, ground := Ground.phase }, { on := 12, ground := Ground.phase }, { on := 13, ground := Ground.phase }, { on := 14, ground := Ground.phase }, { on := 15, ground := Ground.phase }, { on := 16, ground := Ground.phase }, { on := 17, ground := Ground.phase }, { on := 18, ground := Ground.phase }, { on := 19, ground := Ground.phase }, { on := 20, ground := Ground.phase }, { on := 21, ground := Ground.phase }, { on := 22, ground := Ground.phase }, { on := 23, ground := Ground.phase }, { on := 24, ground := Ground.phase }], guard := none }) (v := ?rgv23) rfl (by kernel_rfl) (by kernel_rfl) (by kernel_rfl) (fun _ _ _ h => h) (by rfl) (fun w hSw => ?rgy23) hHeld ?_
      case rgy23 => (try dsimp only at hSw); first | (go_simp; done) | (go_simp; with_reducible rfl)
      try simp only [Act.put, List.setIfInBounds_toArray, List.set_cons_zero, List.set_cons_succ]
      clear hHeld
      refine wpAnyH_done (by kernel_rfl) ?_ _
      go_wp2
      go_ret2
      exact ⟨by rw [HR.out]; rfl, HS0.out.trans HT.out⟩
    | true =>
      cases h3 : anyS strR t.data.toList with
      | true =>
        rw [h1] at ct
        rw [h3] at cs
        rw [h1, h2, h3] at hok
        rw [h2] at q1
        rw [if_neg (by simp)] at hok
        have HR := Lib.hid hok
        clear hok h1 h2 h3 q2
        go_enter Tryz.func16, Tryz.ntmps16
        go_wp2_with fail
        refine wp_region_held_drew (S := (fun w' => w'.cell? ⟨w.heap.size, 0, none⟩ = some (.string n) ∧ w'.cell? ⟨w.heap.size, 1, none⟩ = some (.string t))) (by kernel_rfl) (HC.out _ HT.out) (fun hHeld => ?_)
        try (change wpAnyH _ _ _ _ _ _ _ _ (World.drew _))
        refine rg_take (i := 0) (o := { dst := some 5, op := Op.fieldAddr 46 (Operand.tmp 1) 0, type := 0, pos := "field.go:34", after := #[], guard := none }) (v := ?rgv24) rfl (by kernel_rfl) (by kernel_rfl) (by kernel_rfl) (fun _ _ _ h => h) (by rfl) (fun w hSw => ?rgy24) hHeld ?_
        case rgy24 => (try dsimp only at hSw); first | (go_simp; done) | (go_simp; with_reducible rfl)
        try simp only [Act.put, List.setIfInBounds_toArray, List.set_cons_zero, List.set_cons_succ]
        refine rg_take (i := 1) (o := { dst := some 6, op := Op.load 9 (Operand.tmp 5), type := 9, pos := "field.go:34", after := #[{ on := 0, ground := Ground.data }], guard := none }) (v := ?rgv25) rfl (by kernel_rfl) (by kernel_rfl) (by kernel_rfl) (fun _ _ _ h => h) (by rfl) (fun w hSw => ?rgy25) hHeld ?_
        case rgy25 => (try dsimp only at hSw); first | (go_simp; done) | (go_simp; with_reducible rfl)
        try simp only [Act.put, List.setIfInBounds_toArray, List.set_cons_zero, List.set_cons_succ]
        refine wpAnyH_ready (rs := [2]) (by kernel_rfl) (by simp) ?_
        refine (AllReadyH.cons (o := { dst := some 7, op := Op.call { callee := Callee.value (Operand.func 27), args := #[Operand.tmp 6], argTypes := #[9] }, type := 4, pos := "field.go:34", after := #[{ on := 1, ground := Ground.data }], guard := none }) rfl (fun K hK => ?_) AllReadyH.nil)
        go_simp
        refine (ct _).mono ?_
        rintro e w3 ⟨rfl, hs3⟩
        replace HT := Lib.hid (HT.out.trans hs3)
        clear hs3
        show K _ _
        clear hHeld
        refine hK.out _ _ (HC.out _ HT.out) (fun hHeld => ?_)
        clear hK K
        try simp only [Act.put, List.setIfInBounds_toArray, List.set_cons_zero, List.set_cons_succ]
        refine rg_take (i := 3) (o := { dst := some 8, op := Op.move (Operand.tmp 7), type := 4, pos := "field.go:34", after := #[{ on := 2, ground := Ground.data }, { on := 2, ground := Ground.chain }], guard := none }) (v := ?rgv26) rfl (by kernel_rfl) (by kernel_rfl) (by kernel_rfl) (fun _ _ _ h => h) (by rfl) (fun w hSw => ?rgy26) hHeld ?_
        case rgy26 => (try dsimp only at hSw); first | (go_simp; done) | (go_simp; with_reducible rfl)
        try simp only [Act.put, List.setIfInBounds_toArray, List.set_cons_zero, List.set_cons_succ]
        refine rg_take (i := 4) (o := { dst := some 9, op := Op.fieldAddr 46 (Operand.tmp 1) 0, type := 0, pos := "field.go:34", after := #[{ on := 3, ground := Ground.guard }], guard := some (3, true) }) (v := ?rgv27) rfl (by kernel_rfl) (by kernel_rfl) (by kernel_rfl) (fun _ _ _ h => h) (by rfl) (fun w hSw => ?rgy27) hHeld ?_
        case rgy27 => (try dsimp only at hSw); first | (go_simp; done) | (go_simp; with_reducible rfl)
        try simp only [Act.put, List.setIfInBounds_toArray, List.set_cons_zero, List.set_cons_succ]
        refine rg_take (i := 5) (o := { dst := some 10, op := Op.load 9 (Operand.tmp 9), type := 9, pos := "field.go:34", after := #[{ on := 4, ground := Ground.data }, { on := 3, ground := Ground.guard }], guard := some (3, true) }) (v := ?rgv28) rfl (by kernel_rfl) (by kernel_rfl) (by kernel_rfl) (fun _ _ _ h => h) (by rfl) (fun w hSw => ?rgy28) hHeld ?_
        case rgy28 => (try dsimp only at hSw); first | (go_simp; done) | (go_simp; with_reducible rfl)
        try simp only [Act.put, List.setIfInBounds_toArray, List.set_cons_zero, List.set_cons_succ]
        refine rg_take (i := 7) (o := { dst := some 12, op := Op.fieldAddr 46 (Operand.tmp 1) 0, type := 0, pos := "field.go:34", after := #[{ on := 3, ground := Ground.guard }], guard := some (3, true) }) (v := ?rgv29) rfl (by kernel_rfl) (by kernel_rfl) (by kernel_rfl) (fun _ _ _ h => h) (by rfl) (fun w hSw => ?rgy29) hHeld ?_
        case rgy29 => (try dsimp only at hSw); first | (go_simp; done) | (go_simp; with_reducible rfl)
        try simp only [Act.put, List.setIfInBounds_toArray, List.set_cons_zero, List.set_cons_succ]
        refine rg_take (i := 8) (o := { dst := some 13, op := Op.load 9 (Operand.tmp 12), type := 9, pos := "field.go:34", after := #[{ on := 7, ground := Ground.data }, { on := 3, ground := Ground.guard }], guard := some (3, true) }) (v := ?rgv30) rfl (by kernel_rfl) (by kernel_rfl) (by kernel_rfl) (fun _ _ _ h => h) (by rfl) (fun w hSw => ?rgy30) hHeld ?_
        case rgy30 => (try dsimp only at hSw); first | (go_simp; done) | (go_simp; with_reducible rfl)
        try simp only [Act.put, List.setIfInBounds_toArray, List.set_cons_zero, List.set_cons_succ]
        refine wpAnyH_ready (rs := [6]) (by kernel_rfl) (by simp) ?_
        refine (AllReadyH.cons (o := { dst := some 11, op := Op.call { callee := Callee.value (Operand.func 28), args := #[Operand.tmp 10], argTypes := #[9] }, type := 9, pos := "field.go:34", after := #[{ on := 5, ground := Ground.data }, { on := 3, ground := Ground.chain }, { on := 3, ground := Ground.guard }], guard := some (3, true) }) rfl (fun K hK => ?_) AllReadyH.nil)
        go_simp
        refine (cl _).mono ?_
        rintro e w3 ⟨rfl, hs3⟩
        replace HT := Lib.hid (HT.out.trans hs3)
        clear hs3
        show K _ _
        clear hHeld
        refine hK.out _ _ (HC.out _ HT.out) (fun hHeld => ?_)
        clear hK K
        try simp only [Act.put, List.setIfInBounds_toArray, List.set_cons_zero, List.set_cons_succ]
        refine rg_take (i := 9) (o := { dst := some 14, op := Op.binOp BinOp.eql 9 (Operand.tmp 11) (Operand.tmp 13) 9, type := 4, pos := "field.go:34", after := #[{ on := 6, ground := Ground.data }, { on := 8, ground := Ground.data }, { on := 3, ground := Ground.guard }], guard := some (3, true) }) (v := ?rgv31) rfl (by kernel_rfl) (by kernel_rfl) (by kernel_rfl) (fun _ _ _ h => h) (by rfl) (fun w hSw => ?rgy31) hHeld ?_
        case rgy31 => (try dsimp only at hSw); first | (go_simp; done) | (go_simp; with_reducible rfl)
        try simp only [Act.put, List.setIfInBounds_toArray, List.set_cons_zero, List.set_cons_succ]
        refine rg_take (i := 10) (o := { dst := some 15, op := Op.pick (Operand.tmp 8) (Operand.tmp 14) (Operand.const (Value.bool false)), type := 4, pos := "field.go:34", after := #[{ on := 3, ground := Ground.data }, { on := 9, ground := Ground.data }], guard := none }) (v := ?rgv32) rfl (by kernel_rfl) (by kernel_rfl) (by kernel_rfl) (fun _ _ _ h => h) (by rfl) (fun w hSw => ?rgy32) hHeld ?_
        case rgy32 => (try dsimp only at hSw); first | (go_simp; done) | (go_simp; with_reducible rfl)
        try simp only [Act.put, List.setIfInBounds_toArray, List.set_cons_zero, List.set_cons_succ]
        refine rg_take (i := 11) (o := { dst := some 16, op := Op.move (Operand.tmp 15), type := 4, pos := "field.go:34", after := #[{ on := 10, ground := Ground.data }, { on := 6, ground := Ground.chain }], guard := none }) (v := ?rgv33) rfl (by kernel_rfl) (by kernel_rfl) (by kernel_rfl) (fun _ _ _ h => h) (by rfl) (fun w hSw => ?rgy33) hHeld ?_
        case rgy33 => (try dsimp only at hSw); first | (go_simp; done) | (go_simp; with_reducible rfl)
        try simp only [Act.put, List.setIfInBounds_toArray, List.set_cons_zero, List.set_cons_succ]
        refine rg_take (i := 12) (o := { dst := some 17, op := Op.fieldAddr 46 (Operand.tmp 1) 1, type := 0, pos := "field.go:34", after := #[{ on := 11, ground := Ground.guard }], guard := some (11, true) }) (v := ?rgv34) rfl (by kernel_rfl) (by kernel_rfl) (by kernel_rfl) (fun _ _ _ h => h) (by rfl) (fun w hSw => ?rgy34) hHeld ?_
        case rgy34 => (try dsimp only at hSw); first | (go_simp; done) | (go_simp; with_reducible rfl)
        try simp only [Act.put, List.setIfInBounds_toArray, List.set_cons_zero, List.set_cons_succ]
        refine rg_take (i := 13) (o := { dst := some 18, op := Op.load 9 (Operand.tmp 17), type := 9, pos := "field.go:34", after := #[{ on := 12, ground := Ground.data }, { on := 11, ground := Ground.guard }], guard := some (11, true) }) (v := ?rgv35) rfl (by kernel_rfl) (by kernel_rfl) (by kernel_rfl) (fun _ _ _ h => h) (by rfl) (fun w hSw => ?rgy35) hHeld ?_
        case rgy35 => (try dsimp only at hSw); first | (go_simp; done) | (go_simp; with_reducible rfl)
        try simp only [Act.put, List.setIfInBounds_toArray, List.set_cons_zero, List.set_cons_succ]
        refine wpAnyH_ready (rs := [14]) (by kernel_rfl) (by simp) ?_
        refine (AllReadyH.cons (o := { dst := some 19, op := Op.call { callee := Callee.value (Operand.func 29), args := #[Operand.tmp 18, Operand.func 30], argTypes := #[9, 69] }, type := 4, pos := "field.go:34", after := #[{ on := 13, ground := Ground.data }, { on := 11, ground := Ground.chain }, { on := 11, ground := Ground.guard }], guard := some (11, true) }) rfl (fun K hK => ?_) AllReadyH.nil)
        go_simp
        refine (cs _).mono ?_
        rintro e w3 ⟨rfl, hs3⟩
        replace HT := Lib.hid (HT.out.trans hs3)
        clear hs3
        show K _ _
        clear hHeld
        refine hK.out _ _ (HC.out _ HT.out) (fun hHeld => ?_)
        clear hK K
        try simp only [Act.put, List.setIfInBounds_toArray, List.set_cons_zero, List.set_cons_succ]
        refine rg_take (i := 15) (o := { dst := some 20, op := Op.unOp UnOp.not 4 (Operand.tmp 19), type := 4, pos := "field.go:34", after := #[{ on := 14, ground := Ground.data }, { on := 11, ground := Ground.guard }], guard := some (11, true) }) (v := ?rgv36) rfl (by kernel_rfl) (by kernel_rfl) (by kernel_rfl) (fun _ _ _ h => h) (by rfl) (fun w hSw => ?rgy36) hHeld ?_
        case rgy36 => (try dsimp only at hSw); first | (go_simp; done) | (go_simp; with_reducible rfl)
        try simp only [Act.put, List.setIfInBounds_toArray, List.set_cons_zero, List.set_cons_succ]
        refine rg_take (i := 16) (o := { dst := some 21, op := Op.pick (Operand.tmp 16) (Operand.tmp 20) (Operand.const (Value.bool false)), type := 4, pos := "field.go:34", after := #[{ on := 11, ground := Ground.data }, { on := 15, ground := Ground.data }], guard := none }) (v := ?rgv37) rfl (by kernel_rfl) (by kernel_rfl) (by kernel_rfl) (fun _ _ _ h => h) (by rfl) (fun w hSw => ?rgy37) hHeld ?_
        case rgy37 => (try dsimp only at hSw); first | (go_simp; done) | (go_simp; with_reducible rfl)
        try simp only [Act.put, List.setIfInBounds_toArray, List.set_cons_zero, List.set_cons_succ]
        refine rg_take (i := 17) (o := { dst := some 22, op := Op.move (Operand.tmp 21), type := 4, pos := "field.go:34", after := #[{ on := 16, ground := Ground.data }, { on := 14, ground := Ground.chain }], guard := none }) (v := ?rgv38) rfl (by kernel_rfl) (by kernel_rfl) (by kernel_rfl) (fun _ _ _ h => h) (by rfl) (fun w hSw => ?rgy38) hHeld ?_
        case rgy38 => (try dsimp only at hSw); first | (go_simp; done) | (go_simp; with_reducible rfl)
        try simp only [Act.put, List.setIfInBounds_toArray, List.set_cons_zero, List.set_cons_succ]
        refine rg_off (i := 18) (o := { dst := some 23, op := Op.fieldAddr 46 (Operand.tmp 1) 1, type := 0, pos := "field.go:34", after := #[{ on := 17, ground := Ground.guard }], guard := some (17, true) }) rfl (by kernel_rfl) (by kernel_rfl) (by kernel_rfl) (fun _ _ _ h => h) (by rfl) hHeld ?_
        try simp only [Act.put, List.setIfInBounds_toArray, List.set_cons_zero, List.set_cons_succ]
        refine rg_off (i := 19) (o := { dst := some 24, op := Op.load 9 (Operand.tmp 23), type := 9, pos := "field.go:34", after := #[{ on := 18, ground := Ground.data }, { on := 17, ground := Ground.guard }], guard := some (17, true) }) rfl (by kernel_rfl) (by kernel_rfl) (by kernel_rfl) (fun _ _ _ h => h) (by rfl) hHeld ?_
        try simp only [Act.put, List.setIfInBounds_toArray, List.set_cons_zero, List.set_cons_succ]
        refine rg_off (i := 20) (o := { dst := some 25, op := Op.call { callee := Callee.value (Operand.func 31), args := #[Operand.tmp 24], argTypes := #[9] }, type := 9, pos := "field.go:34", after := #[{ on := 19, ground := Ground.data }, { on := 17, ground := Ground.chain }, { on := 17, ground := Ground.guard }], guard := some (17, true) }) rfl (by kernel_rfl) (by kernel_rfl) (by kernel_rfl) (fun _ _ _ h => h) (by rfl) hHeld ?_
        try simp only [Act.put, List.setIfInBounds_toArray, List.set_cons_zero, List.set_cons_succ]
        refine rg_off (i := 21) (o := { dst := some 26, op := Op.fieldAddr 46 (Operand.tmp 1) 1, type := 0, pos := "field.go:34", after := #[{ on := 17, ground := Ground.guard }], guard := some (17, true) }) rfl (by kernel_rfl) (by kernel_rfl) (by kernel_rfl) (fun _ _ _ h => h) (by rfl) hHeld ?_
        try simp only [Act.put, List.setIfInBounds_toArray, List.set_cons_zero, List.set_cons_succ]
        refine rg_off (i := 22) (o := { dst := some 27, op := Op.load 9 (Operand.tmp 26), type := 9, pos := "field.go:34", after := #[{ on := 21, ground := Ground.data }, { on := 17, ground := Ground.guard }], guard := some (17, true) }) rfl (by kernel_rfl) (by kernel_rfl) (by kernel_rfl) (fun _ _ _ h => h) (by rfl) hHeld ?_
        try simp only [Act.put, List.setIfInBounds_toArray, List.set_cons_zero, List.set_cons_succ]
        refine rg_off (i := 23) (o := { dst := some 28, op := Op.binOp BinOp.eql 9 (Operand.tmp 25) (Operand.tmp 27) 9, type := 4, pos := "field.go:34", after := #[{ on := 20, ground := Ground.data }, { on := 22, ground := Ground.data }, { on := 17, ground := Ground.guard }], guard := some (17, true) }) rfl (by kernel_rfl) (by kernel_rfl) (by kernel_rfl) (fun _ _ _ h => h) (by rfl) hHeld ?_
        try simp only [Act.put, List.setIfInBounds_toArray, List.set_cons_zero, List.set_cons_succ]
        refine rg_take (i := 24) (o := { dst := some 29, op := Op.pick (Operand.tmp 22) (Operand.tmp 28) (Operand.const (Value.bool false)), type := 4, pos := "field.go:34", after := #[{ on := 17, ground := Ground.data }, { on := 23, ground := Ground.data }], guard := none }) (v := ?rgv39) rfl (by kernel_rfl) (by kernel_rfl) (by kernel_rfl) (fun _ _ _ h => h) (by rfl) (fun w hSw => ?rgy39) hHeld ?_
        case rgy39 => (try dsimp only at hSw); first | (go_simp; done) | (go_simp; with_reducible rfl)
        try simp only [Act.put, List.setIfInBounds_toArray, List.set_cons_zero, List.set_cons_succ]
        refine rg_take (i := 25) (o := { dst := some 4, op := Op.assign (Operand.tmp 29), type := 4, pos := "field.go:34", after := #[{ on := 24, ground := Ground.data }, { on := 20, ground := Ground.chain }, { on := 0, ground := Ground.phase }, { on := 1, ground := Ground.phase }, { on := 2, ground := Ground.phase }, { on := 3, ground := Ground.phase }, { on := 4, ground := Ground.phase }, { on := 5, ground := Ground.phase }, { on := 6, ground := Ground.phase }, { on := 7, ground := Ground.phase }, { on := 8, ground := Ground.phase }, { on := 9, ground := Ground.phase }, { on := 10, ground := Ground.phase }, { on := 11, ground := Ground.phase }, { on := 12, ground := Ground.phase }, { on := 13, ground := Ground.phase }, { on := 14, ground := Ground.phase }, { on := 15, ground := Ground.phase }, { on := 16, ground := Ground.phase }, { on := 17, ground := Ground.phase }, { on := 18, ground := Ground.phase }, { on := 19, ground := Ground.phase }, { on := 20, ground := Ground.phase }, { on := 21, ground := Ground.phase }, { on := 22, ground := Ground.phase }, { on := 23, ground := Ground.phase }, { on := 24, ground := Ground.phase }], guard := none }) (v := ?rgv40) rfl (by kernel_rfl) (by kernel_rfl) (by kernel_rfl) (fun _ _ _ h => h) (by rfl) (fun w hSw => ?rgy40) hHeld ?_
        case rgy40 => (try dsimp only at hSw); first | (go_simp; done) | (go_simp; with_reducible rfl)
        try simp only [Act.put, List.setIfInBounds_toArray, List.set_cons_zero, List.set_cons_succ]
        clear hHeld
        refine wpAnyH_done (by kernel_rfl) ?_ _
        go_wp2
        go_ret2
        exact ⟨by rw [HR.out]; rfl, HS0.out.trans HT.out⟩
      | false =>
        cases h4 : decide (trimS t.data.toList = t.data.toList) with
        | false =>
          rw [h1] at ct
          rw [h3] at cs
          rw [h1, h2, h3, h4] at hok
          rw [h2] at q1
          rw [h4] at q2
          rw [if_neg (by simp)] at hok
          have HR := Lib.hid hok
          clear hok h1 h2 h3 h4
          go_enter Tryz.func16, Tryz.ntmps16
          go_wp2_with fail
          refine wp_region_held_drew (S := (fun w' => w'.cell? ⟨w.heap.size, 0, none⟩ = some (.string n) ∧ w'.cell? ⟨w.heap.size, 1, none⟩ = some (.string t))) (by kernel_rfl) (HC.out _ HT.out) (fun hHeld => ?_)
          try (change wpAnyH _ _ _ _ _ _ _ _ (World.drew _))
          refine rg_take (i := 0) (o := { dst := some 5, op := Op.fieldAddr 46 (Operand.tmp 1) 0, type := 0, pos := "field.go:34", after := #[], guard := none }) (v := ?rgv41) rfl (by kernel_rfl) (by kernel_rfl) (by kernel_rfl) (fun _ _ _ h => h) (by rfl) (fun w hSw => ?rgy41) hHeld ?_
          case rgy41 => (try dsimp only at hSw); first | (go_simp; done) | (go_simp; with_reducible rfl)
          try simp only [Act.put, List.setIfInBounds_toArray, List.set_cons_zero, List.set_cons_succ]
          refine rg_take (i := 1) (o := { dst := some 6, op := Op.load 9 (Operand.tmp 5), type := 9, pos := "field.go:34", after := #[{ on := 0, ground := Ground.data }], guard := none }) (v := ?rgv42) rfl (by kernel_rfl) (by kernel_rfl) (by kernel_rfl) (fun _ _ _ h => h) (by rfl) (fun w hSw => ?rgy42) hHeld ?_
          case rgy42 => (try dsimp only at hSw); first | (go_simp; done) | (go_simp; with_reducible rfl)
          try simp only [Act.put, List.setIfInBounds_toArray, List.set_cons_zero, List.set_cons_succ]
          refine wpAnyH_ready (rs := [2]) (by kernel_rfl) (by simp) ?_
          refine (AllReadyH.cons (o := { dst := some 7, op := Op.call { callee := Callee.value (Operand.func 27), args := #[Operand.tmp 6], argTypes := #[9] }, type := 4, pos := "field.go:34", after := #[{ on := 1, ground := Ground.data }], guard := none }) rfl (fun K hK => ?_) AllReadyH.nil)
          go_simp
          refine (ct _).mono ?_
          rintro e w3 ⟨rfl, hs3⟩
          replace HT := Lib.hid (HT.out.trans hs3)
          clear hs3
          show K _ _
          clear hHeld
          refine hK.out _ _ (HC.out _ HT.out) (fun hHeld => ?_)
          clear hK K
          try simp only [Act.put, List.setIfInBounds_toArray, List.set_cons_zero, List.set_cons_succ]
          refine rg_take (i := 3) (o := { dst := some 8, op := Op.move (Operand.tmp 7), type := 4, pos := "field.go:34", after := #[{ on := 2, ground := Ground.data }, { on := 2, ground := Ground.chain }], guard := none }) (v := ?rgv43) rfl (by kernel_rfl) (by kernel_rfl) (by kernel_rfl) (fun _ _ _ h => h) (by rfl) (fun w hSw => ?rgy43) hHeld ?_
          case rgy43 => (try dsimp only at hSw); first | (go_simp; done) | (go_simp; with_reducible rfl)
          try simp only [Act.put, List.setIfInBounds_toArray, List.set_cons_zero, List.set_cons_succ]
          refine rg_take (i := 4) (o := { dst := some 9, op := Op.fieldAddr 46 (Operand.tmp 1) 0, type := 0, pos := "field.go:34", after := #[{ on := 3, ground := Ground.guard }], guard := some (3, true) }) (v := ?rgv44) rfl (by kernel_rfl) (by kernel_rfl) (by kernel_rfl) (fun _ _ _ h => h) (by rfl) (fun w hSw => ?rgy44) hHeld ?_
          case rgy44 => (try dsimp only at hSw); first | (go_simp; done) | (go_simp; with_reducible rfl)
          try simp only [Act.put, List.setIfInBounds_toArray, List.set_cons_zero, List.set_cons_succ]
          refine rg_take (i := 5) (o := { dst := some 10, op := Op.load 9 (Operand.tmp 9), type := 9, pos := "field.go:34", after := #[{ on := 4, ground := Ground.data }, { on := 3, ground := Ground.guard }], guard := some (3, true) }) (v := ?rgv45) rfl (by kernel_rfl) (by kernel_rfl) (by kernel_rfl) (fun _ _ _ h => h) (by rfl) (fun w hSw => ?rgy45) hHeld ?_
          case rgy45 => (try dsimp only at hSw); first | (go_simp; done) | (go_simp; with_reducible rfl)
          try simp only [Act.put, List.setIfInBounds_toArray, List.set_cons_zero, List.set_cons_succ]
          refine rg_take (i := 7) (o := { dst := some 12, op := Op.fieldAddr 46 (Operand.tmp 1) 0, type := 0, pos := "field.go:34", after := #[{ on := 3, ground := Ground.guard }], guard := some (3, true) }) (v := ?rgv46) rfl (by kernel_rfl) (by kernel_rfl) (by kernel_rfl) (fun _ _ _ h => h) (by rfl) (fun w hSw => ?rgy46) hHeld ?_
          case rgy46 => (try dsimp only at hSw); first | (go_simp; done) | (go_simp; with_reducible rfl)
          try simp only [Act.put, List.setIfInBounds_toArray, List.set_cons_zero, List.set_cons_succ]
          refine rg_take (i := 8) (o := { dst := some 13, op := Op.load 9 (Operand.tmp 12), type := 9, pos := "field.go:34", after := #[{ on := 7, ground := Ground.data }, { on := 3, ground := Ground.guard }], guard := some (3, true) }) (v := ?rgv47) rfl (by kernel_rfl) (by kernel_rfl) (by kernel_rfl) (fun _ _ _ h => h) (by rfl) (fun w hSw => ?rgy47) hHeld ?_
          case rgy47 => (try dsimp only at hSw); first | (go_simp; done) | (go_simp; with_reducible rfl)
          try simp only [Act.put, List.setIfInBounds_toArray, List.set_cons_zero, List.set_cons_succ]
          refine wpAnyH_ready (rs := [6]) (by kernel_rfl) (by simp) ?_
          refine (AllReadyH.cons (o := { dst := some 11, op := Op.call { callee := Callee.value (Operand.func 28), args := #[Operand.tmp 10], argTypes := #[9] }, type := 9, pos := "field.go:34", after := #[{ on := 5, ground := Ground.data }, { on := 3, ground := Ground.chain }, { on := 3, ground := Ground.guard }], guard := some (3, true) }) rfl (fun K hK => ?_) AllReadyH.nil)
          go_simp
          refine (cl _).mono ?_
          rintro e w3 ⟨rfl, hs3⟩
          replace HT := Lib.hid (HT.out.trans hs3)
          clear hs3
          show K _ _
          clear hHeld
          refine hK.out _ _ (HC.out _ HT.out) (fun hHeld => ?_)
          clear hK K
          try simp only [Act.put, List.setIfInBounds_toArray, List.set_cons_zero, List.set_cons_succ]
          refine rg_take (i := 9) (o := { dst := some 14, op := Op.binOp BinOp.eql 9 (Operand.tmp 11) (Operand.tmp 13) 9, type := 4, pos := "field.go:34", after := #[{ on := 6, ground := Ground.data }, { on := 8, ground := Ground.data }, { on := 3, ground := Ground.guard }], guard := some (3, true) }) (v := ?rgv48) rfl (by kernel_rfl) (by kernel_rfl) (by kernel_rfl) (fun _ _ _ h => h) (by rfl) (fun w hSw => ?rgy48) hHeld ?_
          case rgy48 => (try dsimp only at hSw); first | (go_simp; done) | (go_simp; with_reducible rfl)
          try simp only [Act.put, List.setIfInBounds_toArray, List.set_cons_zero, List.set_cons_succ]
          refine rg_take (i := 10) (o := { dst := some 15, op := Op.pick (Operand.tmp 8) (Operand.tmp 14) (Operand.const (Value.bool false)), type := 4, pos := "field.go:34", after := #[{ on := 3, ground := Ground.data }, { on := 9, ground := Ground.data }], guard := none }) (v := ?rgv49) rfl (by kernel_rfl) (by kernel_rfl) (by kernel_rfl) (fun _ _ _ h => h) (by rfl) (fun w hSw => ?rgy49) hHeld ?_
          case rgy49 => (try dsimp only at hSw); first | (go_simp; done) | (go_simp; with_reducible rfl)
          try simp only [Act.put, List.setIfInBounds_toArray, List.set_cons_zero, List.set_cons_succ]
          refine rg_take (i := 11) (o := { dst := some 16, op := Op.move (Operand.tmp 15), type := 4, pos := "field.go:34", after := #[{ on := 10, ground := Ground.data }, { on := 6, ground := Ground.chain }], guard := none }) (v := ?rgv50) rfl (by kernel_rfl) (by kernel_rfl) (by kernel_rfl) (fun _ _ _ h => h) (by rfl) (fun w hSw => ?rgy50) hHeld ?_
          case rgy50 => (try dsimp only at hSw); first | (go_simp; done) | (go_simp; with_reducible rfl)
          try simp only [Act.put, List.setIfInBounds_toArray, List.set_cons_zero, List.set_cons_succ]
          refine rg_take (i := 12) (o := { dst := some 17, op := Op.fieldAddr 46 (Operand.tmp 1) 1, type := 0, pos := "field.go:34", after := #[{ on := 11, ground := Ground.guard }], guard := some (11, true) }) (v := ?rgv51) rfl (by kernel_rfl) (by kernel_rfl) (by kernel_rfl) (fun _ _ _ h => h) (by rfl) (fun w hSw => ?rgy51) hHeld ?_
          case rgy51 => (try dsimp only at hSw); first | (go_simp; done) | (go_simp; with_reducible rfl)
          try simp only [Act.put, List.setIfInBounds_toArray, List.set_cons_zero, List.set_cons_succ]
          refine rg_take (i := 13) (o := { dst := some 18, op := Op.load 9 (Operand.tmp 17), type := 9, pos := "field.go:34", after := #[{ on := 12, ground := Ground.data }, { on := 11, ground := Ground.guard }], guard := some (11, true) }) (v := ?rgv52) rfl (by kernel_rfl) (by kernel_rfl) (by kernel_rfl) (fun _ _ _ h => h) (by rfl) (fun w hSw => ?rgy52) hHeld ?_
          case rgy52 => (try dsimp only at hSw); first | (go_simp; done) | (go_simp; with_reducible rfl)
          try simp only [Act.put, List.setIfInBounds_toArray, List.set_cons_zero, List.set_cons_succ]
          refine wpAnyH_ready (rs := [14]) (by kernel_rfl) (by simp) ?_
          refine (AllReadyH.cons (o := { dst := some 19, op := Op.call { callee := Callee.value (Operand.func 29), args := #[Operand.tmp 18, Operand.func 30], argTypes := #[9, 69] }, type := 4, pos := "field.go:34", after := #[{ on := 13, ground := Ground.data }, { on := 11, ground := Ground.chain }, { on := 11, ground := Ground.guard }], guard := some (11, true) }) rfl (fun K hK => ?_) AllReadyH.nil)
          go_simp
          refine (cs _).mono ?_
          rintro e w3 ⟨rfl, hs3⟩
          replace HT := Lib.hid (HT.out.trans hs3)
          clear hs3
          show K _ _
          clear hHeld
          refine hK.out _ _ (HC.out _ HT.out) (fun hHeld => ?_)
          clear hK K
          try simp only [Act.put, List.setIfInBounds_toArray, List.set_cons_zero, List.set_cons_succ]
          refine rg_take (i := 15) (o := { dst := some 20, op := Op.unOp UnOp.not 4 (Operand.tmp 19), type := 4, pos := "field.go:34", after := #[{ on := 14, ground := Ground.data }, { on := 11, ground := Ground.guard }], guard := some (11, true) }) (v := ?rgv53) rfl (by kernel_rfl) (by kernel_rfl) (by kernel_rfl) (fun _ _ _ h => h) (by rfl) (fun w hSw => ?rgy53) hHeld ?_
          case rgy53 => (try dsimp only at hSw); first | (go_simp; done) | (go_simp; with_reducible rfl)
          try simp only [Act.put, List.setIfInBounds_toArray, List.set_cons_zero, List.set_cons_succ]
          refine rg_take (i := 16) (o := { dst := some 21, op := Op.pick (Operand.tmp 16) (Operand.tmp 20) (Operand.const (Value.bool false)), type := 4, pos := "field.go:34", after := #[{ on := 11, ground := Ground.data }, { on := 15, ground := Ground.data }], guard := none }) (v := ?rgv54) rfl (by kernel_rfl) (by kernel_rfl) (by kernel_rfl) (fun _ _ _ h => h) (by rfl) (fun w hSw => ?rgy54) hHeld ?_
          case rgy54 => (try dsimp only at hSw); first | (go_simp; done) | (go_simp; with_reducible rfl)
          try simp only [Act.put, List.setIfInBounds_toArray, List.set_cons_zero, List.set_cons_succ]
          refine rg_take (i := 17) (o := { dst := some 22, op := Op.move (Operand.tmp 21), type := 4, pos := "field.go:34", after := #[{ on := 16, ground := Ground.data }, { on := 14, ground := Ground.chain }], guard := none }) (v := ?rgv55) rfl (by kernel_rfl) (by kernel_rfl) (by kernel_rfl) (fun _ _ _ h => h) (by rfl) (fun w hSw => ?rgy55) hHeld ?_
          case rgy55 => (try dsimp only at hSw); first | (go_simp; done) | (go_simp; with_reducible rfl)
          try simp only [Act.put, List.setIfInBounds_toArray, List.set_cons_zero, List.set_cons_succ]
          refine rg_take (i := 18) (o := { dst := some 23, op := Op.fieldAddr 46 (Operand.tmp 1) 1, type := 0, pos := "field.go:34", after := #[{ on := 17, ground := Ground.guard }], guard := some (17, true) }) (v := ?rgv56) rfl (by kernel_rfl) (by kernel_rfl) (by kernel_rfl) (fun _ _ _ h => h) (by rfl) (fun w hSw => ?rgy56) hHeld ?_
          case rgy56 => (try dsimp only at hSw); first | (go_simp; done) | (go_simp; with_reducible rfl)
          try simp only [Act.put, List.setIfInBounds_toArray, List.set_cons_zero, List.set_cons_succ]
          refine rg_take (i := 19) (o := { dst := some 24, op := Op.load 9 (Operand.tmp 23), type := 9, pos := "field.go:34", after := #[{ on := 18, ground := Ground.data }, { on := 17, ground := Ground.guard }], guard := some (17, true) }) (v := ?rgv57) rfl (by kernel_rfl) (by kernel_rfl) (by kernel_rfl) (fun _ _ _ h => h) (by rfl) (fun w hSw => ?rgy57) hHeld ?_
          case rgy57 => (try dsimp only at hSw); first | (go_simp; done) | (go_simp; with_reducible rfl)
          try simp only [Act.put, List.setIfInBounds_toArray, List.set_cons_zero, List.set_cons_succ]
          refine rg_take (i := 21) (o := { dst := some 26, op := Op.fieldAddr 46 (Operand.tmp 1) 1, type := 0, pos := "field.go:34", after := #[{ on := 17, ground := Ground.guard }], guard := some (17, true) }) (v := ?rgv58) rfl (by kernel_rfl) (by kernel_rfl) (by kernel_rfl) (fun _ _ _ h => h) (by rfl) (fun w hSw => ?rgy58) hHeld ?_
          case rgy58 => (try dsimp only at hSw); first | (go_simp; done) | (go_simp; with_reducible rfl)
          try simp only [Act.put, List.setIfInBounds_toArray, List.set_cons_zero, List.set_cons_succ]
          refine rg_take (i := 22) (o := { dst := some 27, op := Op.load 9 (Operand.tmp 26), type := 9, pos := "field.go:34", after := #[{ on := 21, ground := Ground.data }, { on := 17, ground := Ground.guard }], guard := some (17, true) }) (v := ?rgv59) rfl (by kernel_rfl) (by kernel_rfl) (by kernel_rfl) (fun _ _ _ h => h) (by rfl) (fun w hSw => ?rgy59) hHeld ?_
          case rgy59 => (try dsimp only at hSw); first | (go_simp; done) | (go_simp; with_reducible rfl)
          try simp only [Act.put, List.setIfInBounds_toArray, List.set_cons_zero, List.set_cons_succ]
          refine wpAnyH_ready (rs := [20]) (by kernel_rfl) (by simp) ?_
          refine (AllReadyH.cons (o := { dst := some 25, op := Op.call { callee := Callee.value (Operand.func 31), args := #[Operand.tmp 24], argTypes := #[9] }, type := 9, pos := "field.go:34", after := #[{ on := 19, ground := Ground.data }, { on := 17, ground := Ground.chain }, { on := 17, ground := Ground.guard }], guard := some (17, true) }) rfl (fun K hK => ?_) AllReadyH.nil)
          go_simp
          refine (cm _).mono ?_
          rintro e w3 ⟨rfl, hs3⟩
          replace HT := Lib.hid (HT.out.trans hs3)
          clear hs3
          show K _ _
          clear hHeld
          refine hK.out _ _ (HC.out _ HT.out) (fun hHeld => ?_)
          clear hK K
          try simp only [Act.put, List.setIfInBounds_toArray, List.set_cons_zero, List.set_cons_succ]
          refine rg_take (i := 23) (o := { dst := some 28, op := Op.binOp BinOp.eql 9 (Operand.tmp 25) (Operand.tmp 27) 9, type := 4, pos := "field.go:34", after := #[{ on := 20, ground := Ground.data }, { on := 22, ground := Ground.data }, { on := 17, ground := Ground.guard }], guard := some (17, true) }) (v := ?rgv60) rfl (by kernel_rfl) (by kernel_rfl) (by kernel_rfl) (fun _ _ _ h => h) (by rfl) (fun w hSw => ?rgy60) hHeld ?_
          case rgy60 => (try dsimp only at hSw); first | (go_simp; done) | (go_simp; with_reducible rfl)
          try simp only [Act.put, List.setIfInBounds_toArray, List.set_cons_zero, List.set_cons_succ]
          refine rg_take (i := 24) (o := { dst := some 29, op := Op.pick (Operand.tmp 22) (Operand.tmp 28) (Operand.const (Value.bool false)), type := 4, pos := "field.go:34", after := #[{ on := 17, ground := Ground.data }, { on := 23, ground := Ground.data }], guard := none }) (v := ?rgv61) rfl (by kernel_rfl) (by kernel_rfl) (by kernel_rfl) (fun _ _ _ h => h) (by rfl) (fun w hSw => ?rgy61) hHeld ?_
          case rgy61 => (try dsimp only at hSw); first | (go_simp; done) | (go_simp; with_reducible rfl)
          try simp only [Act.put, List.setIfInBounds_toArray, List.set_cons_zero, List.set_cons_succ]
          refine rg_take (i := 25) (o := { dst := some 4, op := Op.assign (Operand.tmp 29), type := 4, pos := "field.go:34", after := #[{ on := 24, ground := Ground.data }, { on := 20, ground := Ground.chain }, { on := 0, ground := Ground.phase }, { on := 1, ground := Ground.phase }, { on := 2, ground := Ground.phase }, { on := 3, ground := Ground.phase }, { on := 4, ground := Ground.phase }, { on := 5, ground := Ground.phase }, { on := 6, ground := Ground.phase }, { on := 7, ground := Ground.phase }, { on := 8, ground := Ground.phase }, { on := 9, ground := Ground.phase }, { on := 10, ground := Ground.phase }, { on := 11, ground := Ground.phase }, { on := 12, ground := Ground.phase }, { on := 13, ground := Ground.phase }, { on := 14, ground := Ground.phase }, { on := 15, ground := Ground.phase }, { on := 16, ground := Ground.phase }, { on := 17, ground := Ground.phase }, { on := 18, ground := Ground.phase }, { on := 19, ground := Ground.phase }, { on := 20, ground := Ground.phase }, { on := 21, ground := Ground.phase }, { on := 22, ground := Ground.phase }, { on := 23, ground := Ground.phase }, { on := 24, ground := Ground.phase }], guard := none }) (v := ?rgv62) rfl (by kernel_rfl) (by kernel_rfl) (by kernel_rfl) (fun _ _ _ h => h) (by rfl) (fun w hSw => ?rgy62) hHeld ?_
          case rgy62 => (try dsimp only at hSw); first | (go_simp; done) | (go_simp; with_reducible rfl)
          try simp only [Act.put, List.setIfInBounds_toArray, List.set_cons_zero, List.set_cons_succ]
          clear hHeld
          refine wpAnyH_done (by kernel_rfl) ?_ _
          go_wp2
          go_ret2
          exact ⟨by rw [HR.out]; rfl, HS0.out.trans HT.out⟩
        | true =>
          rw [h1] at ct
          rw [h3] at cs
          rw [h1, h2, h3, h4] at hok
          rw [h2] at q1
          rw [h4] at q2
          rw [if_pos (by decide)] at hok
          have HR := Lib.hid (show Value.tuple #[.string (strB r.1), .bool r.2] = .tuple #[.string (n ++ ⟨#[58]⟩ ++ ⟨#[32]⟩ ++ t), .bool true] by rw [hok, ← HLINE.out])
          clear hok h1 h2 h3 h4
          go_enter Tryz.func16, Tryz.ntmps16
          go_wp2_with fail
          refine wp_region_held_drew (S := (fun w' => w'.cell? ⟨w.heap.size, 0, none⟩ = some (.string n) ∧ w'.cell? ⟨w.heap.size, 1, none⟩ = some (.string t))) (by kernel_rfl) (HC.out _ HT.out) (fun hHeld => ?_)
          try (change wpAnyH _ _ _ _ _ _ _ _ (World.drew _))
          refine rg_take (i := 0) (o := { dst := some 5, op := Op.fieldAddr 46 (Operand.tmp 1) 0, type := 0, pos := "field.go:34", after := #[], guard := none }) (v := ?rgv63) rfl (by kernel_rfl) (by kernel_rfl) (by kernel_rfl) (fun _ _ _ h => h) (by rfl) (fun w hSw => ?rgy63) hHeld ?_
          case rgy63 => (try dsimp only at hSw); first | (go_simp; done) | (go_simp; with_reducible rfl)
          try simp only [Act.put, List.setIfInBounds_toArray, List.set_cons_zero, List.set_cons_succ]
          refine rg_take (i := 1) (o := { dst := some 6, op := Op.load 9 (Operand.tmp 5), type := 9, pos := "field.go:34", after := #[{ on := 0, ground := Ground.data }], guard := none }) (v := ?rgv64) rfl (by kernel_rfl) (by kernel_rfl) (by kernel_rfl) (fun _ _ _ h => h) (by rfl) (fun w hSw => ?rgy64) hHeld ?_
          case rgy64 => (try dsimp only at hSw); first | (go_simp; done) | (go_simp; with_reducible rfl)
          try simp only [Act.put, List.setIfInBounds_toArray, List.set_cons_zero, List.set_cons_succ]
          refine wpAnyH_ready (rs := [2]) (by kernel_rfl) (by simp) ?_
          refine (AllReadyH.cons (o := { dst := some 7, op := Op.call { callee := Callee.value (Operand.func 27), args := #[Operand.tmp 6], argTypes := #[9] }, type := 4, pos := "field.go:34", after := #[{ on := 1, ground := Ground.data }], guard := none }) rfl (fun K hK => ?_) AllReadyH.nil)
          go_simp
          refine (ct _).mono ?_
          rintro e w3 ⟨rfl, hs3⟩
          replace HT := Lib.hid (HT.out.trans hs3)
          clear hs3
          show K _ _
          clear hHeld
          refine hK.out _ _ (HC.out _ HT.out) (fun hHeld => ?_)
          clear hK K
          try simp only [Act.put, List.setIfInBounds_toArray, List.set_cons_zero, List.set_cons_succ]
          refine rg_take (i := 3) (o := { dst := some 8, op := Op.move (Operand.tmp 7), type := 4, pos := "field.go:34", after := #[{ on := 2, ground := Ground.data }, { on := 2, ground := Ground.chain }], guard := none }) (v := ?rgv65) rfl (by kernel_rfl) (by kernel_rfl) (by kernel_rfl) (fun _ _ _ h => h) (by rfl) (fun w hSw => ?rgy65) hHeld ?_
          case rgy65 => (try dsimp only at hSw); first | (go_simp; done) | (go_simp; with_reducible rfl)
          try simp only [Act.put, List.setIfInBounds_toArray, List.set_cons_zero, List.set_cons_succ]
          refine rg_take (i := 4) (o := { dst := some 9, op := Op.fieldAddr 46 (Operand.tmp 1) 0, type := 0, pos := "field.go:34", after := #[{ on := 3, ground := Ground.guard }], guard := some (3, true) }) (v := ?rgv66) rfl (by kernel_rfl) (by kernel_rfl) (by kernel_rfl) (fun _ _ _ h => h) (by rfl) (fun w hSw => ?rgy66) hHeld ?_
          case rgy66 => (try dsimp only at hSw); first | (go_simp; done) | (go_simp; with_reducible rfl)
          try simp only [Act.put, List.setIfInBounds_toArray, List.set_cons_zero, List.set_cons_succ]
          refine rg_take (i := 5) (o := { dst := some 10, op := Op.load 9 (Operand.tmp 9), type := 9, pos := "field.go:34", after := #[{ on := 4, ground := Ground.data }, { on := 3, ground := Ground.guard }], guard := some (3, true) }) (v := ?rgv67) rfl (by kernel_rfl) (by kernel_rfl) (by kernel_rfl) (fun _ _ _ h => h) (by rfl) (fun w hSw => ?rgy67) hHeld ?_
          case rgy67 => (try dsimp only at hSw); first | (go_simp; done) | (go_simp; with_reducible rfl)
          try simp only [Act.put, List.setIfInBounds_toArray, List.set_cons_zero, List.set_cons_succ]
          refine rg_take (i := 7) (o := { dst := some 12, op := Op.fieldAddr 46 (Operand.tmp 1) 0, type := 0, pos := "field.go:34", after := #[{ on := 3, ground := Ground.guard }], guard := some (3, true) }) (v := ?rgv68) rfl (by kernel_rfl) (by kernel_rfl) (by kernel_rfl) (fun _ _ _ h => h) (by rfl) (fun w hSw => ?rgy68) hHeld ?_
          case rgy68 => (try dsimp only at hSw); first | (go_simp; done) | (go_simp; with_reducible rfl)
          try simp only [Act.put, List.setIfInBounds_toArray, List.set_cons_zero, List.set_cons_succ]
          refine rg_take (i := 8) (o := { dst := some 13, op := Op.load 9 (Operand.tmp 12), type := 9, pos := "field.go:34", after := #[{ on := 7, ground := Ground.data }, { on := 3, ground := Ground.guard }], guard := some (3, true) }) (v := ?rgv69) rfl (by kernel_rfl) (by kernel_rfl) (by kernel_rfl) (fun _ _ _ h => h) (by rfl) (fun w hSw => ?rgy69) hHeld ?_
          case rgy69 => (try dsimp only at hSw); first | (go_simp; done) | (go_simp; with_reducible rfl)
          try simp only [Act.put, List.setIfInBounds_toArray, List.set_cons_zero, List.set_cons_succ]
          refine wpAnyH_ready (rs := [6]) (by kernel_rfl) (by simp) ?_
          refine (AllReadyH.cons (o := { dst := some 11, op := Op.call { callee := Callee.value (Operand.func 28), args := #[Operand.tmp 10], argTypes := #[9] }, type := 9, pos := "field.go:34", after := #[{ on := 5, ground := Ground.data }, { on := 3, ground := Ground.chain }, { on := 3, ground := Ground.guard }], guard := some (3, true) }) rfl (fun K hK => ?_) AllReadyH.nil)
          go_simp
          refine (cl _).mono ?_
          rintro e w3 ⟨rfl, hs3⟩
          replace HT := Lib.hid (HT.out.trans hs3)
          clear hs3
          show K _ _
          clear hHeld
          refine hK.out _ _ (HC.out _ HT.out) (fun hHeld => ?_)
          clear hK K
          try simp only [Act.put, List.setIfInBounds_toArray, List.set_cons_zero, List.set_cons_succ]
          refine rg_take (i := 9) (o := { dst := some 14, op := Op.binOp BinOp.eql 9 (Operand.tmp 11) (Operand.tmp 13) 9, type := 4, pos := "field.go:34", after := #[{ on := 6, ground := Ground.data }, { on := 8, ground := Ground.data }, { on := 3, ground := Ground.guard }], guard := some (3, true) }) (v := ?rgv70) rfl (by kernel_rfl) (by kernel_rfl) (by kernel_rfl) (fun _ _ _ h => h) (by rfl) (fun w hSw => ?rgy70) hHeld ?_
          case rgy70 => (try dsimp only at hSw); first | (go_simp; done) | (go_simp; with_reducible rfl)
          try simp only [Act.put, List.setIfInBounds_toArray, List.set_cons_zero, List.set_cons_succ]
          refine rg_take (i := 10) (o := { dst := some 15, op := Op.pick (Operand.tmp 8) (Operand.tmp 14) (Operand.const (Value.bool false)), type := 4, pos := "field.go:34", after := #[{ on := 3, ground := Ground.data }, { on := 9, ground := Ground.data }], guard := none }) (v := ?rgv71) rfl (by kernel_rfl) (by kernel_rfl) (by kernel_rfl) (fun _ _ _ h => h) (by rfl) (fun w hSw => ?rgy71) hHeld ?_
          case rgy71 => (try dsimp only at hSw); first | (go_simp; done) | (go_simp; with_reducible rfl)
          try simp only [Act.put, List.setIfInBounds_toArray, List.set_cons_zero, List.set_cons_succ]
          refine rg_take (i := 11) (o := { dst := some 16, op := Op.move (Operand.tmp 15), type := 4, pos := "field.go:34", after := #[{ on := 10, ground := Ground.data }, { on := 6, ground := Ground.chain }], guard := none }) (v := ?rgv72) rfl (by kernel_rfl) (by kernel_rfl) (by kernel_rfl) (fun _ _ _ h => h) (by rfl) (fun w hSw => ?rgy72) hHeld ?_
          case rgy72 => (try dsimp only at hSw); first | (go_simp; done) | (go_simp; with_reducible rfl)
          try simp only [Act.put, List.setIfInBounds_toArray, List.set_cons_zero, List.set_cons_succ]
          refine rg_take (i := 12) (o := { dst := some 17, op := Op.fieldAddr 46 (Operand.tmp 1) 1, type := 0, pos := "field.go:34", after := #[{ on := 11, ground := Ground.guard }], guard := some (11, true) }) (v := ?rgv73) rfl (by kernel_rfl) (by kernel_rfl) (by kernel_rfl) (fun _ _ _ h => h) (by rfl) (fun w hSw => ?rgy73) hHeld ?_
          case rgy73 => (try dsimp only at hSw); first | (go_simp; done) | (go_simp; with_reducible rfl)
          try simp only [Act.put, List.setIfInBounds_toArray, List.set_cons_zero, List.set_cons_succ]
          refine rg_take (i := 13) (o := { dst := some 18, op := Op.load 9 (Operand.tmp 17), type := 9, pos := "field.go:34", after := #[{ on := 12, ground := Ground.data }, { on := 11, ground := Ground.guard }], guard := some (11, true) }) (v := ?rgv74) rfl (by kernel_rfl) (by kernel_rfl) (by kernel_rfl) (fun _ _ _ h => h) (by rfl) (fun w hSw => ?rgy74) hHeld ?_
          case rgy74 => (try dsimp only at hSw); first | (go_simp; done) | (go_simp; with_reducible rfl)
          try simp only [Act.put, List.setIfInBounds_toArray, List.set_cons_zero, List.set_cons_succ]
          refine wpAnyH_ready (rs := [14]) (by kernel_rfl) (by simp) ?_
          refine (AllReadyH.cons (o := { dst := some 19, op := Op.call { callee := Callee.value (Operand.func 29), args := #[Operand.tmp 18, Operand.func 30], argTypes := #[9, 69] }, type := 4, pos := "field.go:34", after := #[{ on := 13, ground := Ground.data }, { on := 11, ground := Ground.chain }, { on := 11, ground := Ground.guard }], guard := some (11, true) }) rfl (fun K hK => ?_) AllReadyH.nil)
          go_simp
          refine (cs _).mono ?_
          rintro e w3 ⟨rfl, hs3⟩
          replace HT := Lib.hid (HT.out.trans hs3)
          clear hs3
          show K _ _
          clear hHeld
          refine hK.out _ _ (HC.out _ HT.out) (fun hHeld => ?_)
          clear hK K
          try simp only [Act.put, List.setIfInBounds_toArray, List.set_cons_zero, List.set_cons_succ]
          refine rg_take (i := 15) (o := { dst := some 20, op := Op.unOp UnOp.not 4 (Operand.tmp 19), type := 4, pos := "field.go:34", after := #[{ on := 14, ground := Ground.data }, { on := 11, ground := Ground.guard }], guard := some (11, true) }) (v := ?rgv75) rfl (by kernel_rfl) (by kernel_rfl) (by kernel_rfl) (fun _ _ _ h => h) (by rfl) (fun w hSw => ?rgy75) hHeld ?_
          case rgy75 => (try dsimp only at hSw); first | (go_simp; done) | (go_simp; with_reducible rfl)
          try simp only [Act.put, List.setIfInBounds_toArray, List.set_cons_zero, List.set_cons_succ]
          refine rg_take (i := 16) (o := { dst := some 21, op := Op.pick (Operand.tmp 16) (Operand.tmp 20) (Operand.const (Value.bool false)), type := 4, pos := "field.go:34", after := #[{ on := 11, ground := Ground.data }, { on := 15, ground := Ground.data }], guard := none }) (v := ?rgv76) rfl (by kernel_rfl) (by kernel_rfl) (by kernel_rfl) (fun _ _ _ h => h) (by rfl) (fun w hSw => ?rgy76) hHeld ?_
          case rgy76 => (try dsimp only at hSw); first | (go_simp; done) | (go_simp; with_reducible rfl)
          try simp only [Act.put, List.setIfInBounds_toArray, List.set_cons_zero, List.set_cons_succ]
          refine rg_take (i := 17) (o := { dst := some 22, op := Op.move (Operand.tmp 21), type := 4, pos := "field.go:34", after := #[{ on := 16, ground := Ground.data }, { on := 14, ground := Ground.chain }], guard := none }) (v := ?rgv77) rfl (by kernel_rfl) (by kernel_rfl) (by kernel_rfl) (fun _ _ _ h => h) (by rfl) (fun w hSw => ?rgy77) hHeld ?_
          case rgy77 => (try dsimp only at hSw); first | (go_simp; done) | (go_simp; with_reducible rfl)
          try simp only [Act.put, List.setIfInBounds_toArray, List.set_cons_zero, List.set_cons_succ]
          refine rg_take (i := 18) (o := { dst := some 23, op := Op.fieldAddr 46 (Operand.tmp 1) 1, type := 0, pos := "field.go:34", after := #[{ on := 17, ground := Ground.guard }], guard := some (17, true) }) (v := ?rgv78) rfl (by kernel_rfl) (by kernel_rfl) (by kernel_rfl) (fun _ _ _ h => h) (by rfl) (fun w hSw => ?rgy78) hHeld ?_
          case rgy78 => (try dsimp only at hSw); first | (go_simp; done) | (go_simp; with_reducible rfl)
          try simp only [Act.put, List.setIfInBounds_toArray, List.set_cons_zero, List.set_cons_succ]
          refine rg_take (i := 19) (o := { dst := some 24, op := Op.load 9 (Operand.tmp 23), type := 9, pos := "field.go:34", after := #[{ on := 18, ground := Ground.data }, { on := 17, ground := Ground.guard }], guard := some (17, true) }) (v := ?rgv79) rfl (by kernel_rfl) (by kernel_rfl) (by kernel_rfl) (fun _ _ _ h => h) (by rfl) (fun w hSw => ?rgy79) hHeld ?_
          case rgy79 => (try dsimp only at hSw); first | (go_simp; done) | (go_simp; with_reducible rfl)
          try simp only [Act.put, List.setIfInBounds_toArray, List.set_cons_zero, List.set_cons_succ]
          refine rg_take (i := 21) (o := { dst := some 26, op := Op.fieldAddr 46 (Operand.tmp 1) 1, type := 0, pos := "field.go:34", after := #[{ on := 17, ground := Ground.guard }], guard := some (17, true) }) (v := ?rgv80) rfl (by kernel_rfl) (by kernel_rfl) (by kernel_rfl) (fun _ _ _ h => h) (by rfl) (fun w hSw => ?rgy80) hHeld ?_
          case rgy80 => (try dsimp only at hSw); first | (go_simp; done) | (go_simp; with_reducible rfl)
          try simp only [Act.put, List.setIfInBounds_toArray, List.set_cons_zero, List.set_cons_succ]
          refine rg_take (i := 22) (o := { dst := some 27, op := Op.load 9 (Operand.tmp 26), type := 9, pos := "field.go:34", after := #[{ on := 21, ground := Ground.data }, { on := 17, ground := Ground.guard }], guard := some (17, true) }) (v := ?rgv81) rfl (by kernel_rfl) (by kernel_rfl) (by kernel_rfl) (fun _ _ _ h => h) (by rfl) (fun w hSw => ?rgy81) hHeld ?_
          case rgy81 => (try dsimp only at hSw); first | (go_simp; done) | (go_simp; with_reducible rfl)
          try simp only [Act.put, List.setIfInBounds_toArray, List.set_cons_zero, List.set_cons_succ]
          refine wpAnyH_ready (rs := [20]) (by kernel_rfl) (by simp) ?_
          refine (AllReadyH.cons (o := { dst := some 25, op := Op.call { callee := Callee.value (Operand.func 31), args := #[Operand.tmp 24], argTypes := #[9] }, type := 9, pos := "field.go:34", after := #[{ on := 19, ground := Ground.data }, { on := 17, ground := Ground.chain }, { on := 17, ground := Ground.guard }], guard := some (17, true) }) rfl (fun K hK => ?_) AllReadyH.nil)
          go_simp
          refine (cm _).mono ?_
          rintro e w3 ⟨rfl, hs3⟩
          replace HT := Lib.hid (HT.out.trans hs3)
          clear hs3
          show K _ _
          clear hHeld
          refine hK.out _ _ (HC.out _ HT.out) (fun hHeld => ?_)
          clear hK K
          try simp only [Act.put, List.setIfInBounds_toArray, List.set_cons_zero, List.set_cons_succ]
          refine rg_take (i := 23) (o := { dst := some 28, op := Op.binOp BinOp.eql 9 (Operand.tmp 25) (Operand.tmp 27) 9, type := 4, pos := "field.go:34", after := #[{ on := 20, ground := Ground.data }, { on := 22, ground := Ground.data }, { on := 17, ground := Ground.guard }], guard := some (17, true) }) (v := ?rgv82) rfl (by kernel_rfl) (by kernel_rfl) (by kernel_rfl) (fun _ _ _ h => h) (by rfl) (fun w hSw => ?rgy82) hHeld ?_
          case rgy82 => (try dsimp only at hSw); first | (go_simp; done) | (go_simp; with_reducible rfl)
          try simp only [Act.put, List.setIfInBounds_toArray, List.set_cons_zero, List.set_cons_succ]
          refine rg_take (i := 24) (o := { dst := some 29, op := Op.pick (Operand.tmp 22) (Operand.tmp 28) (Operand.const (Value.bool false)), type := 4, pos := "field.go:34", after := #[{ on := 17, ground := Ground.data }, { on := 23, ground := Ground.data }], guard := none }) (v := ?rgv83) rfl (by kernel_rfl) (by kernel_rfl) (by kernel_rfl) (fun _ _ _ h => h) (by rfl) (fun w hSw => ?rgy83) hHeld ?_
          case rgy83 => (try dsimp only at hSw); first | (go_simp; done) | (go_simp; with_reducible rfl)
          try simp only [Act.put, List.setIfInBounds_toArray, List.set_cons_zero, List.set_cons_succ]
          refine rg_take (i := 25) (o := { dst := some 4, op := Op.assign (Operand.tmp 29), type := 4, pos := "field.go:34", after := #[{ on := 24, ground := Ground.data }, { on := 20, ground := Ground.chain }, { on := 0, ground := Ground.phase }, { on := 1, ground := Ground.phase }, { on := 2, ground := Ground.phase }, { on := 3, ground := Ground.phase }, { on := 4, ground := Ground.phase }, { on := 5, ground := Ground.phase }, { on := 6, ground := Ground.phase }, { on := 7, ground := Ground.phase }, { on := 8, ground := Ground.phase }, { on := 9, ground := Ground.phase }, { on := 10, ground := Ground.phase }, { on := 11, ground := Ground.phase }, { on := 12, ground := Ground.phase }, { on := 13, ground := Ground.phase }, { on := 14, ground := Ground.phase }, { on := 15, ground := Ground.phase }, { on := 16, ground := Ground.phase }, { on := 17, ground := Ground.phase }, { on := 18, ground := Ground.phase }, { on := 19, ground := Ground.phase }, { on := 20, ground := Ground.phase }, { on := 21, ground := Ground.phase }, { on := 22, ground := Ground.phase }, { on := 23, ground := Ground.phase }, { on := 24, ground := Ground.phase }], guard := none }) (v := ?rgv84) rfl (by kernel_rfl) (by kernel_rfl) (by kernel_rfl) (fun _ _ _ h => h) (by rfl) (fun w hSw => ?rgy84) hHeld ?_
          case rgy84 => (try dsimp only at hSw); first | (go_simp; done) | (go_simp; with_reducible rfl)
          try simp only [Act.put, List.setIfInBounds_toArray, List.set_cons_zero, List.set_cons_succ]
          clear hHeld
          refine wpAnyH_done (by kernel_rfl) ?_ _
          obtain ⟨k0, k1⟩ := HC.out _ HT.out
          go_wp2
          go_ret2
          exact ⟨by rw [HR.out]; rfl, HS0.out.trans HT.out⟩
end Go.Proofs.YtgjmaifgkgejgaaGreatDoor.L

/-! Layer 12: the reference's print; what is found. -/
namespace Go.Proofs.YtgjmaifgkgejgaaGreatDoor.L
open Go.RowKit Go.Proofs

/-- A field: two strings. -/
abbrev fldK : Kind (ByteArray × ByteArray) := pairK str str
/-- Fields as lists of bytes. -/
def flS (xs : List (ByteArray × ByteArray)) : List (List UInt8 × List UInt8) := xs.map fun x => (x.1.data.toList, x.2.data.toList)
theorem flS_snoc (xs : List (ByteArray × ByteArray)) (k : Nat) (h : k < xs.length) : flS (xs.take (k + 1)) = flS (xs.take k) ++ [((xs[k]).1.data.toList, (xs[k]).2.data.toList)] := by
  unfold flS
  rw [List.take_succ_eq_append_getElem h, List.map_append]
  rfl
theorem flS_len (xs : List (ByteArray × ByteArray)) : (flS xs).length = xs.length := List.length_map _
/-- A text, and how many. -/
def FindV (w : World) (r : List UInt8 × Nat) (e : Ending) (w' : World) : Prop := e = .returned (.tuple #[.string (strB r.1), .int .i64 (r.2 : Int)]) ∧ Stp (fun _ => False) w w'
theorem eqlS (x : ByteArray) (n : List UInt8) : (x.toList == (strB n).toList) = decide (x.data.toList = n) := by
  rw [ByteArray.toList_eq, ByteArray.toList_eq, Bool.eq_iff_iff]
  simp [strB]
theorem strB_of' (s : ByteArray) : strB s.data.toList = s := by cases s; simp [strB]

set_option maxRecDepth 100000 in
set_option maxHeartbeats 8000000 in
theorem find_any (M : Nat → Prop) (v : Value) (xs : List (ByteArray × ByteArray)) (nm : ByteArray) (w : World) (hx : Rd fldK M w v xs) (hn : nm.size ≤ 9223372036854775807) (hl : xs.length ≤ 9223372036854775800) :
    Calls Tryz.prog 32 #[v, .string nm] w (FindV w (findF (lowS nm.data.toList) (flS xs))) := by
  obtain ⟨A, c, rfl, hle⟩ := hx.form
  have HX := Lib.hid hx
  clear hx
  have cl := fun W => lower_any nm W hn
  obtain ⟨m, hm⟩ : ∃ m, m = lowS nm.data.toList := ⟨_, rfl⟩
  rw [← hm] at cl ⊢
  clear hm
  obtain ⟨N, hN⟩ : ∃ N, N = strB m := ⟨_, rfl⟩
  rw [← hN] at cl
  have HN := Lib.hid hN
  clear hN
  obtain ⟨R, hR⟩ : ∃ R, R = FindV w (findF m (flS xs)) := ⟨_, rfl⟩
  rw [← hR]
  have HR := Lib.hid hR
  clear hR
  go_enter Tryz.func32, Tryz.ntmps32
  go_wp2_with (go_at_call 28; refine stopc ?_)
  refine Stop.go ?_
  refine (cl _).mono ?_
  rintro e w1 ⟨rfl, hs1⟩
  have HS1 := Lib.hid hs1
  clear hs1
  go_wp2
  go_loopg [4, 5, 12] xs.length (fun gf tx n i wr => ∃ k : Nat, k + gf = xs.length ∧ i = .int .i64 k ∧ tx = .string (strB (findF m (flS (xs.take k))).1) ∧ n = .int .i64 ((findF m (flS (xs.take k))).2 : Int) ∧ Stp (fun _ => False) w wr)
  case atStart => exact ⟨0, by omega, rfl, rfl, rfl, HS1.out⟩
  case round =>
    obtain ⟨k, hk, rfl, rfl, rfl, hs⟩ := hrel
    have HS := Lib.hid hs
    clear hs
    by_cases hlt : k < xs.length
    · obtain ⟨g', rfl⟩ : ∃ g', gk = g' + 1 := ⟨gk - 1, by omega⟩
      have hfl := findF_len m (flS (xs.take k))
      rw [flS_len, List.length_take] at hfl
      have hsn := findF_snoc m (flS (xs.take k)) ((xs[k]).1.data.toList, (xs[k]).2.data.toList)
      rw [← flS_snoc xs k hlt] at hsn
      obtain ⟨ad, rfl, -, c0, c1⟩ := pair_cell (HX.out.stp0 HS.out) k hlt
      obtain ⟨X, hX⟩ : ∃ X, X = (xs[k]).1 := ⟨_, rfl⟩
      obtain ⟨Y, hY⟩ : ∃ Y, Y = (xs[k]).2 := ⟨_, rfl⟩
      rw [← hX, ← hY] at hsn
      rw [← hX] at c0
      rw [← hY] at c1
      obtain ⟨T, hT⟩ : ∃ T, T = (findF m (flS (xs.take k))).1 := ⟨_, rfl⟩
      obtain ⟨C, hC⟩ : ∃ C, C = (findF m (flS (xs.take k))).2 := ⟨_, rfl⟩
      rw [← hC] at hfl
      rw [← hT, ← hC] at hsn ⊢
      have HTE := Lib.hid hT
      have HCE := Lib.hid hC
      have hne := eqlS X m
      rw [← HN.out] at hne
      clear hX hY hT hC
      by_cases he : X.data.toList = m
      · rw [show decide (X.data.toList = m) = true by simpa using he] at hne
        rw [if_pos he] at hsn
        by_cases hC0 : C = 0
        · have HSN := Lib.hid hsn
          have hC1 : (((C : Int) + 1) == 1) = true := by simp [hC0]
          have HC0 := Lib.hid hC0
          clear hsn he hC0
          go_wp2
          go_roundg g'
          case measure => omega
          case rel => exact ⟨k + 1, by omega, by go_num, by rw [HSN.out, if_pos HC0.out, strB_of'], by rw [HSN.out]; rfl, HS.out.alloc _⟩
        · have HSN := Lib.hid hsn
          have hC1 : (((C : Int) + 1) == 1) = false := by simp; omega
          have HC0 := Lib.hid hC0
          clear hsn he hC0
          go_wp2
          go_roundg g'
          case measure => omega
          case rel => exact ⟨k + 1, by omega, by go_num, by rw [HSN.out, if_neg HC0.out], by rw [HSN.out]; rfl, HS.out.alloc _⟩
      · rw [show decide (X.data.toList = m) = false by simpa using he] at hne
        rw [if_neg he] at hsn
        have HSN := Lib.hid hsn
        clear hsn he
        go_wp2
        go_roundg g'
        case measure => omega
        case rel => exact ⟨k + 1, by omega, by go_num, by rw [HSN.out, HTE.out], by rw [HSN.out, HCE.out], HS.out.alloc _⟩
    · obtain rfl : k = xs.length := by omega
      rw [List.take_length] at *
      go_wp2
      rw [HR.out]
      exact ⟨rfl, HS.out⟩

set_option maxRecDepth 100000 in
set_option maxHeartbeats 8000000 in
theorem findR_any (M : Nat → Prop) (v : Value) (xs : List (ByteArray × ByteArray)) (nm : ByteArray) (w : World) (hx : Rd fldK M w v xs) (hn : nm.size ≤ 9223372036854775807) (hl : xs.length ≤ 9223372036854775800) :
    Calls Tryz.prog 87 #[v, .string nm] w (FindV w (findF (lowS nm.data.toList) (flS xs))) := by
  obtain ⟨A, c, rfl, hle⟩ := hx.form
  have HX := Lib.hid hx
  clear hx
  have cl := fun W => lowerR_any nm W hn
  obtain ⟨m, hm⟩ : ∃ m, m = lowS nm.data.toList := ⟨_, rfl⟩
  rw [← hm] at cl ⊢
  clear hm
  obtain ⟨N, hN⟩ : ∃ N, N = strB m := ⟨_, rfl⟩
  rw [← hN] at cl
  have HN := Lib.hid hN
  clear hN
  obtain ⟨R, hR⟩ : ∃ R, R = FindV w (findF m (flS xs)) := ⟨_, rfl⟩
  rw [← hR]
  have HR := Lib.hid hR
  clear hR
  go_enter Tryz.func87, Tryz.ntmps87
  go_wp2
  go_loopg [6, 7, 8] xs.length (fun gf tx n i wr => ∃ k : Nat, k + gf = xs.length ∧ i = .int .i64 k ∧ tx = .string (strB (findF m (flS (xs.take k))).1) ∧ n = .int .i64 ((findF m (flS (xs.take k))).2 : Int) ∧ Stp (fun _ => False) w wr)
  case atStart => exact ⟨0, by omega, rfl, rfl, rfl, Stp.refl _ _⟩
  case round =>
    obtain ⟨k, hk, rfl, rfl, rfl, hs⟩ := hrel
    have HS := Lib.hid hs
    clear hs
    by_cases hlt : k < xs.length
    · obtain ⟨g', rfl⟩ : ∃ g', gk = g' + 1 := ⟨gk - 1, by omega⟩
      have hfl := findF_len m (flS (xs.take k))
      rw [flS_len, List.length_take] at hfl
      have hsn := findF_snoc m (flS (xs.take k)) ((xs[k]).1.data.toList, (xs[k]).2.data.toList)
      rw [← flS_snoc xs k hlt] at hsn
      obtain ⟨ad, rfl, -, c0, c1⟩ := pair_cell (HX.out.stp0 HS.out) k hlt
      obtain ⟨X, hX⟩ : ∃ X, X = (xs[k]).1 := ⟨_, rfl⟩
      obtain ⟨Y, hY⟩ : ∃ Y, Y = (xs[k]).2 := ⟨_, rfl⟩
      rw [← hX, ← hY] at hsn
      rw [← hX] at c0
      rw [← hY] at c1
      have HC := Lib.hid (fun w' (h : Stp (fun _ => False) wr w') => And.intro (h.cell (v := .string X) c0 id) (h.cell (v := .string Y) c1 id))
      obtain ⟨T, hT⟩ : ∃ T, T = (findF m (flS (xs.take k))).1 := ⟨_, rfl⟩
      obtain ⟨C, hC⟩ : ∃ C, C = (findF m (flS (xs.take k))).2 := ⟨_, rfl⟩
      rw [← hC] at hfl
      rw [← hT, ← hC] at hsn ⊢
      have HTE := Lib.hid hT
      have HCE := Lib.hid hC
      have hne := eqlS X m
      rw [← HN.out] at hne
      clear hX hY hT hC c0 c1
      by_cases he : X.data.toList = m
      · rw [show decide (X.data.toList = m) = true by simpa using he] at hne
        rw [if_pos he] at hsn
        have HSN := Lib.hid hsn
        clear hsn he
        go_wp2_with fail
        have HT := Lib.hid ((Stp.refl (fun _ => False) wr).drew)
        refine wp_region_held_drew (S := (fun w' => w'.cell? (ad.add (k * 2)) = some (.string X))) (by kernel_rfl) ((HC.out _ HT.out).1) (fun hHeld => ?_)
        try (change wpAnyH _ _ _ _ _ _ _ _ (World.drew _))
        refine rg_take (i := 0) (o := { dst := some 15, op := Op.move (Operand.tmp 0), type := 41, pos := "ref.go:51", after := #[], guard := none }) (v := ?rgv85) rfl (by kernel_rfl) (by kernel_rfl) (by kernel_rfl) (fun _ _ _ h => h) (by rfl) (fun w hSw => ?rgy85) hHeld ?_
        case rgy85 => (try dsimp only at hSw); first | (go_simp; done) | (go_simp; with_reducible rfl)
        try simp only [Act.put, List.setIfInBounds_toArray, List.set_cons_zero, List.set_cons_succ]
        refine rg_take (i := 1) (o := { dst := some 16, op := Op.move (Operand.tmp 8), type := 3, pos := "ref.go:51", after := #[], guard := none }) (v := ?rgv86) rfl (by kernel_rfl) (by kernel_rfl) (by kernel_rfl) (fun _ _ _ h => h) (by rfl) (fun w hSw => ?rgy86) hHeld ?_
        case rgy86 => (try dsimp only at hSw); first | (go_simp; done) | (go_simp; with_reducible rfl)
        try simp only [Act.put, List.setIfInBounds_toArray, List.set_cons_zero, List.set_cons_succ]
        refine rg_take (i := 2) (o := { dst := some 17, op := Op.indexAddr 41 (Operand.tmp 15) (Operand.tmp 16), type := 0, pos := "ref.go:51", after := #[{ on := 0, ground := Ground.data }, { on := 1, ground := Ground.data }], guard := none }) (v := ?rgv87) rfl (by kernel_rfl) (by kernel_rfl) (by kernel_rfl) (fun _ _ _ h => h) (by rfl) (fun w hSw => ?rgy87) hHeld ?_
        case rgy87 => (try dsimp only at hSw); first | (go_simp; done) | (go_simp; with_reducible rfl)
        try simp only [Act.put, List.setIfInBounds_toArray, List.set_cons_zero, List.set_cons_succ]
        refine rg_take (i := 3) (o := { dst := some 18, op := Op.fieldAddr 46 (Operand.tmp 17) 0, type := 0, pos := "ref.go:51", after := #[{ on := 2, ground := Ground.data }], guard := none }) (v := ?rgv88) rfl (by kernel_rfl) (by kernel_rfl) (by kernel_rfl) (fun _ _ _ h => h) (by rfl) (fun w hSw => ?rgy88) hHeld ?_
        case rgy88 => (try dsimp only at hSw); first | (go_simp; done) | (go_simp; with_reducible rfl)
        try simp only [Act.put, List.setIfInBounds_toArray, List.set_cons_zero, List.set_cons_succ]
        refine rg_take (i := 4) (o := { dst := some 19, op := Op.load 9 (Operand.tmp 18), type := 9, pos := "ref.go:51", after := #[{ on := 3, ground := Ground.data }], guard := none }) (v := ?rgv89) rfl (by kernel_rfl) (by kernel_rfl) (by kernel_rfl) (fun _ _ _ h => h) (by rfl) (fun w hSw => ?rgy89) hHeld ?_
        case rgy89 => (try dsimp only at hSw); first | (go_simp; done) | (go_simp; with_reducible rfl)
        try simp only [Act.put, List.setIfInBounds_toArray, List.set_cons_zero, List.set_cons_succ]
        refine rg_take (i := 5) (o := { dst := some 20, op := Op.move (Operand.tmp 1), type := 9, pos := "ref.go:51", after := #[], guard := none }) (v := ?rgv90) rfl (by kernel_rfl) (by kernel_rfl) (by kernel_rfl) (fun _ _ _ h => h) (by rfl) (fun w hSw => ?rgy90) hHeld ?_
        case rgy90 => (try dsimp only at hSw); first | (go_simp; done) | (go_simp; with_reducible rfl)
        try simp only [Act.put, List.setIfInBounds_toArray, List.set_cons_zero, List.set_cons_succ]
        refine wpAnyH_ready (rs := [6]) (by kernel_rfl) (by simp) ?_
        refine (AllReadyH.cons (o := { dst := some 21, op := Op.call { callee := Callee.value (Operand.func 51), args := #[Operand.tmp 20], argTypes := #[9] }, type := 9, pos := "ref.go:51", after := #[{ on := 5, ground := Ground.data }], guard := none }) rfl (fun K hK => ?_) AllReadyH.nil)
        go_simp
        refine (cl _).mono ?_
        rintro e w3 ⟨rfl, hs3⟩
        replace HT := Lib.hid (HT.out.trans hs3)
        clear hs3
        show K _ _
        clear hHeld
        refine hK.out _ _ ((HC.out _ HT.out).1) (fun hHeld => ?_)
        clear hK K
        try simp only [Act.put, List.setIfInBounds_toArray, List.set_cons_zero, List.set_cons_succ]
        refine rg_take (i := 7) (o := { dst := some 22, op := Op.binOp BinOp.neq 9 (Operand.tmp 19) (Operand.tmp 21) 9, type := 4, pos := "ref.go:51", after := #[{ on := 4, ground := Ground.data }, { on := 6, ground := Ground.data }], guard := none }) (v := ?rgv91) rfl (by kernel_rfl) (by kernel_rfl) (by kernel_rfl) (fun _ _ _ h => h) (by rfl) (fun w hSw => ?rgy91) hHeld ?_
        case rgy91 => (try dsimp only at hSw); first | (go_simp; done) | (go_simp; with_reducible rfl)
        try simp only [Act.put, List.setIfInBounds_toArray, List.set_cons_zero, List.set_cons_succ]
        clear hHeld
        refine wpAnyH_done (by kernel_rfl) ?_ _
        obtain ⟨k0, k1⟩ := HC.out _ HT.out
        by_cases hC0 : C = 0
        · have hC1 : ((C : Int) == 0) = true := by simp [hC0]
          have HC0 := Lib.hid hC0
          clear hC0
          go_wp2
          go_roundg g'
          case measure => omega
          case rel => exact ⟨k + 1, by omega, by go_num, by rw [HSN.out, if_pos HC0.out, strB_of'], by rw [HSN.out]; rfl, HS.out.trans HT.out⟩
        · have hC1 : ((C : Int) == 0) = false := by simp; omega
          have HC0 := Lib.hid hC0
          go_wp2
          go_roundg g'
          case measure => omega
          case rel => exact ⟨k + 1, by omega, by go_num, by rw [HSN.out, if_neg HC0.out], by rw [HSN.out]; rfl, HS.out.trans HT.out⟩
      · rw [show decide (X.data.toList = m) = false by simpa using he] at hne
        rw [if_neg he] at hsn
        have HSN := Lib.hid hsn
        clear hsn he
        go_wp2_with fail
        have HT := Lib.hid ((Stp.refl (fun _ => False) wr).drew)
        refine wp_region_held_drew (S := (fun w' => w'.cell? (ad.add (k * 2)) = some (.string X))) (by kernel_rfl) ((HC.out _ HT.out).1) (fun hHeld => ?_)
        try (change wpAnyH _ _ _ _ _ _ _ _ (World.drew _))
        refine rg_take (i := 0) (o := { dst := some 15, op := Op.move (Operand.tmp 0), type := 41, pos := "ref.go:51", after := #[], guard := none }) (v := ?rgv92) rfl (by kernel_rfl) (by kernel_rfl) (by kernel_rfl) (fun _ _ _ h => h) (by rfl) (fun w hSw => ?rgy92) hHeld ?_
        case rgy92 => (try dsimp only at hSw); first | (go_simp; done) | (go_simp; with_reducible rfl)
        try simp only [Act.put, List.setIfInBounds_toArray, List.set_cons_zero, List.set_cons_succ]
        refine rg_take (i := 1) (o := { dst := some 16, op := Op.move (Operand.tmp 8), type := 3, pos := "ref.go:51", after := #[], guard := none }) (v := ?rgv93) rfl (by kernel_rfl) (by kernel_rfl) (by kernel_rfl) (fun _ _ _ h => h) (by rfl) (fun w hSw => ?rgy93) hHeld ?_
        case rgy93 => (try dsimp only at hSw); first | (go_simp; done) | (go_simp; with_reducible rfl)
        try simp only [Act.put, List.setIfInBounds_toArray, List.set_cons_zero, List.set_cons_succ]
        refine rg_take (i := 2) (o := { dst := some 17, op := Op.indexAddr 41 (Operand.tmp 15) (Operand.tmp 16), type := 0, pos := "ref.go:51", after := #[{ on := 0, ground := Ground.data }, { on := 1, ground := Ground.data }], guard := none }) (v := ?rgv94) rfl (by kernel_rfl) (by kernel_rfl) (by kernel_rfl) (fun _ _ _ h => h) (by rfl) (fun w hSw => ?rgy94) hHeld ?_
        case rgy94 => (try dsimp only at hSw); first | (go_simp; done) | (go_simp; with_reducible rfl)
        try simp only [Act.put, List.setIfInBounds_toArray, List.set_cons_zero, List.set_cons_succ]
        refine rg_take (i := 3) (o := { dst := some 18, op := Op.fieldAddr 46 (Operand.tmp 17) 0, type := 0, pos := "ref.go:51", after := #[{ on := 2, ground := Ground.data }], guard := none }) (v := ?rgv95) rfl (by kernel_rfl) (by kernel_rfl) (by kernel_rfl) (fun _ _ _ h => h) (by rfl) (fun w hSw => ?rgy95) hHeld ?_
        case rgy95 => (try dsimp only at hSw); first | (go_simp; done) | (go_simp; with_reducible rfl)
        try simp only [Act.put, List.setIfInBounds_toArray, List.set_cons_zero, List.set_cons_succ]
        refine rg_take (i := 4) (o := { dst := some 19, op := Op.load 9 (Operand.tmp 18), type := 9, pos := "ref.go:51", after := #[{ on := 3, ground := Ground.data }], guard := none }) (v := ?rgv96) rfl (by kernel_rfl) (by kernel_rfl) (by kernel_rfl) (fun _ _ _ h => h) (by rfl) (fun w hSw => ?rgy96) hHeld ?_
        case rgy96 => (try dsimp only at hSw); first | (go_simp; done) | (go_simp; with_reducible rfl)
        try simp only [Act.put, List.setIfInBounds_toArray, List.set_cons_zero, List.set_cons_succ]
        refine rg_take (i := 5) (o := { dst := some 20, op := Op.move (Operand.tmp 1), type := 9, pos := "ref.go:51", after := #[], guard := none }) (v := ?rgv97) rfl (by kernel_rfl) (by kernel_rfl) (by kernel_rfl) (fun _ _ _ h => h) (by rfl) (fun w hSw => ?rgy97) hHeld ?_
        case rgy97 => (try dsimp only at hSw); first | (go_simp; done) | (go_simp; with_reducible rfl)
        try simp only [Act.put, List.setIfInBounds_toArray, List.set_cons_zero, List.set_cons_succ]
        refine wpAnyH_ready (rs := [6]) (by kernel_rfl) (by simp) ?_
        refine (AllReadyH.cons (o := { dst := some 21, op := Op.call { callee := Callee.value (Operand.func 51), args := #[Operand.tmp 20], argTypes := #[9] }, type := 9, pos := "ref.go:51", after := #[{ on := 5, ground := Ground.data }], guard := none }) rfl (fun K hK => ?_) AllReadyH.nil)
        go_simp
        refine (cl _).mono ?_
        rintro e w3 ⟨rfl, hs3⟩
        replace HT := Lib.hid (HT.out.trans hs3)
        clear hs3
        show K _ _
        clear hHeld
        refine hK.out _ _ ((HC.out _ HT.out).1) (fun hHeld => ?_)
        clear hK K
        try simp only [Act.put, List.setIfInBounds_toArray, List.set_cons_zero, List.set_cons_succ]
        refine rg_take (i := 7) (o := { dst := some 22, op := Op.binOp BinOp.neq 9 (Operand.tmp 19) (Operand.tmp 21) 9, type := 4, pos := "ref.go:51", after := #[{ on := 4, ground := Ground.data }, { on := 6, ground := Ground.data }], guard := none }) (v := ?rgv98) rfl (by kernel_rfl) (by kernel_rfl) (by kernel_rfl) (fun _ _ _ h => h) (by rfl) (fun w hSw => ?rgy98) hHeld ?_
        case rgy98 => (try dsimp only at hSw); first | (go_simp; done) | (go_simp; with_reducible rfl)
        try simp only [Act.put, List.setIfInBounds_toArray, List.set_cons_zero, List.set_cons_succ]
        clear hHeld
        refine wpAnyH_done (by kernel_rfl) ?_ _
        go_wp2
        go_roundg g'
        case measure => omega
        case rel => exact ⟨k + 1, by omega, by go_num, by rw [HSN.out, HTE.out], by rw [HSN.out, HCE.out], HS.out.trans HT.out⟩
    · obtain rfl : k = xs.length := by omega
      rw [List.take_length] at *
      go_wp2
      rw [HR.out]
      exact ⟨rfl, HS.out⟩
end Go.Proofs.YtgjmaifgkgejgaaGreatDoor.L
