/- Layer 16: equal verdicts are the same. -/
import Derived.Test.YtgjmaifgkgejgaaGreatDoorJa
import Derived.Test.YtgjmaifgkgejgaaGreatDoorFe
import Derived.Lib.SmallJoins
set_option linter.unusedVariables false
set_option linter.unusedSimpArgs false
namespace Go.Proofs.YtgjmaifgkgejgaaGreatDoor.L
open Go.RowKit Go.Proofs

theorem rows_nil (w : World) : Calls Tryz.prog 43 #[.slice none 0 0, .slice none 0 0] w (TrueV w) := by
  go_enter Tryz.func43, Tryz.ntmps43
  go_wp2
  go_loopg [5] 0 (fun gf i wr => i = .int .i64 0 ∧ wr = w)
  case atStart => exact ⟨rfl, rfl⟩
  case round =>
    obtain ⟨rfl, hw⟩ := hrel
    obtain rfl := hw.symm
    go_wp2
    go_ret
    exact ⟨rfl, Stp.refl _ _⟩
theorem ints_nil (w : World) : Calls Tryz.prog 44 #[.slice none 0 0, .slice none 0 0] w (TrueV w) := by
  go_enter Tryz.func44, Tryz.ntmps44
  go_wp2
  go_loopg [5] 0 (fun gf i wr => i = .int .i64 0 ∧ wr = w)
  case atStart => exact ⟨rfl, rfl⟩
  case round =>
    obtain ⟨rfl, hw⟩ := hrel
    obtain rfl := hw.symm
    go_wp2
    go_ret
    exact ⟨rfl, Stp.refl _ _⟩
theorem same10_nil (w : World) : Calls Tryz.prog 19 #[.agg #[.bool false, .string ⟨#[]⟩, .slice none 0 0, .slice none 0 0, .bool false], .agg #[.bool false, .string ⟨#[]⟩, .slice none 0 0, .slice none 0 0, .bool false]] w (TrueV w) := by
  obtain ⟨R, hR⟩ : ∃ R, R = TrueV w := ⟨_, rfl⟩
  rw [← hR]
  have HR := Lib.hid hR
  clear hR
  have HS0 := Lib.hid (Stp.refl (fun _ => False) w)
  go_enter Tryz.func19, Tryz.ntmps19
  go_wp2_with (go_at_call 43; refine stopc ?_)
  refine Stop.go ?_
  refine (rows_nil _).mono ?_
  rintro e w1 ⟨he, hs1⟩
  subst he
  have HS1 := Lib.hid (((HS0.out.alloc _).alloc _).trans hs1)
  have HBA := Lib.hid (show w1.heap[w.heap.size]? = some (.cells #[.bool false, .string ⟨#[]⟩, .slice none 0 0, .slice none 0 0, .bool false] 29 (0, 0)) from hs1.blk (((Stp.refl (fun _ => False) _).alloc _).blk (heap_alloc_new w _) id) id)
  have HBB := Lib.hid (show w1.heap[w.heap.size + 1]? = some (.cells #[.bool false, .string ⟨#[]⟩, .slice none 0 0, .slice none 0 0, .bool false] 29 (0, 0)) from by have h := hs1.blk (heap_alloc_new (w.alloc (.cells #[.bool false, .string ⟨#[]⟩, .slice none 0 0, .slice none 0 0, .bool false] 29)) _) id; simpa using h)
  clear hs1
  have kA0 : w1.cell? ⟨w.heap.size, 0, none⟩ = some (.bool false) := blk_cell (j := 0) HBA.out
  have kA1 : w1.cell? ⟨w.heap.size, 1, none⟩ = some (.string ⟨#[]⟩) := blk_cell (j := 1) HBA.out
  have kA2 : w1.cell? ⟨w.heap.size, 2, none⟩ = some (.slice none 0 0) := blk_cell (j := 2) HBA.out
  have kA3 : w1.cell? ⟨w.heap.size, 3, none⟩ = some (.slice none 0 0) := blk_cell (j := 3) HBA.out
  have kA4 : w1.cell? ⟨w.heap.size, 4, none⟩ = some (.bool false) := blk_cell (j := 4) HBA.out
  have ltA := blk_lt HBA.out
  have kB0 : w1.cell? ⟨w.heap.size + 1, 0, none⟩ = some (.bool false) := blk_cell (j := 0) HBB.out
  have kB1 : w1.cell? ⟨w.heap.size + 1, 1, none⟩ = some (.string ⟨#[]⟩) := blk_cell (j := 1) HBB.out
  have kB2 : w1.cell? ⟨w.heap.size + 1, 2, none⟩ = some (.slice none 0 0) := blk_cell (j := 2) HBB.out
  have kB3 : w1.cell? ⟨w.heap.size + 1, 3, none⟩ = some (.slice none 0 0) := blk_cell (j := 3) HBB.out
  have kB4 : w1.cell? ⟨w.heap.size + 1, 4, none⟩ = some (.bool false) := blk_cell (j := 4) HBB.out
  have ltB := blk_lt HBB.out
  go_wp2_with (go_at_call 44; refine stopc ?_)
  refine Stop.go ?_
  refine (ints_nil _).mono ?_
  rintro e w2 ⟨he, hs2⟩
  subst he
  have HS2 := Lib.hid (HS1.out.trans hs2)
  replace HBA := Lib.hid (hs2.blk HBA.out id)
  replace HBB := Lib.hid (hs2.blk HBB.out id)
  clear hs2 kA0 kA1 kA2 kA3 kA4 ltA kB0 kB1 kB2 kB3 kB4 ltB
  have kA0 : w2.cell? ⟨w.heap.size, 0, none⟩ = some (.bool false) := blk_cell (j := 0) HBA.out
  have kA1 : w2.cell? ⟨w.heap.size, 1, none⟩ = some (.string ⟨#[]⟩) := blk_cell (j := 1) HBA.out
  have kA2 : w2.cell? ⟨w.heap.size, 2, none⟩ = some (.slice none 0 0) := blk_cell (j := 2) HBA.out
  have kA3 : w2.cell? ⟨w.heap.size, 3, none⟩ = some (.slice none 0 0) := blk_cell (j := 3) HBA.out
  have kA4 : w2.cell? ⟨w.heap.size, 4, none⟩ = some (.bool false) := blk_cell (j := 4) HBA.out
  have ltA := blk_lt HBA.out
  have kB0 : w2.cell? ⟨w.heap.size + 1, 0, none⟩ = some (.bool false) := blk_cell (j := 0) HBB.out
  have kB1 : w2.cell? ⟨w.heap.size + 1, 1, none⟩ = some (.string ⟨#[]⟩) := blk_cell (j := 1) HBB.out
  have kB2 : w2.cell? ⟨w.heap.size + 1, 2, none⟩ = some (.slice none 0 0) := blk_cell (j := 2) HBB.out
  have kB3 : w2.cell? ⟨w.heap.size + 1, 3, none⟩ = some (.slice none 0 0) := blk_cell (j := 3) HBB.out
  have kB4 : w2.cell? ⟨w.heap.size + 1, 4, none⟩ = some (.bool false) := blk_cell (j := 4) HBB.out
  have ltB := blk_lt HBB.out
  go_wp2
  rw [HR.out]
  exact ⟨rfl, HS2.out⟩
set_option maxRecDepth 100000 in
set_option maxHeartbeats 8000000 in
theorem same15_eq (v : Vd) (u : Nat) (w : World) : Calls Tryz.prog 10 #[vdV v u, vdV v u] w (TrueV w) := by
  obtain ⟨R, hR⟩ : ∃ R, R = TrueV w := ⟨_, rfl⟩
  rw [← hR]
  have HR := Lib.hid hR
  clear hR
  obtain ⟨st, rs, ho, po⟩ := v
  unfold vdV vdC
  obtain ⟨H, hH⟩ : ∃ H, H = strB ho := ⟨_, rfl⟩
  simp only [← hH]
  clear hH
  have hss : (H.toList == H.toList) = true := by simp
  have HS0 := Lib.hid (Stp.refl (fun _ => False) w)
  go_enter Tryz.func10, Tryz.ntmps10
  go_wp2_with (go_at_call 19; refine stopc ?_)
  refine Stop.go ?_
  refine (same10_nil _).mono ?_
  rintro e w1 ⟨he, hs1⟩
  subst he
  have HS1 := Lib.hid (((HS0.out.alloc _).alloc _).trans hs1)
  have HBA := Lib.hid (show w1.heap[w.heap.size]? = some (.cells #[.int .i64 st, .int .i64 2, .int .i64 (u : Int), .int .i64 rs, .string H, .int .i64 po, .bool false, .string ⟨#[]⟩, .slice none 0 0, .slice none 0 0, .bool false] 31 (0, 0)) from hs1.blk (((Stp.refl (fun _ => False) _).alloc _).blk (heap_alloc_new w _) id) id)
  have HBB := Lib.hid (show w1.heap[w.heap.size + 1]? = some (.cells #[.int .i64 st, .int .i64 2, .int .i64 (u : Int), .int .i64 rs, .string H, .int .i64 po, .bool false, .string ⟨#[]⟩, .slice none 0 0, .slice none 0 0, .bool false] 31 (0, 0)) from by have h := hs1.blk (heap_alloc_new (w.alloc (.cells #[.int .i64 st, .int .i64 2, .int .i64 (u : Int), .int .i64 rs, .string H, .int .i64 po, .bool false, .string ⟨#[]⟩, .slice none 0 0, .slice none 0 0, .bool false] 31)) _) id; simpa using h)
  clear hs1
  have kA0 : w1.cell? ⟨w.heap.size, 0, none⟩ = some (.int .i64 st) := blk_cell (j := 0) HBA.out
  have kA1 : w1.cell? ⟨w.heap.size, 1, none⟩ = some (.int .i64 2) := blk_cell (j := 1) HBA.out
  have kA2 : w1.cell? ⟨w.heap.size, 2, none⟩ = some (.int .i64 (u : Int)) := blk_cell (j := 2) HBA.out
  have kA3 : w1.cell? ⟨w.heap.size, 3, none⟩ = some (.int .i64 rs) := blk_cell (j := 3) HBA.out
  have kA4 : w1.cell? ⟨w.heap.size, 4, none⟩ = some (.string H) := blk_cell (j := 4) HBA.out
  have kA5 : w1.cell? ⟨w.heap.size, 5, none⟩ = some (.int .i64 po) := blk_cell (j := 5) HBA.out
  have kA6 : w1.cell? ⟨w.heap.size, 6, none⟩ = some (.bool false) := blk_cell (j := 6) HBA.out
  have kA7 : w1.cell? ⟨w.heap.size, 7, none⟩ = some (.string ⟨#[]⟩) := blk_cell (j := 7) HBA.out
  have kA8 : w1.cell? ⟨w.heap.size, 8, none⟩ = some (.slice none 0 0) := blk_cell (j := 8) HBA.out
  have kA9 : w1.cell? ⟨w.heap.size, 9, none⟩ = some (.slice none 0 0) := blk_cell (j := 9) HBA.out
  have kA10 : w1.cell? ⟨w.heap.size, 10, none⟩ = some (.bool false) := blk_cell (j := 10) HBA.out
  have ltA := blk_lt HBA.out
  have kB0 : w1.cell? ⟨w.heap.size + 1, 0, none⟩ = some (.int .i64 st) := blk_cell (j := 0) HBB.out
  have kB1 : w1.cell? ⟨w.heap.size + 1, 1, none⟩ = some (.int .i64 2) := blk_cell (j := 1) HBB.out
  have kB2 : w1.cell? ⟨w.heap.size + 1, 2, none⟩ = some (.int .i64 (u : Int)) := blk_cell (j := 2) HBB.out
  have kB3 : w1.cell? ⟨w.heap.size + 1, 3, none⟩ = some (.int .i64 rs) := blk_cell (j := 3) HBB.out
  have kB4 : w1.cell? ⟨w.heap.size + 1, 4, none⟩ = some (.string H) := blk_cell (j := 4) HBB.out
  have kB5 : w1.cell? ⟨w.heap.size + 1, 5, none⟩ = some (.int .i64 po) := blk_cell (j := 5) HBB.out
  have kB6 : w1.cell? ⟨w.heap.size + 1, 6, none⟩ = some (.bool false) := blk_cell (j := 6) HBB.out
  have kB7 : w1.cell? ⟨w.heap.size + 1, 7, none⟩ = some (.string ⟨#[]⟩) := blk_cell (j := 7) HBB.out
  have kB8 : w1.cell? ⟨w.heap.size + 1, 8, none⟩ = some (.slice none 0 0) := blk_cell (j := 8) HBB.out
  have kB9 : w1.cell? ⟨w.heap.size + 1, 9, none⟩ = some (.slice none 0 0) := blk_cell (j := 9) HBB.out
  have kB10 : w1.cell? ⟨w.heap.size + 1, 10, none⟩ = some (.bool false) := blk_cell (j := 10) HBB.out
  have ltB := blk_lt HBB.out
  go_wp2
  rw [HR.out]
  exact ⟨rfl, HS1.out⟩
end Go.Proofs.YtgjmaifgkgejgaaGreatDoor.L

/-! Layer 16: the small case of its laws. -/
namespace Go.Proofs.YtgjmaifgkgejgaaGreatDoor.L
open Go.RowKit Go.Proofs

/-- []byte(s), as it is read. -/
theorem wp_bytesRd {P : Program} {ops : Array Oper} {rest : List Oper} {o : Oper} {a : Act} {Q : Exit → Act → World → Prop} {W : World} (hg : o.guard = none) (src dst : TypeId) (x : Operand) (hop : o.op = .convert src dst x) {u : TypeDesc}
    (hs : P.underlying src = some u) (hd : P.underlying dst = some (.slice 5)) (he : P.underlying 5 = some (.int .u8)) {s : ByteArray} (hx : a.eval x = .string s) (hl : s.size ≤ 9223372036854775807)
    (h : ∀ W' c, Rd u8 (fun _ => False) W' (.slice (some ⟨W.heap.size, 0, none⟩) s.size c) s.data.toList → Stp (fun _ => False) W W' → wpList P ops Q rest (a.put o.dst (.slice (some ⟨W.heap.size, 0, none⟩) s.size c)) W') :
    wpList P ops Q (o :: rest) a W :=
  wp_bytesBlk hg src dst x hop hs hd he hx hl fun W' c hb h1 h2 h3 _ => h W' c (hb.rd h1 h2 _ (fun h => h)) h3
theorem rd_litF {M : Nat → Prop} {t : TypeId} {fr : Nat × Nat} (C : List UInt8) (W : World) {cs : Array Value} {g : Nat} (h : cs.toList = C.map enc8) (hg : g = W.heap.size) (hl : C.length ≤ maxLen) (hM : ¬ M g) : Rd u8 M (W.alloc (.cells cs t fr)) (.slice (some ⟨g, 0, none⟩) C.length C.length) C := by
  subst hg
  refine plain_mk (Nat.le_refl _) hl (fun _ => ⟨⟨W.heap.size, 0, none⟩, rfl, hM, fun j hj => ?_⟩)
  have hc : (W.alloc (.cells cs t fr)).cell? ⟨W.heap.size, j, none⟩ = cs[j]? := World.cell?_alloc_mark W cs t fr j
  have he : cs[j]? = some (enc8 C[j]) := by
    rw [← Array.getElem?_toList, h]
    simp [hj]
  by_cases h0 : j = 0
  · subst h0
    rw [addr_z, hc, he]
  · rw [addr_nz _ _ h0]
    simp only [Nat.zero_add]
    rw [hc, he]
def smV : List UInt8 := [71, 69, 84, 32, 47, 32, 72, 84, 84, 80, 47, 49, 46, 49, 13, 10, 72, 111, 115, 116, 58, 32, 65, 46, 98, 58, 56, 49, 13, 10, 13, 10, 120]
theorem smV_all : allH smV = (⟨1, 0, [97, 46, 98], 81⟩, 32) := by kernel_rfl
theorem smV_call (W : World) (v : Value) (h : Rd u8 (fun _ => False) W v smV) (he : EnvP W) : Calls Tryz.prog 11 #[v] W fun e w' => e = .returned (.agg #[.int .i64 1, .int .i64 2, .int .i64 32, .int .i64 0, .string ⟨#[97, 46, 98]⟩, .int .i64 81, .bool false, .string ⟨#[]⟩, .slice none 0 0, .slice none 0 0, .bool false]) ∧ Stp (fun _ => False) W w' := by
  refine (pall_any _ v smV W h (by decide) he).mono ?_
  rintro e w1 ⟨rfl, hs⟩
  exact ⟨by rw [smV_all]; rfl, hs⟩
def smW : List UInt8 := [10]
theorem smW_all : allH smW = (⟨2, 3, [], 0⟩, 1) := by kernel_rfl
theorem smW_call (W : World) (v : Value) (h : Rd u8 (fun _ => False) W v smW) (he : EnvP W) : Calls Tryz.prog 11 #[v] W fun e w' => e = .returned (.agg #[.int .i64 2, .int .i64 2, .int .i64 1, .int .i64 3, .string ⟨#[]⟩, .int .i64 0, .bool false, .string ⟨#[]⟩, .slice none 0 0, .slice none 0 0, .bool false]) ∧ Stp (fun _ => False) W w' := by
  refine (pall_any _ v smW W h (by decide) he).mono ?_
  rintro e w1 ⟨rfl, hs⟩
  exact ⟨by rw [smW_all]; rfl, hs⟩
def smX : List UInt8 := [71, 69, 84, 32, 47, 32, 72, 84, 84, 80, 47, 49, 46, 49, 13, 10, 13, 10]
theorem smX_all : allH smX = (⟨2, 8, [], 0⟩, 18) := by kernel_rfl
theorem smX_call (W : World) (v : Value) (h : Rd u8 (fun _ => False) W v smX) (he : EnvP W) : Calls Tryz.prog 11 #[v] W fun e w' => e = .returned (.agg #[.int .i64 2, .int .i64 2, .int .i64 18, .int .i64 8, .string ⟨#[]⟩, .int .i64 0, .bool false, .string ⟨#[]⟩, .slice none 0 0, .slice none 0 0, .bool false]) ∧ Stp (fun _ => False) W w' := by
  refine (pall_any _ v smX W h (by decide) he).mono ?_
  rintro e w1 ⟨rfl, hs⟩
  exact ⟨by rw [smX_all]; rfl, hs⟩
def smY : List UInt8 := [71, 69, 84, 32, 47, 32, 72, 84, 84, 80, 47, 49, 46, 49, 13, 10, 72, 111, 115, 116, 58, 97]
theorem smY_all : allH smY = (⟨0, 0, [], 0⟩, 22) := by kernel_rfl
theorem smY_call (W : World) (v : Value) (h : Rd u8 (fun _ => False) W v smY) (he : EnvP W) : Calls Tryz.prog 11 #[v] W fun e w' => e = .returned (.agg #[.int .i64 0, .int .i64 2, .int .i64 22, .int .i64 0, .string ⟨#[]⟩, .int .i64 0, .bool false, .string ⟨#[]⟩, .slice none 0 0, .slice none 0 0, .bool false]) ∧ Stp (fun _ => False) W w' := by
  refine (pall_any _ v smY W h (by decide) he).mono ?_
  rintro e w1 ⟨rfl, hs⟩
  exact ⟨by rw [smY_all]; rfl, hs⟩
def smZ : List UInt8 := [71, 69, 84, 32, 47, 13, 120]
theorem smZ_all : allH smZ = (⟨2, 3, [], 0⟩, 7) := by kernel_rfl
theorem smZ_call (W : World) (v : Value) (h : Rd u8 (fun _ => False) W v smZ) (he : EnvP W) : Calls Tryz.prog 11 #[v] W fun e w' => e = .returned (.agg #[.int .i64 2, .int .i64 2, .int .i64 7, .int .i64 3, .string ⟨#[]⟩, .int .i64 0, .bool false, .string ⟨#[]⟩, .slice none 0 0, .slice none 0 0, .bool false]) ∧ Stp (fun _ => False) W w' := by
  refine (pall_any _ v smZ W h (by decide) he).mono ?_
  rintro e w1 ⟨rfl, hs⟩
  exact ⟨by rw [smZ_all]; rfl, hs⟩
def smS : Hs := ⟨[], true, false, Rq.none, []⟩
theorem smT2_step : (stepH smS 10).2 = .bad 3 := by kernel_rfl
theorem smT1_call (g : Nat) (W : World) (h : PkB W g .new .open_ 0) (he : EnvB g W) : Calls Tryz.prog 14 #[.pointer (some ⟨g, 0, none⟩), .int .u8 13] W fun e w' => e = .returned (.agg #[.int .i64 0, .int .i64 2, .int .i64 1, .int .i64 0, .string ⟨#[]⟩, .int .i64 0, .bool false, .string ⟨#[]⟩, .slice none 0 0, .slice none 0 0, .bool false]) ∧ PkB w' g smS .open_ 1 ∧ Stp (NoVd g W) W w' := by
  refine (take_open g .new 0 13 W h he HsOk.new (by decide)).mono ?_
  rintro e w1 ⟨rfl, h1, hs⟩
  exact ⟨rfl, h1, hs⟩
theorem smT2_call (g : Nat) (W : World) (h : PkB W g smS .open_ 1) (he : EnvB g W) : Calls Tryz.prog 14 #[.pointer (some ⟨g, 0, none⟩), .int .u8 10] W fun e w' => e = .returned (.agg #[.int .i64 2, .int .i64 2, .int .i64 2, .int .i64 3, .string ⟨#[]⟩, .int .i64 0, .bool false, .string ⟨#[]⟩, .slice none 0 0, .slice none 0 0, .bool false]) ∧ PkB w' g (stepH smS 10).1 (.bad 3) 2 ∧ Stp (NoVd g W) W w' := by
  refine (take_open g smS 1 10 W h he ⟨Nat.zero_le _, by decide, by decide, fun x h => by cases h⟩ (by decide)).mono ?_
  rintro e w1 ⟨rfl, h1, hs⟩
  rw [smT2_step] at h1 ⊢
  exact ⟨rfl, h1, hs⟩
theorem smT3_call (g : Nat) (W : World) (h : PkB W g (stepH smS 10).1 (.bad 3) 2) : Calls Tryz.prog 14 #[.pointer (some ⟨g, 0, none⟩), .int .u8 10] W fun e w' => e = .returned (.agg #[.int .i64 2, .int .i64 2, .int .i64 2, .int .i64 3, .string ⟨#[]⟩, .int .i64 0, .bool false, .string ⟨#[]⟩, .slice none 0 0, .slice none 0 0, .bool false]) ∧ PkB w' g (stepH smS 10).1 (.bad 3) 2 ∧ Stp (NoVd g W) W w' := by
  refine (take_known g (stepH smS 10).1 (.bad 3) 2 10 W h (by decide)).mono ?_
  rintro e w1 ⟨rfl, h1, hs⟩
  exact ⟨rfl, h1, hs⟩
set_option maxRecDepth 100000 in
set_option maxHeartbeats 16000000 in
theorem small16_any (w : World) (he : EnvP w) : Calls Tryz.prog 9 #[] w (TrueV w) := by
  obtain ⟨R, hR⟩ : ∃ R, R = TrueV w := ⟨_, rfl⟩
  rw [← hR]
  have HR := Lib.hid hR
  have HV := Lib.hid he
  clear hR he
  have kc := fun (w : World) (C : Array Value) (n c : Nat) => Lib.run_convert_bytes_const (P := Tryz.prog) w 22 5 C n c Tryz.underlying22 Tryz.underlying5
  have kc2 := fun (w : World) (C : Array Value) (n c g : Nat) (hg : g = w.heap.size) => Go.Joins.run_convert_bytes_const_at (P := Tryz.prog) w 22 5 C n c g hg Tryz.underlying22 Tryz.underlying5
  go_enter Tryz.func9, Tryz.ntmps9
  go_wp2_with (with_reducible refine stop (N := 12) rfl ?_)
  refine Stop.go ?_
  refine wp_bytesRd rfl _ _ _ rfl Tryz.underlying9 Tryz.underlying22 Tryz.underlying5 rfl (by decide) ?_
  intro W1 c hrd hsW
  have HRD := Lib.hid hrd
  have HM := Lib.hid (HV.out.step hsW)
  have HSW := Lib.hid hsW
  clear hrd hsW
  have HS0 := Lib.hid (Stp.refl (fun _ => False) W1)
  go_wp2_with (go_at_call 11; refine stopc ?_)
  refine Stop.go ?_
  refine (smV_call _ _ HRD.out (HM.out.step HS0.out)).mono ?_
  rintro e w1 ⟨he, hs1⟩
  subst he
  have HS1 := Lib.hid (HS0.out.trans hs1)
  clear hs1
  go_wp2_with (go_at_call 11; refine stopc ?_)
  refine Stop.go ?_
  refine (smW_call _ _ (rd_litF smW _ rfl (by simp) (by decide) id) (HM.out.step ((HS1.out.alloc _).alloc _))).mono ?_
  rintro e w2 ⟨he, hs2⟩
  subst he
  have HS2 := Lib.hid (((HS1.out.alloc _).alloc _).trans hs2)
  have HBV := Lib.hid (show w2.heap[w1.heap.size]? = some (.cells #[.int .i64 1, .int .i64 2, .int .i64 32, .int .i64 0, .string ⟨#[97, 46, 98]⟩, .int .i64 81, .bool false, .string ⟨#[]⟩, .slice none 0 0, .slice none 0 0, .bool false] 31 (0, 0)) from hs2.blk (((Stp.refl (fun _ => False) _).alloc _).blk (heap_alloc_new w1 _) id) id)
  clear hs2
  have kV0 : w2.cell? ⟨w1.heap.size, 0, none⟩ = some (.int .i64 1) := blk_cell (j := 0) HBV.out
  have kV1 : w2.cell? ⟨w1.heap.size, 1, none⟩ = some (.int .i64 2) := blk_cell (j := 1) HBV.out
  have kV2 : w2.cell? ⟨w1.heap.size, 2, none⟩ = some (.int .i64 32) := blk_cell (j := 2) HBV.out
  have kV3 : w2.cell? ⟨w1.heap.size, 3, none⟩ = some (.int .i64 0) := blk_cell (j := 3) HBV.out
  have kV4 : w2.cell? ⟨w1.heap.size, 4, none⟩ = some (.string ⟨#[97, 46, 98]⟩) := blk_cell (j := 4) HBV.out
  have kV5 : w2.cell? ⟨w1.heap.size, 5, none⟩ = some (.int .i64 81) := blk_cell (j := 5) HBV.out
  have kV6 : w2.cell? ⟨w1.heap.size, 6, none⟩ = some (.bool false) := blk_cell (j := 6) HBV.out
  have kV7 : w2.cell? ⟨w1.heap.size, 7, none⟩ = some (.string ⟨#[]⟩) := blk_cell (j := 7) HBV.out
  have kV8 : w2.cell? ⟨w1.heap.size, 8, none⟩ = some (.slice none 0 0) := blk_cell (j := 8) HBV.out
  have kV9 : w2.cell? ⟨w1.heap.size, 9, none⟩ = some (.slice none 0 0) := blk_cell (j := 9) HBV.out
  have kV10 : w2.cell? ⟨w1.heap.size, 10, none⟩ = some (.bool false) := blk_cell (j := 10) HBV.out
  have ltV := blk_lt HBV.out
  go_wp2_with (go_at_call 11; refine stopc ?_)
  refine Stop.go ?_
  refine (smX_call _ _ (rd_litF smX _ rfl (by simp) (by decide) id) (HM.out.step ((HS2.out.alloc _).alloc _))).mono ?_
  rintro e w3 ⟨he, hs3⟩
  subst he
  have HS3 := Lib.hid (((HS2.out.alloc _).alloc _).trans hs3)
  replace HBV := Lib.hid (hs3.blk ((((Stp.refl (fun _ => False) _).alloc _).alloc _).blk HBV.out id) id)
  have HBW := Lib.hid (show w3.heap[w2.heap.size]? = some (.cells #[.int .i64 2, .int .i64 2, .int .i64 1, .int .i64 3, .string ⟨#[]⟩, .int .i64 0, .bool false, .string ⟨#[]⟩, .slice none 0 0, .slice none 0 0, .bool false] 31 (0, 0)) from hs3.blk (((Stp.refl (fun _ => False) _).alloc _).blk (heap_alloc_new w2 _) id) id)
  clear hs3 kV0 kV1 kV2 kV3 kV4 kV5 kV6 kV7 kV8 kV9 kV10 ltV
  have kV0 : w3.cell? ⟨w1.heap.size, 0, none⟩ = some (.int .i64 1) := blk_cell (j := 0) HBV.out
  have kV1 : w3.cell? ⟨w1.heap.size, 1, none⟩ = some (.int .i64 2) := blk_cell (j := 1) HBV.out
  have kV2 : w3.cell? ⟨w1.heap.size, 2, none⟩ = some (.int .i64 32) := blk_cell (j := 2) HBV.out
  have kV3 : w3.cell? ⟨w1.heap.size, 3, none⟩ = some (.int .i64 0) := blk_cell (j := 3) HBV.out
  have kV4 : w3.cell? ⟨w1.heap.size, 4, none⟩ = some (.string ⟨#[97, 46, 98]⟩) := blk_cell (j := 4) HBV.out
  have kV5 : w3.cell? ⟨w1.heap.size, 5, none⟩ = some (.int .i64 81) := blk_cell (j := 5) HBV.out
  have kV6 : w3.cell? ⟨w1.heap.size, 6, none⟩ = some (.bool false) := blk_cell (j := 6) HBV.out
  have kV7 : w3.cell? ⟨w1.heap.size, 7, none⟩ = some (.string ⟨#[]⟩) := blk_cell (j := 7) HBV.out
  have kV8 : w3.cell? ⟨w1.heap.size, 8, none⟩ = some (.slice none 0 0) := blk_cell (j := 8) HBV.out
  have kV9 : w3.cell? ⟨w1.heap.size, 9, none⟩ = some (.slice none 0 0) := blk_cell (j := 9) HBV.out
  have kV10 : w3.cell? ⟨w1.heap.size, 10, none⟩ = some (.bool false) := blk_cell (j := 10) HBV.out
  have ltV := blk_lt HBV.out
  have kW0 : w3.cell? ⟨w2.heap.size, 0, none⟩ = some (.int .i64 2) := blk_cell (j := 0) HBW.out
  have kW1 : w3.cell? ⟨w2.heap.size, 1, none⟩ = some (.int .i64 2) := blk_cell (j := 1) HBW.out
  have kW2 : w3.cell? ⟨w2.heap.size, 2, none⟩ = some (.int .i64 1) := blk_cell (j := 2) HBW.out
  have kW3 : w3.cell? ⟨w2.heap.size, 3, none⟩ = some (.int .i64 3) := blk_cell (j := 3) HBW.out
  have kW4 : w3.cell? ⟨w2.heap.size, 4, none⟩ = some (.string ⟨#[]⟩) := blk_cell (j := 4) HBW.out
  have kW5 : w3.cell? ⟨w2.heap.size, 5, none⟩ = some (.int .i64 0) := blk_cell (j := 5) HBW.out
  have kW6 : w3.cell? ⟨w2.heap.size, 6, none⟩ = some (.bool false) := blk_cell (j := 6) HBW.out
  have kW7 : w3.cell? ⟨w2.heap.size, 7, none⟩ = some (.string ⟨#[]⟩) := blk_cell (j := 7) HBW.out
  have kW8 : w3.cell? ⟨w2.heap.size, 8, none⟩ = some (.slice none 0 0) := blk_cell (j := 8) HBW.out
  have kW9 : w3.cell? ⟨w2.heap.size, 9, none⟩ = some (.slice none 0 0) := blk_cell (j := 9) HBW.out
  have kW10 : w3.cell? ⟨w2.heap.size, 10, none⟩ = some (.bool false) := blk_cell (j := 10) HBW.out
  have ltW := blk_lt HBW.out
  go_wp2_with (go_at_call 11; refine stopc ?_)
  refine Stop.go ?_
  refine (smY_call _ _ (rd_litF smY _ rfl (by simp) (by decide) id) (HM.out.step ((HS3.out.alloc _).alloc _))).mono ?_
  rintro e w4 ⟨he, hs4⟩
  subst he
  have HS4 := Lib.hid (((HS3.out.alloc _).alloc _).trans hs4)
  replace HBV := Lib.hid (hs4.blk ((((Stp.refl (fun _ => False) _).alloc _).alloc _).blk HBV.out id) id)
  replace HBW := Lib.hid (hs4.blk ((((Stp.refl (fun _ => False) _).alloc _).alloc _).blk HBW.out id) id)
  have HBX := Lib.hid (show w4.heap[w3.heap.size]? = some (.cells #[.int .i64 2, .int .i64 2, .int .i64 18, .int .i64 8, .string ⟨#[]⟩, .int .i64 0, .bool false, .string ⟨#[]⟩, .slice none 0 0, .slice none 0 0, .bool false] 31 (0, 0)) from hs4.blk (((Stp.refl (fun _ => False) _).alloc _).blk (heap_alloc_new w3 _) id) id)
  clear hs4 kV0 kV1 kV2 kV3 kV4 kV5 kV6 kV7 kV8 kV9 kV10 ltV kW0 kW1 kW2 kW3 kW4 kW5 kW6 kW7 kW8 kW9 kW10 ltW
  have kV0 : w4.cell? ⟨w1.heap.size, 0, none⟩ = some (.int .i64 1) := blk_cell (j := 0) HBV.out
  have kV1 : w4.cell? ⟨w1.heap.size, 1, none⟩ = some (.int .i64 2) := blk_cell (j := 1) HBV.out
  have kV2 : w4.cell? ⟨w1.heap.size, 2, none⟩ = some (.int .i64 32) := blk_cell (j := 2) HBV.out
  have kV3 : w4.cell? ⟨w1.heap.size, 3, none⟩ = some (.int .i64 0) := blk_cell (j := 3) HBV.out
  have kV4 : w4.cell? ⟨w1.heap.size, 4, none⟩ = some (.string ⟨#[97, 46, 98]⟩) := blk_cell (j := 4) HBV.out
  have kV5 : w4.cell? ⟨w1.heap.size, 5, none⟩ = some (.int .i64 81) := blk_cell (j := 5) HBV.out
  have kV6 : w4.cell? ⟨w1.heap.size, 6, none⟩ = some (.bool false) := blk_cell (j := 6) HBV.out
  have kV7 : w4.cell? ⟨w1.heap.size, 7, none⟩ = some (.string ⟨#[]⟩) := blk_cell (j := 7) HBV.out
  have kV8 : w4.cell? ⟨w1.heap.size, 8, none⟩ = some (.slice none 0 0) := blk_cell (j := 8) HBV.out
  have kV9 : w4.cell? ⟨w1.heap.size, 9, none⟩ = some (.slice none 0 0) := blk_cell (j := 9) HBV.out
  have kV10 : w4.cell? ⟨w1.heap.size, 10, none⟩ = some (.bool false) := blk_cell (j := 10) HBV.out
  have ltV := blk_lt HBV.out
  have kW0 : w4.cell? ⟨w2.heap.size, 0, none⟩ = some (.int .i64 2) := blk_cell (j := 0) HBW.out
  have kW1 : w4.cell? ⟨w2.heap.size, 1, none⟩ = some (.int .i64 2) := blk_cell (j := 1) HBW.out
  have kW2 : w4.cell? ⟨w2.heap.size, 2, none⟩ = some (.int .i64 1) := blk_cell (j := 2) HBW.out
  have kW3 : w4.cell? ⟨w2.heap.size, 3, none⟩ = some (.int .i64 3) := blk_cell (j := 3) HBW.out
  have kW4 : w4.cell? ⟨w2.heap.size, 4, none⟩ = some (.string ⟨#[]⟩) := blk_cell (j := 4) HBW.out
  have kW5 : w4.cell? ⟨w2.heap.size, 5, none⟩ = some (.int .i64 0) := blk_cell (j := 5) HBW.out
  have kW6 : w4.cell? ⟨w2.heap.size, 6, none⟩ = some (.bool false) := blk_cell (j := 6) HBW.out
  have kW7 : w4.cell? ⟨w2.heap.size, 7, none⟩ = some (.string ⟨#[]⟩) := blk_cell (j := 7) HBW.out
  have kW8 : w4.cell? ⟨w2.heap.size, 8, none⟩ = some (.slice none 0 0) := blk_cell (j := 8) HBW.out
  have kW9 : w4.cell? ⟨w2.heap.size, 9, none⟩ = some (.slice none 0 0) := blk_cell (j := 9) HBW.out
  have kW10 : w4.cell? ⟨w2.heap.size, 10, none⟩ = some (.bool false) := blk_cell (j := 10) HBW.out
  have ltW := blk_lt HBW.out
  have kX0 : w4.cell? ⟨w3.heap.size, 0, none⟩ = some (.int .i64 2) := blk_cell (j := 0) HBX.out
  have kX1 : w4.cell? ⟨w3.heap.size, 1, none⟩ = some (.int .i64 2) := blk_cell (j := 1) HBX.out
  have kX2 : w4.cell? ⟨w3.heap.size, 2, none⟩ = some (.int .i64 18) := blk_cell (j := 2) HBX.out
  have kX3 : w4.cell? ⟨w3.heap.size, 3, none⟩ = some (.int .i64 8) := blk_cell (j := 3) HBX.out
  have kX4 : w4.cell? ⟨w3.heap.size, 4, none⟩ = some (.string ⟨#[]⟩) := blk_cell (j := 4) HBX.out
  have kX5 : w4.cell? ⟨w3.heap.size, 5, none⟩ = some (.int .i64 0) := blk_cell (j := 5) HBX.out
  have kX6 : w4.cell? ⟨w3.heap.size, 6, none⟩ = some (.bool false) := blk_cell (j := 6) HBX.out
  have kX7 : w4.cell? ⟨w3.heap.size, 7, none⟩ = some (.string ⟨#[]⟩) := blk_cell (j := 7) HBX.out
  have kX8 : w4.cell? ⟨w3.heap.size, 8, none⟩ = some (.slice none 0 0) := blk_cell (j := 8) HBX.out
  have kX9 : w4.cell? ⟨w3.heap.size, 9, none⟩ = some (.slice none 0 0) := blk_cell (j := 9) HBX.out
  have kX10 : w4.cell? ⟨w3.heap.size, 10, none⟩ = some (.bool false) := blk_cell (j := 10) HBX.out
  have ltX := blk_lt HBX.out
  go_wp2_with (go_at_call 11; refine stopc ?_)
  refine Stop.go ?_
  refine (smZ_call _ _ (rd_litF smZ _ rfl (by simp) (by decide) id) (HM.out.step ((HS4.out.alloc _).alloc _))).mono ?_
  rintro e w5 ⟨he, hs5⟩
  subst he
  have HS5 := Lib.hid (((HS4.out.alloc _).alloc _).trans hs5)
  replace HBV := Lib.hid (hs5.blk ((((Stp.refl (fun _ => False) _).alloc _).alloc _).blk HBV.out id) id)
  replace HBW := Lib.hid (hs5.blk ((((Stp.refl (fun _ => False) _).alloc _).alloc _).blk HBW.out id) id)
  replace HBX := Lib.hid (hs5.blk ((((Stp.refl (fun _ => False) _).alloc _).alloc _).blk HBX.out id) id)
  have HBY := Lib.hid (show w5.heap[w4.heap.size]? = some (.cells #[.int .i64 0, .int .i64 2, .int .i64 22, .int .i64 0, .string ⟨#[]⟩, .int .i64 0, .bool false, .string ⟨#[]⟩, .slice none 0 0, .slice none 0 0, .bool false] 31 (0, 0)) from hs5.blk (((Stp.refl (fun _ => False) _).alloc _).blk (heap_alloc_new w4 _) id) id)
  clear hs5 kV0 kV1 kV2 kV3 kV4 kV5 kV6 kV7 kV8 kV9 kV10 ltV kW0 kW1 kW2 kW3 kW4 kW5 kW6 kW7 kW8 kW9 kW10 ltW kX0 kX1 kX2 kX3 kX4 kX5 kX6 kX7 kX8 kX9 kX10 ltX
  have kV0 : w5.cell? ⟨w1.heap.size, 0, none⟩ = some (.int .i64 1) := blk_cell (j := 0) HBV.out
  have kV1 : w5.cell? ⟨w1.heap.size, 1, none⟩ = some (.int .i64 2) := blk_cell (j := 1) HBV.out
  have kV2 : w5.cell? ⟨w1.heap.size, 2, none⟩ = some (.int .i64 32) := blk_cell (j := 2) HBV.out
  have kV3 : w5.cell? ⟨w1.heap.size, 3, none⟩ = some (.int .i64 0) := blk_cell (j := 3) HBV.out
  have kV4 : w5.cell? ⟨w1.heap.size, 4, none⟩ = some (.string ⟨#[97, 46, 98]⟩) := blk_cell (j := 4) HBV.out
  have kV5 : w5.cell? ⟨w1.heap.size, 5, none⟩ = some (.int .i64 81) := blk_cell (j := 5) HBV.out
  have kV6 : w5.cell? ⟨w1.heap.size, 6, none⟩ = some (.bool false) := blk_cell (j := 6) HBV.out
  have kV7 : w5.cell? ⟨w1.heap.size, 7, none⟩ = some (.string ⟨#[]⟩) := blk_cell (j := 7) HBV.out
  have kV8 : w5.cell? ⟨w1.heap.size, 8, none⟩ = some (.slice none 0 0) := blk_cell (j := 8) HBV.out
  have kV9 : w5.cell? ⟨w1.heap.size, 9, none⟩ = some (.slice none 0 0) := blk_cell (j := 9) HBV.out
  have kV10 : w5.cell? ⟨w1.heap.size, 10, none⟩ = some (.bool false) := blk_cell (j := 10) HBV.out
  have ltV := blk_lt HBV.out
  have kW0 : w5.cell? ⟨w2.heap.size, 0, none⟩ = some (.int .i64 2) := blk_cell (j := 0) HBW.out
  have kW1 : w5.cell? ⟨w2.heap.size, 1, none⟩ = some (.int .i64 2) := blk_cell (j := 1) HBW.out
  have kW2 : w5.cell? ⟨w2.heap.size, 2, none⟩ = some (.int .i64 1) := blk_cell (j := 2) HBW.out
  have kW3 : w5.cell? ⟨w2.heap.size, 3, none⟩ = some (.int .i64 3) := blk_cell (j := 3) HBW.out
  have kW4 : w5.cell? ⟨w2.heap.size, 4, none⟩ = some (.string ⟨#[]⟩) := blk_cell (j := 4) HBW.out
  have kW5 : w5.cell? ⟨w2.heap.size, 5, none⟩ = some (.int .i64 0) := blk_cell (j := 5) HBW.out
  have kW6 : w5.cell? ⟨w2.heap.size, 6, none⟩ = some (.bool false) := blk_cell (j := 6) HBW.out
  have kW7 : w5.cell? ⟨w2.heap.size, 7, none⟩ = some (.string ⟨#[]⟩) := blk_cell (j := 7) HBW.out
  have kW8 : w5.cell? ⟨w2.heap.size, 8, none⟩ = some (.slice none 0 0) := blk_cell (j := 8) HBW.out
  have kW9 : w5.cell? ⟨w2.heap.size, 9, none⟩ = some (.slice none 0 0) := blk_cell (j := 9) HBW.out
  have kW10 : w5.cell? ⟨w2.heap.size, 10, none⟩ = some (.bool false) := blk_cell (j := 10) HBW.out
  have ltW := blk_lt HBW.out
  have kX0 : w5.cell? ⟨w3.heap.size, 0, none⟩ = some (.int .i64 2) := blk_cell (j := 0) HBX.out
  have kX1 : w5.cell? ⟨w3.heap.size, 1, none⟩ = some (.int .i64 2) := blk_cell (j := 1) HBX.out
  have kX2 : w5.cell? ⟨w3.heap.size, 2, none⟩ = some (.int .i64 18) := blk_cell (j := 2) HBX.out
  have kX3 : w5.cell? ⟨w3.heap.size, 3, none⟩ = some (.int .i64 8) := blk_cell (j := 3) HBX.out
  have kX4 : w5.cell? ⟨w3.heap.size, 4, none⟩ = some (.string ⟨#[]⟩) := blk_cell (j := 4) HBX.out
  have kX5 : w5.cell? ⟨w3.heap.size, 5, none⟩ = some (.int .i64 0) := blk_cell (j := 5) HBX.out
  have kX6 : w5.cell? ⟨w3.heap.size, 6, none⟩ = some (.bool false) := blk_cell (j := 6) HBX.out
  have kX7 : w5.cell? ⟨w3.heap.size, 7, none⟩ = some (.string ⟨#[]⟩) := blk_cell (j := 7) HBX.out
  have kX8 : w5.cell? ⟨w3.heap.size, 8, none⟩ = some (.slice none 0 0) := blk_cell (j := 8) HBX.out
  have kX9 : w5.cell? ⟨w3.heap.size, 9, none⟩ = some (.slice none 0 0) := blk_cell (j := 9) HBX.out
  have kX10 : w5.cell? ⟨w3.heap.size, 10, none⟩ = some (.bool false) := blk_cell (j := 10) HBX.out
  have ltX := blk_lt HBX.out
  have kY0 : w5.cell? ⟨w4.heap.size, 0, none⟩ = some (.int .i64 0) := blk_cell (j := 0) HBY.out
  have kY1 : w5.cell? ⟨w4.heap.size, 1, none⟩ = some (.int .i64 2) := blk_cell (j := 1) HBY.out
  have kY2 : w5.cell? ⟨w4.heap.size, 2, none⟩ = some (.int .i64 22) := blk_cell (j := 2) HBY.out
  have kY3 : w5.cell? ⟨w4.heap.size, 3, none⟩ = some (.int .i64 0) := blk_cell (j := 3) HBY.out
  have kY4 : w5.cell? ⟨w4.heap.size, 4, none⟩ = some (.string ⟨#[]⟩) := blk_cell (j := 4) HBY.out
  have kY5 : w5.cell? ⟨w4.heap.size, 5, none⟩ = some (.int .i64 0) := blk_cell (j := 5) HBY.out
  have kY6 : w5.cell? ⟨w4.heap.size, 6, none⟩ = some (.bool false) := blk_cell (j := 6) HBY.out
  have kY7 : w5.cell? ⟨w4.heap.size, 7, none⟩ = some (.string ⟨#[]⟩) := blk_cell (j := 7) HBY.out
  have kY8 : w5.cell? ⟨w4.heap.size, 8, none⟩ = some (.slice none 0 0) := blk_cell (j := 8) HBY.out
  have kY9 : w5.cell? ⟨w4.heap.size, 9, none⟩ = some (.slice none 0 0) := blk_cell (j := 9) HBY.out
  have kY10 : w5.cell? ⟨w4.heap.size, 10, none⟩ = some (.bool false) := blk_cell (j := 10) HBY.out
  have ltY := blk_lt HBY.out
  go_wp2_with (go_at_call 13; refine stopc ?_)
  refine Stop.go ?_
  refine (pnew_any _).mono ?_
  rintro e w6 ⟨g, rfl, hgw, hp, hs6⟩
  have HS6 := Lib.hid ((HS5.out.alloc _).trans hs6)
  replace HBV := Lib.hid (hs6.blk (((Stp.refl (fun _ => False) _).alloc _).blk HBV.out id) id)
  replace HBW := Lib.hid (hs6.blk (((Stp.refl (fun _ => False) _).alloc _).blk HBW.out id) id)
  replace HBX := Lib.hid (hs6.blk (((Stp.refl (fun _ => False) _).alloc _).blk HBX.out id) id)
  replace HBY := Lib.hid (hs6.blk (((Stp.refl (fun _ => False) _).alloc _).blk HBY.out id) id)
  have HBZ := Lib.hid (show w6.heap[w5.heap.size]? = some (.cells #[.int .i64 2, .int .i64 2, .int .i64 7, .int .i64 3, .string ⟨#[]⟩, .int .i64 0, .bool false, .string ⟨#[]⟩, .slice none 0 0, .slice none 0 0, .bool false] 31 (0, 0)) from hs6.blk (heap_alloc_new w5 _) id)
  clear hs6 kV0 kV1 kV2 kV3 kV4 kV5 kV6 kV7 kV8 kV9 kV10 ltV kW0 kW1 kW2 kW3 kW4 kW5 kW6 kW7 kW8 kW9 kW10 ltW kX0 kX1 kX2 kX3 kX4 kX5 kX6 kX7 kX8 kX9 kX10 ltX kY0 kY1 kY2 kY3 kY4 kY5 kY6 kY7 kY8 kY9 kY10 ltY
  have kV0 : w6.cell? ⟨w1.heap.size, 0, none⟩ = some (.int .i64 1) := blk_cell (j := 0) HBV.out
  have kV1 : w6.cell? ⟨w1.heap.size, 1, none⟩ = some (.int .i64 2) := blk_cell (j := 1) HBV.out
  have kV2 : w6.cell? ⟨w1.heap.size, 2, none⟩ = some (.int .i64 32) := blk_cell (j := 2) HBV.out
  have kV3 : w6.cell? ⟨w1.heap.size, 3, none⟩ = some (.int .i64 0) := blk_cell (j := 3) HBV.out
  have kV4 : w6.cell? ⟨w1.heap.size, 4, none⟩ = some (.string ⟨#[97, 46, 98]⟩) := blk_cell (j := 4) HBV.out
  have kV5 : w6.cell? ⟨w1.heap.size, 5, none⟩ = some (.int .i64 81) := blk_cell (j := 5) HBV.out
  have kV6 : w6.cell? ⟨w1.heap.size, 6, none⟩ = some (.bool false) := blk_cell (j := 6) HBV.out
  have kV7 : w6.cell? ⟨w1.heap.size, 7, none⟩ = some (.string ⟨#[]⟩) := blk_cell (j := 7) HBV.out
  have kV8 : w6.cell? ⟨w1.heap.size, 8, none⟩ = some (.slice none 0 0) := blk_cell (j := 8) HBV.out
  have kV9 : w6.cell? ⟨w1.heap.size, 9, none⟩ = some (.slice none 0 0) := blk_cell (j := 9) HBV.out
  have kV10 : w6.cell? ⟨w1.heap.size, 10, none⟩ = some (.bool false) := blk_cell (j := 10) HBV.out
  have ltV := blk_lt HBV.out
  have kW0 : w6.cell? ⟨w2.heap.size, 0, none⟩ = some (.int .i64 2) := blk_cell (j := 0) HBW.out
  have kW1 : w6.cell? ⟨w2.heap.size, 1, none⟩ = some (.int .i64 2) := blk_cell (j := 1) HBW.out
  have kW2 : w6.cell? ⟨w2.heap.size, 2, none⟩ = some (.int .i64 1) := blk_cell (j := 2) HBW.out
  have kW3 : w6.cell? ⟨w2.heap.size, 3, none⟩ = some (.int .i64 3) := blk_cell (j := 3) HBW.out
  have kW4 : w6.cell? ⟨w2.heap.size, 4, none⟩ = some (.string ⟨#[]⟩) := blk_cell (j := 4) HBW.out
  have kW5 : w6.cell? ⟨w2.heap.size, 5, none⟩ = some (.int .i64 0) := blk_cell (j := 5) HBW.out
  have kW6 : w6.cell? ⟨w2.heap.size, 6, none⟩ = some (.bool false) := blk_cell (j := 6) HBW.out
  have kW7 : w6.cell? ⟨w2.heap.size, 7, none⟩ = some (.string ⟨#[]⟩) := blk_cell (j := 7) HBW.out
  have kW8 : w6.cell? ⟨w2.heap.size, 8, none⟩ = some (.slice none 0 0) := blk_cell (j := 8) HBW.out
  have kW9 : w6.cell? ⟨w2.heap.size, 9, none⟩ = some (.slice none 0 0) := blk_cell (j := 9) HBW.out
  have kW10 : w6.cell? ⟨w2.heap.size, 10, none⟩ = some (.bool false) := blk_cell (j := 10) HBW.out
  have ltW := blk_lt HBW.out
  have kX0 : w6.cell? ⟨w3.heap.size, 0, none⟩ = some (.int .i64 2) := blk_cell (j := 0) HBX.out
  have kX1 : w6.cell? ⟨w3.heap.size, 1, none⟩ = some (.int .i64 2) := blk_cell (j := 1) HBX.out
  have kX2 : w6.cell? ⟨w3.heap.size, 2, none⟩ = some (.int .i64 18) := blk_cell (j := 2) HBX.out
  have kX3 : w6.cell? ⟨w3.heap.size, 3, none⟩ = some (.int .i64 8) := blk_cell (j := 3) HBX.out
  have kX4 : w6.cell? ⟨w3.heap.size, 4, none⟩ = some (.string ⟨#[]⟩) := blk_cell (j := 4) HBX.out
  have kX5 : w6.cell? ⟨w3.heap.size, 5, none⟩ = some (.int .i64 0) := blk_cell (j := 5) HBX.out
  have kX6 : w6.cell? ⟨w3.heap.size, 6, none⟩ = some (.bool false) := blk_cell (j := 6) HBX.out
  have kX7 : w6.cell? ⟨w3.heap.size, 7, none⟩ = some (.string ⟨#[]⟩) := blk_cell (j := 7) HBX.out
  have kX8 : w6.cell? ⟨w3.heap.size, 8, none⟩ = some (.slice none 0 0) := blk_cell (j := 8) HBX.out
  have kX9 : w6.cell? ⟨w3.heap.size, 9, none⟩ = some (.slice none 0 0) := blk_cell (j := 9) HBX.out
  have kX10 : w6.cell? ⟨w3.heap.size, 10, none⟩ = some (.bool false) := blk_cell (j := 10) HBX.out
  have ltX := blk_lt HBX.out
  have kY0 : w6.cell? ⟨w4.heap.size, 0, none⟩ = some (.int .i64 0) := blk_cell (j := 0) HBY.out
  have kY1 : w6.cell? ⟨w4.heap.size, 1, none⟩ = some (.int .i64 2) := blk_cell (j := 1) HBY.out
  have kY2 : w6.cell? ⟨w4.heap.size, 2, none⟩ = some (.int .i64 22) := blk_cell (j := 2) HBY.out
  have kY3 : w6.cell? ⟨w4.heap.size, 3, none⟩ = some (.int .i64 0) := blk_cell (j := 3) HBY.out
  have kY4 : w6.cell? ⟨w4.heap.size, 4, none⟩ = some (.string ⟨#[]⟩) := blk_cell (j := 4) HBY.out
  have kY5 : w6.cell? ⟨w4.heap.size, 5, none⟩ = some (.int .i64 0) := blk_cell (j := 5) HBY.out
  have kY6 : w6.cell? ⟨w4.heap.size, 6, none⟩ = some (.bool false) := blk_cell (j := 6) HBY.out
  have kY7 : w6.cell? ⟨w4.heap.size, 7, none⟩ = some (.string ⟨#[]⟩) := blk_cell (j := 7) HBY.out
  have kY8 : w6.cell? ⟨w4.heap.size, 8, none⟩ = some (.slice none 0 0) := blk_cell (j := 8) HBY.out
  have kY9 : w6.cell? ⟨w4.heap.size, 9, none⟩ = some (.slice none 0 0) := blk_cell (j := 9) HBY.out
  have kY10 : w6.cell? ⟨w4.heap.size, 10, none⟩ = some (.bool false) := blk_cell (j := 10) HBY.out
  have ltY := blk_lt HBY.out
  have kZ0 : w6.cell? ⟨w5.heap.size, 0, none⟩ = some (.int .i64 2) := blk_cell (j := 0) HBZ.out
  have kZ1 : w6.cell? ⟨w5.heap.size, 1, none⟩ = some (.int .i64 2) := blk_cell (j := 1) HBZ.out
  have kZ2 : w6.cell? ⟨w5.heap.size, 2, none⟩ = some (.int .i64 7) := blk_cell (j := 2) HBZ.out
  have kZ3 : w6.cell? ⟨w5.heap.size, 3, none⟩ = some (.int .i64 3) := blk_cell (j := 3) HBZ.out
  have kZ4 : w6.cell? ⟨w5.heap.size, 4, none⟩ = some (.string ⟨#[]⟩) := blk_cell (j := 4) HBZ.out
  have kZ5 : w6.cell? ⟨w5.heap.size, 5, none⟩ = some (.int .i64 0) := blk_cell (j := 5) HBZ.out
  have kZ6 : w6.cell? ⟨w5.heap.size, 6, none⟩ = some (.bool false) := blk_cell (j := 6) HBZ.out
  have kZ7 : w6.cell? ⟨w5.heap.size, 7, none⟩ = some (.string ⟨#[]⟩) := blk_cell (j := 7) HBZ.out
  have kZ8 : w6.cell? ⟨w5.heap.size, 8, none⟩ = some (.slice none 0 0) := blk_cell (j := 8) HBZ.out
  have kZ9 : w6.cell? ⟨w5.heap.size, 9, none⟩ = some (.slice none 0 0) := blk_cell (j := 9) HBZ.out
  have kZ10 : w6.cell? ⟨w5.heap.size, 10, none⟩ = some (.bool false) := blk_cell (j := 10) HBZ.out
  have ltZ := blk_lt HBZ.out
  have HP := Lib.hid (show PkB _ g .new .open_ 0 from ⟨_, hp⟩)
  have HGW := Lib.hid (show W1.heap.size ≤ g from Nat.le_trans HS5.out.size (by simp at hgw; omega))
  have ltg : g < w6.heap.size := by
    obtain ⟨lv, h⟩ := HP.out
    exact h.lt
  clear hgw hp
  go_wp2_with (go_at_call 14; refine stopc ?_)
  refine Stop.go ?_
  refine (smT1_call g _ HP.out ⟨W1, HM.out, HGW.out, HS6.out⟩).mono ?_
  rintro e w7 ⟨rfl, hp, hs7⟩
  have HS7 := Lib.hid (HS6.out.then_ hs7 (fun j hj h => by have := h.1; have := HGW.out; omega))
  replace HBV := Lib.hid (hs7.blk HBV.out (fun h => h.2 ⟨_, _, HBV.out⟩))
  replace HBW := Lib.hid (hs7.blk HBW.out (fun h => h.2 ⟨_, _, HBW.out⟩))
  replace HBX := Lib.hid (hs7.blk HBX.out (fun h => h.2 ⟨_, _, HBX.out⟩))
  replace HBY := Lib.hid (hs7.blk HBY.out (fun h => h.2 ⟨_, _, HBY.out⟩))
  replace HBZ := Lib.hid (hs7.blk HBZ.out (fun h => h.2 ⟨_, _, HBZ.out⟩))
  clear hs7 kV0 kV1 kV2 kV3 kV4 kV5 kV6 kV7 kV8 kV9 kV10 ltV kW0 kW1 kW2 kW3 kW4 kW5 kW6 kW7 kW8 kW9 kW10 ltW kX0 kX1 kX2 kX3 kX4 kX5 kX6 kX7 kX8 kX9 kX10 ltX kY0 kY1 kY2 kY3 kY4 kY5 kY6 kY7 kY8 kY9 kY10 ltY kZ0 kZ1 kZ2 kZ3 kZ4 kZ5 kZ6 kZ7 kZ8 kZ9 kZ10 ltZ
  have kV0 : w7.cell? ⟨w1.heap.size, 0, none⟩ = some (.int .i64 1) := blk_cell (j := 0) HBV.out
  have kV1 : w7.cell? ⟨w1.heap.size, 1, none⟩ = some (.int .i64 2) := blk_cell (j := 1) HBV.out
  have kV2 : w7.cell? ⟨w1.heap.size, 2, none⟩ = some (.int .i64 32) := blk_cell (j := 2) HBV.out
  have kV3 : w7.cell? ⟨w1.heap.size, 3, none⟩ = some (.int .i64 0) := blk_cell (j := 3) HBV.out
  have kV4 : w7.cell? ⟨w1.heap.size, 4, none⟩ = some (.string ⟨#[97, 46, 98]⟩) := blk_cell (j := 4) HBV.out
  have kV5 : w7.cell? ⟨w1.heap.size, 5, none⟩ = some (.int .i64 81) := blk_cell (j := 5) HBV.out
  have kV6 : w7.cell? ⟨w1.heap.size, 6, none⟩ = some (.bool false) := blk_cell (j := 6) HBV.out
  have kV7 : w7.cell? ⟨w1.heap.size, 7, none⟩ = some (.string ⟨#[]⟩) := blk_cell (j := 7) HBV.out
  have kV8 : w7.cell? ⟨w1.heap.size, 8, none⟩ = some (.slice none 0 0) := blk_cell (j := 8) HBV.out
  have kV9 : w7.cell? ⟨w1.heap.size, 9, none⟩ = some (.slice none 0 0) := blk_cell (j := 9) HBV.out
  have kV10 : w7.cell? ⟨w1.heap.size, 10, none⟩ = some (.bool false) := blk_cell (j := 10) HBV.out
  have ltV := blk_lt HBV.out
  have kW0 : w7.cell? ⟨w2.heap.size, 0, none⟩ = some (.int .i64 2) := blk_cell (j := 0) HBW.out
  have kW1 : w7.cell? ⟨w2.heap.size, 1, none⟩ = some (.int .i64 2) := blk_cell (j := 1) HBW.out
  have kW2 : w7.cell? ⟨w2.heap.size, 2, none⟩ = some (.int .i64 1) := blk_cell (j := 2) HBW.out
  have kW3 : w7.cell? ⟨w2.heap.size, 3, none⟩ = some (.int .i64 3) := blk_cell (j := 3) HBW.out
  have kW4 : w7.cell? ⟨w2.heap.size, 4, none⟩ = some (.string ⟨#[]⟩) := blk_cell (j := 4) HBW.out
  have kW5 : w7.cell? ⟨w2.heap.size, 5, none⟩ = some (.int .i64 0) := blk_cell (j := 5) HBW.out
  have kW6 : w7.cell? ⟨w2.heap.size, 6, none⟩ = some (.bool false) := blk_cell (j := 6) HBW.out
  have kW7 : w7.cell? ⟨w2.heap.size, 7, none⟩ = some (.string ⟨#[]⟩) := blk_cell (j := 7) HBW.out
  have kW8 : w7.cell? ⟨w2.heap.size, 8, none⟩ = some (.slice none 0 0) := blk_cell (j := 8) HBW.out
  have kW9 : w7.cell? ⟨w2.heap.size, 9, none⟩ = some (.slice none 0 0) := blk_cell (j := 9) HBW.out
  have kW10 : w7.cell? ⟨w2.heap.size, 10, none⟩ = some (.bool false) := blk_cell (j := 10) HBW.out
  have ltW := blk_lt HBW.out
  have kX0 : w7.cell? ⟨w3.heap.size, 0, none⟩ = some (.int .i64 2) := blk_cell (j := 0) HBX.out
  have kX1 : w7.cell? ⟨w3.heap.size, 1, none⟩ = some (.int .i64 2) := blk_cell (j := 1) HBX.out
  have kX2 : w7.cell? ⟨w3.heap.size, 2, none⟩ = some (.int .i64 18) := blk_cell (j := 2) HBX.out
  have kX3 : w7.cell? ⟨w3.heap.size, 3, none⟩ = some (.int .i64 8) := blk_cell (j := 3) HBX.out
  have kX4 : w7.cell? ⟨w3.heap.size, 4, none⟩ = some (.string ⟨#[]⟩) := blk_cell (j := 4) HBX.out
  have kX5 : w7.cell? ⟨w3.heap.size, 5, none⟩ = some (.int .i64 0) := blk_cell (j := 5) HBX.out
  have kX6 : w7.cell? ⟨w3.heap.size, 6, none⟩ = some (.bool false) := blk_cell (j := 6) HBX.out
  have kX7 : w7.cell? ⟨w3.heap.size, 7, none⟩ = some (.string ⟨#[]⟩) := blk_cell (j := 7) HBX.out
  have kX8 : w7.cell? ⟨w3.heap.size, 8, none⟩ = some (.slice none 0 0) := blk_cell (j := 8) HBX.out
  have kX9 : w7.cell? ⟨w3.heap.size, 9, none⟩ = some (.slice none 0 0) := blk_cell (j := 9) HBX.out
  have kX10 : w7.cell? ⟨w3.heap.size, 10, none⟩ = some (.bool false) := blk_cell (j := 10) HBX.out
  have ltX := blk_lt HBX.out
  have kY0 : w7.cell? ⟨w4.heap.size, 0, none⟩ = some (.int .i64 0) := blk_cell (j := 0) HBY.out
  have kY1 : w7.cell? ⟨w4.heap.size, 1, none⟩ = some (.int .i64 2) := blk_cell (j := 1) HBY.out
  have kY2 : w7.cell? ⟨w4.heap.size, 2, none⟩ = some (.int .i64 22) := blk_cell (j := 2) HBY.out
  have kY3 : w7.cell? ⟨w4.heap.size, 3, none⟩ = some (.int .i64 0) := blk_cell (j := 3) HBY.out
  have kY4 : w7.cell? ⟨w4.heap.size, 4, none⟩ = some (.string ⟨#[]⟩) := blk_cell (j := 4) HBY.out
  have kY5 : w7.cell? ⟨w4.heap.size, 5, none⟩ = some (.int .i64 0) := blk_cell (j := 5) HBY.out
  have kY6 : w7.cell? ⟨w4.heap.size, 6, none⟩ = some (.bool false) := blk_cell (j := 6) HBY.out
  have kY7 : w7.cell? ⟨w4.heap.size, 7, none⟩ = some (.string ⟨#[]⟩) := blk_cell (j := 7) HBY.out
  have kY8 : w7.cell? ⟨w4.heap.size, 8, none⟩ = some (.slice none 0 0) := blk_cell (j := 8) HBY.out
  have kY9 : w7.cell? ⟨w4.heap.size, 9, none⟩ = some (.slice none 0 0) := blk_cell (j := 9) HBY.out
  have kY10 : w7.cell? ⟨w4.heap.size, 10, none⟩ = some (.bool false) := blk_cell (j := 10) HBY.out
  have ltY := blk_lt HBY.out
  have kZ0 : w7.cell? ⟨w5.heap.size, 0, none⟩ = some (.int .i64 2) := blk_cell (j := 0) HBZ.out
  have kZ1 : w7.cell? ⟨w5.heap.size, 1, none⟩ = some (.int .i64 2) := blk_cell (j := 1) HBZ.out
  have kZ2 : w7.cell? ⟨w5.heap.size, 2, none⟩ = some (.int .i64 7) := blk_cell (j := 2) HBZ.out
  have kZ3 : w7.cell? ⟨w5.heap.size, 3, none⟩ = some (.int .i64 3) := blk_cell (j := 3) HBZ.out
  have kZ4 : w7.cell? ⟨w5.heap.size, 4, none⟩ = some (.string ⟨#[]⟩) := blk_cell (j := 4) HBZ.out
  have kZ5 : w7.cell? ⟨w5.heap.size, 5, none⟩ = some (.int .i64 0) := blk_cell (j := 5) HBZ.out
  have kZ6 : w7.cell? ⟨w5.heap.size, 6, none⟩ = some (.bool false) := blk_cell (j := 6) HBZ.out
  have kZ7 : w7.cell? ⟨w5.heap.size, 7, none⟩ = some (.string ⟨#[]⟩) := blk_cell (j := 7) HBZ.out
  have kZ8 : w7.cell? ⟨w5.heap.size, 8, none⟩ = some (.slice none 0 0) := blk_cell (j := 8) HBZ.out
  have kZ9 : w7.cell? ⟨w5.heap.size, 9, none⟩ = some (.slice none 0 0) := blk_cell (j := 9) HBZ.out
  have kZ10 : w7.cell? ⟨w5.heap.size, 10, none⟩ = some (.bool false) := blk_cell (j := 10) HBZ.out
  have ltZ := blk_lt HBZ.out
  replace HP := Lib.hid hp
  clear hp
  go_wp2_with (go_at_call 14; refine stopc ?_)
  refine Stop.go ?_
  refine (smT2_call g _ HP.out ⟨W1, HM.out, HGW.out, HS7.out⟩).mono ?_
  rintro e w8 ⟨rfl, hp, hs8⟩
  have HS8 := Lib.hid (HS7.out.then_ hs8 (fun j hj h => by have := h.1; have := HGW.out; omega))
  replace HBV := Lib.hid (hs8.blk HBV.out (fun h => h.2 ⟨_, _, HBV.out⟩))
  replace HBW := Lib.hid (hs8.blk HBW.out (fun h => h.2 ⟨_, _, HBW.out⟩))
  replace HBX := Lib.hid (hs8.blk HBX.out (fun h => h.2 ⟨_, _, HBX.out⟩))
  replace HBY := Lib.hid (hs8.blk HBY.out (fun h => h.2 ⟨_, _, HBY.out⟩))
  replace HBZ := Lib.hid (hs8.blk HBZ.out (fun h => h.2 ⟨_, _, HBZ.out⟩))
  clear hs8 kV0 kV1 kV2 kV3 kV4 kV5 kV6 kV7 kV8 kV9 kV10 ltV kW0 kW1 kW2 kW3 kW4 kW5 kW6 kW7 kW8 kW9 kW10 ltW kX0 kX1 kX2 kX3 kX4 kX5 kX6 kX7 kX8 kX9 kX10 ltX kY0 kY1 kY2 kY3 kY4 kY5 kY6 kY7 kY8 kY9 kY10 ltY kZ0 kZ1 kZ2 kZ3 kZ4 kZ5 kZ6 kZ7 kZ8 kZ9 kZ10 ltZ
  have kV0 : w8.cell? ⟨w1.heap.size, 0, none⟩ = some (.int .i64 1) := blk_cell (j := 0) HBV.out
  have kV1 : w8.cell? ⟨w1.heap.size, 1, none⟩ = some (.int .i64 2) := blk_cell (j := 1) HBV.out
  have kV2 : w8.cell? ⟨w1.heap.size, 2, none⟩ = some (.int .i64 32) := blk_cell (j := 2) HBV.out
  have kV3 : w8.cell? ⟨w1.heap.size, 3, none⟩ = some (.int .i64 0) := blk_cell (j := 3) HBV.out
  have kV4 : w8.cell? ⟨w1.heap.size, 4, none⟩ = some (.string ⟨#[97, 46, 98]⟩) := blk_cell (j := 4) HBV.out
  have kV5 : w8.cell? ⟨w1.heap.size, 5, none⟩ = some (.int .i64 81) := blk_cell (j := 5) HBV.out
  have kV6 : w8.cell? ⟨w1.heap.size, 6, none⟩ = some (.bool false) := blk_cell (j := 6) HBV.out
  have kV7 : w8.cell? ⟨w1.heap.size, 7, none⟩ = some (.string ⟨#[]⟩) := blk_cell (j := 7) HBV.out
  have kV8 : w8.cell? ⟨w1.heap.size, 8, none⟩ = some (.slice none 0 0) := blk_cell (j := 8) HBV.out
  have kV9 : w8.cell? ⟨w1.heap.size, 9, none⟩ = some (.slice none 0 0) := blk_cell (j := 9) HBV.out
  have kV10 : w8.cell? ⟨w1.heap.size, 10, none⟩ = some (.bool false) := blk_cell (j := 10) HBV.out
  have ltV := blk_lt HBV.out
  have kW0 : w8.cell? ⟨w2.heap.size, 0, none⟩ = some (.int .i64 2) := blk_cell (j := 0) HBW.out
  have kW1 : w8.cell? ⟨w2.heap.size, 1, none⟩ = some (.int .i64 2) := blk_cell (j := 1) HBW.out
  have kW2 : w8.cell? ⟨w2.heap.size, 2, none⟩ = some (.int .i64 1) := blk_cell (j := 2) HBW.out
  have kW3 : w8.cell? ⟨w2.heap.size, 3, none⟩ = some (.int .i64 3) := blk_cell (j := 3) HBW.out
  have kW4 : w8.cell? ⟨w2.heap.size, 4, none⟩ = some (.string ⟨#[]⟩) := blk_cell (j := 4) HBW.out
  have kW5 : w8.cell? ⟨w2.heap.size, 5, none⟩ = some (.int .i64 0) := blk_cell (j := 5) HBW.out
  have kW6 : w8.cell? ⟨w2.heap.size, 6, none⟩ = some (.bool false) := blk_cell (j := 6) HBW.out
  have kW7 : w8.cell? ⟨w2.heap.size, 7, none⟩ = some (.string ⟨#[]⟩) := blk_cell (j := 7) HBW.out
  have kW8 : w8.cell? ⟨w2.heap.size, 8, none⟩ = some (.slice none 0 0) := blk_cell (j := 8) HBW.out
  have kW9 : w8.cell? ⟨w2.heap.size, 9, none⟩ = some (.slice none 0 0) := blk_cell (j := 9) HBW.out
  have kW10 : w8.cell? ⟨w2.heap.size, 10, none⟩ = some (.bool false) := blk_cell (j := 10) HBW.out
  have ltW := blk_lt HBW.out
  have kX0 : w8.cell? ⟨w3.heap.size, 0, none⟩ = some (.int .i64 2) := blk_cell (j := 0) HBX.out
  have kX1 : w8.cell? ⟨w3.heap.size, 1, none⟩ = some (.int .i64 2) := blk_cell (j := 1) HBX.out
  have kX2 : w8.cell? ⟨w3.heap.size, 2, none⟩ = some (.int .i64 18) := blk_cell (j := 2) HBX.out
  have kX3 : w8.cell? ⟨w3.heap.size, 3, none⟩ = some (.int .i64 8) := blk_cell (j := 3) HBX.out
  have kX4 : w8.cell? ⟨w3.heap.size, 4, none⟩ = some (.string ⟨#[]⟩) := blk_cell (j := 4) HBX.out
  have kX5 : w8.cell? ⟨w3.heap.size, 5, none⟩ = some (.int .i64 0) := blk_cell (j := 5) HBX.out
  have kX6 : w8.cell? ⟨w3.heap.size, 6, none⟩ = some (.bool false) := blk_cell (j := 6) HBX.out
  have kX7 : w8.cell? ⟨w3.heap.size, 7, none⟩ = some (.string ⟨#[]⟩) := blk_cell (j := 7) HBX.out
  have kX8 : w8.cell? ⟨w3.heap.size, 8, none⟩ = some (.slice none 0 0) := blk_cell (j := 8) HBX.out
  have kX9 : w8.cell? ⟨w3.heap.size, 9, none⟩ = some (.slice none 0 0) := blk_cell (j := 9) HBX.out
  have kX10 : w8.cell? ⟨w3.heap.size, 10, none⟩ = some (.bool false) := blk_cell (j := 10) HBX.out
  have ltX := blk_lt HBX.out
  have kY0 : w8.cell? ⟨w4.heap.size, 0, none⟩ = some (.int .i64 0) := blk_cell (j := 0) HBY.out
  have kY1 : w8.cell? ⟨w4.heap.size, 1, none⟩ = some (.int .i64 2) := blk_cell (j := 1) HBY.out
  have kY2 : w8.cell? ⟨w4.heap.size, 2, none⟩ = some (.int .i64 22) := blk_cell (j := 2) HBY.out
  have kY3 : w8.cell? ⟨w4.heap.size, 3, none⟩ = some (.int .i64 0) := blk_cell (j := 3) HBY.out
  have kY4 : w8.cell? ⟨w4.heap.size, 4, none⟩ = some (.string ⟨#[]⟩) := blk_cell (j := 4) HBY.out
  have kY5 : w8.cell? ⟨w4.heap.size, 5, none⟩ = some (.int .i64 0) := blk_cell (j := 5) HBY.out
  have kY6 : w8.cell? ⟨w4.heap.size, 6, none⟩ = some (.bool false) := blk_cell (j := 6) HBY.out
  have kY7 : w8.cell? ⟨w4.heap.size, 7, none⟩ = some (.string ⟨#[]⟩) := blk_cell (j := 7) HBY.out
  have kY8 : w8.cell? ⟨w4.heap.size, 8, none⟩ = some (.slice none 0 0) := blk_cell (j := 8) HBY.out
  have kY9 : w8.cell? ⟨w4.heap.size, 9, none⟩ = some (.slice none 0 0) := blk_cell (j := 9) HBY.out
  have kY10 : w8.cell? ⟨w4.heap.size, 10, none⟩ = some (.bool false) := blk_cell (j := 10) HBY.out
  have ltY := blk_lt HBY.out
  have kZ0 : w8.cell? ⟨w5.heap.size, 0, none⟩ = some (.int .i64 2) := blk_cell (j := 0) HBZ.out
  have kZ1 : w8.cell? ⟨w5.heap.size, 1, none⟩ = some (.int .i64 2) := blk_cell (j := 1) HBZ.out
  have kZ2 : w8.cell? ⟨w5.heap.size, 2, none⟩ = some (.int .i64 7) := blk_cell (j := 2) HBZ.out
  have kZ3 : w8.cell? ⟨w5.heap.size, 3, none⟩ = some (.int .i64 3) := blk_cell (j := 3) HBZ.out
  have kZ4 : w8.cell? ⟨w5.heap.size, 4, none⟩ = some (.string ⟨#[]⟩) := blk_cell (j := 4) HBZ.out
  have kZ5 : w8.cell? ⟨w5.heap.size, 5, none⟩ = some (.int .i64 0) := blk_cell (j := 5) HBZ.out
  have kZ6 : w8.cell? ⟨w5.heap.size, 6, none⟩ = some (.bool false) := blk_cell (j := 6) HBZ.out
  have kZ7 : w8.cell? ⟨w5.heap.size, 7, none⟩ = some (.string ⟨#[]⟩) := blk_cell (j := 7) HBZ.out
  have kZ8 : w8.cell? ⟨w5.heap.size, 8, none⟩ = some (.slice none 0 0) := blk_cell (j := 8) HBZ.out
  have kZ9 : w8.cell? ⟨w5.heap.size, 9, none⟩ = some (.slice none 0 0) := blk_cell (j := 9) HBZ.out
  have kZ10 : w8.cell? ⟨w5.heap.size, 10, none⟩ = some (.bool false) := blk_cell (j := 10) HBZ.out
  have ltZ := blk_lt HBZ.out
  replace HP := Lib.hid hp
  clear hp
  go_wp2_with (go_at_call 14; refine stopc ?_)
  refine Stop.go ?_
  refine (smT3_call g _ (PkB.stp0 HP.out ((Stp.refl (fun _ => False) _).alloc _))).mono ?_
  rintro e w9 ⟨rfl, hp, hs9⟩
  have HS9 := Lib.hid ((HS8.out.alloc _).then_ hs9 (fun j hj h => by have := h.1; have := HGW.out; omega))
  replace HBV := Lib.hid (hs9.blk (((Stp.refl (fun _ => False) _).alloc _).blk HBV.out id) (fun h => h.2 ⟨_, _, (((Stp.refl (fun _ => False) _).alloc _).blk HBV.out id)⟩))
  replace HBW := Lib.hid (hs9.blk (((Stp.refl (fun _ => False) _).alloc _).blk HBW.out id) (fun h => h.2 ⟨_, _, (((Stp.refl (fun _ => False) _).alloc _).blk HBW.out id)⟩))
  replace HBX := Lib.hid (hs9.blk (((Stp.refl (fun _ => False) _).alloc _).blk HBX.out id) (fun h => h.2 ⟨_, _, (((Stp.refl (fun _ => False) _).alloc _).blk HBX.out id)⟩))
  replace HBY := Lib.hid (hs9.blk (((Stp.refl (fun _ => False) _).alloc _).blk HBY.out id) (fun h => h.2 ⟨_, _, (((Stp.refl (fun _ => False) _).alloc _).blk HBY.out id)⟩))
  replace HBZ := Lib.hid (hs9.blk (((Stp.refl (fun _ => False) _).alloc _).blk HBZ.out id) (fun h => h.2 ⟨_, _, (((Stp.refl (fun _ => False) _).alloc _).blk HBZ.out id)⟩))
  have HBA := Lib.hid (show w9.heap[w8.heap.size]? = some (.cells #[.int .i64 2, .int .i64 2, .int .i64 2, .int .i64 3, .string ⟨#[]⟩, .int .i64 0, .bool false, .string ⟨#[]⟩, .slice none 0 0, .slice none 0 0, .bool false] 31 (0, 0)) from hs9.blk (heap_alloc_new w8 _) (fun h => h.2 ⟨_, _, (heap_alloc_new w8 _)⟩))
  clear hs9 kV0 kV1 kV2 kV3 kV4 kV5 kV6 kV7 kV8 kV9 kV10 ltV kW0 kW1 kW2 kW3 kW4 kW5 kW6 kW7 kW8 kW9 kW10 ltW kX0 kX1 kX2 kX3 kX4 kX5 kX6 kX7 kX8 kX9 kX10 ltX kY0 kY1 kY2 kY3 kY4 kY5 kY6 kY7 kY8 kY9 kY10 ltY kZ0 kZ1 kZ2 kZ3 kZ4 kZ5 kZ6 kZ7 kZ8 kZ9 kZ10 ltZ
  have kV0 : w9.cell? ⟨w1.heap.size, 0, none⟩ = some (.int .i64 1) := blk_cell (j := 0) HBV.out
  have kV1 : w9.cell? ⟨w1.heap.size, 1, none⟩ = some (.int .i64 2) := blk_cell (j := 1) HBV.out
  have kV2 : w9.cell? ⟨w1.heap.size, 2, none⟩ = some (.int .i64 32) := blk_cell (j := 2) HBV.out
  have kV3 : w9.cell? ⟨w1.heap.size, 3, none⟩ = some (.int .i64 0) := blk_cell (j := 3) HBV.out
  have kV4 : w9.cell? ⟨w1.heap.size, 4, none⟩ = some (.string ⟨#[97, 46, 98]⟩) := blk_cell (j := 4) HBV.out
  have kV5 : w9.cell? ⟨w1.heap.size, 5, none⟩ = some (.int .i64 81) := blk_cell (j := 5) HBV.out
  have kV6 : w9.cell? ⟨w1.heap.size, 6, none⟩ = some (.bool false) := blk_cell (j := 6) HBV.out
  have kV7 : w9.cell? ⟨w1.heap.size, 7, none⟩ = some (.string ⟨#[]⟩) := blk_cell (j := 7) HBV.out
  have kV8 : w9.cell? ⟨w1.heap.size, 8, none⟩ = some (.slice none 0 0) := blk_cell (j := 8) HBV.out
  have kV9 : w9.cell? ⟨w1.heap.size, 9, none⟩ = some (.slice none 0 0) := blk_cell (j := 9) HBV.out
  have kV10 : w9.cell? ⟨w1.heap.size, 10, none⟩ = some (.bool false) := blk_cell (j := 10) HBV.out
  have ltV := blk_lt HBV.out
  have kW0 : w9.cell? ⟨w2.heap.size, 0, none⟩ = some (.int .i64 2) := blk_cell (j := 0) HBW.out
  have kW1 : w9.cell? ⟨w2.heap.size, 1, none⟩ = some (.int .i64 2) := blk_cell (j := 1) HBW.out
  have kW2 : w9.cell? ⟨w2.heap.size, 2, none⟩ = some (.int .i64 1) := blk_cell (j := 2) HBW.out
  have kW3 : w9.cell? ⟨w2.heap.size, 3, none⟩ = some (.int .i64 3) := blk_cell (j := 3) HBW.out
  have kW4 : w9.cell? ⟨w2.heap.size, 4, none⟩ = some (.string ⟨#[]⟩) := blk_cell (j := 4) HBW.out
  have kW5 : w9.cell? ⟨w2.heap.size, 5, none⟩ = some (.int .i64 0) := blk_cell (j := 5) HBW.out
  have kW6 : w9.cell? ⟨w2.heap.size, 6, none⟩ = some (.bool false) := blk_cell (j := 6) HBW.out
  have kW7 : w9.cell? ⟨w2.heap.size, 7, none⟩ = some (.string ⟨#[]⟩) := blk_cell (j := 7) HBW.out
  have kW8 : w9.cell? ⟨w2.heap.size, 8, none⟩ = some (.slice none 0 0) := blk_cell (j := 8) HBW.out
  have kW9 : w9.cell? ⟨w2.heap.size, 9, none⟩ = some (.slice none 0 0) := blk_cell (j := 9) HBW.out
  have kW10 : w9.cell? ⟨w2.heap.size, 10, none⟩ = some (.bool false) := blk_cell (j := 10) HBW.out
  have ltW := blk_lt HBW.out
  have kX0 : w9.cell? ⟨w3.heap.size, 0, none⟩ = some (.int .i64 2) := blk_cell (j := 0) HBX.out
  have kX1 : w9.cell? ⟨w3.heap.size, 1, none⟩ = some (.int .i64 2) := blk_cell (j := 1) HBX.out
  have kX2 : w9.cell? ⟨w3.heap.size, 2, none⟩ = some (.int .i64 18) := blk_cell (j := 2) HBX.out
  have kX3 : w9.cell? ⟨w3.heap.size, 3, none⟩ = some (.int .i64 8) := blk_cell (j := 3) HBX.out
  have kX4 : w9.cell? ⟨w3.heap.size, 4, none⟩ = some (.string ⟨#[]⟩) := blk_cell (j := 4) HBX.out
  have kX5 : w9.cell? ⟨w3.heap.size, 5, none⟩ = some (.int .i64 0) := blk_cell (j := 5) HBX.out
  have kX6 : w9.cell? ⟨w3.heap.size, 6, none⟩ = some (.bool false) := blk_cell (j := 6) HBX.out
  have kX7 : w9.cell? ⟨w3.heap.size, 7, none⟩ = some (.string ⟨#[]⟩) := blk_cell (j := 7) HBX.out
  have kX8 : w9.cell? ⟨w3.heap.size, 8, none⟩ = some (.slice none 0 0) := blk_cell (j := 8) HBX.out
  have kX9 : w9.cell? ⟨w3.heap.size, 9, none⟩ = some (.slice none 0 0) := blk_cell (j := 9) HBX.out
  have kX10 : w9.cell? ⟨w3.heap.size, 10, none⟩ = some (.bool false) := blk_cell (j := 10) HBX.out
  have ltX := blk_lt HBX.out
  have kY0 : w9.cell? ⟨w4.heap.size, 0, none⟩ = some (.int .i64 0) := blk_cell (j := 0) HBY.out
  have kY1 : w9.cell? ⟨w4.heap.size, 1, none⟩ = some (.int .i64 2) := blk_cell (j := 1) HBY.out
  have kY2 : w9.cell? ⟨w4.heap.size, 2, none⟩ = some (.int .i64 22) := blk_cell (j := 2) HBY.out
  have kY3 : w9.cell? ⟨w4.heap.size, 3, none⟩ = some (.int .i64 0) := blk_cell (j := 3) HBY.out
  have kY4 : w9.cell? ⟨w4.heap.size, 4, none⟩ = some (.string ⟨#[]⟩) := blk_cell (j := 4) HBY.out
  have kY5 : w9.cell? ⟨w4.heap.size, 5, none⟩ = some (.int .i64 0) := blk_cell (j := 5) HBY.out
  have kY6 : w9.cell? ⟨w4.heap.size, 6, none⟩ = some (.bool false) := blk_cell (j := 6) HBY.out
  have kY7 : w9.cell? ⟨w4.heap.size, 7, none⟩ = some (.string ⟨#[]⟩) := blk_cell (j := 7) HBY.out
  have kY8 : w9.cell? ⟨w4.heap.size, 8, none⟩ = some (.slice none 0 0) := blk_cell (j := 8) HBY.out
  have kY9 : w9.cell? ⟨w4.heap.size, 9, none⟩ = some (.slice none 0 0) := blk_cell (j := 9) HBY.out
  have kY10 : w9.cell? ⟨w4.heap.size, 10, none⟩ = some (.bool false) := blk_cell (j := 10) HBY.out
  have ltY := blk_lt HBY.out
  have kZ0 : w9.cell? ⟨w5.heap.size, 0, none⟩ = some (.int .i64 2) := blk_cell (j := 0) HBZ.out
  have kZ1 : w9.cell? ⟨w5.heap.size, 1, none⟩ = some (.int .i64 2) := blk_cell (j := 1) HBZ.out
  have kZ2 : w9.cell? ⟨w5.heap.size, 2, none⟩ = some (.int .i64 7) := blk_cell (j := 2) HBZ.out
  have kZ3 : w9.cell? ⟨w5.heap.size, 3, none⟩ = some (.int .i64 3) := blk_cell (j := 3) HBZ.out
  have kZ4 : w9.cell? ⟨w5.heap.size, 4, none⟩ = some (.string ⟨#[]⟩) := blk_cell (j := 4) HBZ.out
  have kZ5 : w9.cell? ⟨w5.heap.size, 5, none⟩ = some (.int .i64 0) := blk_cell (j := 5) HBZ.out
  have kZ6 : w9.cell? ⟨w5.heap.size, 6, none⟩ = some (.bool false) := blk_cell (j := 6) HBZ.out
  have kZ7 : w9.cell? ⟨w5.heap.size, 7, none⟩ = some (.string ⟨#[]⟩) := blk_cell (j := 7) HBZ.out
  have kZ8 : w9.cell? ⟨w5.heap.size, 8, none⟩ = some (.slice none 0 0) := blk_cell (j := 8) HBZ.out
  have kZ9 : w9.cell? ⟨w5.heap.size, 9, none⟩ = some (.slice none 0 0) := blk_cell (j := 9) HBZ.out
  have kZ10 : w9.cell? ⟨w5.heap.size, 10, none⟩ = some (.bool false) := blk_cell (j := 10) HBZ.out
  have ltZ := blk_lt HBZ.out
  have kA0 : w9.cell? ⟨w8.heap.size, 0, none⟩ = some (.int .i64 2) := blk_cell (j := 0) HBA.out
  have kA1 : w9.cell? ⟨w8.heap.size, 1, none⟩ = some (.int .i64 2) := blk_cell (j := 1) HBA.out
  have kA2 : w9.cell? ⟨w8.heap.size, 2, none⟩ = some (.int .i64 2) := blk_cell (j := 2) HBA.out
  have kA3 : w9.cell? ⟨w8.heap.size, 3, none⟩ = some (.int .i64 3) := blk_cell (j := 3) HBA.out
  have kA4 : w9.cell? ⟨w8.heap.size, 4, none⟩ = some (.string ⟨#[]⟩) := blk_cell (j := 4) HBA.out
  have kA5 : w9.cell? ⟨w8.heap.size, 5, none⟩ = some (.int .i64 0) := blk_cell (j := 5) HBA.out
  have kA6 : w9.cell? ⟨w8.heap.size, 6, none⟩ = some (.bool false) := blk_cell (j := 6) HBA.out
  have kA7 : w9.cell? ⟨w8.heap.size, 7, none⟩ = some (.string ⟨#[]⟩) := blk_cell (j := 7) HBA.out
  have kA8 : w9.cell? ⟨w8.heap.size, 8, none⟩ = some (.slice none 0 0) := blk_cell (j := 8) HBA.out
  have kA9 : w9.cell? ⟨w8.heap.size, 9, none⟩ = some (.slice none 0 0) := blk_cell (j := 9) HBA.out
  have kA10 : w9.cell? ⟨w8.heap.size, 10, none⟩ = some (.bool false) := blk_cell (j := 10) HBA.out
  have ltA := blk_lt HBA.out
  clear hp HP
  go_wp2_with (go_at_call 10; refine stopc ?_)
  refine Stop.go ?_
  refine (same15_eq ⟨1, 0, [97, 46, 98], 81⟩ 32 _).mono ?_
  rintro e w10 ⟨he, hs10⟩
  subst he
  have HS10 := Lib.hid ((HS9.out.alloc _).trans hs10)
  replace HBV := Lib.hid (hs10.blk (((Stp.refl (fun _ => False) _).alloc _).blk HBV.out id) id)
  replace HBW := Lib.hid (hs10.blk (((Stp.refl (fun _ => False) _).alloc _).blk HBW.out id) id)
  replace HBX := Lib.hid (hs10.blk (((Stp.refl (fun _ => False) _).alloc _).blk HBX.out id) id)
  replace HBY := Lib.hid (hs10.blk (((Stp.refl (fun _ => False) _).alloc _).blk HBY.out id) id)
  replace HBZ := Lib.hid (hs10.blk (((Stp.refl (fun _ => False) _).alloc _).blk HBZ.out id) id)
  replace HBA := Lib.hid (hs10.blk (((Stp.refl (fun _ => False) _).alloc _).blk HBA.out id) id)
  have HBB := Lib.hid (show w10.heap[w9.heap.size]? = some (.cells #[.int .i64 2, .int .i64 2, .int .i64 2, .int .i64 3, .string ⟨#[]⟩, .int .i64 0, .bool false, .string ⟨#[]⟩, .slice none 0 0, .slice none 0 0, .bool false] 31 (0, 0)) from hs10.blk (heap_alloc_new w9 _) id)
  clear hs10 kV0 kV1 kV2 kV3 kV4 kV5 kV6 kV7 kV8 kV9 kV10 ltV kW0 kW1 kW2 kW3 kW4 kW5 kW6 kW7 kW8 kW9 kW10 ltW kX0 kX1 kX2 kX3 kX4 kX5 kX6 kX7 kX8 kX9 kX10 ltX kY0 kY1 kY2 kY3 kY4 kY5 kY6 kY7 kY8 kY9 kY10 ltY kZ0 kZ1 kZ2 kZ3 kZ4 kZ5 kZ6 kZ7 kZ8 kZ9 kZ10 ltZ kA0 kA1 kA2 kA3 kA4 kA5 kA6 kA7 kA8 kA9 kA10 ltA
  have kV0 : w10.cell? ⟨w1.heap.size, 0, none⟩ = some (.int .i64 1) := blk_cell (j := 0) HBV.out
  have kV1 : w10.cell? ⟨w1.heap.size, 1, none⟩ = some (.int .i64 2) := blk_cell (j := 1) HBV.out
  have kV2 : w10.cell? ⟨w1.heap.size, 2, none⟩ = some (.int .i64 32) := blk_cell (j := 2) HBV.out
  have kV3 : w10.cell? ⟨w1.heap.size, 3, none⟩ = some (.int .i64 0) := blk_cell (j := 3) HBV.out
  have kV4 : w10.cell? ⟨w1.heap.size, 4, none⟩ = some (.string ⟨#[97, 46, 98]⟩) := blk_cell (j := 4) HBV.out
  have kV5 : w10.cell? ⟨w1.heap.size, 5, none⟩ = some (.int .i64 81) := blk_cell (j := 5) HBV.out
  have kV6 : w10.cell? ⟨w1.heap.size, 6, none⟩ = some (.bool false) := blk_cell (j := 6) HBV.out
  have kV7 : w10.cell? ⟨w1.heap.size, 7, none⟩ = some (.string ⟨#[]⟩) := blk_cell (j := 7) HBV.out
  have kV8 : w10.cell? ⟨w1.heap.size, 8, none⟩ = some (.slice none 0 0) := blk_cell (j := 8) HBV.out
  have kV9 : w10.cell? ⟨w1.heap.size, 9, none⟩ = some (.slice none 0 0) := blk_cell (j := 9) HBV.out
  have kV10 : w10.cell? ⟨w1.heap.size, 10, none⟩ = some (.bool false) := blk_cell (j := 10) HBV.out
  have ltV := blk_lt HBV.out
  have kW0 : w10.cell? ⟨w2.heap.size, 0, none⟩ = some (.int .i64 2) := blk_cell (j := 0) HBW.out
  have kW1 : w10.cell? ⟨w2.heap.size, 1, none⟩ = some (.int .i64 2) := blk_cell (j := 1) HBW.out
  have kW2 : w10.cell? ⟨w2.heap.size, 2, none⟩ = some (.int .i64 1) := blk_cell (j := 2) HBW.out
  have kW3 : w10.cell? ⟨w2.heap.size, 3, none⟩ = some (.int .i64 3) := blk_cell (j := 3) HBW.out
  have kW4 : w10.cell? ⟨w2.heap.size, 4, none⟩ = some (.string ⟨#[]⟩) := blk_cell (j := 4) HBW.out
  have kW5 : w10.cell? ⟨w2.heap.size, 5, none⟩ = some (.int .i64 0) := blk_cell (j := 5) HBW.out
  have kW6 : w10.cell? ⟨w2.heap.size, 6, none⟩ = some (.bool false) := blk_cell (j := 6) HBW.out
  have kW7 : w10.cell? ⟨w2.heap.size, 7, none⟩ = some (.string ⟨#[]⟩) := blk_cell (j := 7) HBW.out
  have kW8 : w10.cell? ⟨w2.heap.size, 8, none⟩ = some (.slice none 0 0) := blk_cell (j := 8) HBW.out
  have kW9 : w10.cell? ⟨w2.heap.size, 9, none⟩ = some (.slice none 0 0) := blk_cell (j := 9) HBW.out
  have kW10 : w10.cell? ⟨w2.heap.size, 10, none⟩ = some (.bool false) := blk_cell (j := 10) HBW.out
  have ltW := blk_lt HBW.out
  have kX0 : w10.cell? ⟨w3.heap.size, 0, none⟩ = some (.int .i64 2) := blk_cell (j := 0) HBX.out
  have kX1 : w10.cell? ⟨w3.heap.size, 1, none⟩ = some (.int .i64 2) := blk_cell (j := 1) HBX.out
  have kX2 : w10.cell? ⟨w3.heap.size, 2, none⟩ = some (.int .i64 18) := blk_cell (j := 2) HBX.out
  have kX3 : w10.cell? ⟨w3.heap.size, 3, none⟩ = some (.int .i64 8) := blk_cell (j := 3) HBX.out
  have kX4 : w10.cell? ⟨w3.heap.size, 4, none⟩ = some (.string ⟨#[]⟩) := blk_cell (j := 4) HBX.out
  have kX5 : w10.cell? ⟨w3.heap.size, 5, none⟩ = some (.int .i64 0) := blk_cell (j := 5) HBX.out
  have kX6 : w10.cell? ⟨w3.heap.size, 6, none⟩ = some (.bool false) := blk_cell (j := 6) HBX.out
  have kX7 : w10.cell? ⟨w3.heap.size, 7, none⟩ = some (.string ⟨#[]⟩) := blk_cell (j := 7) HBX.out
  have kX8 : w10.cell? ⟨w3.heap.size, 8, none⟩ = some (.slice none 0 0) := blk_cell (j := 8) HBX.out
  have kX9 : w10.cell? ⟨w3.heap.size, 9, none⟩ = some (.slice none 0 0) := blk_cell (j := 9) HBX.out
  have kX10 : w10.cell? ⟨w3.heap.size, 10, none⟩ = some (.bool false) := blk_cell (j := 10) HBX.out
  have ltX := blk_lt HBX.out
  have kY0 : w10.cell? ⟨w4.heap.size, 0, none⟩ = some (.int .i64 0) := blk_cell (j := 0) HBY.out
  have kY1 : w10.cell? ⟨w4.heap.size, 1, none⟩ = some (.int .i64 2) := blk_cell (j := 1) HBY.out
  have kY2 : w10.cell? ⟨w4.heap.size, 2, none⟩ = some (.int .i64 22) := blk_cell (j := 2) HBY.out
  have kY3 : w10.cell? ⟨w4.heap.size, 3, none⟩ = some (.int .i64 0) := blk_cell (j := 3) HBY.out
  have kY4 : w10.cell? ⟨w4.heap.size, 4, none⟩ = some (.string ⟨#[]⟩) := blk_cell (j := 4) HBY.out
  have kY5 : w10.cell? ⟨w4.heap.size, 5, none⟩ = some (.int .i64 0) := blk_cell (j := 5) HBY.out
  have kY6 : w10.cell? ⟨w4.heap.size, 6, none⟩ = some (.bool false) := blk_cell (j := 6) HBY.out
  have kY7 : w10.cell? ⟨w4.heap.size, 7, none⟩ = some (.string ⟨#[]⟩) := blk_cell (j := 7) HBY.out
  have kY8 : w10.cell? ⟨w4.heap.size, 8, none⟩ = some (.slice none 0 0) := blk_cell (j := 8) HBY.out
  have kY9 : w10.cell? ⟨w4.heap.size, 9, none⟩ = some (.slice none 0 0) := blk_cell (j := 9) HBY.out
  have kY10 : w10.cell? ⟨w4.heap.size, 10, none⟩ = some (.bool false) := blk_cell (j := 10) HBY.out
  have ltY := blk_lt HBY.out
  have kZ0 : w10.cell? ⟨w5.heap.size, 0, none⟩ = some (.int .i64 2) := blk_cell (j := 0) HBZ.out
  have kZ1 : w10.cell? ⟨w5.heap.size, 1, none⟩ = some (.int .i64 2) := blk_cell (j := 1) HBZ.out
  have kZ2 : w10.cell? ⟨w5.heap.size, 2, none⟩ = some (.int .i64 7) := blk_cell (j := 2) HBZ.out
  have kZ3 : w10.cell? ⟨w5.heap.size, 3, none⟩ = some (.int .i64 3) := blk_cell (j := 3) HBZ.out
  have kZ4 : w10.cell? ⟨w5.heap.size, 4, none⟩ = some (.string ⟨#[]⟩) := blk_cell (j := 4) HBZ.out
  have kZ5 : w10.cell? ⟨w5.heap.size, 5, none⟩ = some (.int .i64 0) := blk_cell (j := 5) HBZ.out
  have kZ6 : w10.cell? ⟨w5.heap.size, 6, none⟩ = some (.bool false) := blk_cell (j := 6) HBZ.out
  have kZ7 : w10.cell? ⟨w5.heap.size, 7, none⟩ = some (.string ⟨#[]⟩) := blk_cell (j := 7) HBZ.out
  have kZ8 : w10.cell? ⟨w5.heap.size, 8, none⟩ = some (.slice none 0 0) := blk_cell (j := 8) HBZ.out
  have kZ9 : w10.cell? ⟨w5.heap.size, 9, none⟩ = some (.slice none 0 0) := blk_cell (j := 9) HBZ.out
  have kZ10 : w10.cell? ⟨w5.heap.size, 10, none⟩ = some (.bool false) := blk_cell (j := 10) HBZ.out
  have ltZ := blk_lt HBZ.out
  have kA0 : w10.cell? ⟨w8.heap.size, 0, none⟩ = some (.int .i64 2) := blk_cell (j := 0) HBA.out
  have kA1 : w10.cell? ⟨w8.heap.size, 1, none⟩ = some (.int .i64 2) := blk_cell (j := 1) HBA.out
  have kA2 : w10.cell? ⟨w8.heap.size, 2, none⟩ = some (.int .i64 2) := blk_cell (j := 2) HBA.out
  have kA3 : w10.cell? ⟨w8.heap.size, 3, none⟩ = some (.int .i64 3) := blk_cell (j := 3) HBA.out
  have kA4 : w10.cell? ⟨w8.heap.size, 4, none⟩ = some (.string ⟨#[]⟩) := blk_cell (j := 4) HBA.out
  have kA5 : w10.cell? ⟨w8.heap.size, 5, none⟩ = some (.int .i64 0) := blk_cell (j := 5) HBA.out
  have kA6 : w10.cell? ⟨w8.heap.size, 6, none⟩ = some (.bool false) := blk_cell (j := 6) HBA.out
  have kA7 : w10.cell? ⟨w8.heap.size, 7, none⟩ = some (.string ⟨#[]⟩) := blk_cell (j := 7) HBA.out
  have kA8 : w10.cell? ⟨w8.heap.size, 8, none⟩ = some (.slice none 0 0) := blk_cell (j := 8) HBA.out
  have kA9 : w10.cell? ⟨w8.heap.size, 9, none⟩ = some (.slice none 0 0) := blk_cell (j := 9) HBA.out
  have kA10 : w10.cell? ⟨w8.heap.size, 10, none⟩ = some (.bool false) := blk_cell (j := 10) HBA.out
  have ltA := blk_lt HBA.out
  have kB0 : w10.cell? ⟨w9.heap.size, 0, none⟩ = some (.int .i64 2) := blk_cell (j := 0) HBB.out
  have kB1 : w10.cell? ⟨w9.heap.size, 1, none⟩ = some (.int .i64 2) := blk_cell (j := 1) HBB.out
  have kB2 : w10.cell? ⟨w9.heap.size, 2, none⟩ = some (.int .i64 2) := blk_cell (j := 2) HBB.out
  have kB3 : w10.cell? ⟨w9.heap.size, 3, none⟩ = some (.int .i64 3) := blk_cell (j := 3) HBB.out
  have kB4 : w10.cell? ⟨w9.heap.size, 4, none⟩ = some (.string ⟨#[]⟩) := blk_cell (j := 4) HBB.out
  have kB5 : w10.cell? ⟨w9.heap.size, 5, none⟩ = some (.int .i64 0) := blk_cell (j := 5) HBB.out
  have kB6 : w10.cell? ⟨w9.heap.size, 6, none⟩ = some (.bool false) := blk_cell (j := 6) HBB.out
  have kB7 : w10.cell? ⟨w9.heap.size, 7, none⟩ = some (.string ⟨#[]⟩) := blk_cell (j := 7) HBB.out
  have kB8 : w10.cell? ⟨w9.heap.size, 8, none⟩ = some (.slice none 0 0) := blk_cell (j := 8) HBB.out
  have kB9 : w10.cell? ⟨w9.heap.size, 9, none⟩ = some (.slice none 0 0) := blk_cell (j := 9) HBB.out
  have kB10 : w10.cell? ⟨w9.heap.size, 10, none⟩ = some (.bool false) := blk_cell (j := 10) HBB.out
  have ltB := blk_lt HBB.out
  go_wp2
  rw [HR.out]
  exact ⟨rfl, HSW.out.trans HS10.out⟩
end Go.Proofs.YtgjmaifgkgejgaaGreatDoor.L
