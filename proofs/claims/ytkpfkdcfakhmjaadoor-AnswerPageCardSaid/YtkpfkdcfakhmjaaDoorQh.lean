/- Layer 22: the law AnswerTells, walked. -/
import Derived.Test.YtkpfkdcfakhmjaaDoorQg
set_option linter.unusedVariables false
set_option linter.unusedSimpArgs false
namespace Go.Proofs.YtkpfkdcfakhmjaaDoor.L
open Go.RowKit Go.Proofs

/-- A struct's load, as an operation alone. -/
theorem exec_load {P : Program} {w : World} {o : Oper} {ev : Operand → Value} (ty : TypeId) (x : Operand) (ho : o.op = .load ty x)
    (g : Nat) (hx : ev x = .pointer (some ⟨g, 0, none⟩)) (t : TypeId) (cs : Array Value) (fr : Nat × Nat) (d : TypeDesc) (hg : w.heap[g]? = some (.cells cs t fr))
    (hu : P.underlying ty = some d) (hd : (match d with | .struct _ | .array _ _ => true | _ => false) = true) (hi : (P.info? ty).map (·.size) = some cs.size) :
    (execOp ev o).run P w = .ok (.value (.agg cs)) w := by
  unfold execOp
  simp only [ho, hx, Instr.loadAt, Instr.sureAddr, Sem.run_bind, Sem.run_pure, Result.andThen_ok, run_loadVar_row w g t ty cs fr d hg hu hd hi]

def TellS (g1 g2 : Nat) (cv : Array Value) (a : Bool) (y u : Int) (w : World) : Prop := w.heap[g1]? = some (.cells cv 28 (0, 0)) ∧ w.heap[g2]? = some (.cells #[.bool a, .int .i64 y, .int .i64 u] 30 (0, 0))
theorem TellS.step {g1 g2 : Nat} {cv : Array Value} {a : Bool} {y u : Int} {w w' : World} (h : TellS g1 g2 cv a y u w) (hs : Stp (fun _ => False) w w') : TellS g1 g2 cv a y u w' := ⟨hs.blk h.1 id, hs.blk h.2 id⟩
theorem size_vd (cv : Array Value) (hs : cv.size = 11) : (Tryd.prog.info? 28).map (·.size) = some cv.size := by rw [hs]; kernel_rfl
theorem size_dc (a : Bool) (y u : Int) : (Tryd.prog.info? 30).map (·.size) = some (#[.bool a, .int .i64 y, .int .i64 u] : Array Value).size := by show _ = some 3; kernel_rfl

set_option maxRecDepth 100000 in
set_option maxHeartbeats 4000000 in
theorem tells_law (cv : Array Value) (p r : Int) (a : Bool) (y u : Int) (w : World) (hv : IsVd cv p r) (ht : TabP w) :
    Calls Tryd.prog 3 #[.agg cv, .agg #[.bool a, .int .i64 y, .int .i64 u]] w (smallV true w) := by
  obtain ⟨R, hR⟩ : ∃ R, R = smallV true w := ⟨_, rfl⟩
  rw [← hR]
  have hz := size_vd cv hv.1
  have hs0 := ((Stp.refl (fun _ => False) w).alloc (.cells cv 28)).alloc (.cells #[.bool a, .int .i64 y, .int .i64 u] 30)
  have hb : TellS w.heap.size (w.heap.size + 1) cv a y u ((w.alloc (.cells cv 28)).alloc (.cells #[.bool a, .int .i64 y, .int .i64 u] 30)) :=
    ⟨((Stp.refl (fun _ => False) _).alloc _).blk (heap_alloc_new w _) id, by
      have := heap_alloc_new (w.alloc (.cells cv 28)) (.cells #[.bool a, .int .i64 y, .int .i64 u] 30)
      simpa using this⟩
  obtain ⟨g, hg⟩ : ∃ g, g = w.heap.size := ⟨_, rfl⟩
  have HZ := Lib.hid hz
  have HB := Lib.hid hb
  have HS0 := Lib.hid hs0
  have HR := Lib.hid hR
  have HT := Lib.hid ht
  have HV := Lib.hid hv
  have HG := Lib.hid hg
  clear hz hb hs0 hR ht hv hg
  go_enter Tryd.func3, Tryd.ntmps3
  go_wp2_with (go_at_call 8; refine stopc ?_)
  refine Stop.go ?_
  refine (small22_any _ (HT.out.step HS0.out)).mono ?_
  rintro e w1 ⟨rfl, hs1⟩
  have HS1 := Lib.hid (HS0.out.trans hs1)
  have hk : ∀ w', Stp (fun _ => False) w1 w' → TellS w.heap.size (w.heap.size + 1) cv a y u w' := fun w' h => (HB.out.step hs1).step h
  have HK := Lib.hid hk
  clear hk
  clear hs1
  go_wp2_with fail
  obtain ⟨al, hal⟩ : ∃ al, al = alertS r y := ⟨_, rfl⟩
  obtain ⟨st, hst⟩ : ∃ st, st = statusS y := ⟨_, rfl⟩
  obtain ⟨l, hl⟩ : ∃ l, l = ofS p r a y := ⟨_, rfl⟩
  have ea : (al == al) = true := by simp
  have es : (st == st) = true := by simp
  have el : ((strB l).toList == (strB l).toList) = true := by simp
  have HAL := Lib.hid hal
  have HST := Lib.hid hst
  have HL := Lib.hid hl
  clear hal hst hl
  refine wp_region_held_drew (S := (fun w' => TellS w.heap.size (w.heap.size + 1) cv a y u w')) (by kernel_rfl) (HK.out _ (Stp.refl _ _).drew) (fun hHeld => ?_)
  try (change wpAnyH _ _ _ _ _ _ _ _ (World.drew _))
  refine rg_take (i := 0) (o := { dst := some 7, op := Op.move (Operand.tmp 5), type := 4, pos := "law.go:29", after := #[], guard := none }) (v := ?rgv1) rfl (by kernel_rfl) (by kernel_rfl) (by kernel_rfl) (fun _ _ _ h => h) (by rfl) (fun w hSw => ?rgy1) hHeld ?_
  case rgy1 => (try dsimp only at hSw); first | (go_simp; done) | (go_simp; with_reducible rfl)
  try simp only [Act.put, List.setIfInBounds_toArray, List.set_cons_zero, List.set_cons_succ]
  refine rg_take (i := 1) (o := { dst := some 8, op := Op.move (Operand.tmp 7), type := 4, pos := "law.go:29", after := #[{ on := 0, ground := Ground.data }], guard := none }) (v := ?rgv2) rfl (by kernel_rfl) (by kernel_rfl) (by kernel_rfl) (fun _ _ _ h => h) (by rfl) (fun w hSw => ?rgy2) hHeld ?_
  case rgy2 => (try dsimp only at hSw); first | (go_simp; done) | (go_simp; with_reducible rfl)
  try simp only [Act.put, List.setIfInBounds_toArray, List.set_cons_zero, List.set_cons_succ]
  refine rg_take (i := 2) (o := { dst := some 9, op := Op.load 28 (Operand.tmp 2), type := 28, pos := "law.go:29", after := #[{ on := 1, ground := Ground.guard }], guard := some (1, true) }) (v := (.agg cv)) rfl (by kernel_rfl) (by kernel_rfl) (by kernel_rfl) (fun _ _ _ h => h) (by rfl) (fun w hSw => exec_load _ _ (by rfl) _ (by rfl) _ cv (0, 0) _ hSw.1 Tryd.underlying28 rfl HZ.out) hHeld ?_
  try simp only [Act.put, List.setIfInBounds_toArray, List.set_cons_zero, List.set_cons_succ]
  refine rg_take (i := 3) (o := { dst := some 10, op := Op.load 30 (Operand.tmp 3), type := 30, pos := "law.go:29", after := #[{ on := 1, ground := Ground.guard }], guard := some (1, true) }) (v := (.agg #[.bool a, .int .i64 y, .int .i64 u])) rfl (by kernel_rfl) (by kernel_rfl) (by kernel_rfl) (fun _ _ _ h => h) (by rfl) (fun w hSw => exec_load _ _ (by rfl) _ (by rfl) _ _ (0, 0) _ hSw.2 Tryd.underlying30 rfl (size_dc _ _ _)) hHeld ?_
  try simp only [Act.put, List.setIfInBounds_toArray, List.set_cons_zero, List.set_cons_succ]
  refine rg_take (i := 5) (o := { dst := some 12, op := Op.load 28 (Operand.tmp 2), type := 28, pos := "law.go:29", after := #[{ on := 1, ground := Ground.guard }], guard := some (1, true) }) (v := (.agg cv)) rfl (by kernel_rfl) (by kernel_rfl) (by kernel_rfl) (fun _ _ _ h => h) (by rfl) (fun w hSw => exec_load _ _ (by rfl) _ (by rfl) _ cv (0, 0) _ hSw.1 Tryd.underlying28 rfl HZ.out) hHeld ?_
  try simp only [Act.put, List.setIfInBounds_toArray, List.set_cons_zero, List.set_cons_succ]
  refine rg_take (i := 6) (o := { dst := some 13, op := Op.load 30 (Operand.tmp 3), type := 30, pos := "law.go:29", after := #[{ on := 1, ground := Ground.guard }], guard := some (1, true) }) (v := (.agg #[.bool a, .int .i64 y, .int .i64 u])) rfl (by kernel_rfl) (by kernel_rfl) (by kernel_rfl) (fun _ _ _ h => h) (by rfl) (fun w hSw => exec_load _ _ (by rfl) _ (by rfl) _ _ (0, 0) _ hSw.2 Tryd.underlying30 rfl (size_dc _ _ _)) hHeld ?_
  try simp only [Act.put, List.setIfInBounds_toArray, List.set_cons_zero, List.set_cons_succ]
  refine wpAnyH_ready (rs := [4]) (by kernel_rfl) (by simp) ?_
  refine (AllReadyH.cons (o := { dst := some 11, op := Op.call { callee := Callee.value (Operand.func 9), args := #[Operand.tmp 9, Operand.tmp 10], argTypes := #[28, 30] }, type := 3, pos := "law.go:29", after := #[{ on := 2, ground := Ground.data }, { on := 3, ground := Ground.data }, { on := 1, ground := Ground.chain }, { on := 1, ground := Ground.guard }], guard := some (1, true) }) rfl (fun K hK => ?_) AllReadyH.nil)
  go_simp
  refine (alert_any cv p r a y u _ HV.out).mono ?_
  rw [← HAL.out]
  rintro e w2 ⟨rfl, hs2⟩
  have HS2 := Lib.hid ((Stp.refl (fun _ => False) w1).drew.trans hs2)
  clear hs2
  show K _ _
  clear hHeld
  refine hK.out _ _ (HK.out _ HS2.out) (fun hHeld => ?_)
  clear hK K
  try simp only [Act.put, List.setIfInBounds_toArray, List.set_cons_zero, List.set_cons_succ]
  refine wpAnyH_ready (rs := [7]) (by kernel_rfl) (by simp) ?_
  refine (AllReadyH.cons (o := { dst := some 14, op := Op.call { callee := Callee.value (Operand.func 10), args := #[Operand.tmp 12, Operand.tmp 13], argTypes := #[28, 30] }, type := 3, pos := "law.go:29", after := #[{ on := 5, ground := Ground.data }, { on := 6, ground := Ground.data }, { on := 4, ground := Ground.chain }, { on := 1, ground := Ground.guard }], guard := some (1, true) }) rfl (fun K hK => ?_) AllReadyH.nil)
  go_simp
  refine (alertR_any cv p r a y u _ HV.out).mono ?_
  rw [← HAL.out]
  rintro e w3 ⟨rfl, hs3⟩
  have HS3 := Lib.hid (HS2.out.trans hs3)
  clear hs3
  show K _ _
  clear hHeld
  refine hK.out _ _ (HK.out _ HS3.out) (fun hHeld => ?_)
  clear hK K
  try simp only [Act.put, List.setIfInBounds_toArray, List.set_cons_zero, List.set_cons_succ]
  refine rg_take (i := 8) (o := { dst := some 15, op := Op.binOp BinOp.eql 3 (Operand.tmp 11) (Operand.tmp 14) 3, type := 4, pos := "law.go:29", after := #[{ on := 4, ground := Ground.data }, { on := 7, ground := Ground.data }, { on := 1, ground := Ground.guard }], guard := some (1, true) }) (v := ?rgv7) rfl (by kernel_rfl) (by kernel_rfl) (by kernel_rfl) (fun _ _ _ h => h) (by rfl) (fun w hSw => ?rgy7) hHeld ?_
  case rgy7 => (try dsimp only at hSw); first | (go_simp; done) | (go_simp; with_reducible rfl)
  try simp only [Act.put, List.setIfInBounds_toArray, List.set_cons_zero, List.set_cons_succ]
  refine rg_take (i := 9) (o := { dst := some 16, op := Op.pick (Operand.tmp 8) (Operand.tmp 15) (Operand.const (Value.bool false)), type := 4, pos := "law.go:29", after := #[{ on := 1, ground := Ground.data }, { on := 8, ground := Ground.data }], guard := none }) (v := ?rgv8) rfl (by kernel_rfl) (by kernel_rfl) (by kernel_rfl) (fun _ _ _ h => h) (by rfl) (fun w hSw => ?rgy8) hHeld ?_
  case rgy8 => (try dsimp only at hSw); first | (go_simp; done) | (go_simp; with_reducible rfl)
  try simp only [Act.put, List.setIfInBounds_toArray, List.set_cons_zero, List.set_cons_succ]
  refine rg_take (i := 10) (o := { dst := some 17, op := Op.move (Operand.tmp 16), type := 4, pos := "law.go:29", after := #[{ on := 9, ground := Ground.data }, { on := 7, ground := Ground.chain }], guard := none }) (v := ?rgv9) rfl (by kernel_rfl) (by kernel_rfl) (by kernel_rfl) (fun _ _ _ h => h) (by rfl) (fun w hSw => ?rgy9) hHeld ?_
  case rgy9 => (try dsimp only at hSw); first | (go_simp; done) | (go_simp; with_reducible rfl)
  try simp only [Act.put, List.setIfInBounds_toArray, List.set_cons_zero, List.set_cons_succ]
  refine rg_take (i := 11) (o := { dst := some 18, op := Op.load 30 (Operand.tmp 3), type := 30, pos := "law.go:29", after := #[{ on := 10, ground := Ground.guard }], guard := some (10, true) }) (v := (.agg #[.bool a, .int .i64 y, .int .i64 u])) rfl (by kernel_rfl) (by kernel_rfl) (by kernel_rfl) (fun _ _ _ h => h) (by rfl) (fun w hSw => exec_load _ _ (by rfl) _ (by rfl) _ _ (0, 0) _ hSw.2 Tryd.underlying30 rfl (size_dc _ _ _)) hHeld ?_
  try simp only [Act.put, List.setIfInBounds_toArray, List.set_cons_zero, List.set_cons_succ]
  refine rg_take (i := 13) (o := { dst := some 20, op := Op.load 30 (Operand.tmp 3), type := 30, pos := "law.go:29", after := #[{ on := 10, ground := Ground.guard }], guard := some (10, true) }) (v := (.agg #[.bool a, .int .i64 y, .int .i64 u])) rfl (by kernel_rfl) (by kernel_rfl) (by kernel_rfl) (fun _ _ _ h => h) (by rfl) (fun w hSw => exec_load _ _ (by rfl) _ (by rfl) _ _ (0, 0) _ hSw.2 Tryd.underlying30 rfl (size_dc _ _ _)) hHeld ?_
  try simp only [Act.put, List.setIfInBounds_toArray, List.set_cons_zero, List.set_cons_succ]
  refine wpAnyH_ready (rs := [12]) (by kernel_rfl) (by simp) ?_
  refine (AllReadyH.cons (o := { dst := some 19, op := Op.call { callee := Callee.value (Operand.func 11), args := #[Operand.tmp 18], argTypes := #[30] }, type := 3, pos := "law.go:29", after := #[{ on := 11, ground := Ground.data }, { on := 10, ground := Ground.chain }, { on := 10, ground := Ground.guard }], guard := some (10, true) }) rfl (fun K hK => ?_) AllReadyH.nil)
  go_simp
  refine (status_any a y u _).mono ?_
  rw [← HST.out]
  rintro e w4 ⟨rfl, hs4⟩
  have HS4 := Lib.hid (HS3.out.trans hs4)
  clear hs4
  show K _ _
  clear hHeld
  refine hK.out _ _ (HK.out _ HS4.out) (fun hHeld => ?_)
  clear hK K
  try simp only [Act.put, List.setIfInBounds_toArray, List.set_cons_zero, List.set_cons_succ]
  refine wpAnyH_ready (rs := [14]) (by kernel_rfl) (by simp) ?_
  refine (AllReadyH.cons (o := { dst := some 21, op := Op.call { callee := Callee.value (Operand.func 12), args := #[Operand.tmp 20], argTypes := #[30] }, type := 3, pos := "law.go:29", after := #[{ on := 13, ground := Ground.data }, { on := 12, ground := Ground.chain }, { on := 10, ground := Ground.guard }], guard := some (10, true) }) rfl (fun K hK => ?_) AllReadyH.nil)
  go_simp
  refine (statusR_any a y u _).mono ?_
  rw [← HST.out]
  rintro e w5 ⟨rfl, hs5⟩
  have HS5 := Lib.hid (HS4.out.trans hs5)
  clear hs5
  show K _ _
  clear hHeld
  refine hK.out _ _ (HK.out _ HS5.out) (fun hHeld => ?_)
  clear hK K
  try simp only [Act.put, List.setIfInBounds_toArray, List.set_cons_zero, List.set_cons_succ]
  refine rg_take (i := 15) (o := { dst := some 22, op := Op.binOp BinOp.eql 3 (Operand.tmp 19) (Operand.tmp 21) 3, type := 4, pos := "law.go:29", after := #[{ on := 12, ground := Ground.data }, { on := 14, ground := Ground.data }, { on := 10, ground := Ground.guard }], guard := some (10, true) }) (v := ?rgv12) rfl (by kernel_rfl) (by kernel_rfl) (by kernel_rfl) (fun _ _ _ h => h) (by rfl) (fun w hSw => ?rgy12) hHeld ?_
  case rgy12 => (try dsimp only at hSw); first | (go_simp; done) | (go_simp; with_reducible rfl)
  try simp only [Act.put, List.setIfInBounds_toArray, List.set_cons_zero, List.set_cons_succ]
  refine rg_take (i := 16) (o := { dst := some 23, op := Op.pick (Operand.tmp 17) (Operand.tmp 22) (Operand.const (Value.bool false)), type := 4, pos := "law.go:29", after := #[{ on := 10, ground := Ground.data }, { on := 15, ground := Ground.data }], guard := none }) (v := ?rgv13) rfl (by kernel_rfl) (by kernel_rfl) (by kernel_rfl) (fun _ _ _ h => h) (by rfl) (fun w hSw => ?rgy13) hHeld ?_
  case rgy13 => (try dsimp only at hSw); first | (go_simp; done) | (go_simp; with_reducible rfl)
  try simp only [Act.put, List.setIfInBounds_toArray, List.set_cons_zero, List.set_cons_succ]
  refine rg_take (i := 17) (o := { dst := some 24, op := Op.move (Operand.tmp 23), type := 4, pos := "law.go:29", after := #[{ on := 16, ground := Ground.data }, { on := 14, ground := Ground.chain }], guard := none }) (v := ?rgv14) rfl (by kernel_rfl) (by kernel_rfl) (by kernel_rfl) (fun _ _ _ h => h) (by rfl) (fun w hSw => ?rgy14) hHeld ?_
  case rgy14 => (try dsimp only at hSw); first | (go_simp; done) | (go_simp; with_reducible rfl)
  try simp only [Act.put, List.setIfInBounds_toArray, List.set_cons_zero, List.set_cons_succ]
  refine rg_take (i := 18) (o := { dst := some 25, op := Op.load 28 (Operand.tmp 2), type := 28, pos := "law.go:29", after := #[{ on := 17, ground := Ground.guard }], guard := some (17, true) }) (v := (.agg cv)) rfl (by kernel_rfl) (by kernel_rfl) (by kernel_rfl) (fun _ _ _ h => h) (by rfl) (fun w hSw => exec_load _ _ (by rfl) _ (by rfl) _ cv (0, 0) _ hSw.1 Tryd.underlying28 rfl HZ.out) hHeld ?_
  try simp only [Act.put, List.setIfInBounds_toArray, List.set_cons_zero, List.set_cons_succ]
  refine rg_take (i := 19) (o := { dst := some 26, op := Op.load 30 (Operand.tmp 3), type := 30, pos := "law.go:29", after := #[{ on := 17, ground := Ground.guard }], guard := some (17, true) }) (v := (.agg #[.bool a, .int .i64 y, .int .i64 u])) rfl (by kernel_rfl) (by kernel_rfl) (by kernel_rfl) (fun _ _ _ h => h) (by rfl) (fun w hSw => exec_load _ _ (by rfl) _ (by rfl) _ _ (0, 0) _ hSw.2 Tryd.underlying30 rfl (size_dc _ _ _)) hHeld ?_
  try simp only [Act.put, List.setIfInBounds_toArray, List.set_cons_zero, List.set_cons_succ]
  refine rg_take (i := 22) (o := { dst := some 29, op := Op.load 28 (Operand.tmp 2), type := 28, pos := "law.go:29", after := #[{ on := 17, ground := Ground.guard }], guard := some (17, true) }) (v := (.agg cv)) rfl (by kernel_rfl) (by kernel_rfl) (by kernel_rfl) (fun _ _ _ h => h) (by rfl) (fun w hSw => exec_load _ _ (by rfl) _ (by rfl) _ cv (0, 0) _ hSw.1 Tryd.underlying28 rfl HZ.out) hHeld ?_
  try simp only [Act.put, List.setIfInBounds_toArray, List.set_cons_zero, List.set_cons_succ]
  refine rg_take (i := 23) (o := { dst := some 30, op := Op.load 30 (Operand.tmp 3), type := 30, pos := "law.go:29", after := #[{ on := 17, ground := Ground.guard }], guard := some (17, true) }) (v := (.agg #[.bool a, .int .i64 y, .int .i64 u])) rfl (by kernel_rfl) (by kernel_rfl) (by kernel_rfl) (fun _ _ _ h => h) (by rfl) (fun w hSw => exec_load _ _ (by rfl) _ (by rfl) _ _ (0, 0) _ hSw.2 Tryd.underlying30 rfl (size_dc _ _ _)) hHeld ?_
  try simp only [Act.put, List.setIfInBounds_toArray, List.set_cons_zero, List.set_cons_succ]
  refine wpAnyH_ready (rs := [20]) (by kernel_rfl) (by simp) ?_
  refine (AllReadyH.cons (o := { dst := some 27, op := Op.call { callee := Callee.value (Operand.func 13), args := #[Operand.tmp 25, Operand.tmp 26], argTypes := #[28, 30] }, type := 34, pos := "law.go:29", after := #[{ on := 18, ground := Ground.data }, { on := 19, ground := Ground.data }, { on := 17, ground := Ground.chain }, { on := 17, ground := Ground.guard }], guard := some (17, true) }) rfl (fun K hK => ?_) AllReadyH.nil)
  go_simp
  refine (of_any cv p r a y u _ HV.out ((HT.out.step HS1.out).step HS5.out)).mono ?_
  rw [← HL.out]
  rintro e w6 ⟨v6, rfl, hr6, -, hs6⟩
  have HR6 := Lib.hid hr6
  have HS6 := Lib.hid (HS5.out.trans hs6)
  clear hr6 hs6
  show K _ _
  clear hHeld
  refine hK.out _ _ (HK.out _ HS6.out) (fun hHeld => ?_)
  clear hK K
  try simp only [Act.put, List.setIfInBounds_toArray, List.set_cons_zero, List.set_cons_succ]
  refine rg_more (T := (fun w' => convB w' v6 l)) ?_
  replace hHeld := And.intro hHeld (conv_of HR6.out)
  refine rg_take (i := 21) (o := { dst := some 28, op := Op.convert 34 9 (Operand.tmp 27), type := 9, pos := "law.go:29", after := #[{ on := 20, ground := Ground.data }, { on := 17, ground := Ground.guard }], guard := some (17, true) }) (v := ?rgv19) rfl (by kernel_rfl) (by kernel_rfl) (by kernel_rfl) (fun _ _ _ h => h) (by rfl) (fun w hSw => ?rgy19) hHeld ?_
  case rgy19 => (try dsimp only at hSw); first | (go_simp; done) | (go_simp; with_reducible rfl)
  try simp only [Act.put, List.setIfInBounds_toArray, List.set_cons_zero, List.set_cons_succ]
  refine wpAnyH_ready (rs := [24]) (by kernel_rfl) (by simp) ?_
  refine (AllReadyH.cons (o := { dst := some 31, op := Op.call { callee := Callee.value (Operand.func 14), args := #[Operand.tmp 29, Operand.tmp 30], argTypes := #[28, 30] }, type := 34, pos := "law.go:29", after := #[{ on := 22, ground := Ground.data }, { on := 23, ground := Ground.data }, { on := 20, ground := Ground.chain }, { on := 17, ground := Ground.guard }], guard := some (17, true) }) rfl (fun K hK => ?_) AllReadyH.nil)
  go_simp
  refine (ofR_any cv p r a y u _ HV.out).mono ?_
  rw [← HL.out]
  rintro e w7 ⟨v7, rfl, hr7, -, hs7⟩
  have HR7 := Lib.hid hr7
  have HS7 := Lib.hid (HS6.out.trans hs7)
  have HR67 := Lib.hid (HR6.out.stp0 hs7)
  clear hr7 hs7
  show K _ _
  clear hHeld
  refine hK.out _ _ (⟨HK.out _ HS7.out, conv_of HR67.out⟩) (fun hHeld => ?_)
  clear hK K
  try simp only [Act.put, List.setIfInBounds_toArray, List.set_cons_zero, List.set_cons_succ]
  refine rg_more (T := (fun w' => convB w' v7 l)) ?_
  replace hHeld := And.intro hHeld (conv_of HR7.out)
  refine rg_take (i := 25) (o := { dst := some 32, op := Op.convert 34 9 (Operand.tmp 31), type := 9, pos := "law.go:29", after := #[{ on := 24, ground := Ground.data }, { on := 17, ground := Ground.guard }], guard := some (17, true) }) (v := ?rgv20) rfl (by kernel_rfl) (by kernel_rfl) (by kernel_rfl) (fun _ _ _ h => h) (by rfl) (fun w hSw => ?rgy20) hHeld ?_
  case rgy20 => (try dsimp only at hSw); first | (go_simp; done) | (go_simp; with_reducible rfl)
  try simp only [Act.put, List.setIfInBounds_toArray, List.set_cons_zero, List.set_cons_succ]
  refine rg_take (i := 26) (o := { dst := some 33, op := Op.binOp BinOp.eql 9 (Operand.tmp 28) (Operand.tmp 32) 9, type := 4, pos := "law.go:29", after := #[{ on := 21, ground := Ground.data }, { on := 25, ground := Ground.data }, { on := 17, ground := Ground.guard }], guard := some (17, true) }) (v := ?rgv21) rfl (by kernel_rfl) (by kernel_rfl) (by kernel_rfl) (fun _ _ _ h => h) (by rfl) (fun w hSw => ?rgy21) hHeld ?_
  case rgy21 => (try dsimp only at hSw); first | (go_simp; done) | (go_simp; with_reducible rfl)
  try simp only [Act.put, List.setIfInBounds_toArray, List.set_cons_zero, List.set_cons_succ]
  refine rg_take (i := 27) (o := { dst := some 34, op := Op.pick (Operand.tmp 24) (Operand.tmp 33) (Operand.const (Value.bool false)), type := 4, pos := "law.go:29", after := #[{ on := 17, ground := Ground.data }, { on := 26, ground := Ground.data }], guard := none }) (v := ?rgv22) rfl (by kernel_rfl) (by kernel_rfl) (by kernel_rfl) (fun _ _ _ h => h) (by rfl) (fun w hSw => ?rgy22) hHeld ?_
  case rgy22 => (try dsimp only at hSw); first | (go_simp; done) | (go_simp; with_reducible rfl)
  try simp only [Act.put, List.setIfInBounds_toArray, List.set_cons_zero, List.set_cons_succ]
  refine rg_take (i := 28) (o := { dst := some 4, op := Op.assign (Operand.tmp 34), type := 4, pos := "law.go:29", after := #[{ on := 27, ground := Ground.data }, { on := 24, ground := Ground.chain }, { on := 0, ground := Ground.phase }, { on := 1, ground := Ground.phase }, { on := 2, ground := Ground.phase }, { on := 3, ground := Ground.phase }, { on := 4, ground := Ground.phase }, { on := 5, ground := Ground.phase }, { on := 6, ground := Ground.phase }, { on := 7, ground := Ground.phase }, { on := 8, ground := Ground.phase }, { on := 9, ground := Ground.phase }, { on := 10, ground := Ground.phase }, { on := 11, ground := Ground.phase }, { on := 12, ground := Ground.phase }, { on := 13, ground := Ground.phase }, { on := 14, ground := Ground.phase }, { on := 15, ground := Ground.phase }, { on := 16, ground := Ground.phase }, { on := 17, ground := Ground.phase }, { on := 18, ground := Ground.phase }, { on := 19, ground := Ground.phase }, { on := 20, ground := Ground.phase }, { on := 21, ground := Ground.phase }, { on := 22, ground := Ground.phase }, { on := 23, ground := Ground.phase }, { on := 24, ground := Ground.phase }, { on := 25, ground := Ground.phase }, { on := 26, ground := Ground.phase }, { on := 27, ground := Ground.phase }], guard := none }) (v := ?rgv23) rfl (by kernel_rfl) (by kernel_rfl) (by kernel_rfl) (fun _ _ _ h => h) (by rfl) (fun w hSw => ?rgy23) hHeld ?_
  case rgy23 => (try dsimp only at hSw); first | (go_simp; done) | (go_simp; with_reducible rfl)
  try simp only [Act.put, List.setIfInBounds_toArray, List.set_cons_zero, List.set_cons_succ]
  clear hHeld
  refine wpAnyH_done (by kernel_rfl) ?_ _
  go_wp2
  rw [HR.out]
  exact ⟨rfl, HS1.out.trans HS7.out⟩
end Go.Proofs.YtkpfkdcfakhmjaaDoor.L
