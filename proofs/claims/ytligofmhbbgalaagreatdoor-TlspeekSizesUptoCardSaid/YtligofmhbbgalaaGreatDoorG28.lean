/- Texts of the proof, joined: Tn To. -/
import Derived.Test.YtligofmhbbgalaaGreatDoorG27
import Derived.Lib.SmallJoins
set_option linter.unusedVariables false
set_option linter.unusedSimpArgs false
/- Layer 15: the small case of its laws. -/
namespace Go.Proofs.YtligofmhbbgalaaGreatDoor.L
open Go.RowKit Go.Proofs

/-- A literal of bytes, wherever its block is said to lie. -/
theorem rd_litG {M : Nat → Prop} {t : TypeId} {fr : Nat × Nat} (C : List UInt8) (W : World) {cs : Array Value} {g : Nat} (h : cs.toList = C.map enc8) (hg : g = W.heap.size) (hl : C.length ≤ maxLen) (hM : ¬ M g) : Rd u8 M (W.alloc (.cells cs t fr)) (.slice (some ⟨g, 0, none⟩) C.length C.length) C := by
  subst hg
  refine plain_mk (Nat.le_refl _) hl (fun _ => ⟨⟨W.heap.size, 0, none⟩, rfl, hM, fun j hj => ?_⟩)
  have hc : (W.alloc (.cells cs t fr)).cell? ⟨W.heap.size, j, none⟩ = cs[j]? := World.cell?_alloc_mark W cs t fr j
  have he : cs[j]? = some (enc8 C[j]) := by
    rw [← Array.getElem?_toList, h]
    simp [hj]
  by_cases h0 : j = 0
  · subst h0
    rw [addr_z, hc, he]
  · rw [addr_nz _ _ h0]
    simp only [Nat.zero_add]
    rw [hc, he]
def smN : ByteArray := ⟨#[65, 46, 98]⟩
def smP : List ByteArray := [⟨#[104, 50]⟩]
def smX15 : List UInt8 := layS (helloE (putNmS smN).1 (putPrS smP).1)
def smB15 : List UInt8 := frameS 20 (wrapW smX15)
theorem smB15_len : smB15.length = 88 := by kernel_rfl
theorem smN_may : mayB smN.data.toList = true := by kernel_rfl
theorem smN_put : (putNmS smN).2 = true := by kernel_rfl
theorem smP_put : (putPrS smP).2 = true := by kernel_rfl
theorem smN_len : (putNmS smN).1.length ≤ 300 := by rw [show (putNmS smN).1.length = 8 by kernel_rfl]; decide
theorem smP_len : (putPrS smP).1.length ≤ 2000 := by rw [show (putPrS smP).1.length = 5 by kernel_rfl]; decide
theorem smX15_len : smX15.length ≤ 16384 := by rw [show smX15.length = 64 by kernel_rfl]; decide
theorem smN_norm : normN smN.data.toList = ([97, 46, 98], 0) := by kernel_rfl
def smV15 : Vt := ⟨1, 0, [97, 46, 98], ⟨true, smN, smP, [], false⟩⟩
theorem smB15_all : allT smB15 = (smV15, 88) := by
  have h := all_frames smX15 smX15_len 20 (by decide) (by decide)
  have hj := judge_hello smN smP smN_may smP_put smN_len smP_len
  rw [smN_norm] at hj
  rw [show judgeT smX15 = smV15 from hj.trans (if_neg (by simp))] at h
  rw [← smB15_len]
  exact h
theorem smB15_cut : allT (smB15.take 87) = (.open_, 87) := by
  have h := (allT_known smB15 (by rw [smB15_all]; exact (show ¬ (1 : Int) = 0 by decide))).2.2
  rw [smB15_all] at h
  exact h
theorem smW15_all : allT [23, 1] = (.bad 4, 1) := by kernel_rfl
theorem smB15_call (W : World) (v : Value) (h : Rd str (fun _ => False) W v smP) : Calls Tryz.prog 16 #[.string smN, v, .int .i64 20] W (NewB W smB15) :=
  bytesT_any (fun _ => False) smN v smP 20 W h (by decide) (by decide) (by decide) smN_put smP_put smN_len smP_len
def smR (v : Vt) (u : Int) (A B : Option Addr) (p q : Nat) : Array Value := #[.int .i64 v.st, .int .i64 1, .int .i64 u, .int .i64 v.rs, .string (strB v.ho), .int .i64 0, .bool v.sn.has, .string v.sn.name, .slice A v.sn.alpn.length p, .slice B v.sn.vers.length q, .bool v.sn.ech]
theorem smA_call (M : Nat → Prop) (W : World) (vb : Value) (b : List UInt8) (h : Rd u8 M W vb b) (hl : b.length ≤ 1000000) (he : EnvP W) {v : Vt} {u : Nat} (ha : allT b = (v, u)) :
    Calls Tryz.prog 10 #[vb] W fun e w' => ∃ A p B q, e = .returned (.agg (smR v u A B p q)) ∧ Own Value.string 9 W.heap.size w' (.slice A v.sn.alpn.length p) v.sn.alpn ∧ Stp (fun _ => False) W w' := by
  refine (tall_any M vb b W h hl he).mono ?_
  rintro e w1 ⟨va, vv, rfl, h1, h2, hs⟩
  rw [ha] at h1 h2 ⊢
  obtain ⟨A, p, rfl, -⟩ := h1.form
  obtain ⟨B, q, rfl, -⟩ := h2.form
  exact ⟨A, p, B, q, rfl, h1, hs⟩
def smS15 : Ts := (⟨1, 0, 0⟩, [])
theorem smT1_15 : stepT Ts.new 22 = (smS15, .open_) := rfl
theorem smT2_15 : (stepT smS15 4).2 = .bad 5 := rfl
theorem smK1_call (g0 g : Nat) (W : World) (h : OpT W g0 g Ts.new 0) (he : EnvB g0 W) : Calls Tryz.prog 13 #[.pointer (some ⟨g, 0, none⟩), .int .u8 22] W fun e w' => ∃ A p B q, e = .returned (.agg (smR .open_ 1 A B p q)) ∧ OpT w' g0 g smS15 1 ∧ Stp (NoVd g0 W) W w' := by
  refine (ttake_open g0 g Ts.new 0 22 W h he TsOk.new (by decide)).mono ?_
  rintro e w1 ⟨va, vv, N9, rfl, -, -, h1, h2, ho, -, hs⟩
  rw [smT1_15] at h1 h2 ho ⊢
  obtain ⟨A, p, rfl, -⟩ := h1.form
  obtain ⟨B, q, rfl, -⟩ := h2.form
  exact ⟨A, p, B, q, rfl, ho rfl, hs⟩
theorem smK2_call (g0 g : Nat) (W : World) (h : OpT W g0 g smS15 1) (he : EnvB g0 W) : Calls Tryz.prog 13 #[.pointer (some ⟨g, 0, none⟩), .int .u8 4] W fun e w' => ∃ A p B q, e = .returned (.agg (smR (.bad 5) 2 A B p q)) ∧ KnT w' g W.heap.size (.bad 5) 2 ∧ Stp (NoVd g0 W) W w' := by
  have hok : TsOk smS15 1 := by
    have := TsOk.new.step 22 (by rw [smT1_15]; rfl)
    rw [smT1_15] at this
    exact this
  refine (ttake_open g0 g smS15 1 4 W h he hok (by decide)).mono ?_
  rintro e w1 ⟨va, vv, N9, rfl, -, -, h1, h2, -, hk, hs⟩
  rw [smT2_15] at h1 h2 hk ⊢
  obtain ⟨A, p, rfl, -⟩ := h1.form
  obtain ⟨B, q, rfl, -⟩ := h2.form
  exact ⟨A, p, B, q, rfl, (hk (show ¬ (2 : Int) = 0 by decide)).knt, hs⟩
theorem smK3_call (g A0 : Nat) (W : World) (h : KnT W g A0 (.bad 5) 2) : Calls Tryz.prog 13 #[.pointer (some ⟨g, 0, none⟩), .int .u8 3] W fun e w' => ∃ A p B q, e = .returned (.agg (smR (.bad 5) 2 A B p q)) ∧ Stp (fun _ => False) W w' := by
  refine (ttake_known g A0 (.bad 5) 2 3 W h (show ¬ (2 : Int) = 0 by decide)).mono ?_
  rintro e w1 ⟨va, vv, rfl, h1, h2, hk, hs⟩
  obtain ⟨A, p, rfl, -⟩ := h1.form
  obtain ⟨B, q, rfl, -⟩ := h2.form
  exact ⟨A, p, B, q, rfl, hs⟩
theorem carry15 {P : Program} {f : FuncId} {args : Array Value} {W : World} {R : Ending → World → Prop} {ow : World → Prop} (hc : Calls P f args W R) (k : ∀ e w', R e w' → ow w') : Calls P f args W (fun e w' => R e w' ∧ ow w') := hc.mono fun e w' h => ⟨h, k e w' h⟩
theorem smV15_call (W : World) (vb : Value) (h : Rd u8 (fun _ => False) W vb smB15) (he : EnvP W) : Calls Tryz.prog 10 #[vb] W fun e w' => ∃ A p B q, e = .returned (.agg #[.int .i64 1, .int .i64 1, .int .i64 88, .int .i64 0, .string ⟨#[97, 46, 98]⟩, .int .i64 0, .bool true, .string ⟨#[65, 46, 98]⟩, .slice A 1 p, .slice B 0 q, .bool false]) ∧ Own Value.string 9 W.heap.size w' (.slice A 1 p) smP ∧ Stp (fun _ => False) W w' :=
  smA_call _ W vb smB15 h (by rw [smB15_len]; decide) he smB15_all
theorem smX15_call (W : World) (vb : Value) (h : Rd u8 (fun _ => False) W vb (smB15.take 87)) (he : EnvP W) : Calls Tryz.prog 10 #[vb] W fun e w' => ∃ A p B q, e = .returned (.agg #[.int .i64 0, .int .i64 1, .int .i64 87, .int .i64 0, .string ⟨#[]⟩, .int .i64 0, .bool false, .string ⟨#[]⟩, .slice A 0 p, .slice B 0 q, .bool false]) ∧ Stp (fun _ => False) W w' := by
  refine (smA_call _ W vb _ h (by rw [List.length_take, smB15_len]; decide) he smB15_cut).mono ?_
  rintro e w1 ⟨A, p, B, q, rfl, -, hs⟩
  exact ⟨A, p, B, q, rfl, hs⟩
theorem smW15_call (W : World) (vb : Value) (h : Rd u8 (fun _ => False) W vb [23, 1]) (he : EnvP W) : Calls Tryz.prog 10 #[vb] W fun e w' => ∃ A p B q, e = .returned (.agg #[.int .i64 2, .int .i64 1, .int .i64 1, .int .i64 4, .string ⟨#[]⟩, .int .i64 0, .bool false, .string ⟨#[]⟩, .slice A 0 p, .slice B 0 q, .bool false]) ∧ Stp (fun _ => False) W w' := by
  refine (smA_call _ W vb _ h (by decide) he smW15_all).mono ?_
  rintro e w1 ⟨A, p, B, q, rfl, -, hs⟩
  exact ⟨A, p, B, q, rfl, hs⟩
theorem smN15_call (W : World) : Calls Tryz.prog 12 #[] W fun e w' => ∃ g g0, e = .returned (.pointer (some ⟨g, 0, none⟩)) ∧ W.heap.size = g0 ∧ OpT w' g0 g Ts.new 0 ∧ Stp (fun _ => False) W w' := by
  refine (tnew_any W).mono ?_
  rintro e w1 ⟨g, gd, gm, rfl, _, h, hs⟩
  exact ⟨g, _, rfl, rfl, ⟨gd, gm, _, h⟩, hs⟩
theorem smT15_call (g0 g : Nat) (W : World) (h : OpT W g0 g Ts.new 0) (he : EnvB g0 W) : Calls Tryz.prog 13 #[.pointer (some ⟨g, 0, none⟩), .int .u8 22] W fun e w' => ∃ A p B q, e = .returned (.agg #[.int .i64 0, .int .i64 1, .int .i64 1, .int .i64 0, .string ⟨#[]⟩, .int .i64 0, .bool false, .string ⟨#[]⟩, .slice A 0 p, .slice B 0 q, .bool false]) ∧ OpT w' g0 g smS15 1 ∧ Stp (NoVd g0 W) W w' := smK1_call g0 g W h he
theorem smY15_call (g0 g : Nat) (W : World) (h : OpT W g0 g smS15 1) (he : EnvB g0 W) : Calls Tryz.prog 13 #[.pointer (some ⟨g, 0, none⟩), .int .u8 4] W fun e w' => ∃ A p B q, e = .returned (.agg #[.int .i64 2, .int .i64 1, .int .i64 2, .int .i64 5, .string ⟨#[]⟩, .int .i64 0, .bool false, .string ⟨#[]⟩, .slice A 0 p, .slice B 0 q, .bool false]) ∧ KnT w' g W.heap.size (.bad 5) 2 ∧ Stp (NoVd g0 W) W w' := smK2_call g0 g W h he
theorem smZ15_call (g A0 : Nat) (W : World) (h : KnT W g A0 (.bad 5) 2) : Calls Tryz.prog 13 #[.pointer (some ⟨g, 0, none⟩), .int .u8 3] W fun e w' => ∃ A p B q, e = .returned (.agg #[.int .i64 2, .int .i64 1, .int .i64 2, .int .i64 5, .string ⟨#[]⟩, .int .i64 0, .bool false, .string ⟨#[]⟩, .slice A 0 p, .slice B 0 q, .bool false]) ∧ Stp (fun _ => False) W w' := smK3_call g A0 W h
set_option maxRecDepth 100000 in
set_option maxHeartbeats 16000000 in
theorem small15_any (w : World) (he : EnvP w) : Calls Tryz.prog 8 #[] w (TrueT w) := by
  obtain ⟨R, hR⟩ : ∃ R, R = TrueT w := ⟨_, rfl⟩
  rw [← hR]
  have HR := Lib.hid hR
  have HV := Lib.hid he
  clear hR he
  go_enter Tryz.func8, Tryz.ntmps8
  go_wp2_with (go_at_call 16; refine stopc ?_)
  refine Stop.go ?_
  refine (smB15_call _ _ (Rd.lit (W := w) smP #[.string ⟨#[104, 50]⟩] rfl (by decide) id)).mono ?_
  rintro e W1 ⟨vb, rfl, hob, hs⟩
  have HRD := Lib.hid (hob.rd (h1 := fun _ => rfl) (M := fun _ => False) (fun _ _ => id))
  have HSW := Lib.hid (((Stp.refl (fun _ => False) w).alloc _).trans hs)
  have HM := Lib.hid (HV.out.step HSW.out)
  obtain ⟨Ab, cb, rfl, hle⟩ := hob.form
  rw [smB15_len] at hle HRD ⊢
  have hcut := (cut_hi (P := Tryz.prog) u8 22 5 Tryz.underlying22 size_u8 Ab 88 cb 87 (by decide) hle)
  have HCR := Lib.hid (hcut.2 (fun _ => False))
  have hcut1 : ∀ (W : World) (kh : IntKind), (Instr.slice 22 (.slice Ab 88 cb) none (some (.int kh 87)) none).run Tryz.prog W = .ok (.slice Ab 87 cb) W := fun W kh => hcut.1 W kh
  clear hob hs hcut
  have HS0 := Lib.hid (Stp.refl (fun _ => False) W1)
  go_wp2_with (go_at_call 10; refine stopc ?_)
  refine Stop.go ?_
  refine (smV15_call _ _ HRD.out (HM.out.step HS0.out)).mono ?_
  rintro e w1 ⟨A1, p1, A2, p2, rfl, ho1, hs1⟩
  have HS1 := Lib.hid (HS0.out.trans hs1)
  clear hs1
  obtain ⟨B1, hB1⟩ : ∃ n, n = W1.heap.size := ⟨_, rfl⟩
  rw [← hB1] at ho1
  have HO := Lib.hid ho1
  clear ho1 hB1
  go_wp2_with (go_at_call 10; refine stopc ?_)
  refine Stop.go ?_
  refine (carry15 (ow := fun w' => Own Value.string 9 B1 w' (.slice A1 1 p1) smP) (smX15_call _ _ (HCR.out _ _ (HRD.out.stp0 (HS1.out.alloc _))) (HM.out.step (HS1.out.alloc _))) (fun e w' h => by obtain ⟨_, _, _, _, _, hs⟩ := h; exact (HO.out.stp0 ((Stp.refl (fun _ => False) _).alloc _)).stp0 hs)).mono ?_
  rintro e w2 ⟨⟨A3, p3, A4, p4, rfl, hs2⟩, ho⟩
  have HS2 := Lib.hid ((HS1.out.alloc _).trans hs2)
  have HBV := Lib.hid (show w2.heap[w1.heap.size]? = some (.cells #[.int .i64 1, .int .i64 1, .int .i64 88, .int .i64 0, .string ⟨#[97, 46, 98]⟩, .int .i64 0, .bool true, .string ⟨#[65, 46, 98]⟩, .slice A1 1 p1, .slice A2 0 p2, .bool false] 31 (0, 0)) from hs2.blk (heap_alloc_new w1 _) id)
  clear hs2
  have kV0 : w2.cell? ⟨w1.heap.size, 0, none⟩ = some (.int .i64 1) := blk_cell (j := 0) HBV.out
  have kV1 : w2.cell? ⟨w1.heap.size, 1, none⟩ = some (.int .i64 1) := blk_cell (j := 1) HBV.out
  have kV2 : w2.cell? ⟨w1.heap.size, 2, none⟩ = some (.int .i64 88) := blk_cell (j := 2) HBV.out
  have kV3 : w2.cell? ⟨w1.heap.size, 3, none⟩ = some (.int .i64 0) := blk_cell (j := 3) HBV.out
  have kV4 : w2.cell? ⟨w1.heap.size, 4, none⟩ = some (.string ⟨#[97, 46, 98]⟩) := blk_cell (j := 4) HBV.out
  have kV5 : w2.cell? ⟨w1.heap.size, 5, none⟩ = some (.int .i64 0) := blk_cell (j := 5) HBV.out
  have kV6 : w2.cell? ⟨w1.heap.size, 6, none⟩ = some (.bool true) := blk_cell (j := 6) HBV.out
  have kV7 : w2.cell? ⟨w1.heap.size, 7, none⟩ = some (.string ⟨#[65, 46, 98]⟩) := blk_cell (j := 7) HBV.out
  have kV8 : w2.cell? ⟨w1.heap.size, 8, none⟩ = some (.slice A1 1 p1) := blk_cell (j := 8) HBV.out
  have kV9 : w2.cell? ⟨w1.heap.size, 9, none⟩ = some (.slice A2 0 p2) := blk_cell (j := 9) HBV.out
  have kV10 : w2.cell? ⟨w1.heap.size, 10, none⟩ = some (.bool false) := blk_cell (j := 10) HBV.out
  have ltV := blk_lt HBV.out
  replace HO := Lib.hid ho
  clear ho
  go_wp2_with (go_at_call 10; refine stopc ?_)
  refine Stop.go ?_
  refine (carry15 (ow := fun w' => Own Value.string 9 B1 w' (.slice A1 1 p1) smP) (smW15_call _ _ (rd_litG [23, 1] _ rfl (by simp) (by decide) id) (HM.out.step ((HS2.out.alloc _).alloc _))) (fun e w' h => by obtain ⟨_, _, _, _, _, hs⟩ := h; exact (HO.out.stp0 (((Stp.refl (fun _ => False) _).alloc _).alloc _)).stp0 hs)).mono ?_
  rintro e w3 ⟨⟨A5, p5, A6, p6, rfl, hs3⟩, ho⟩
  have HS3 := Lib.hid (((HS2.out.alloc _).alloc _).trans hs3)
  replace HBV := Lib.hid (hs3.blk ((((Stp.refl (fun _ => False) _).alloc _).alloc _).blk HBV.out id) id)
  have HBX := Lib.hid (show w3.heap[w2.heap.size]? = some (.cells #[.int .i64 0, .int .i64 1, .int .i64 87, .int .i64 0, .string ⟨#[]⟩, .int .i64 0, .bool false, .string ⟨#[]⟩, .slice A3 0 p3, .slice A4 0 p4, .bool false] 31 (0, 0)) from hs3.blk (((Stp.refl (fun _ => False) _).alloc _).blk (heap_alloc_new w2 _) id) id)
  clear hs3 kV0 kV1 kV2 kV3 kV4 kV5 kV6 kV7 kV8 kV9 kV10 ltV
  have kV0 : w3.cell? ⟨w1.heap.size, 0, none⟩ = some (.int .i64 1) := blk_cell (j := 0) HBV.out
  have kV1 : w3.cell? ⟨w1.heap.size, 1, none⟩ = some (.int .i64 1) := blk_cell (j := 1) HBV.out
  have kV2 : w3.cell? ⟨w1.heap.size, 2, none⟩ = some (.int .i64 88) := blk_cell (j := 2) HBV.out
  have kV3 : w3.cell? ⟨w1.heap.size, 3, none⟩ = some (.int .i64 0) := blk_cell (j := 3) HBV.out
  have kV4 : w3.cell? ⟨w1.heap.size, 4, none⟩ = some (.string ⟨#[97, 46, 98]⟩) := blk_cell (j := 4) HBV.out
  have kV5 : w3.cell? ⟨w1.heap.size, 5, none⟩ = some (.int .i64 0) := blk_cell (j := 5) HBV.out
  have kV6 : w3.cell? ⟨w1.heap.size, 6, none⟩ = some (.bool true) := blk_cell (j := 6) HBV.out
  have kV7 : w3.cell? ⟨w1.heap.size, 7, none⟩ = some (.string ⟨#[65, 46, 98]⟩) := blk_cell (j := 7) HBV.out
  have kV8 : w3.cell? ⟨w1.heap.size, 8, none⟩ = some (.slice A1 1 p1) := blk_cell (j := 8) HBV.out
  have kV9 : w3.cell? ⟨w1.heap.size, 9, none⟩ = some (.slice A2 0 p2) := blk_cell (j := 9) HBV.out
  have kV10 : w3.cell? ⟨w1.heap.size, 10, none⟩ = some (.bool false) := blk_cell (j := 10) HBV.out
  have ltV := blk_lt HBV.out
  have kX0 : w3.cell? ⟨w2.heap.size, 0, none⟩ = some (.int .i64 0) := blk_cell (j := 0) HBX.out
  have kX1 : w3.cell? ⟨w2.heap.size, 1, none⟩ = some (.int .i64 1) := blk_cell (j := 1) HBX.out
  have kX2 : w3.cell? ⟨w2.heap.size, 2, none⟩ = some (.int .i64 87) := blk_cell (j := 2) HBX.out
  have kX3 : w3.cell? ⟨w2.heap.size, 3, none⟩ = some (.int .i64 0) := blk_cell (j := 3) HBX.out
  have kX4 : w3.cell? ⟨w2.heap.size, 4, none⟩ = some (.string ⟨#[]⟩) := blk_cell (j := 4) HBX.out
  have kX5 : w3.cell? ⟨w2.heap.size, 5, none⟩ = some (.int .i64 0) := blk_cell (j := 5) HBX.out
  have kX6 : w3.cell? ⟨w2.heap.size, 6, none⟩ = some (.bool false) := blk_cell (j := 6) HBX.out
  have kX7 : w3.cell? ⟨w2.heap.size, 7, none⟩ = some (.string ⟨#[]⟩) := blk_cell (j := 7) HBX.out
  have kX8 : w3.cell? ⟨w2.heap.size, 8, none⟩ = some (.slice A3 0 p3) := blk_cell (j := 8) HBX.out
  have kX9 : w3.cell? ⟨w2.heap.size, 9, none⟩ = some (.slice A4 0 p4) := blk_cell (j := 9) HBX.out
  have kX10 : w3.cell? ⟨w2.heap.size, 10, none⟩ = some (.bool false) := blk_cell (j := 10) HBX.out
  have ltX := blk_lt HBX.out
  replace HO := Lib.hid ho
  clear ho
  go_wp2_with (go_at_call 12; refine stopc ?_)
  refine Stop.go ?_
  refine (carry15 (ow := fun w' => Own Value.string 9 B1 w' (.slice A1 1 p1) smP) (smN15_call _) (fun e w' h => by obtain ⟨_, _, _, _, _, hs⟩ := h; exact (HO.out.stp0 ((Stp.refl (fun _ => False) _).alloc _)).stp0 hs)).mono ?_
  rintro e w4 ⟨⟨g, g0, rfl, hg0, hp, hs4⟩, ho⟩
  have HS4 := Lib.hid ((HS3.out.alloc _).trans hs4)
  replace HBV := Lib.hid (hs4.blk (((Stp.refl (fun _ => False) _).alloc _).blk HBV.out id) id)
  replace HBX := Lib.hid (hs4.blk (((Stp.refl (fun _ => False) _).alloc _).blk HBX.out id) id)
  have HBW := Lib.hid (show w4.heap[w3.heap.size]? = some (.cells #[.int .i64 2, .int .i64 1, .int .i64 1, .int .i64 4, .string ⟨#[]⟩, .int .i64 0, .bool false, .string ⟨#[]⟩, .slice A5 0 p5, .slice A6 0 p6, .bool false] 31 (0, 0)) from hs4.blk (heap_alloc_new w3 _) id)
  clear hs4 kV0 kV1 kV2 kV3 kV4 kV5 kV6 kV7 kV8 kV9 kV10 ltV kX0 kX1 kX2 kX3 kX4 kX5 kX6 kX7 kX8 kX9 kX10 ltX
  have kV0 : w4.cell? ⟨w1.heap.size, 0, none⟩ = some (.int .i64 1) := blk_cell (j := 0) HBV.out
  have kV1 : w4.cell? ⟨w1.heap.size, 1, none⟩ = some (.int .i64 1) := blk_cell (j := 1) HBV.out
  have kV2 : w4.cell? ⟨w1.heap.size, 2, none⟩ = some (.int .i64 88) := blk_cell (j := 2) HBV.out
  have kV3 : w4.cell? ⟨w1.heap.size, 3, none⟩ = some (.int .i64 0) := blk_cell (j := 3) HBV.out
  have kV4 : w4.cell? ⟨w1.heap.size, 4, none⟩ = some (.string ⟨#[97, 46, 98]⟩) := blk_cell (j := 4) HBV.out
  have kV5 : w4.cell? ⟨w1.heap.size, 5, none⟩ = some (.int .i64 0) := blk_cell (j := 5) HBV.out
  have kV6 : w4.cell? ⟨w1.heap.size, 6, none⟩ = some (.bool true) := blk_cell (j := 6) HBV.out
  have kV7 : w4.cell? ⟨w1.heap.size, 7, none⟩ = some (.string ⟨#[65, 46, 98]⟩) := blk_cell (j := 7) HBV.out
  have kV8 : w4.cell? ⟨w1.heap.size, 8, none⟩ = some (.slice A1 1 p1) := blk_cell (j := 8) HBV.out
  have kV9 : w4.cell? ⟨w1.heap.size, 9, none⟩ = some (.slice A2 0 p2) := blk_cell (j := 9) HBV.out
  have kV10 : w4.cell? ⟨w1.heap.size, 10, none⟩ = some (.bool false) := blk_cell (j := 10) HBV.out
  have ltV := blk_lt HBV.out
  have kX0 : w4.cell? ⟨w2.heap.size, 0, none⟩ = some (.int .i64 0) := blk_cell (j := 0) HBX.out
  have kX1 : w4.cell? ⟨w2.heap.size, 1, none⟩ = some (.int .i64 1) := blk_cell (j := 1) HBX.out
  have kX2 : w4.cell? ⟨w2.heap.size, 2, none⟩ = some (.int .i64 87) := blk_cell (j := 2) HBX.out
  have kX3 : w4.cell? ⟨w2.heap.size, 3, none⟩ = some (.int .i64 0) := blk_cell (j := 3) HBX.out
  have kX4 : w4.cell? ⟨w2.heap.size, 4, none⟩ = some (.string ⟨#[]⟩) := blk_cell (j := 4) HBX.out
  have kX5 : w4.cell? ⟨w2.heap.size, 5, none⟩ = some (.int .i64 0) := blk_cell (j := 5) HBX.out
  have kX6 : w4.cell? ⟨w2.heap.size, 6, none⟩ = some (.bool false) := blk_cell (j := 6) HBX.out
  have kX7 : w4.cell? ⟨w2.heap.size, 7, none⟩ = some (.string ⟨#[]⟩) := blk_cell (j := 7) HBX.out
  have kX8 : w4.cell? ⟨w2.heap.size, 8, none⟩ = some (.slice A3 0 p3) := blk_cell (j := 8) HBX.out
  have kX9 : w4.cell? ⟨w2.heap.size, 9, none⟩ = some (.slice A4 0 p4) := blk_cell (j := 9) HBX.out
  have kX10 : w4.cell? ⟨w2.heap.size, 10, none⟩ = some (.bool false) := blk_cell (j := 10) HBX.out
  have ltX := blk_lt HBX.out
  have kW0 : w4.cell? ⟨w3.heap.size, 0, none⟩ = some (.int .i64 2) := blk_cell (j := 0) HBW.out
  have kW1 : w4.cell? ⟨w3.heap.size, 1, none⟩ = some (.int .i64 1) := blk_cell (j := 1) HBW.out
  have kW2 : w4.cell? ⟨w3.heap.size, 2, none⟩ = some (.int .i64 1) := blk_cell (j := 2) HBW.out
  have kW3 : w4.cell? ⟨w3.heap.size, 3, none⟩ = some (.int .i64 4) := blk_cell (j := 3) HBW.out
  have kW4 : w4.cell? ⟨w3.heap.size, 4, none⟩ = some (.string ⟨#[]⟩) := blk_cell (j := 4) HBW.out
  have kW5 : w4.cell? ⟨w3.heap.size, 5, none⟩ = some (.int .i64 0) := blk_cell (j := 5) HBW.out
  have kW6 : w4.cell? ⟨w3.heap.size, 6, none⟩ = some (.bool false) := blk_cell (j := 6) HBW.out
  have kW7 : w4.cell? ⟨w3.heap.size, 7, none⟩ = some (.string ⟨#[]⟩) := blk_cell (j := 7) HBW.out
  have kW8 : w4.cell? ⟨w3.heap.size, 8, none⟩ = some (.slice A5 0 p5) := blk_cell (j := 8) HBW.out
  have kW9 : w4.cell? ⟨w3.heap.size, 9, none⟩ = some (.slice A6 0 p6) := blk_cell (j := 9) HBW.out
  have kW10 : w4.cell? ⟨w3.heap.size, 10, none⟩ = some (.bool false) := blk_cell (j := 10) HBW.out
  have ltW := blk_lt HBW.out
  have HG0 := Lib.hid (show W1.heap.size ≤ g0 ∧ ∀ k, (Value.slice A1 1 p1).ownBlock = some k → k < g0 from by
    have h1 := HS3.out.size
    have h2 := HO.out.lt
    simp at hg0
    exact ⟨by omega, fun k hk => by have := (h2 k hk).2; omega⟩)
  have HP := Lib.hid hp
  replace HO := Lib.hid ho
  have ltg := hp.lt
  clear ho hp hg0
  go_wp2_with (go_at_call 13; refine stopc ?_)
  refine Stop.go ?_
  refine (carry15 (ow := fun w' => Own Value.string 9 B1 w' (.slice A1 1 p1) smP) (smT15_call g0 g _ HP.out ⟨W1, HM.out, HG0.out.1, HS4.out⟩) (fun e w' h => by obtain ⟨_, _, _, _, _, _, hs⟩ := h; exact HO.out.step hs (fun k hk h => by have := h.1; have := HG0.out.2 k hk; omega))).mono ?_
  rintro e w5 ⟨⟨A7, p7, A8, p8, rfl, hp, hs5⟩, ho⟩
  have HS5 := Lib.hid (HS4.out.then_ hs5 (fun j hj h => by have := h.1; have := HG0.out.1; omega))
  replace HBV := Lib.hid (hs5.blk HBV.out (fun h => h.2 ⟨_, _, HBV.out⟩))
  replace HBX := Lib.hid (hs5.blk HBX.out (fun h => h.2 ⟨_, _, HBX.out⟩))
  replace HBW := Lib.hid (hs5.blk HBW.out (fun h => h.2 ⟨_, _, HBW.out⟩))
  clear hs5 kV0 kV1 kV2 kV3 kV4 kV5 kV6 kV7 kV8 kV9 kV10 ltV kX0 kX1 kX2 kX3 kX4 kX5 kX6 kX7 kX8 kX9 kX10 ltX kW0 kW1 kW2 kW3 kW4 kW5 kW6 kW7 kW8 kW9 kW10 ltW
  have kV0 : w5.cell? ⟨w1.heap.size, 0, none⟩ = some (.int .i64 1) := blk_cell (j := 0) HBV.out
  have kV1 : w5.cell? ⟨w1.heap.size, 1, none⟩ = some (.int .i64 1) := blk_cell (j := 1) HBV.out
  have kV2 : w5.cell? ⟨w1.heap.size, 2, none⟩ = some (.int .i64 88) := blk_cell (j := 2) HBV.out
  have kV3 : w5.cell? ⟨w1.heap.size, 3, none⟩ = some (.int .i64 0) := blk_cell (j := 3) HBV.out
  have kV4 : w5.cell? ⟨w1.heap.size, 4, none⟩ = some (.string ⟨#[97, 46, 98]⟩) := blk_cell (j := 4) HBV.out
  have kV5 : w5.cell? ⟨w1.heap.size, 5, none⟩ = some (.int .i64 0) := blk_cell (j := 5) HBV.out
  have kV6 : w5.cell? ⟨w1.heap.size, 6, none⟩ = some (.bool true) := blk_cell (j := 6) HBV.out
  have kV7 : w5.cell? ⟨w1.heap.size, 7, none⟩ = some (.string ⟨#[65, 46, 98]⟩) := blk_cell (j := 7) HBV.out
  have kV8 : w5.cell? ⟨w1.heap.size, 8, none⟩ = some (.slice A1 1 p1) := blk_cell (j := 8) HBV.out
  have kV9 : w5.cell? ⟨w1.heap.size, 9, none⟩ = some (.slice A2 0 p2) := blk_cell (j := 9) HBV.out
  have kV10 : w5.cell? ⟨w1.heap.size, 10, none⟩ = some (.bool false) := blk_cell (j := 10) HBV.out
  have ltV := blk_lt HBV.out
  have kX0 : w5.cell? ⟨w2.heap.size, 0, none⟩ = some (.int .i64 0) := blk_cell (j := 0) HBX.out
  have kX1 : w5.cell? ⟨w2.heap.size, 1, none⟩ = some (.int .i64 1) := blk_cell (j := 1) HBX.out
  have kX2 : w5.cell? ⟨w2.heap.size, 2, none⟩ = some (.int .i64 87) := blk_cell (j := 2) HBX.out
  have kX3 : w5.cell? ⟨w2.heap.size, 3, none⟩ = some (.int .i64 0) := blk_cell (j := 3) HBX.out
  have kX4 : w5.cell? ⟨w2.heap.size, 4, none⟩ = some (.string ⟨#[]⟩) := blk_cell (j := 4) HBX.out
  have kX5 : w5.cell? ⟨w2.heap.size, 5, none⟩ = some (.int .i64 0) := blk_cell (j := 5) HBX.out
  have kX6 : w5.cell? ⟨w2.heap.size, 6, none⟩ = some (.bool false) := blk_cell (j := 6) HBX.out
  have kX7 : w5.cell? ⟨w2.heap.size, 7, none⟩ = some (.string ⟨#[]⟩) := blk_cell (j := 7) HBX.out
  have kX8 : w5.cell? ⟨w2.heap.size, 8, none⟩ = some (.slice A3 0 p3) := blk_cell (j := 8) HBX.out
  have kX9 : w5.cell? ⟨w2.heap.size, 9, none⟩ = some (.slice A4 0 p4) := blk_cell (j := 9) HBX.out
  have kX10 : w5.cell? ⟨w2.heap.size, 10, none⟩ = some (.bool false) := blk_cell (j := 10) HBX.out
  have ltX := blk_lt HBX.out
  have kW0 : w5.cell? ⟨w3.heap.size, 0, none⟩ = some (.int .i64 2) := blk_cell (j := 0) HBW.out
  have kW1 : w5.cell? ⟨w3.heap.size, 1, none⟩ = some (.int .i64 1) := blk_cell (j := 1) HBW.out
  have kW2 : w5.cell? ⟨w3.heap.size, 2, none⟩ = some (.int .i64 1) := blk_cell (j := 2) HBW.out
  have kW3 : w5.cell? ⟨w3.heap.size, 3, none⟩ = some (.int .i64 4) := blk_cell (j := 3) HBW.out
  have kW4 : w5.cell? ⟨w3.heap.size, 4, none⟩ = some (.string ⟨#[]⟩) := blk_cell (j := 4) HBW.out
  have kW5 : w5.cell? ⟨w3.heap.size, 5, none⟩ = some (.int .i64 0) := blk_cell (j := 5) HBW.out
  have kW6 : w5.cell? ⟨w3.heap.size, 6, none⟩ = some (.bool false) := blk_cell (j := 6) HBW.out
  have kW7 : w5.cell? ⟨w3.heap.size, 7, none⟩ = some (.string ⟨#[]⟩) := blk_cell (j := 7) HBW.out
  have kW8 : w5.cell? ⟨w3.heap.size, 8, none⟩ = some (.slice A5 0 p5) := blk_cell (j := 8) HBW.out
  have kW9 : w5.cell? ⟨w3.heap.size, 9, none⟩ = some (.slice A6 0 p6) := blk_cell (j := 9) HBW.out
  have kW10 : w5.cell? ⟨w3.heap.size, 10, none⟩ = some (.bool false) := blk_cell (j := 10) HBW.out
  have ltW := blk_lt HBW.out
  replace HP := Lib.hid hp
  replace HO := Lib.hid ho
  have ltg := hp.lt
  clear ho hp
  go_wp2_with (go_at_call 13; refine stopc ?_)
  refine Stop.go ?_
  refine (carry15 (ow := fun w' => Own Value.string 9 B1 w' (.slice A1 1 p1) smP) (smY15_call g0 g _ HP.out ⟨W1, HM.out, HG0.out.1, HS5.out⟩) (fun e w' h => by obtain ⟨_, _, _, _, _, _, hs⟩ := h; exact HO.out.step hs (fun k hk h => by have := h.1; have := HG0.out.2 k hk; omega))).mono ?_
  rintro e w6 ⟨⟨A9, p9, A10, p10, rfl, hp, hs6⟩, ho⟩
  have HS6 := Lib.hid (HS5.out.then_ hs6 (fun j hj h => by have := h.1; have := HG0.out.1; omega))
  replace HBV := Lib.hid (hs6.blk HBV.out (fun h => h.2 ⟨_, _, HBV.out⟩))
  replace HBX := Lib.hid (hs6.blk HBX.out (fun h => h.2 ⟨_, _, HBX.out⟩))
  replace HBW := Lib.hid (hs6.blk HBW.out (fun h => h.2 ⟨_, _, HBW.out⟩))
  clear hs6 kV0 kV1 kV2 kV3 kV4 kV5 kV6 kV7 kV8 kV9 kV10 ltV kX0 kX1 kX2 kX3 kX4 kX5 kX6 kX7 kX8 kX9 kX10 ltX kW0 kW1 kW2 kW3 kW4 kW5 kW6 kW7 kW8 kW9 kW10 ltW
  have kV0 : w6.cell? ⟨w1.heap.size, 0, none⟩ = some (.int .i64 1) := blk_cell (j := 0) HBV.out
  have kV1 : w6.cell? ⟨w1.heap.size, 1, none⟩ = some (.int .i64 1) := blk_cell (j := 1) HBV.out
  have kV2 : w6.cell? ⟨w1.heap.size, 2, none⟩ = some (.int .i64 88) := blk_cell (j := 2) HBV.out
  have kV3 : w6.cell? ⟨w1.heap.size, 3, none⟩ = some (.int .i64 0) := blk_cell (j := 3) HBV.out
  have kV4 : w6.cell? ⟨w1.heap.size, 4, none⟩ = some (.string ⟨#[97, 46, 98]⟩) := blk_cell (j := 4) HBV.out
  have kV5 : w6.cell? ⟨w1.heap.size, 5, none⟩ = some (.int .i64 0) := blk_cell (j := 5) HBV.out
  have kV6 : w6.cell? ⟨w1.heap.size, 6, none⟩ = some (.bool true) := blk_cell (j := 6) HBV.out
  have kV7 : w6.cell? ⟨w1.heap.size, 7, none⟩ = some (.string ⟨#[65, 46, 98]⟩) := blk_cell (j := 7) HBV.out
  have kV8 : w6.cell? ⟨w1.heap.size, 8, none⟩ = some (.slice A1 1 p1) := blk_cell (j := 8) HBV.out
  have kV9 : w6.cell? ⟨w1.heap.size, 9, none⟩ = some (.slice A2 0 p2) := blk_cell (j := 9) HBV.out
  have kV10 : w6.cell? ⟨w1.heap.size, 10, none⟩ = some (.bool false) := blk_cell (j := 10) HBV.out
  have ltV := blk_lt HBV.out
  have kX0 : w6.cell? ⟨w2.heap.size, 0, none⟩ = some (.int .i64 0) := blk_cell (j := 0) HBX.out
  have kX1 : w6.cell? ⟨w2.heap.size, 1, none⟩ = some (.int .i64 1) := blk_cell (j := 1) HBX.out
  have kX2 : w6.cell? ⟨w2.heap.size, 2, none⟩ = some (.int .i64 87) := blk_cell (j := 2) HBX.out
  have kX3 : w6.cell? ⟨w2.heap.size, 3, none⟩ = some (.int .i64 0) := blk_cell (j := 3) HBX.out
  have kX4 : w6.cell? ⟨w2.heap.size, 4, none⟩ = some (.string ⟨#[]⟩) := blk_cell (j := 4) HBX.out
  have kX5 : w6.cell? ⟨w2.heap.size, 5, none⟩ = some (.int .i64 0) := blk_cell (j := 5) HBX.out
  have kX6 : w6.cell? ⟨w2.heap.size, 6, none⟩ = some (.bool false) := blk_cell (j := 6) HBX.out
  have kX7 : w6.cell? ⟨w2.heap.size, 7, none⟩ = some (.string ⟨#[]⟩) := blk_cell (j := 7) HBX.out
  have kX8 : w6.cell? ⟨w2.heap.size, 8, none⟩ = some (.slice A3 0 p3) := blk_cell (j := 8) HBX.out
  have kX9 : w6.cell? ⟨w2.heap.size, 9, none⟩ = some (.slice A4 0 p4) := blk_cell (j := 9) HBX.out
  have kX10 : w6.cell? ⟨w2.heap.size, 10, none⟩ = some (.bool false) := blk_cell (j := 10) HBX.out
  have ltX := blk_lt HBX.out
  have kW0 : w6.cell? ⟨w3.heap.size, 0, none⟩ = some (.int .i64 2) := blk_cell (j := 0) HBW.out
  have kW1 : w6.cell? ⟨w3.heap.size, 1, none⟩ = some (.int .i64 1) := blk_cell (j := 1) HBW.out
  have kW2 : w6.cell? ⟨w3.heap.size, 2, none⟩ = some (.int .i64 1) := blk_cell (j := 2) HBW.out
  have kW3 : w6.cell? ⟨w3.heap.size, 3, none⟩ = some (.int .i64 4) := blk_cell (j := 3) HBW.out
  have kW4 : w6.cell? ⟨w3.heap.size, 4, none⟩ = some (.string ⟨#[]⟩) := blk_cell (j := 4) HBW.out
  have kW5 : w6.cell? ⟨w3.heap.size, 5, none⟩ = some (.int .i64 0) := blk_cell (j := 5) HBW.out
  have kW6 : w6.cell? ⟨w3.heap.size, 6, none⟩ = some (.bool false) := blk_cell (j := 6) HBW.out
  have kW7 : w6.cell? ⟨w3.heap.size, 7, none⟩ = some (.string ⟨#[]⟩) := blk_cell (j := 7) HBW.out
  have kW8 : w6.cell? ⟨w3.heap.size, 8, none⟩ = some (.slice A5 0 p5) := blk_cell (j := 8) HBW.out
  have kW9 : w6.cell? ⟨w3.heap.size, 9, none⟩ = some (.slice A6 0 p6) := blk_cell (j := 9) HBW.out
  have kW10 : w6.cell? ⟨w3.heap.size, 10, none⟩ = some (.bool false) := blk_cell (j := 10) HBW.out
  have ltW := blk_lt HBW.out
  replace HP := Lib.hid hp
  replace HO := Lib.hid ho
  have ltg := hp.lt
  clear ho hp
  go_wp2_with (go_at_call 13; refine stopc ?_)
  refine Stop.go ?_
  refine (carry15 (ow := fun w' => Own Value.string 9 B1 w' (.slice A1 1 p1) smP) (smZ15_call g _ _ (KnT.stp0 HP.out ((Stp.refl (fun _ => False) _).alloc _))) (fun e w' h => by obtain ⟨_, _, _, _, _, hs⟩ := h; exact (HO.out.stp0 ((Stp.refl (fun _ => False) _).alloc _)).stp0 hs)).mono ?_
  rintro e w7 ⟨⟨A11, p11, A12, p12, rfl, hs7⟩, ho⟩
  have HS7 := Lib.hid ((HS6.out.alloc _).trans hs7)
  replace HBV := Lib.hid (hs7.blk (((Stp.refl (fun _ => False) _).alloc _).blk HBV.out id) id)
  replace HBX := Lib.hid (hs7.blk (((Stp.refl (fun _ => False) _).alloc _).blk HBX.out id) id)
  replace HBW := Lib.hid (hs7.blk (((Stp.refl (fun _ => False) _).alloc _).blk HBW.out id) id)
  have HBY := Lib.hid (show w7.heap[w6.heap.size]? = some (.cells #[.int .i64 2, .int .i64 1, .int .i64 2, .int .i64 5, .string ⟨#[]⟩, .int .i64 0, .bool false, .string ⟨#[]⟩, .slice A9 0 p9, .slice A10 0 p10, .bool false] 31 (0, 0)) from hs7.blk (heap_alloc_new w6 _) id)
  clear hs7 kV0 kV1 kV2 kV3 kV4 kV5 kV6 kV7 kV8 kV9 kV10 ltV kX0 kX1 kX2 kX3 kX4 kX5 kX6 kX7 kX8 kX9 kX10 ltX kW0 kW1 kW2 kW3 kW4 kW5 kW6 kW7 kW8 kW9 kW10 ltW
  have kV0 : w7.cell? ⟨w1.heap.size, 0, none⟩ = some (.int .i64 1) := blk_cell (j := 0) HBV.out
  have kV1 : w7.cell? ⟨w1.heap.size, 1, none⟩ = some (.int .i64 1) := blk_cell (j := 1) HBV.out
  have kV2 : w7.cell? ⟨w1.heap.size, 2, none⟩ = some (.int .i64 88) := blk_cell (j := 2) HBV.out
  have kV3 : w7.cell? ⟨w1.heap.size, 3, none⟩ = some (.int .i64 0) := blk_cell (j := 3) HBV.out
  have kV4 : w7.cell? ⟨w1.heap.size, 4, none⟩ = some (.string ⟨#[97, 46, 98]⟩) := blk_cell (j := 4) HBV.out
  have kV5 : w7.cell? ⟨w1.heap.size, 5, none⟩ = some (.int .i64 0) := blk_cell (j := 5) HBV.out
  have kV6 : w7.cell? ⟨w1.heap.size, 6, none⟩ = some (.bool true) := blk_cell (j := 6) HBV.out
  have kV7 : w7.cell? ⟨w1.heap.size, 7, none⟩ = some (.string ⟨#[65, 46, 98]⟩) := blk_cell (j := 7) HBV.out
  have kV8 : w7.cell? ⟨w1.heap.size, 8, none⟩ = some (.slice A1 1 p1) := blk_cell (j := 8) HBV.out
  have kV9 : w7.cell? ⟨w1.heap.size, 9, none⟩ = some (.slice A2 0 p2) := blk_cell (j := 9) HBV.out
  have kV10 : w7.cell? ⟨w1.heap.size, 10, none⟩ = some (.bool false) := blk_cell (j := 10) HBV.out
  have ltV := blk_lt HBV.out
  have kX0 : w7.cell? ⟨w2.heap.size, 0, none⟩ = some (.int .i64 0) := blk_cell (j := 0) HBX.out
  have kX1 : w7.cell? ⟨w2.heap.size, 1, none⟩ = some (.int .i64 1) := blk_cell (j := 1) HBX.out
  have kX2 : w7.cell? ⟨w2.heap.size, 2, none⟩ = some (.int .i64 87) := blk_cell (j := 2) HBX.out
  have kX3 : w7.cell? ⟨w2.heap.size, 3, none⟩ = some (.int .i64 0) := blk_cell (j := 3) HBX.out
  have kX4 : w7.cell? ⟨w2.heap.size, 4, none⟩ = some (.string ⟨#[]⟩) := blk_cell (j := 4) HBX.out
  have kX5 : w7.cell? ⟨w2.heap.size, 5, none⟩ = some (.int .i64 0) := blk_cell (j := 5) HBX.out
  have kX6 : w7.cell? ⟨w2.heap.size, 6, none⟩ = some (.bool false) := blk_cell (j := 6) HBX.out
  have kX7 : w7.cell? ⟨w2.heap.size, 7, none⟩ = some (.string ⟨#[]⟩) := blk_cell (j := 7) HBX.out
  have kX8 : w7.cell? ⟨w2.heap.size, 8, none⟩ = some (.slice A3 0 p3) := blk_cell (j := 8) HBX.out
  have kX9 : w7.cell? ⟨w2.heap.size, 9, none⟩ = some (.slice A4 0 p4) := blk_cell (j := 9) HBX.out
  have kX10 : w7.cell? ⟨w2.heap.size, 10, none⟩ = some (.bool false) := blk_cell (j := 10) HBX.out
  have ltX := blk_lt HBX.out
  have kW0 : w7.cell? ⟨w3.heap.size, 0, none⟩ = some (.int .i64 2) := blk_cell (j := 0) HBW.out
  have kW1 : w7.cell? ⟨w3.heap.size, 1, none⟩ = some (.int .i64 1) := blk_cell (j := 1) HBW.out
  have kW2 : w7.cell? ⟨w3.heap.size, 2, none⟩ = some (.int .i64 1) := blk_cell (j := 2) HBW.out
  have kW3 : w7.cell? ⟨w3.heap.size, 3, none⟩ = some (.int .i64 4) := blk_cell (j := 3) HBW.out
  have kW4 : w7.cell? ⟨w3.heap.size, 4, none⟩ = some (.string ⟨#[]⟩) := blk_cell (j := 4) HBW.out
  have kW5 : w7.cell? ⟨w3.heap.size, 5, none⟩ = some (.int .i64 0) := blk_cell (j := 5) HBW.out
  have kW6 : w7.cell? ⟨w3.heap.size, 6, none⟩ = some (.bool false) := blk_cell (j := 6) HBW.out
  have kW7 : w7.cell? ⟨w3.heap.size, 7, none⟩ = some (.string ⟨#[]⟩) := blk_cell (j := 7) HBW.out
  have kW8 : w7.cell? ⟨w3.heap.size, 8, none⟩ = some (.slice A5 0 p5) := blk_cell (j := 8) HBW.out
  have kW9 : w7.cell? ⟨w3.heap.size, 9, none⟩ = some (.slice A6 0 p6) := blk_cell (j := 9) HBW.out
  have kW10 : w7.cell? ⟨w3.heap.size, 10, none⟩ = some (.bool false) := blk_cell (j := 10) HBW.out
  have ltW := blk_lt HBW.out
  have kY0 : w7.cell? ⟨w6.heap.size, 0, none⟩ = some (.int .i64 2) := blk_cell (j := 0) HBY.out
  have kY1 : w7.cell? ⟨w6.heap.size, 1, none⟩ = some (.int .i64 1) := blk_cell (j := 1) HBY.out
  have kY2 : w7.cell? ⟨w6.heap.size, 2, none⟩ = some (.int .i64 2) := blk_cell (j := 2) HBY.out
  have kY3 : w7.cell? ⟨w6.heap.size, 3, none⟩ = some (.int .i64 5) := blk_cell (j := 3) HBY.out
  have kY4 : w7.cell? ⟨w6.heap.size, 4, none⟩ = some (.string ⟨#[]⟩) := blk_cell (j := 4) HBY.out
  have kY5 : w7.cell? ⟨w6.heap.size, 5, none⟩ = some (.int .i64 0) := blk_cell (j := 5) HBY.out
  have kY6 : w7.cell? ⟨w6.heap.size, 6, none⟩ = some (.bool false) := blk_cell (j := 6) HBY.out
  have kY7 : w7.cell? ⟨w6.heap.size, 7, none⟩ = some (.string ⟨#[]⟩) := blk_cell (j := 7) HBY.out
  have kY8 : w7.cell? ⟨w6.heap.size, 8, none⟩ = some (.slice A9 0 p9) := blk_cell (j := 8) HBY.out
  have kY9 : w7.cell? ⟨w6.heap.size, 9, none⟩ = some (.slice A10 0 p10) := blk_cell (j := 9) HBY.out
  have kY10 : w7.cell? ⟨w6.heap.size, 10, none⟩ = some (.bool false) := blk_cell (j := 10) HBY.out
  have ltY := blk_lt HBY.out
  clear HP HO
  obtain ⟨ga, hA1, -, -, hga⟩ := ho.at_ (by decide)
  subst hA1
  have hca : w7.cell? ⟨ga, 0, none⟩ = some (.string ⟨#[104, 50]⟩) := ho.cellAt 0 (by decide)
  clear ho
  go_wp2
  rw [HR.out]
  exact ⟨rfl, HSW.out.trans (HS7.out.alloc _)⟩
end Go.Proofs.YtligofmhbbgalaaGreatDoor.L

/- Layer 15: the laws TlspeekAll and TlspeekBad. -/
namespace Go.Proofs.YtligofmhbbgalaaGreatDoor.L
open Go.RowKit Go.Proofs

def fewT (v : Vt) : Prop := v.sn.alpn.length ≤ 65535 ∧ v.sn.vers.length ≤ 65535
theorem judgeT_few (b : List UInt8) : fewT (judgeT b) := by
  have hx := seeS_len (parseS b).1.exs 65535 (parse_fit b).2
  rw [judgeT_see]
  split
  · exact ⟨Nat.zero_le _, Nat.zero_le _⟩
  · unfold seeT
    split
    · exact ⟨Nat.zero_le _, Nat.zero_le _⟩
    · split
      · exact hx
      · exact hx
theorem stepT_few (t : Ts) (c : UInt8) : fewT (stepT t c).2 := by
  rw [stepT_stp2]
  split
  · exact ⟨Nat.zero_le _, Nat.zero_le _⟩
  · split
    · exact judgeT_few _
    · exact ⟨Nat.zero_le _, Nat.zero_le _⟩
theorem runT_few (s : Ts) (u : Nat) (b : List UInt8) : fewT (runT s u b).1 := by
  induction b generalizing s u with
  | nil => exact ⟨Nat.zero_le _, Nat.zero_le _⟩
  | cons c b ih =>
    rw [runT_cons]
    split
    · exact ih _ _
    · exact stepT_few _ _
def AoP (w : World) (q : Vt × Nat) (e : Ending) (w' : World) : Prop := ∃ va vv, e = .returned (vtV q.1 q.2 va vv) ∧ VtR (fun _ => False) w' q.1 va vv ∧ Stp (fun _ => False) w w'
theorem tallV_any (M : Nat → Prop) (vb : Value) (b : List UInt8) (w : World) (hb : Rd u8 M w vb b) (hl : b.length ≤ 1000000) (he : EnvP w) : Calls Tryz.prog 10 #[vb] w (AoP w (allT b)) := by
  refine (tall_any M vb b w hb hl he).mono ?_
  rintro e w1 ⟨va, vv, rfl, h1, h2, hs⟩
  have hf := runT_few .new 0 b
  exact ⟨va, vv, rfl, ⟨h1.rd (h1 := fun _ => rfl) (fun _ _ => id), h2.rd (h1 := fun _ => rfl) (fun _ _ => id), hf.1, hf.2⟩, hs⟩
theorem rallV_any (M : Nat → Prop) (vb : Value) (b : List UInt8) (w : World) (hb : Rd u8 M w vb b) (hl : b.length ≤ 1000000) : Calls Tryz.prog 11 #[vb] w (AoP w (allT b)) := by
  refine (rallT_any M vb b w hb hl).mono ?_
  rintro e w1 ⟨va, vv, rfl, h1, hs⟩
  exact ⟨va, vv, rfl, h1.weak (fun _ _ h => h.elim), hs⟩
/-- The cells of what All tells. -/
theorem tallC_any (M : Nat → Prop) (vb : Value) (b : List UInt8) (w : World) (hb : Rd u8 M w vb b) (hl : b.length ≤ 1000000) (he : EnvP w) {st rs : Int} {ho : List UInt8} {has ec : Bool} {nm : ByteArray} {al : List ByteArray} {vs : List Int} {u : Nat} (hq : allT b = (⟨st, rs, ho, ⟨has, nm, al, vs, ec⟩⟩, u)) {H : ByteArray} (hH : H = strB ho) :
    Calls Tryz.prog 10 #[vb] w fun e w' => ∃ A p B q, e = .returned (.agg #[.int .i64 st, .int .i64 1, .int .i64 (u : Int), .int .i64 rs, .string H, .int .i64 0, .bool has, .string nm, .slice A al.length p, .slice B vs.length q, .bool ec]) ∧ VtR (fun _ => False) w' ⟨st, rs, ho, ⟨has, nm, al, vs, ec⟩⟩ (.slice A al.length p) (.slice B vs.length q) ∧ Stp (fun _ => False) w w' := by
  refine (tallV_any M vb b w hb hl he).mono ?_
  rintro e w1 ⟨va, vv, rfl, h1, hs⟩
  rw [hq] at h1 ⊢
  obtain ⟨A, p, rfl, -⟩ := h1.1.form
  obtain ⟨B, q, rfl, -⟩ := h1.2.1.form
  subst hH
  exact ⟨A, p, B, q, rfl, h1, hs⟩
set_option maxRecDepth 100000 in
set_option maxHeartbeats 8000000 in
theorem all15_any (M : Nat → Prop) (vb : Value) (b : List UInt8) (w : World) (hb : Rd u8 M w vb b) (he : EnvP w) :
    Calls Tryz.prog 3 #[vb] w (TrueT w) := by
  obtain ⟨A, cp, rfl, hle⟩ := hb.form
  have hcm := hb.at_.2.2.1
  unfold maxLen at hcm
  obtain ⟨R, hR⟩ : ∃ R, R = TrueT w := ⟨_, rfl⟩
  rw [← hR]
  have HR := Lib.hid hR
  have HM := Lib.hid he
  have HB := Lib.hid hb
  clear hR he hb
  by_cases hbig : b.length ≤ 5000
  · have h1 : decide ((5000 : Int) < (b.length : Int)) = false := decide_eq_false (by omega)
    have cA := fun W hW hE => tallV_any M (.slice A b.length cp) b W (HB.out.stp0 hW) (by omega) hE
    have cR := fun W hW => rallV_any M (.slice A b.length cp) b W (HB.out.stp0 hW) (by omega)
    obtain ⟨q, hq⟩ : ∃ q, q = allT b := ⟨_, rfl⟩
    rw [← hq] at cA cR
    obtain ⟨V, U⟩ := q
    unfold AoP at cA cR
    simp only at cA cR
    clear hq hbig
    have HS0 := Lib.hid (Stp.refl (fun _ => False) w)
    go_enter Tryz.func3, Tryz.ntmps3
    go_wp2_with (go_at_call 8; refine stopc ?_)
    refine Stop.go ?_
    refine (small15_any _ (HM.out.step HS0.out)).mono ?_
    rintro e w1 ⟨he, hs1⟩
    subst he
    have HS1 := Lib.hid (HS0.out.trans hs1)
    clear hs1
    go_wp2_with (go_at_call 10; refine stopc ?_)
    refine Stop.go ?_
    refine (cA _ HS1.out (HM.out.step HS1.out)).mono ?_
    rintro e w2 ⟨va, vv, rfl, hv1, hs2⟩
    have HS2 := Lib.hid (HS1.out.trans hs2)
    clear hs2
    have HV1 := Lib.hid hv1
    clear hv1
    go_wp2_with (go_at_call 11; refine stopc ?_)
    refine Stop.go ?_
    refine (carry15 (ow := fun w' => VtR (fun _ => False) w' V va vv) (cR _ HS2.out) (fun e w' h => by obtain ⟨_, _, _, _, hs⟩ := h; exact HV1.out.stp0 hs)).mono ?_
    rintro e w3 ⟨⟨ua, uv, rfl, hv2, hs3⟩, ho⟩
    have HS3 := Lib.hid (HS2.out.trans hs3)
    clear hs3
    have HV2 := Lib.hid (And.intro ho hv2)
    clear ho hv2 HV1
    go_wp2_with (go_at_call 9; refine stopc ?_)
    refine Stop.go ?_
    refine (same15T_any (fun _ => False) V U va vv ua uv _ HV2.out.1 HV2.out.2).mono ?_
    rintro e w4 ⟨he, hs4⟩
    subst he
    have HS4 := Lib.hid (HS3.out.trans hs4)
    clear hs4
    go_wp2
    rw [HR.out]
    exact ⟨rfl, HS4.out⟩
  · have h1 : decide ((5000 : Int) < (b.length : Int)) = true := decide_eq_true (by omega)
    clear hbig
    have HS0 := Lib.hid (Stp.refl (fun _ => False) w)
    go_enter Tryz.func3, Tryz.ntmps3
    go_wp2_with (go_at_call 8; refine stopc ?_)
    refine Stop.go ?_
    refine (small15_any _ (HM.out.step HS0.out)).mono ?_
    rintro e w1 ⟨he, hs1⟩
    subst he
    have HS1 := Lib.hid (HS0.out.trans hs1)
    clear hs1
    go_wp2
    rw [HR.out]
    exact ⟨rfl, HS1.out⟩

/-! ### TlspeekBad -/
set_option maxRecDepth 100000 in
set_option maxHeartbeats 8000000 in
theorem bad15_any (M : Nat → Prop) (vb : Value) (b : List UInt8) (w : World) (hb : Rd u8 M w vb b) (he : EnvP w) :
    Calls Tryz.prog 6 #[vb] w (TrueT w) := by
  obtain ⟨A, cp, rfl, hle⟩ := hb.form
  have hcm := hb.at_.2.2.1
  unfold maxLen at hcm
  obtain ⟨R, hR⟩ : ∃ R, R = TrueT w := ⟨_, rfl⟩
  rw [← hR]
  have HR := Lib.hid hR
  have HM := Lib.hid he
  have HB := Lib.hid hb
  clear hR he hb
  by_cases hbig : b.length ≤ 5000
  · have h1 : decide ((5000 : Int) < (b.length : Int)) = false := decide_eq_false (by omega)
    have hst := runT_state .new 0 b
    obtain ⟨q, hq⟩ : ∃ q, q = allT b := ⟨_, rfl⟩
    unfold allT at hq
    rw [← hq] at hst
    have hq2 : allT b = q := hq.symm
    obtain ⟨⟨st, rs, ho, ⟨has, nm, al, vs, ec⟩⟩, n⟩ := q
    simp only at hst
    rcases hst with hst | ⟨hst1, hst2⟩ | ⟨e, he, hst⟩
    · injection hst with q1 q2 q3 q4
      injection q4 with q4 q5 q6 q7 q8
      subst q1; subst q2; subst q3; subst q4; subst q5; subst q6; subst q7; subst q8
      have cA := fun W hW hE => tallC_any M (.slice A b.length cp) b W (HB.out.stp0 hW) (by omega) hE hq2 (H := ⟨#[]⟩) rfl
      clear hq hq2 hbig
      have HS0 := Lib.hid (Stp.refl (fun _ => False) w)
      go_enter Tryz.func6, Tryz.ntmps6
      go_wp2_with (go_at_call 8; refine stopc ?_)
      refine Stop.go ?_
      refine (small15_any _ (HM.out.step HS0.out)).mono ?_
      rintro e w1 ⟨he, hs1⟩
      subst he
      have HS1 := Lib.hid (HS0.out.trans hs1)
      clear hs1
      go_wp2_with (go_at_call 10; refine stopc ?_)
      refine Stop.go ?_
      refine (cA _ HS1.out (HM.out.step HS1.out)).mono ?_
      rintro e w2 ⟨A1, p1, A2, p2, rfl, hv1, hs2⟩
      have HS2 := Lib.hid (HS1.out.trans hs2)
      clear hs2
      clear hv1
      go_wp2
      rw [HR.out]
      exact ⟨rfl, (HS2.out).alloc _⟩
    · subst hst1
      subst hst2
      obtain ⟨H, hH⟩ : ∃ H, H = strB ho := ⟨_, rfl⟩
      have cA := fun W hW hE => tallC_any M (.slice A b.length cp) b W (HB.out.stp0 hW) (by omega) hE hq2 hH
      clear hq hq2 hbig hH
      have HS0 := Lib.hid (Stp.refl (fun _ => False) w)
      go_enter Tryz.func6, Tryz.ntmps6
      go_wp2_with (go_at_call 8; refine stopc ?_)
      refine Stop.go ?_
      refine (small15_any _ (HM.out.step HS0.out)).mono ?_
      rintro e w1 ⟨he, hs1⟩
      subst he
      have HS1 := Lib.hid (HS0.out.trans hs1)
      clear hs1
      go_wp2_with (go_at_call 10; refine stopc ?_)
      refine Stop.go ?_
      refine (cA _ HS1.out (HM.out.step HS1.out)).mono ?_
      rintro e w2 ⟨A1, p1, A2, p2, rfl, hv1, hs2⟩
      have HS2 := Lib.hid (HS1.out.trans hs2)
      clear hs2
      clear hv1
      go_upto_region 5 with fail
      go_cut [5] (fun v wx => ∃ bb, v = .bool bb ∧ wx = w2.alloc (.cells #[.int .i64 1, .int .i64 1, .int .i64 (n : Int), .int .i64 0, .string H, .int .i64 0, .bool has, .string nm, .slice A1 al.length p1, .slice A2 vs.length p2, .bool ec] 31))
      case first =>
        obtain ⟨b1, h1⟩ : ∃ b1, (H.toList == []) = b1 := ⟨_, rfl⟩
        obtain ⟨b2, h2⟩ : ∃ b2, (nm.toList == []) = b2 := ⟨_, rfl⟩
        obtain ⟨b3, h3⟩ : ∃ b3, ((al.length : Int) == 0) = b3 := ⟨_, rfl⟩
        obtain ⟨b4, h4⟩ : ∃ b4, ((vs.length : Int) == 0) = b4 := ⟨_, rfl⟩
        cases b1 with
        | false =>
          go_wp2
          go_meet
          exact ⟨_, rfl, rfl⟩
        | true =>
          cases has with
          | true =>
            go_wp2
            go_meet
            exact ⟨_, rfl, rfl⟩
          | false =>
            cases b2 with
            | false =>
              go_wp2
              go_meet
              exact ⟨_, rfl, rfl⟩
            | true =>
              cases b3 with
              | false =>
                go_wp2
                go_meet
                exact ⟨_, rfl, rfl⟩
              | true =>
                cases b4 with
                | false =>
                  go_wp2
                  go_meet
                  exact ⟨_, rfl, rfl⟩
                | true =>
                  go_wp2
                  go_meet
                  exact ⟨_, rfl, rfl⟩
      case rest =>
        obtain ⟨bb, rfl, rfl⟩ := hcut
        go_wp2
        rw [HR.out]
        exact ⟨rfl, (HS2.out).alloc _⟩
    · injection hst with q1 q2 q3 q4
      injection q4 with q4 q5 q6 q7 q8
      subst q1; subst q2; subst q3; subst q4; subst q5; subst q6; subst q7; subst q8
      have cA := fun W hW hE => tallC_any M (.slice A b.length cp) b W (HB.out.stp0 hW) (by omega) hE hq2 (H := ⟨#[]⟩) rfl
      have hne : (rs != 0) = true := by simpa using he
      clear hq hq2 hbig he
      have HS0 := Lib.hid (Stp.refl (fun _ => False) w)
      go_enter Tryz.func6, Tryz.ntmps6
      go_wp2_with (go_at_call 8; refine stopc ?_)
      refine Stop.go ?_
      refine (small15_any _ (HM.out.step HS0.out)).mono ?_
      rintro e w1 ⟨he, hs1⟩
      subst he
      have HS1 := Lib.hid (HS0.out.trans hs1)
      clear hs1
      go_wp2_with (go_at_call 10; refine stopc ?_)
      refine Stop.go ?_
      refine (cA _ HS1.out (HM.out.step HS1.out)).mono ?_
      rintro e w2 ⟨A1, p1, A2, p2, rfl, hv1, hs2⟩
      have HS2 := Lib.hid (HS1.out.trans hs2)
      clear hs2
      clear hv1
      go_wp2
      rw [HR.out]
      exact ⟨rfl, (HS2.out).alloc _⟩
  · have h1 : decide ((5000 : Int) < (b.length : Int)) = true := decide_eq_true (by omega)
    clear hbig
    have HS0 := Lib.hid (Stp.refl (fun _ => False) w)
    go_enter Tryz.func6, Tryz.ntmps6
    go_wp2_with (go_at_call 8; refine stopc ?_)
    refine Stop.go ?_
    refine (small15_any _ (HM.out.step HS0.out)).mono ?_
    rintro e w1 ⟨he, hs1⟩
    subst he
    have HS1 := Lib.hid (HS0.out.trans hs1)
    clear hs1
    go_wp2
    rw [HR.out]
    exact ⟨rfl, HS1.out⟩
end Go.Proofs.YtligofmhbbgalaaGreatDoor.L
