/- strings.IndexAny at the ends of an authority, for any string. -/
import Derived.Test.YtgjmaifgkgejgaaGreatDoorFb
import Derived.Laws.Runes
import Derived.Lib.MapLaws
import Derived.Lib.QuoteLoop
set_option linter.unusedVariables false
set_option linter.unusedSimpArgs false
namespace Go.Proofs.YtgjmaifgkgejgaaGreatDoor.L
open Go.RowKit Go.Proofs

theorem enc_last (r : Nat) (h : 128 ≤ r) : ∃ m, (m = 1 ∨ m = 2 ∨ m = 3) ∧ ∃ hs : (Utf8.encode (r : Int)).size = m + 1, 128 ≤ ((Utf8.encode (r : Int))[m]'(by omega)).toNat := by
  have key : ∀ c : Nat, (UInt8.ofNat (0x80 + c % 64)).toNat = 128 + c % 64 := fun c => UInt8.toNat_ofNat_of_lt' (by have : UInt8.size = 256 := rfl; omega)
  obtain ⟨c, hc, he⟩ : ∃ c : Nat, 128 ≤ c ∧ (if Utf8.valid (r : Int) = true then (r : Int).toNat else Utf8.runeError) = c := by
    refine ⟨_, ?_, rfl⟩
    split
    · simpa using h
    · decide
  unfold Utf8.encode
  simp only [he]
  by_cases h1 : c < 0x80
  · omega
  · by_cases h2 : c < 0x800
    · refine ⟨1, .inl rfl, ?_⟩
      simp only [h1, h2, if_true, if_false]
      exact ⟨rfl, by show 128 ≤ (UInt8.ofNat (0x80 + c % 64)).toNat; rw [key c]; omega⟩
    · by_cases h3 : c < 0x10000
      · refine ⟨2, .inr (.inl rfl), ?_⟩
        simp only [h1, h2, h3, if_true, if_false]
        exact ⟨rfl, by show 128 ≤ (UInt8.ofNat (0x80 + c % 64)).toNat; rw [key c]; omega⟩
      · refine ⟨3, .inr (.inr rfl), ?_⟩
        simp only [h1, h2, h3, if_true, if_false]
        exact ⟨rfl, by show 128 ≤ (UInt8.ofNat (0x80 + c % 64)).toNat; rw [key c]; omega⟩

theorem enc_last' (r : Nat) (h : 128 ≤ r) (E : ByteArray) (hE : Utf8.encode (r : Int) = E) : ∃ m, (m = 1 ∨ m = 2 ∨ m = 3) ∧ ∃ hs : E.size = m + 1, 128 ≤ (E[m]'(by omega)).toNat := by
  subst hE
  exact enc_last r h
theorem exec_conv {P : Program} {w : World} {o : Oper} {ev : Operand → Value} (src dst : TypeId) (x : Operand) (ho : o.op = .convert src dst x) {v v' : Value} (hx : ev x = v) (hc : (convert src dst v).run P w = .ok v' w) :
    (execOp ev o).run P w = .ok (.value v') w := by
  unfold execOp
  simp only [ho, hx, Sem.run_bind, Sem.run_pure, hc, Result.andThen_ok]
theorem wpList_val {P : Program} {ops : Array Oper} {rest : List Oper} {o : Oper} {a : Act} {Q : Exit → Act → World → Prop} {W : World} {v : Value} (hg : o.guard = none) (hy : (execOp a.eval o).run P W = .ok (.value v) W)
    (h : wpList P ops Q rest (a.put o.dst v) W) : wpList P ops Q (o :: rest) a W :=
  wpList_plain hg fun K hK => by
    unfold Oper.wp
    rw [hy]
    exact hK _ _ h
def endsL : List UInt8 := [47, 63, 35]
theorem idx_high (l : List UInt8) (c : UInt8) (h : ∀ x ∈ l, x ≠ c) : Lib.indexByte l c = -1 := by
  induction l with
  | nil => rfl
  | cons b l ih =>
    unfold Lib.indexByte
    rw [show (b == c) = false by simpa using h b (by simp), if_neg (by decide), ih (fun x hx => h x (by simp [hx]))]
    rfl

set_option maxRecDepth 100000 in
set_option maxHeartbeats 8000000 in
theorem indexRune_high (r : Nat) (w : World) (h : 128 ≤ r) (hr : r ≤ 1114111) :
    Calls Tryz.prog 111 #[.string ⟨#[47, 63, 35]⟩, .int .i32 (r : Int)] w fun e w' => e = .returned (.int .i64 (-1)) ∧ Stp (fun _ => False) w w' := by
  by_cases hE : r = 65533
  · subst hE
    go_enter Tryz.func111, Tryz.ntmps111
    go_wp2
    go_loopg [] 3 (fun gf wx => ∃ pos : Nat, wx.heap[w.heap.size]? = some (.stringIter ⟨#[47, 63, 35]⟩ pos) ∧ Stp (fun _ => False) w wx ∧ 3 = pos + gf)
    case atStart => exact ⟨0, World.iter_heap w ⟨#[47, 63, 35]⟩ 0, (Stp.refl _ w).alloc _, by omega⟩
    case round =>
      obtain ⟨pos, hit, hst, hfu⟩ := hrel
      have HST := Lib.hid hst
      clear hst
      by_cases hps : pos < 3
      · obtain ⟨g', rfl⟩ : ∃ g', gk = g' + 1 := ⟨gk - 1, by omega⟩
        have hps' : pos < (⟨#[47, 63, 35]⟩ : ByteArray).size := hps
        have hnx : ∀ ty, (Instr.next (.pointer (some ⟨w.heap.size, 0, none⟩)) true ty).run Tryz.prog wr = _ := fun ty => Lib.run_next_any_at wr w.heap.size ⟨#[47, 63, 35]⟩ pos ty hit hps'
        obtain ⟨c, hc, hdec⟩ : ∃ c : Nat, c < 128 ∧ Utf8.decode ⟨#[47, 63, 35]⟩ pos = (c, 1) := by
          match pos, hps with
          | 0, _ => exact ⟨47, by omega, rfl⟩
          | 1, _ => exact ⟨63, by omega, rfl⟩
          | 2, _ => exact ⟨35, by omega, rfl⟩
        rw [hdec] at hnx
        have hit2 := Lib.iterAt_heap wr w.heap.size _ pos (pos + 1) hit
        have HST2 := Lib.hid (HST.out.iterAt (Nat.le_refl _) ⟨#[47, 63, 35]⟩ (pos + 1))
        obtain ⟨W, hWd⟩ : ∃ W, wr.iterAt w.heap.size ⟨#[47, 63, 35]⟩ (pos + 1) = W := ⟨_, rfl⟩
        simp only at hnx
        rw [hWd] at hnx hit2 HST2
        have hne : ((c : Int) == 65533) = false := by simp; omega
        clear hWd hdec
        go_wp2
        go_roundg g'
        case measure => omega
        case rel => exact ⟨pos + 1, hit2, HST2.out, by omega⟩
      · have hnx : ∀ ty, (Instr.next (.pointer (some ⟨w.heap.size, 0, none⟩)) true ty).run Tryz.prog wr = _ := fun ty => Lib.run_next_end_at wr w.heap.size ⟨#[47, 63, 35]⟩ pos ty hit hps
        go_wp2
        go_ret
        exact ⟨rfl, HST.out⟩
  · have he : ((r : Int) == 65533) = false := by simp; omega
    cases hv : Lib.validRune (r : Int) with
    | false =>
      have cv := fun W => Tryz.utf8_ValidRune (r : Int) W
      rw [hv] at cv
      clear hv
      go_enter Tryz.func111, Tryz.ntmps111
      go_wp2_with (go_at_call 140; refine (cv _).mono ?_; rintro e w' ⟨rfl, rfl⟩)
      go_ret
      exact ⟨rfl, Stp.refl _ _⟩
    | true =>
      have cv := fun W => Tryz.utf8_ValidRune (r : Int) W
      rw [hv] at cv
      obtain ⟨E, hEd⟩ : ∃ E, Utf8.encode (r : Int) = E := ⟨_, rfl⟩
      have hen := enc_last' r h E hEd
      have hcv : ∀ W, (convert 21 9 (.int .i32 (r : Int))).run Tryz.prog W = .ok (.string E) W := fun W => (run_convert_int_string W _ _ _ _ (by rw [Tryz.underlying21]; rfl) Tryz.underlying9).trans (by rw [hEd])
      have HCV := Lib.hid hcv
      clear hv hEd hcv
      obtain ⟨m, rfl | rfl | rfl, hs, hlast⟩ := hen
      · have hs2 : E.size = 2 := hs
        have hm : 1 < E.size := by omega
        have hne : ((63 : Int) == (E[1].toNat : Int)) = false := by simp; omega
        have hne2 : (63 == E[1].toNat) = false := by simp; omega
        have hne3 : ¬ (63 = E[1].toNat) := by omega
        have hix : Lib.indexByte ([35] : List UInt8) E[1] = -1 := idx_high _ _ (by
          intro x hx e
          have h128 : ∀ x ∈ ([35] : List UInt8), x.toNat < 128 := by decide
          have := h128 x hx
          rw [e] at this
          omega)
        have HIX := Lib.hid hix
        clear hlast hs hix
        go_enter Tryz.func111, Tryz.ntmps111
        go_wp2_with (go_at_call 140; refine (cv _).mono ?_; rintro e w2 ⟨rfl, hw⟩; obtain rfl := hw.symm)
        refine wp_scope_straight ?_
        refine wp_seq ?_
        refine wp_region_lit ?_
        refine wpList_val (v := .int .i32 (r : Int)) rfl (by rfl) ?_
        refine wpList_val (v := .string E) rfl (exec_conv _ _ _ rfl (by rfl) (HCV.out _)) ?_
        go_wp2_with fail
        go_loopg [9] 1 (fun gf i wx => gf = 1 ∧ i = .int .i64 1 ∧ wx = w)
        case atStart => exact ⟨rfl, by rfl, rfl⟩
        case round =>
          obtain ⟨rfl, rfl, hw⟩ := hrel
          obtain rfl := hw.symm
          clear hw
          go_wp2_with fail
          refine wp_scope_straight ?_
          go_wp2_with fail
          refine wp_region_held_drew (S := (fun _ => True)) (by kernel_rfl) (trivial) (fun hHeld => ?_)
          try (change wpAnyH _ _ _ _ _ _ _ _ (World.drew _))
          refine rg_take (i := 0) (o := { dst := some 27, op := Op.move (Operand.tmp 0), type := 9, pos := "strings.go:133", after := #[], guard := none }) (v := ?rgv1) rfl (by kernel_rfl) (by kernel_rfl) (by kernel_rfl) (fun _ _ _ h => h) (by rfl) (fun w hSw => ?rgy1) hHeld ?_
          case rgy1 => (try dsimp only at hSw); first | (go_simp; done) | (go_simp; with_reducible rfl)
          try simp only [Act.put, List.setIfInBounds_toArray, List.set_cons_zero, List.set_cons_succ]
          refine rg_take (i := 1) (o := { dst := some 28, op := Op.move (Operand.tmp 9), type := 3, pos := "strings.go:133", after := #[], guard := none }) (v := ?rgv2) rfl (by kernel_rfl) (by kernel_rfl) (by kernel_rfl) (fun _ _ _ h => h) (by rfl) (fun w hSw => ?rgy2) hHeld ?_
          case rgy2 => (try dsimp only at hSw); first | (go_simp; done) | (go_simp; with_reducible rfl)
          try simp only [Act.put, List.setIfInBounds_toArray, List.set_cons_zero, List.set_cons_succ]
          refine rg_take (i := 2) (o := { dst := some 29, op := Op.index 9 (Operand.tmp 27) (Operand.tmp 28), type := 5, pos := "strings.go:133", after := #[{ on := 0, ground := Ground.data }, { on := 1, ground := Ground.data }], guard := none }) (v := ?rgv3) rfl (by kernel_rfl) (by kernel_rfl) (by kernel_rfl) (fun _ _ _ h => h) (by rfl) (fun w hSw => ?rgy3) hHeld ?_
          case rgy3 => (try dsimp only at hSw); first | (go_simp; done) | (go_simp; with_reducible rfl)
          try simp only [Act.put, List.setIfInBounds_toArray, List.set_cons_zero, List.set_cons_succ]
          refine rg_take (i := 3) (o := { dst := some 30, op := Op.move (Operand.tmp 7), type := 9, pos := "strings.go:133", after := #[], guard := none }) (v := ?rgv4) rfl (by kernel_rfl) (by kernel_rfl) (by kernel_rfl) (fun _ _ _ h => h) (by rfl) (fun w hSw => ?rgy4) hHeld ?_
          case rgy4 => (try dsimp only at hSw); first | (go_simp; done) | (go_simp; with_reducible rfl)
          try simp only [Act.put, List.setIfInBounds_toArray, List.set_cons_zero, List.set_cons_succ]
          refine rg_take (i := 4) (o := { dst := some 31, op := Op.move (Operand.tmp 8), type := 3, pos := "strings.go:133", after := #[], guard := none }) (v := ?rgv5) rfl (by kernel_rfl) (by kernel_rfl) (by kernel_rfl) (fun _ _ _ h => h) (by rfl) (fun w hSw => ?rgy5) hHeld ?_
          case rgy5 => (try dsimp only at hSw); first | (go_simp; done) | (go_simp; with_reducible rfl)
          try simp only [Act.put, List.setIfInBounds_toArray, List.set_cons_zero, List.set_cons_succ]
          refine rg_take (i := 5) (o := { dst := some 32, op := Op.index 9 (Operand.tmp 30) (Operand.tmp 31), type := 5, pos := "strings.go:133", after := #[{ on := 3, ground := Ground.data }, { on := 4, ground := Ground.data }], guard := none }) (v := ?rgv6) rfl (by kernel_rfl) (by kernel_rfl) (by kernel_rfl) (fun _ _ _ h => h) (by rfl) (fun w hSw => ?rgy6) hHeld ?_
          case rgy6 => (try dsimp only at hSw); first | (go_simp; done) | (go_simp; with_reducible rfl)
          try simp only [Act.put, List.setIfInBounds_toArray, List.set_cons_zero, List.set_cons_succ]
          refine rg_take (i := 6) (o := { dst := some 33, op := Op.binOp BinOp.neq 5 (Operand.tmp 29) (Operand.tmp 32) 5, type := 4, pos := "strings.go:133", after := #[{ on := 2, ground := Ground.data }, { on := 5, ground := Ground.data }], guard := none }) (v := ?rgv7) rfl (by kernel_rfl) (by kernel_rfl) (by kernel_rfl) (fun _ _ _ h => h) (by rfl) (fun w hSw => ?rgy7) hHeld ?_
          case rgy7 => (try dsimp only at hSw); first | (go_simp; done) | (go_simp; with_reducible rfl)
          try simp only [Act.put, List.setIfInBounds_toArray, List.set_cons_zero, List.set_cons_succ]
          clear hHeld
          refine wpAnyH_done (by kernel_rfl) ?_ _
          go_wp2_with fail
          have hw2 : IntKind.i64.wrap 2 = 2 := by rfl
          have hw3 : IntKind.i64.wrap 3 = 3 := by rfl
          refine wp_region_held_drew (S := (fun _ => True)) (by kernel_rfl) (trivial) (fun hHeld => ?_)
          try (change wpAnyH _ _ _ _ _ _ _ _ (World.drew _))
          refine rg_take (i := 0) (o := { dst := some 34, op := Op.move (Operand.tmp 0), type := 9, pos := "strings.go:134", after := #[], guard := none }) (v := ?rgv8) rfl (by kernel_rfl) (by kernel_rfl) (by kernel_rfl) (fun _ _ _ h => h) (by rfl) (fun w hSw => ?rgy8) hHeld ?_
          case rgy8 => (try dsimp only at hSw); first | (go_simp; done) | (go_simp; with_reducible rfl)
          try simp only [Act.put, List.setIfInBounds_toArray, List.set_cons_zero, List.set_cons_succ]
          refine rg_take (i := 1) (o := { dst := some 35, op := Op.move (Operand.tmp 9), type := 3, pos := "strings.go:134", after := #[], guard := none }) (v := ?rgv9) rfl (by kernel_rfl) (by kernel_rfl) (by kernel_rfl) (fun _ _ _ h => h) (by rfl) (fun w hSw => ?rgy9) hHeld ?_
          case rgy9 => (try dsimp only at hSw); first | (go_simp; done) | (go_simp; with_reducible rfl)
          try simp only [Act.put, List.setIfInBounds_toArray, List.set_cons_zero, List.set_cons_succ]
          refine rg_take (i := 2) (o := { dst := some 36, op := Op.binOp BinOp.add 3 (Operand.tmp 35) (Operand.const (Value.int IntKind.i64 1)) 3, type := 3, pos := "strings.go:134", after := #[{ on := 1, ground := Ground.data }], guard := none }) (v := ?rgv10) rfl (by kernel_rfl) (by kernel_rfl) (by kernel_rfl) (fun _ _ _ h => h) (by rfl) (fun w hSw => ?rgy10) hHeld ?_
          case rgy10 => (try dsimp only at hSw); first | (go_simp; done) | (go_simp; with_reducible rfl)
          try simp only [Act.put, List.setIfInBounds_toArray, List.set_cons_zero, List.set_cons_succ]
          refine rg_take (i := 3) (o := { dst := some 37, op := Op.slice 9 (Operand.tmp 34) (some (Operand.tmp 36)) none none, type := 9, pos := "strings.go:134", after := #[{ on := 0, ground := Ground.data }, { on := 2, ground := Ground.data }], guard := none }) (v := ?rgv11) rfl (by kernel_rfl) (by kernel_rfl) (by kernel_rfl) (fun _ _ _ h => h) (by rfl) (fun w hSw => ?rgy11) hHeld ?_
          case rgy11 => (try dsimp only at hSw); first | (go_simp; done) | (go_simp; with_reducible rfl)
          try simp only [Act.put, List.setIfInBounds_toArray, List.set_cons_zero, List.set_cons_succ]
          refine rg_take (i := 4) (o := { dst := some 38, op := Op.move (Operand.tmp 7), type := 9, pos := "strings.go:134", after := #[], guard := none }) (v := ?rgv12) rfl (by kernel_rfl) (by kernel_rfl) (by kernel_rfl) (fun _ _ _ h => h) (by rfl) (fun w hSw => ?rgy12) hHeld ?_
          case rgy12 => (try dsimp only at hSw); first | (go_simp; done) | (go_simp; with_reducible rfl)
          try simp only [Act.put, List.setIfInBounds_toArray, List.set_cons_zero, List.set_cons_succ]
          refine rg_take (i := 5) (o := { dst := some 39, op := Op.move (Operand.tmp 8), type := 3, pos := "strings.go:134", after := #[], guard := none }) (v := ?rgv13) rfl (by kernel_rfl) (by kernel_rfl) (by kernel_rfl) (fun _ _ _ h => h) (by rfl) (fun w hSw => ?rgy13) hHeld ?_
          case rgy13 => (try dsimp only at hSw); first | (go_simp; done) | (go_simp; with_reducible rfl)
          try simp only [Act.put, List.setIfInBounds_toArray, List.set_cons_zero, List.set_cons_succ]
          refine rg_take (i := 6) (o := { dst := some 40, op := Op.index 9 (Operand.tmp 38) (Operand.tmp 39), type := 5, pos := "strings.go:134", after := #[{ on := 4, ground := Ground.data }, { on := 5, ground := Ground.data }], guard := none }) (v := ?rgv14) rfl (by kernel_rfl) (by kernel_rfl) (by kernel_rfl) (fun _ _ _ h => h) (by rfl) (fun w hSw => ?rgy14) hHeld ?_
          case rgy14 => (try dsimp only at hSw); first | (go_simp; done) | (go_simp; with_reducible rfl)
          try simp only [Act.put, List.setIfInBounds_toArray, List.set_cons_zero, List.set_cons_succ]
          refine wpAnyH_ready (rs := [7]) (by kernel_rfl) (by simp) ?_
          refine (AllReadyH.cons (o := { dst := some 41, op := Op.call { callee := Callee.value (Operand.func 63), args := #[Operand.tmp 37, Operand.tmp 40], argTypes := #[9, 5] }, type := 3, pos := "strings.go:134", after := #[{ on := 3, ground := Ground.data }, { on := 6, ground := Ground.data }], guard := none }) rfl (fun K hK => ?_) AllReadyH.nil)
          go_simp
          refine (Tryz.strings_IndexByte _ _ _).mono ?_
          rintro e w3 ⟨he3, hww⟩
          obtain rfl : e = .returned (.int .i64 (-1)) := he3.trans (by rw [← HIX.out]; simp)
          obtain rfl := hww.symm
          clear hww he3
          show K _ _
          clear hHeld
          refine hK.out _ _ (trivial) (fun hHeld => ?_)
          clear hK K
          try simp only [Act.put, List.setIfInBounds_toArray, List.set_cons_zero, List.set_cons_succ]
          refine rg_take (i := 8) (o := { dst := some 11, op := Op.assign (Operand.tmp 41), type := 3, pos := "strings.go:134", after := #[{ on := 7, ground := Ground.data }, { on := 7, ground := Ground.chain }, { on := 0, ground := Ground.phase }, { on := 1, ground := Ground.phase }, { on := 2, ground := Ground.phase }, { on := 3, ground := Ground.phase }, { on := 4, ground := Ground.phase }, { on := 5, ground := Ground.phase }, { on := 6, ground := Ground.phase }, { on := 7, ground := Ground.phase }], guard := none }) (v := ?rgv15) rfl (by kernel_rfl) (by kernel_rfl) (by kernel_rfl) (fun _ _ _ h => h) (by rfl) (fun w hSw => ?rgy15) hHeld ?_
          case rgy15 => (try dsimp only at hSw); first | (go_simp; done) | (go_simp; with_reducible rfl)
          try simp only [Act.put, List.setIfInBounds_toArray, List.set_cons_zero, List.set_cons_succ]
          clear hHeld
          refine wpAnyH_done (by kernel_rfl) ?_ _
          go_wp2
          try simp only [Exit.noGoto, Exit.inBlock, Exit.then]
          go_ret
          exact ⟨rfl, (((Stp.refl _ _).drew).drew)⟩
          · exfalso
            have hb : ((((⟨#[47, 63, 35]⟩ : ByteArray)[1]'(by decide)).toNat : Int) != (E[1].toNat : Int)) = false := by assumption
            have hb2 : (((⟨#[47, 63, 35]⟩ : ByteArray)[1]'(by decide)).toNat : Int) = (E[1].toNat : Int) := by simpa using hb
            have hb4 : (((⟨#[47, 63, 35]⟩ : ByteArray)[1]'(by decide)).toNat : Int) = 63 := by rfl
            exact hne3 (by omega)
      · have hs2 : E.size = 3 := hs
        have hm : 2 < E.size := by omega
        have hne : ((35 : Int) == (E[2].toNat : Int)) = false := by simp; omega
        have hne2 : (35 == E[2].toNat) = false := by simp; omega
        have hne3 : ¬ (35 = E[2].toNat) := by omega
        have hix : Lib.indexByte ([] : List UInt8) E[2] = -1 := idx_high _ _ (by
          intro x hx e
          have h128 : ∀ x ∈ ([] : List UInt8), x.toNat < 128 := by decide
          have := h128 x hx
          rw [e] at this
          omega)
        have HIX := Lib.hid hix
        clear hlast hs hix
        go_enter Tryz.func111, Tryz.ntmps111
        go_wp2_with (go_at_call 140; refine (cv _).mono ?_; rintro e w2 ⟨rfl, hw⟩; obtain rfl := hw.symm)
        refine wp_scope_straight ?_
        refine wp_seq ?_
        refine wp_region_lit ?_
        refine wpList_val (v := .int .i32 (r : Int)) rfl (by rfl) ?_
        refine wpList_val (v := .string E) rfl (exec_conv _ _ _ rfl (by rfl) (HCV.out _)) ?_
        go_wp2_with fail
        go_loopg [9] 1 (fun gf i wx => gf = 1 ∧ i = .int .i64 2 ∧ wx = w)
        case atStart => exact ⟨rfl, by rfl, rfl⟩
        case round =>
          obtain ⟨rfl, rfl, hw⟩ := hrel
          obtain rfl := hw.symm
          clear hw
          go_wp2_with fail
          refine wp_scope_straight ?_
          go_wp2_with fail
          refine wp_region_held_drew (S := (fun _ => True)) (by kernel_rfl) (trivial) (fun hHeld => ?_)
          try (change wpAnyH _ _ _ _ _ _ _ _ (World.drew _))
          refine rg_take (i := 0) (o := { dst := some 27, op := Op.move (Operand.tmp 0), type := 9, pos := "strings.go:133", after := #[], guard := none }) (v := ?rgv16) rfl (by kernel_rfl) (by kernel_rfl) (by kernel_rfl) (fun _ _ _ h => h) (by rfl) (fun w hSw => ?rgy16) hHeld ?_
          case rgy16 => (try dsimp only at hSw); first | (go_simp; done) | (go_simp; with_reducible rfl)
          try simp only [Act.put, List.setIfInBounds_toArray, List.set_cons_zero, List.set_cons_succ]
          refine rg_take (i := 1) (o := { dst := some 28, op := Op.move (Operand.tmp 9), type := 3, pos := "strings.go:133", after := #[], guard := none }) (v := ?rgv17) rfl (by kernel_rfl) (by kernel_rfl) (by kernel_rfl) (fun _ _ _ h => h) (by rfl) (fun w hSw => ?rgy17) hHeld ?_
          case rgy17 => (try dsimp only at hSw); first | (go_simp; done) | (go_simp; with_reducible rfl)
          try simp only [Act.put, List.setIfInBounds_toArray, List.set_cons_zero, List.set_cons_succ]
          refine rg_take (i := 2) (o := { dst := some 29, op := Op.index 9 (Operand.tmp 27) (Operand.tmp 28), type := 5, pos := "strings.go:133", after := #[{ on := 0, ground := Ground.data }, { on := 1, ground := Ground.data }], guard := none }) (v := ?rgv18) rfl (by kernel_rfl) (by kernel_rfl) (by kernel_rfl) (fun _ _ _ h => h) (by rfl) (fun w hSw => ?rgy18) hHeld ?_
          case rgy18 => (try dsimp only at hSw); first | (go_simp; done) | (go_simp; with_reducible rfl)
          try simp only [Act.put, List.setIfInBounds_toArray, List.set_cons_zero, List.set_cons_succ]
          refine rg_take (i := 3) (o := { dst := some 30, op := Op.move (Operand.tmp 7), type := 9, pos := "strings.go:133", after := #[], guard := none }) (v := ?rgv19) rfl (by kernel_rfl) (by kernel_rfl) (by kernel_rfl) (fun _ _ _ h => h) (by rfl) (fun w hSw => ?rgy19) hHeld ?_
          case rgy19 => (try dsimp only at hSw); first | (go_simp; done) | (go_simp; with_reducible rfl)
          try simp only [Act.put, List.setIfInBounds_toArray, List.set_cons_zero, List.set_cons_succ]
          refine rg_take (i := 4) (o := { dst := some 31, op := Op.move (Operand.tmp 8), type := 3, pos := "strings.go:133", after := #[], guard := none }) (v := ?rgv20) rfl (by kernel_rfl) (by kernel_rfl) (by kernel_rfl) (fun _ _ _ h => h) (by rfl) (fun w hSw => ?rgy20) hHeld ?_
          case rgy20 => (try dsimp only at hSw); first | (go_simp; done) | (go_simp; with_reducible rfl)
          try simp only [Act.put, List.setIfInBounds_toArray, List.set_cons_zero, List.set_cons_succ]
          refine rg_take (i := 5) (o := { dst := some 32, op := Op.index 9 (Operand.tmp 30) (Operand.tmp 31), type := 5, pos := "strings.go:133", after := #[{ on := 3, ground := Ground.data }, { on := 4, ground := Ground.data }], guard := none }) (v := ?rgv21) rfl (by kernel_rfl) (by kernel_rfl) (by kernel_rfl) (fun _ _ _ h => h) (by rfl) (fun w hSw => ?rgy21) hHeld ?_
          case rgy21 => (try dsimp only at hSw); first | (go_simp; done) | (go_simp; with_reducible rfl)
          try simp only [Act.put, List.setIfInBounds_toArray, List.set_cons_zero, List.set_cons_succ]
          refine rg_take (i := 6) (o := { dst := some 33, op := Op.binOp BinOp.neq 5 (Operand.tmp 29) (Operand.tmp 32) 5, type := 4, pos := "strings.go:133", after := #[{ on := 2, ground := Ground.data }, { on := 5, ground := Ground.data }], guard := none }) (v := ?rgv22) rfl (by kernel_rfl) (by kernel_rfl) (by kernel_rfl) (fun _ _ _ h => h) (by rfl) (fun w hSw => ?rgy22) hHeld ?_
          case rgy22 => (try dsimp only at hSw); first | (go_simp; done) | (go_simp; with_reducible rfl)
          try simp only [Act.put, List.setIfInBounds_toArray, List.set_cons_zero, List.set_cons_succ]
          clear hHeld
          refine wpAnyH_done (by kernel_rfl) ?_ _
          go_wp2_with fail
          have hw2 : IntKind.i64.wrap 2 = 2 := by rfl
          have hw3 : IntKind.i64.wrap 3 = 3 := by rfl
          refine wp_region_held_drew (S := (fun _ => True)) (by kernel_rfl) (trivial) (fun hHeld => ?_)
          try (change wpAnyH _ _ _ _ _ _ _ _ (World.drew _))
          refine rg_take (i := 0) (o := { dst := some 34, op := Op.move (Operand.tmp 0), type := 9, pos := "strings.go:134", after := #[], guard := none }) (v := ?rgv23) rfl (by kernel_rfl) (by kernel_rfl) (by kernel_rfl) (fun _ _ _ h => h) (by rfl) (fun w hSw => ?rgy23) hHeld ?_
          case rgy23 => (try dsimp only at hSw); first | (go_simp; done) | (go_simp; with_reducible rfl)
          try simp only [Act.put, List.setIfInBounds_toArray, List.set_cons_zero, List.set_cons_succ]
          refine rg_take (i := 1) (o := { dst := some 35, op := Op.move (Operand.tmp 9), type := 3, pos := "strings.go:134", after := #[], guard := none }) (v := ?rgv24) rfl (by kernel_rfl) (by kernel_rfl) (by kernel_rfl) (fun _ _ _ h => h) (by rfl) (fun w hSw => ?rgy24) hHeld ?_
          case rgy24 => (try dsimp only at hSw); first | (go_simp; done) | (go_simp; with_reducible rfl)
          try simp only [Act.put, List.setIfInBounds_toArray, List.set_cons_zero, List.set_cons_succ]
          refine rg_take (i := 2) (o := { dst := some 36, op := Op.binOp BinOp.add 3 (Operand.tmp 35) (Operand.const (Value.int IntKind.i64 1)) 3, type := 3, pos := "strings.go:134", after := #[{ on := 1, ground := Ground.data }], guard := none }) (v := ?rgv25) rfl (by kernel_rfl) (by kernel_rfl) (by kernel_rfl) (fun _ _ _ h => h) (by rfl) (fun w hSw => ?rgy25) hHeld ?_
          case rgy25 => (try dsimp only at hSw); first | (go_simp; done) | (go_simp; with_reducible rfl)
          try simp only [Act.put, List.setIfInBounds_toArray, List.set_cons_zero, List.set_cons_succ]
          refine rg_take (i := 3) (o := { dst := some 37, op := Op.slice 9 (Operand.tmp 34) (some (Operand.tmp 36)) none none, type := 9, pos := "strings.go:134", after := #[{ on := 0, ground := Ground.data }, { on := 2, ground := Ground.data }], guard := none }) (v := ?rgv26) rfl (by kernel_rfl) (by kernel_rfl) (by kernel_rfl) (fun _ _ _ h => h) (by rfl) (fun w hSw => ?rgy26) hHeld ?_
          case rgy26 => (try dsimp only at hSw); first | (go_simp; done) | (go_simp; with_reducible rfl)
          try simp only [Act.put, List.setIfInBounds_toArray, List.set_cons_zero, List.set_cons_succ]
          refine rg_take (i := 4) (o := { dst := some 38, op := Op.move (Operand.tmp 7), type := 9, pos := "strings.go:134", after := #[], guard := none }) (v := ?rgv27) rfl (by kernel_rfl) (by kernel_rfl) (by kernel_rfl) (fun _ _ _ h => h) (by rfl) (fun w hSw => ?rgy27) hHeld ?_
          case rgy27 => (try dsimp only at hSw); first | (go_simp; done) | (go_simp; with_reducible rfl)
          try simp only [Act.put, List.setIfInBounds_toArray, List.set_cons_zero, List.set_cons_succ]
          refine rg_take (i := 5) (o := { dst := some 39, op := Op.move (Operand.tmp 8), type := 3, pos := "strings.go:134", after := #[], guard := none }) (v := ?rgv28) rfl (by kernel_rfl) (by kernel_rfl) (by kernel_rfl) (fun _ _ _ h => h) (by rfl) (fun w hSw => ?rgy28) hHeld ?_
          case rgy28 => (try dsimp only at hSw); first | (go_simp; done) | (go_simp; with_reducible rfl)
          try simp only [Act.put, List.setIfInBounds_toArray, List.set_cons_zero, List.set_cons_succ]
          refine rg_take (i := 6) (o := { dst := some 40, op := Op.index 9 (Operand.tmp 38) (Operand.tmp 39), type := 5, pos := "strings.go:134", after := #[{ on := 4, ground := Ground.data }, { on := 5, ground := Ground.data }], guard := none }) (v := ?rgv29) rfl (by kernel_rfl) (by kernel_rfl) (by kernel_rfl) (fun _ _ _ h => h) (by rfl) (fun w hSw => ?rgy29) hHeld ?_
          case rgy29 => (try dsimp only at hSw); first | (go_simp; done) | (go_simp; with_reducible rfl)
          try simp only [Act.put, List.setIfInBounds_toArray, List.set_cons_zero, List.set_cons_succ]
          refine wpAnyH_ready (rs := [7]) (by kernel_rfl) (by simp) ?_
          refine (AllReadyH.cons (o := { dst := some 41, op := Op.call { callee := Callee.value (Operand.func 63), args := #[Operand.tmp 37, Operand.tmp 40], argTypes := #[9, 5] }, type := 3, pos := "strings.go:134", after := #[{ on := 3, ground := Ground.data }, { on := 6, ground := Ground.data }], guard := none }) rfl (fun K hK => ?_) AllReadyH.nil)
          go_simp
          refine (Tryz.strings_IndexByte _ _ _).mono ?_
          rintro e w3 ⟨he3, hww⟩
          obtain rfl : e = .returned (.int .i64 (-1)) := he3.trans (by rw [← HIX.out]; simp)
          obtain rfl := hww.symm
          clear hww he3
          show K _ _
          clear hHeld
          refine hK.out _ _ (trivial) (fun hHeld => ?_)
          clear hK K
          try simp only [Act.put, List.setIfInBounds_toArray, List.set_cons_zero, List.set_cons_succ]
          refine rg_take (i := 8) (o := { dst := some 11, op := Op.assign (Operand.tmp 41), type := 3, pos := "strings.go:134", after := #[{ on := 7, ground := Ground.data }, { on := 7, ground := Ground.chain }, { on := 0, ground := Ground.phase }, { on := 1, ground := Ground.phase }, { on := 2, ground := Ground.phase }, { on := 3, ground := Ground.phase }, { on := 4, ground := Ground.phase }, { on := 5, ground := Ground.phase }, { on := 6, ground := Ground.phase }, { on := 7, ground := Ground.phase }], guard := none }) (v := ?rgv30) rfl (by kernel_rfl) (by kernel_rfl) (by kernel_rfl) (fun _ _ _ h => h) (by rfl) (fun w hSw => ?rgy30) hHeld ?_
          case rgy30 => (try dsimp only at hSw); first | (go_simp; done) | (go_simp; with_reducible rfl)
          try simp only [Act.put, List.setIfInBounds_toArray, List.set_cons_zero, List.set_cons_succ]
          clear hHeld
          refine wpAnyH_done (by kernel_rfl) ?_ _
          go_wp2
          try simp only [Exit.noGoto, Exit.inBlock, Exit.then]
          go_ret
          exact ⟨rfl, (((Stp.refl _ _).drew).drew)⟩
          · exfalso
            have hb : ((((⟨#[47, 63, 35]⟩ : ByteArray)[2]'(by decide)).toNat : Int) != (E[2].toNat : Int)) = false := by assumption
            have hb2 : (((⟨#[47, 63, 35]⟩ : ByteArray)[2]'(by decide)).toNat : Int) = (E[2].toNat : Int) := by simpa using hb
            have hb4 : (((⟨#[47, 63, 35]⟩ : ByteArray)[2]'(by decide)).toNat : Int) = 35 := by rfl
            exact hne3 (by omega)
      · have hs2 : E.size = 4 := hs
        clear hlast hs
        go_enter Tryz.func111, Tryz.ntmps111
        go_wp2_with (go_at_call 140; refine (cv _).mono ?_; rintro e w2 ⟨rfl, hw⟩; obtain rfl := hw.symm)
        refine wp_scope_straight ?_
        refine wp_seq ?_
        refine wp_region_lit ?_
        refine wpList_val (v := .int .i32 (r : Int)) rfl (by rfl) ?_
        refine wpList_val (v := .string E) rfl (exec_conv _ _ _ rfl (by rfl) (HCV.out _)) ?_
        go_wp2_with fail
        go_loopg [9] 1 (fun gf i wx => gf = 1 ∧ i = .int .i64 3 ∧ wx = w)
        case atStart => exact ⟨rfl, by rfl, rfl⟩
        case round =>
          obtain ⟨rfl, rfl, hw⟩ := hrel
          obtain rfl := hw.symm
          clear hw
          go_wp2
          try simp only [Exit.noGoto, Exit.inBlock, Exit.then]
          go_ret
          exact ⟨rfl, Stp.refl _ _⟩
end Go.Proofs.YtgjmaifgkgejgaaGreatDoor.L

/-! strings.IndexAny at the ends of an authority, for any string. -/
namespace Go.Proofs.YtgjmaifgkgejgaaGreatDoor.L
open Go.RowKit Go.Proofs

theorem get_of (s : ByteArray) (j : Nat) (b : UInt8) (h : s.data.toList[j]? = some b) : s.get! j = b := by
  have h2 : s.data[j]? = some b := by simpa using h
  show s.data[j]! = b
  simp [getElem!_def, h2]
theorem dec_high (s : ByteArray) (i : Nat) (hi : i < s.size) (h : 128 ≤ (s[i]'hi).toNat) :
    128 ≤ (Utf8.decode s i).1 ∧ (Utf8.decode s i).1 ≤ 1114111 ∧ 1 ≤ (Utf8.decode s i).2 ∧ i + (Utf8.decode s i).2 ≤ s.size ∧ ∀ j b, i ≤ j → j < i + (Utf8.decode s i).2 → s.data.toList[j]? = some b → 128 ≤ b.toNat := by
  have h0 : s.get! i = s[i]'hi := get_of s i _ (Lib.data_getElem? s i hi)
  rw [← h0] at h
  have hv := Lib.decodeN_valid (s.size - i) (s.get! i).toNat (s.get! (i + 1)).toNat (s.get! (i + 2)).toNat (s.get! (i + 3)).toNat (UInt8.toNat_lt _)
  have hs := Lib.decodeN_shape (s.size - i) (s.get! i).toNat (s.get! (i + 1)).toNat (s.get! (i + 2)).toNat (s.get! (i + 3)).toNat
  rw [Lib.decode_at]
  have key : ∀ n, (∀ k, k < n → 128 ≤ (s.get! (i + k)).toNat) → ∀ j b, i ≤ j → j < i + n → s.data.toList[j]? = some b → 128 ≤ b.toNat := fun n hn j b h1 h2 h3 => by
    have := hn (j - i) (by omega)
    rw [show i + (j - i) = j by omega, get_of s j b h3] at this
    exact this
  generalize decodeN' : Lib.decodeN (s.size - i) (s.get! i).toNat (s.get! (i + 1)).toNat (s.get! (i + 2)).toNat (s.get! (i + 3)).toNat = D at hv hs ⊢
  rcases hs with ⟨h1, -⟩ | ⟨h1, h2, h3, h4, rfl⟩ | ⟨h1, h2, h3, h4, h5, h6, rfl⟩ | ⟨h1, h2, h3, h4, h5, h6, h7, rfl⟩ | rfl
  · omega
  · refine ⟨by simp only; omega, by simp only at hv ⊢; omega, by simp only; omega, by simp only; omega, key _ fun k hk => ?_⟩
    match k, hk with
    | 0, _ => simpa using h
    | 1, _ => omega
  · refine ⟨by simp only; omega, by simp only at hv ⊢; omega, by simp only; omega, by simp only; omega, key _ fun k hk => ?_⟩
    match k, hk with
    | 0, _ => simpa using h
    | 1, _ => omega
    | 2, _ => omega
  · refine ⟨by simp only; omega, by simp only; omega, by simp only; omega, by simp only; omega, key _ fun k hk => ?_⟩
    match k, hk with
    | 0, _ => simpa using h
    | 1, _ => omega
    | 2, _ => omega
    | 3, _ => omega
  · refine ⟨by simp only; omega, by simp only; omega, by simp only; omega, by simp only; omega, key _ fun k hk => ?_⟩
    match k, hk with
    | 0, _ => simpa using h
theorem ends_high (b : UInt8) (h : 128 ≤ b.toNat) : endsL.contains b = false := by
  unfold endsL
  simp only [List.contains_cons, List.contains_nil, Bool.or_false, Bool.or_eq_false_iff, beq_eq_false_iff_ne]
  refine ⟨?_, ?_, ?_⟩ <;> (rintro rfl; revert h; decide)
theorem noAny_more {s : ByteArray} {i n : Nat} (h : Lib.NoAny s.data.toList endsL i) (hn : ∀ j b, i ≤ j → j < i + n → s.data.toList[j]? = some b → 128 ≤ b.toNat) : Lib.NoAny s.data.toList endsL (i + n) := fun j b hj hb => by
  by_cases hji : j < i
  · exact h j b hji hb
  · exact ends_high b (hn j b (by omega) hj hb)
theorem ends_ascii : ∀ (j : Nat) b, (⟨#[47, 63, 35]⟩ : ByteArray).data.toList[j]? = some b → b.toNat < 128 := by
  intro j b h
  match j, h with
  | 0, h => simp at h; subst h; decide
  | 1, h => simp at h; subst h; decide
  | 2, h => simp at h; subst h; decide
  | (j + 3), h => simp at h

set_option maxRecDepth 1000000 in
set_option maxHeartbeats 8000000 in
theorem indexAny_any (s : ByteArray) (w : World) (hs : s.size < 4294967281) :
    Calls Tryz.prog 69 #[.string s, .string ⟨#[47, 63, 35]⟩] w fun e w' => e = .returned (.int .i64 (Lib.indexAny s.data.toList endsL)) ∧ Stp (fun _ => False) w w' := by
  by_cases h8 : 8 < s.size
  · refine (Tryz.strings_IndexAny_long (fun W => Tryz.zeroValue132 W) s ⟨#[47, 63, 35]⟩ w (by decide) h8 hs (by decide) ends_ascii).mono ?_
    rintro e w' ⟨he, rfl⟩
    exact ⟨he, ((Stp.refl _ w).alloc _).alloc _⟩
  · have hemp : (⟨#[47, 63, 35]⟩ : ByteArray).toList.isEmpty = false := by rw [Lib.toList_data]; rfl
    have h8z : decide ((8 : Int) < (s.size : Int)) = false := decide_eq_false (by omega)
    go_enter Tryz.func69, Tryz.ntmps69
    go_wp2_with (go_at_call 112; refine (Tryz.strings_shouldUseASCIISet _ _).mono ?_; rintro e w' ⟨rfl, hw⟩; rw [hw, h8z])
    go_loopg [9, 10] s.size (fun g _ _ wx => ∃ i : Nat, i + g = s.size ∧ wx.heap[w.heap.size]? = some (.stringIter s i) ∧ Stp (fun _ => False) w wx ∧ Lib.NoAny s.data.toList endsL i)
    case atStart => exact ⟨0, by omega, World.iter_heap w s 0, (Stp.refl _ w).alloc _, Lib.NoAny.zero _ _⟩
    case round =>
      obtain ⟨i, hig, hit, hst, hno⟩ := hrel
      have HST := Lib.hid hst
      have HN := Lib.hid hno
      clear hst hno
      by_cases hi : i < s.size
      · obtain ⟨d, hd⟩ : ∃ d, Utf8.decode s i = d := ⟨_, rfl⟩
        have hnx : ∀ ty, (Instr.next (.pointer (some ⟨w.heap.size, 0, none⟩)) true ty).run Tryz.prog wr = _ := fun ty => Lib.run_next_any_at wr w.heap.size s i ty hit hi
        by_cases ha : (s[i]'hi).toNat < 128
        · obtain ⟨x, hx⟩ : ∃ x : UInt8, s[i]'hi = x := ⟨_, rfl⟩
          rw [decode_ascii s i hi ha, hx] at hnx
          rw [hx] at ha
          have Hx := Lib.hid (show s.data.toList[i]? = some x by rw [← hx]; exact Lib.data_getElem? s i hi)
          have HA := Lib.hid ha
          have hit2 := Lib.iterAt_heap wr w.heap.size _ i (i + 1) hit
          have HST2 := Lib.hid (HST.out.iterAt (Nat.le_refl _) s (i + 1))
          obtain ⟨W, hWd⟩ : ∃ W, wr.iterAt w.heap.size s (i + 1) = W := ⟨_, rfl⟩
          simp only at hnx
          rw [hWd] at hnx hit2 HST2
          have hcon := Lib.contains_iff_indexByte endsL x
          have hback : ((x.toNat : Int)).toNat.toUInt8 = x := by simp
          clear hx ha hWd hd
          obtain ⟨g', rfl⟩ : ∃ g', gk = g' + 1 := ⟨gk - 1, by omega⟩
          have HR := fun W' => Tryz.strings_IndexRune_ascii ⟨#[47, 63, 35]⟩ (x.toNat : Int) W' (by omega) (by have := HA.out; omega)
          cases hin : endsL.contains x
          · rw [hin] at hcon
            have hlt : ¬ ((0 : Int) ≤ Lib.indexByte endsL x) := of_decide_eq_false hcon.symm
            have HIN := Lib.hid hin
            clear hcon hin
            go_wp2_with (go_at_call 111; refine (HR _).mono ?_; rintro e w' ⟨rfl, hw⟩; rw [hw, hback, show (⟨#[47, 63, 35]⟩ : ByteArray).data.toList = endsL from rfl])
            go_roundg g'
            case measure => omega
            case rel => exact ⟨i + 1, by omega, hit2, HST2.out, HN.out.succ Hx.out HIN.out⟩
          · rw [hin] at hcon
            have hge : (0 : Int) ≤ Lib.indexByte endsL x := of_decide_eq_true hcon.symm
            have HIN := Lib.hid hin
            clear hcon hin
            go_wp2_with (go_at_call 111; refine (HR _).mono ?_; rintro e w' ⟨rfl, hw⟩; rw [hw, hback, show (⟨#[47, 63, 35]⟩ : ByteArray).data.toList = endsL from rfl])
            go_ret
            exact ⟨by rw [Lib.indexAny_hit HN.out Hx.out HIN.out]; rfl, HST2.out⟩
        · obtain ⟨k1, k2, k3, k4, k5⟩ := dec_high s i hi (by omega)
          rw [hd] at k1 k2 k3 k4 k5 hnx
          have HK := Lib.hid k5
          have hit2 := Lib.iterAt_heap wr w.heap.size _ i (i + d.2) hit
          have HST2 := Lib.hid (HST.out.iterAt (Nat.le_refl _) s (i + d.2))
          obtain ⟨W, hWd⟩ : ∃ W, wr.iterAt w.heap.size s (i + d.2) = W := ⟨_, rfl⟩
          obtain ⟨c, n⟩ := d
          simp only at hnx k1 k2 k3 k4 hit2 hWd HST2 HK
          rw [hWd] at hnx hit2 HST2
          clear hWd hd ha k5
          have HR := fun W' => indexRune_high c W' k1 k2
          go_wp2_with (go_at_call 111; refine (HR _).mono ?_; rintro e w9 ⟨rfl, hw9⟩; have HW9 := Lib.hid hw9; clear hw9)
          go_roundg (gk - n)
          case measure => omega
          case rel => exact ⟨i + n, by omega, (HW9.out.block _ ((Array.getElem?_eq_some_iff.1 hit2).1) id).trans hit2, HST2.out.trans HW9.out, noAny_more HN.out HK.out⟩
      · have hnx : ∀ ty, (Instr.next (.pointer (some ⟨w.heap.size, 0, none⟩)) true ty).run Tryz.prog wr = _ := fun ty => Lib.run_next_end_at wr w.heap.size s i ty hit hi
        go_wp2
        go_ret
        have : i = s.size := by omega
        subst this
        exact ⟨by rw [Lib.indexAny_none (by rw [← Lib.size_eq]; exact HN.out)]; rfl, HST.out⟩
end Go.Proofs.YtgjmaifgkgejgaaGreatDoor.L
