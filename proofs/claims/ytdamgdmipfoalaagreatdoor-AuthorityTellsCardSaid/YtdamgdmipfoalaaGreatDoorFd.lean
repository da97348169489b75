/- Layer 12: the reference's print; what is found. -/
import Derived.Test.YtdamgdmipfoalaaGreatDoorFc
import Derived.Test.YtdamgdmipfoalaaGreatDoorOpen
set_option linter.unusedVariables false
set_option linter.unusedSimpArgs false
namespace Go.Proofs.YtdamgdmipfoalaaGreatDoor.L
open Go.RowKit Go.Proofs

theorem toList_iff (x : List UInt8) (n : ByteArray) : ((strB x).toList = n.toList) ↔ x = n.data.toList := by
  have := beqS x n
  rw [Bool.eq_iff_iff, beq_iff_eq, decide_eq_true_eq] at this
  exact this

/-- A field: two strings. -/
abbrev fldK : Kind (ByteArray × ByteArray) := pairK str str
/-- Fields as lists of bytes. -/
def flS (xs : List (ByteArray × ByteArray)) : List (List UInt8 × List UInt8) := xs.map fun x => (x.1.data.toList, x.2.data.toList)
theorem flS_snoc (xs : List (ByteArray × ByteArray)) (k : Nat) (h : k < xs.length) : flS (xs.take (k + 1)) = flS (xs.take k) ++ [((xs[k]).1.data.toList, (xs[k]).2.data.toList)] := by
  unfold flS
  rw [List.take_succ_eq_append_getElem h, List.map_append]
  rfl
theorem flS_len (xs : List (ByteArray × ByteArray)) : (flS xs).length = xs.length := List.length_map _
/-- A text, and how many. -/
def FindV (w : World) (r : List UInt8 × Nat) (e : Ending) (w' : World) : Prop := e = .returned (.tuple #[.string (strB r.1), .int .i64 (r.2 : Int)]) ∧ Stp (fun _ => False) w w'
theorem eqlS (x : ByteArray) (n : List UInt8) : (x.toList == (strB n).toList) = decide (x.data.toList = n) := by
  rw [ByteArray.toList_eq, ByteArray.toList_eq, Bool.eq_iff_iff]
  simp [strB]
theorem strB_of' (s : ByteArray) : strB s.data.toList = s := by cases s; simp [strB]

set_option maxRecDepth 100000 in
set_option maxHeartbeats 8000000 in
theorem find_any (M : Nat → Prop) (v : Value) (xs : List (ByteArray × ByteArray)) (nm : ByteArray) (w : World) (hx : Rd fldK M w v xs) (hn : nm.size ≤ 9223372036854775807) (hl : xs.length ≤ 9223372036854775800) :
    Calls Tryz.prog 21 #[v, .string nm] w (FindV w (findF (lowS nm.data.toList) (flS xs))) := by
  obtain ⟨A, c, rfl, hle⟩ := hx.form
  have HX := Lib.hid hx
  clear hx
  have cl := fun W => lower_any nm W hn
  obtain ⟨m, hm⟩ : ∃ m, m = lowS nm.data.toList := ⟨_, rfl⟩
  rw [← hm] at cl ⊢
  clear hm
  obtain ⟨N, hN⟩ : ∃ N, N = strB m := ⟨_, rfl⟩
  rw [← hN] at cl
  have HN := Lib.hid hN
  clear hN
  obtain ⟨R, hR⟩ : ∃ R, R = FindV w (findF m (flS xs)) := ⟨_, rfl⟩
  rw [← hR]
  have HR := Lib.hid hR
  clear hR
  go_enter Tryz.func21, Tryz.ntmps21
  go_wp2_with (go_at_call 42; refine stopc ?_)
  refine Stop.go ?_
  refine (cl _).mono ?_
  rintro e w1 ⟨rfl, hs1⟩
  have HS1 := Lib.hid hs1
  clear hs1
  go_wp2
  go_loopg [4, 5, 12] xs.length (fun gf tx n i wr => ∃ k : Nat, k + gf = xs.length ∧ i = .int .i64 k ∧ tx = .string (strB (findF m (flS (xs.take k))).1) ∧ n = .int .i64 ((findF m (flS (xs.take k))).2 : Int) ∧ Stp (fun _ => False) w wr)
  case atStart => exact ⟨0, by omega, rfl, rfl, rfl, HS1.out⟩
  case round =>
    obtain ⟨k, hk, rfl, rfl, rfl, hs⟩ := hrel
    have HS := Lib.hid hs
    clear hs
    by_cases hlt : k < xs.length
    · obtain ⟨g', rfl⟩ : ∃ g', gk = g' + 1 := ⟨gk - 1, by omega⟩
      have hfl := findF_len m (flS (xs.take k))
      rw [flS_len, List.length_take] at hfl
      have hsn := findF_snoc m (flS (xs.take k)) ((xs[k]).1.data.toList, (xs[k]).2.data.toList)
      rw [← flS_snoc xs k hlt] at hsn
      obtain ⟨ad, rfl, -, c0, c1⟩ := pair_cell (HX.out.stp0 HS.out) k hlt
      obtain ⟨X, hX⟩ : ∃ X, X = (xs[k]).1 := ⟨_, rfl⟩
      obtain ⟨Y, hY⟩ : ∃ Y, Y = (xs[k]).2 := ⟨_, rfl⟩
      rw [← hX, ← hY] at hsn
      rw [← hX] at c0
      rw [← hY] at c1
      obtain ⟨T, hT⟩ : ∃ T, T = (findF m (flS (xs.take k))).1 := ⟨_, rfl⟩
      obtain ⟨C, hC⟩ : ∃ C, C = (findF m (flS (xs.take k))).2 := ⟨_, rfl⟩
      rw [← hC] at hfl
      rw [← hT, ← hC] at hsn ⊢
      have HTE := Lib.hid hT
      have HCE := Lib.hid hC
      have hne := eqlS X m
      rw [← HN.out] at hne
      clear hX hY hT hC
      by_cases he : X.data.toList = m
      · rw [show decide (X.data.toList = m) = true by simpa using he] at hne
        rw [if_pos he] at hsn
        by_cases hC0 : C = 0
        · have HSN := Lib.hid hsn
          have hC1 : (((C : Int) + 1) == 1) = true := by simp [hC0]
          have HC0 := Lib.hid hC0
          clear hsn he hC0
          go_wp2
          go_roundg g'
          case measure => omega
          case rel => exact ⟨k + 1, by omega, by go_num, by rw [HSN.out, if_pos HC0.out, strB_of'], by rw [HSN.out]; rfl, HS.out.alloc _⟩
        · have HSN := Lib.hid hsn
          have hC1 : (((C : Int) + 1) == 1) = false := by simp; omega
          have HC0 := Lib.hid hC0
          clear hsn he hC0
          go_wp2
          go_roundg g'
          case measure => omega
          case rel => exact ⟨k + 1, by omega, by go_num, by rw [HSN.out, if_neg HC0.out], by rw [HSN.out]; rfl, HS.out.alloc _⟩
      · rw [show decide (X.data.toList = m) = false by simpa using he] at hne
        rw [if_neg he] at hsn
        have HSN := Lib.hid hsn
        clear hsn he
        go_wp2
        go_roundg g'
        case measure => omega
        case rel => exact ⟨k + 1, by omega, by go_num, by rw [HSN.out, HTE.out], by rw [HSN.out, HCE.out], HS.out.alloc _⟩
    · obtain rfl : k = xs.length := by omega
      rw [List.take_length] at *
      go_wp2
      rw [HR.out]
      exact ⟨rfl, HS.out⟩

set_option maxRecDepth 100000 in
set_option maxHeartbeats 8000000 in
theorem findR_any (M : Nat → Prop) (v : Value) (xs : List (ByteArray × ByteArray)) (nm : ByteArray) (w : World) (hx : Rd fldK M w v xs) (hn : nm.size ≤ 9223372036854775807) (hl : xs.length ≤ 9223372036854775800) :
    Calls Tryz.prog 24 #[v, .string nm] w (FindV w (findF (lowS nm.data.toList) (flS xs))) := by
  obtain ⟨A, c, rfl, hle⟩ := hx.form
  have HX := Lib.hid hx
  clear hx
  have cl := fun W => lowerR_any nm W hn
  obtain ⟨m, hm⟩ : ∃ m, m = lowS nm.data.toList := ⟨_, rfl⟩
  rw [← hm] at cl ⊢
  clear hm
  obtain ⟨N, hN⟩ : ∃ N, N = strB m := ⟨_, rfl⟩
  rw [← hN] at cl
  have HN := Lib.hid hN
  clear hN
  obtain ⟨R, hR⟩ : ∃ R, R = FindV w (findF m (flS xs)) := ⟨_, rfl⟩
  rw [← hR]
  have HR := Lib.hid hR
  clear hR
  go_enter Tryz.func24, Tryz.ntmps24
  go_wp2
  go_loopg [6, 7, 8] xs.length (fun gf tx n i wr => ∃ k : Nat, k + gf = xs.length ∧ i = .int .i64 k ∧ tx = .string (strB (findF m (flS (xs.take k))).1) ∧ n = .int .i64 ((findF m (flS (xs.take k))).2 : Int) ∧ Stp (fun _ => False) w wr)
  case atStart => exact ⟨0, by omega, rfl, rfl, rfl, Stp.refl _ _⟩
  case round =>
    obtain ⟨k, hk, rfl, rfl, rfl, hs⟩ := hrel
    have HS := Lib.hid hs
    clear hs
    by_cases hlt : k < xs.length
    · obtain ⟨g', rfl⟩ : ∃ g', gk = g' + 1 := ⟨gk - 1, by omega⟩
      have hfl := findF_len m (flS (xs.take k))
      rw [flS_len, List.length_take] at hfl
      have hsn := findF_snoc m (flS (xs.take k)) ((xs[k]).1.data.toList, (xs[k]).2.data.toList)
      rw [← flS_snoc xs k hlt] at hsn
      obtain ⟨ad, rfl, -, c0, c1⟩ := pair_cell (HX.out.stp0 HS.out) k hlt
      obtain ⟨X, hX⟩ : ∃ X, X = (xs[k]).1 := ⟨_, rfl⟩
      obtain ⟨Y, hY⟩ : ∃ Y, Y = (xs[k]).2 := ⟨_, rfl⟩
      rw [← hX, ← hY] at hsn
      rw [← hX] at c0
      rw [← hY] at c1
      have HC := Lib.hid (fun w' (h : Stp (fun _ => False) wr w') => And.intro (h.cell (v := .string X) c0 id) (h.cell (v := .string Y) c1 id))
      obtain ⟨T, hT⟩ : ∃ T, T = (findF m (flS (xs.take k))).1 := ⟨_, rfl⟩
      obtain ⟨C, hC⟩ : ∃ C, C = (findF m (flS (xs.take k))).2 := ⟨_, rfl⟩
      rw [← hC] at hfl
      rw [← hT, ← hC] at hsn ⊢
      have HTE := Lib.hid hT
      have HCE := Lib.hid hC
      have hne := eqlS X m
      rw [← HN.out] at hne
      clear hX hY hT hC c0 c1
      by_cases he : X.data.toList = m
      · rw [show decide (X.data.toList = m) = true by simpa using he] at hne
        rw [if_pos he] at hsn
        have HSN := Lib.hid hsn
        clear hsn he
        go_wp2_with fail
        have HT := Lib.hid ((Stp.refl (fun _ => False) wr).drew)
        refine wp_region_held_drew (S := (fun w' => w'.cell? (ad.add (k * 2)) = some (.string X))) (by kernel_rfl) ((HC.out _ HT.out).1) (fun hHeld => ?_)
        try (change wpAnyH _ _ _ _ _ _ _ _ (World.drew _))
        refine rg_take (i := 0) (o := { dst := some 15, op := Op.move (Operand.tmp 0), type := 29, pos := "ref.go:51", after := #[], guard := none }) (v := ?rgv1) rfl (by kernel_rfl) (by kernel_rfl) (by kernel_rfl) (fun _ _ _ h => h) (by rfl) (fun w hSw => ?rgy1) hHeld ?_
        case rgy1 => (try dsimp only at hSw); first | (go_simp; done) | (go_simp; with_reducible rfl)
        try simp only [Act.put, List.setIfInBounds_toArray, List.set_cons_zero, List.set_cons_succ]
        refine rg_take (i := 1) (o := { dst := some 16, op := Op.move (Operand.tmp 8), type := 3, pos := "ref.go:51", after := #[], guard := none }) (v := ?rgv2) rfl (by kernel_rfl) (by kernel_rfl) (by kernel_rfl) (fun _ _ _ h => h) (by rfl) (fun w hSw => ?rgy2) hHeld ?_
        case rgy2 => (try dsimp only at hSw); first | (go_simp; done) | (go_simp; with_reducible rfl)
        try simp only [Act.put, List.setIfInBounds_toArray, List.set_cons_zero, List.set_cons_succ]
        refine rg_take (i := 2) (o := { dst := some 17, op := Op.indexAddr 29 (Operand.tmp 15) (Operand.tmp 16), type := 0, pos := "ref.go:51", after := #[{ on := 0, ground := Ground.data }, { on := 1, ground := Ground.data }], guard := none }) (v := ?rgv3) rfl (by kernel_rfl) (by kernel_rfl) (by kernel_rfl) (fun _ _ _ h => h) (by rfl) (fun w hSw => ?rgy3) hHeld ?_
        case rgy3 => (try dsimp only at hSw); first | (go_simp; done) | (go_simp; with_reducible rfl)
        try simp only [Act.put, List.setIfInBounds_toArray, List.set_cons_zero, List.set_cons_succ]
        refine rg_take (i := 3) (o := { dst := some 18, op := Op.fieldAddr 31 (Operand.tmp 17) 0, type := 0, pos := "ref.go:51", after := #[{ on := 2, ground := Ground.data }], guard := none }) (v := ?rgv4) rfl (by kernel_rfl) (by kernel_rfl) (by kernel_rfl) (fun _ _ _ h => h) (by rfl) (fun w hSw => ?rgy4) hHeld ?_
        case rgy4 => (try dsimp only at hSw); first | (go_simp; done) | (go_simp; with_reducible rfl)
        try simp only [Act.put, List.setIfInBounds_toArray, List.set_cons_zero, List.set_cons_succ]
        refine rg_take (i := 4) (o := { dst := some 19, op := Op.load 9 (Operand.tmp 18), type := 9, pos := "ref.go:51", after := #[{ on := 3, ground := Ground.data }], guard := none }) (v := ?rgv5) rfl (by kernel_rfl) (by kernel_rfl) (by kernel_rfl) (fun _ _ _ h => h) (by rfl) (fun w hSw => ?rgy5) hHeld ?_
        case rgy5 => (try dsimp only at hSw); first | (go_simp; done) | (go_simp; with_reducible rfl)
        try simp only [Act.put, List.setIfInBounds_toArray, List.set_cons_zero, List.set_cons_succ]
        refine rg_take (i := 5) (o := { dst := some 20, op := Op.move (Operand.tmp 1), type := 9, pos := "ref.go:51", after := #[], guard := none }) (v := ?rgv6) rfl (by kernel_rfl) (by kernel_rfl) (by kernel_rfl) (fun _ _ _ h => h) (by rfl) (fun w hSw => ?rgy6) hHeld ?_
        case rgy6 => (try dsimp only at hSw); first | (go_simp; done) | (go_simp; with_reducible rfl)
        try simp only [Act.put, List.setIfInBounds_toArray, List.set_cons_zero, List.set_cons_succ]
        refine wpAnyH_ready (rs := [6]) (by kernel_rfl) (by simp) ?_
        refine (AllReadyH.cons (o := { dst := some 21, op := Op.call { callee := Callee.value (Operand.func 45), args := #[Operand.tmp 20], argTypes := #[9] }, type := 9, pos := "ref.go:51", after := #[{ on := 5, ground := Ground.data }], guard := none }) rfl (fun K hK => ?_) AllReadyH.nil)
        go_simp
        refine (cl _).mono ?_
        rintro e w3 ⟨rfl, hs3⟩
        replace HT := Lib.hid (HT.out.trans hs3)
        clear hs3
        show K _ _
        clear hHeld
        refine hK.out _ _ ((HC.out _ HT.out).1) (fun hHeld => ?_)
        clear hK K
        try simp only [Act.put, List.setIfInBounds_toArray, List.set_cons_zero, List.set_cons_succ]
        refine rg_take (i := 7) (o := { dst := some 22, op := Op.binOp BinOp.neq 9 (Operand.tmp 19) (Operand.tmp 21) 9, type := 4, pos := "ref.go:51", after := #[{ on := 4, ground := Ground.data }, { on := 6, ground := Ground.data }], guard := none }) (v := ?rgv7) rfl (by kernel_rfl) (by kernel_rfl) (by kernel_rfl) (fun _ _ _ h => h) (by rfl) (fun w hSw => ?rgy7) hHeld ?_
        case rgy7 => (try dsimp only at hSw); first | (go_simp; done) | (go_simp; with_reducible rfl)
        try simp only [Act.put, List.setIfInBounds_toArray, List.set_cons_zero, List.set_cons_succ]
        clear hHeld
        refine wpAnyH_done (by kernel_rfl) ?_ _
        obtain ⟨k0, k1⟩ := HC.out _ HT.out
        by_cases hC0 : C = 0
        · have hC1 : ((C : Int) == 0) = true := by simp [hC0]
          have HC0 := Lib.hid hC0
          clear hC0
          go_wp2
          go_roundg g'
          case measure => omega
          case rel => exact ⟨k + 1, by omega, by go_num, by rw [HSN.out, if_pos HC0.out, strB_of'], by rw [HSN.out]; rfl, HS.out.trans HT.out⟩
        · have hC1 : ((C : Int) == 0) = false := by simp; omega
          have HC0 := Lib.hid hC0
          go_wp2
          go_roundg g'
          case measure => omega
          case rel => exact ⟨k + 1, by omega, by go_num, by rw [HSN.out, if_neg HC0.out], by rw [HSN.out]; rfl, HS.out.trans HT.out⟩
      · rw [show decide (X.data.toList = m) = false by simpa using he] at hne
        rw [if_neg he] at hsn
        have HSN := Lib.hid hsn
        clear hsn he
        go_wp2_with fail
        have HT := Lib.hid ((Stp.refl (fun _ => False) wr).drew)
        refine wp_region_held_drew (S := (fun w' => w'.cell? (ad.add (k * 2)) = some (.string X))) (by kernel_rfl) ((HC.out _ HT.out).1) (fun hHeld => ?_)
        try (change wpAnyH _ _ _ _ _ _ _ _ (World.drew _))
        refine rg_take (i := 0) (o := { dst := some 15, op := Op.move (Operand.tmp 0), type := 29, pos := "ref.go:51", after := #[], guard := none }) (v := ?rgv8) rfl (by kernel_rfl) (by kernel_rfl) (by kernel_rfl) (fun _ _ _ h => h) (by rfl) (fun w hSw => ?rgy8) hHeld ?_
        case rgy8 => (try dsimp only at hSw); first | (go_simp; done) | (go_simp; with_reducible rfl)
        try simp only [Act.put, List.setIfInBounds_toArray, List.set_cons_zero, List.set_cons_succ]
        refine rg_take (i := 1) (o := { dst := some 16, op := Op.move (Operand.tmp 8), type := 3, pos := "ref.go:51", after := #[], guard := none }) (v := ?rgv9) rfl (by kernel_rfl) (by kernel_rfl) (by kernel_rfl) (fun _ _ _ h => h) (by rfl) (fun w hSw => ?rgy9) hHeld ?_
        case rgy9 => (try dsimp only at hSw); first | (go_simp; done) | (go_simp; with_reducible rfl)
        try simp only [Act.put, List.setIfInBounds_toArray, List.set_cons_zero, List.set_cons_succ]
        refine rg_take (i := 2) (o := { dst := some 17, op := Op.indexAddr 29 (Operand.tmp 15) (Operand.tmp 16), type := 0, pos := "ref.go:51", after := #[{ on := 0, ground := Ground.data }, { on := 1, ground := Ground.data }], guard := none }) (v := ?rgv10) rfl (by kernel_rfl) (by kernel_rfl) (by kernel_rfl) (fun _ _ _ h => h) (by rfl) (fun w hSw => ?rgy10) hHeld ?_
        case rgy10 => (try dsimp only at hSw); first | (go_simp; done) | (go_simp; with_reducible rfl)
        try simp only [Act.put, List.setIfInBounds_toArray, List.set_cons_zero, List.set_cons_succ]
        refine rg_take (i := 3) (o := { dst := some 18, op := Op.fieldAddr 31 (Operand.tmp 17) 0, type := 0, pos := "ref.go:51", after := #[{ on := 2, ground := Ground.data }], guard := none }) (v := ?rgv11) rfl (by kernel_rfl) (by kernel_rfl) (by kernel_rfl) (fun _ _ _ h => h) (by rfl) (fun w hSw => ?rgy11) hHeld ?_
        case rgy11 => (try dsimp only at hSw); first | (go_simp; done) | (go_simp; with_reducible rfl)
        try simp only [Act.put, List.setIfInBounds_toArray, List.set_cons_zero, List.set_cons_succ]
        refine rg_take (i := 4) (o := { dst := some 19, op := Op.load 9 (Operand.tmp 18), type := 9, pos := "ref.go:51", after := #[{ on := 3, ground := Ground.data }], guard := none }) (v := ?rgv12) rfl (by kernel_rfl) (by kernel_rfl) (by kernel_rfl) (fun _ _ _ h => h) (by rfl) (fun w hSw => ?rgy12) hHeld ?_
        case rgy12 => (try dsimp only at hSw); first | (go_simp; done) | (go_simp; with_reducible rfl)
        try simp only [Act.put, List.setIfInBounds_toArray, List.set_cons_zero, List.set_cons_succ]
        refine rg_take (i := 5) (o := { dst := some 20, op := Op.move (Operand.tmp 1), type := 9, pos := "ref.go:51", after := #[], guard := none }) (v := ?rgv13) rfl (by kernel_rfl) (by kernel_rfl) (by kernel_rfl) (fun _ _ _ h => h) (by rfl) (fun w hSw => ?rgy13) hHeld ?_
        case rgy13 => (try dsimp only at hSw); first | (go_simp; done) | (go_simp; with_reducible rfl)
        try simp only [Act.put, List.setIfInBounds_toArray, List.set_cons_zero, List.set_cons_succ]
        refine wpAnyH_ready (rs := [6]) (by kernel_rfl) (by simp) ?_
        refine (AllReadyH.cons (o := { dst := some 21, op := Op.call { callee := Callee.value (Operand.func 45), args := #[Operand.tmp 20], argTypes := #[9] }, type := 9, pos := "ref.go:51", after := #[{ on := 5, ground := Ground.data }], guard := none }) rfl (fun K hK => ?_) AllReadyH.nil)
        go_simp
        refine (cl _).mono ?_
        rintro e w3 ⟨rfl, hs3⟩
        replace HT := Lib.hid (HT.out.trans hs3)
        clear hs3
        show K _ _
        clear hHeld
        refine hK.out _ _ ((HC.out _ HT.out).1) (fun hHeld => ?_)
        clear hK K
        try simp only [Act.put, List.setIfInBounds_toArray, List.set_cons_zero, List.set_cons_succ]
        refine rg_take (i := 7) (o := { dst := some 22, op := Op.binOp BinOp.neq 9 (Operand.tmp 19) (Operand.tmp 21) 9, type := 4, pos := "ref.go:51", after := #[{ on := 4, ground := Ground.data }, { on := 6, ground := Ground.data }], guard := none }) (v := ?rgv14) rfl (by kernel_rfl) (by kernel_rfl) (by kernel_rfl) (fun _ _ _ h => h) (by rfl) (fun w hSw => ?rgy14) hHeld ?_
        case rgy14 => (try dsimp only at hSw); first | (go_simp; done) | (go_simp; with_reducible rfl)
        try simp only [Act.put, List.setIfInBounds_toArray, List.set_cons_zero, List.set_cons_succ]
        clear hHeld
        refine wpAnyH_done (by kernel_rfl) ?_ _
        go_wp2
        go_roundg g'
        case measure => omega
        case rel => exact ⟨k + 1, by omega, by go_num, by rw [HSN.out, HTE.out], by rw [HSN.out, HCE.out], HS.out.trans HT.out⟩
    · obtain rfl : k = xs.length := by omega
      rw [List.take_length] at *
      go_wp2
      rw [HR.out]
      exact ⟨rfl, HS.out⟩
end Go.Proofs.YtdamgdmipfoalaaGreatDoor.L
