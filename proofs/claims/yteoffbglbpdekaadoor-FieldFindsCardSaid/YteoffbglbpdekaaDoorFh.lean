/- Layer 12: the law FieldFinds. -/
import Derived.Test.YteoffbglbpdekaaDoorFg
set_option linter.unusedVariables false
set_option linter.unusedSimpArgs false
namespace Go.Proofs.YteoffbglbpdekaaDoor.L
open Go.RowKit Go.Proofs

theorem info_fld : (Tryd.prog.info? 24).map (fun i => (i.zero, i.size, i.bytes)) = some (some (.agg #[.string ⟨#[]⟩, .string ⟨#[]⟩]), 2, 32) := by kernel_rfl
/-- A field that lies in a block. -/
def FAt (g : Nat) (n t : ByteArray) (w : World) : Prop := w.cell? ⟨g, 0, none⟩ = some (.string n) ∧ w.cell? ⟨g, 1, none⟩ = some (.string t)
theorem FAt.step {g : Nat} {n t : ByteArray} {w w' : World} (h : FAt g n t w) (hs : Stp (fun _ => False) w w') : FAt g n t w' := ⟨hs.cell h.1 id, hs.cell h.2 id⟩
theorem FAt.now {g : Nat} {n t : ByteArray} {w : World} (h : FAt g n t w) (M : Nat → Prop) : Now fldK M w (.slice (some ⟨g, 0, none⟩) 1 1) [(n, t)] :=
  ⟨_, 1, rfl, fun _ => ⟨_, rfl, fun j p hj => by
    match j, hj with
    | 0, hj =>
      simp at hj
      subst hj
      refine ⟨[.string n, .string t], ⟨[.string n], [.string t], rfl, rfl, rfl⟩, fun i u hu => ?_⟩
      match i, hu with
      | 0, hu =>
        simp at hu
        subst hu
        exact h.1
      | 1, hu =>
        simp at hu
        subst hu
        exact h.2⟩⟩
theorem FAt.alloc (w : World) (n t : ByteArray) : FAt w.heap.size n t (w.alloc (.cells #[.string n, .string t] 24)) :=
  ⟨blk_cell (j := 0) (heap_alloc_new w _), blk_cell (j := 1) (heap_alloc_new w _)⟩
theorem ne_new {g : Nat} {n t : ByteArray} {w : World} (h : FAt g n t w) : ∀ k, (Value.slice (some ⟨w.heap.size, 0, none⟩) 0 0).ownBlock = some k → k ≠ g := by
  intro k hk e
  have hk' : w.heap.size = k := Option.some.inj hk
  have h2 := World.block_lt_of_cell? _ _ h.1
  have h3 : g < w.heap.size := h2
  omega
theorem ne_own {e B : Nat} {M : Nat → Prop} {w : World} {v : Value} {xs : List (ByteArray × ByteArray)} (h : OwnM fldK e B M w v xs) : ∀ k, v.ownBlock = some k → k ≠ w.heap.size := by
  intro k hk e
  have := (h.lt k hk).2
  omega
theorem FAt.grown {g : Nat} {n t : ByteArray} {w w' : World} {row : Option Nat} (h : FAt g n t w) (hg : w.grownBy w' row) (hr : row ≠ some g) : FAt g n t w' := by
  have hb := hg.block g (World.block_lt_of_cell? w _ h.1) (fun e => hr e.symm)
  exact ⟨(World.cell?_of_block hb).trans h.1, (World.cell?_of_block hb).trans h.2⟩

set_option maxRecDepth 100000 in
set_option maxHeartbeats 16000000 in
theorem finds12_law (M : Nat → Prop) (v : Value) (xs : List (ByteArray × ByteArray)) (n t : ByteArray) (w : World) (hx : Rd fldK M w v xs) (hn : n.size ≤ 9223372036854775807) (ht : t.size ≤ 9223372036854775807) (hm : MaxL w) :
    Calls Tryd.prog 7 #[v, .agg #[.string n, .string t]] w (TrueV w) := by
  obtain ⟨A, c, rfl, hle⟩ := hx.form
  have hcm := hx.at_.2.2.1
  unfold maxLen at hcm
  have HX := Lib.hid hx
  obtain ⟨R, hR⟩ : ∃ R, R = TrueV w := ⟨_, rfl⟩
  rw [← hR]
  have HR := Lib.hid hR
  have HM := Lib.hid hm
  clear hR hm hx
  by_cases hg : xs.length ≤ 50 ∧ n.size ≤ 500
  · obtain ⟨h1, h2⟩ := hg
    have cl := fun W => lower_any n W hn
    have hlq := beqS (lowS n.data.toList) n
    have f1 := fun W (hs : Stp (fun _ => False) w W) => find_any M _ xs n W (HX.out.stp0 hs) hn (by omega)
    have f2 := fun W v' (hv : Rd fldK (fun _ => False) W v' (xs ++ [(n, t)])) => find_any (fun _ => False) v' (xs ++ [(n, t)]) n W hv hn (by simp; omega)
    have hfl : flS (xs ++ [(n, t)]) = flS xs ++ [(n.data.toList, t.data.toList)] := by simp [flS]
    rw [hfl, findF_snoc] at f2
    simp only at f2
    have hf0 := findF_zero (lowS n.data.toList) (flS xs)
    have hfn := findF_len (lowS n.data.toList) (flS xs)
    rw [flS_len] at hfn
    obtain ⟨⟨s, q⟩, hr⟩ : ∃ r, r = findF (lowS n.data.toList) (flS xs) := ⟨_, rfl⟩
    rw [← hr] at f1 f2 hf0 hfn
    obtain ⟨L, hL⟩ : ∃ L, L = strB (lowS n.data.toList) := ⟨_, rfl⟩
    rw [← hL] at cl hlq
    obtain ⟨S, hS⟩ : ∃ S, S = strB s := ⟨_, rfl⟩
    have hS0 : q = 0 → S = ⟨#[]⟩ := fun h => by rw [hS, show s = [] from hf0 h]; rfl
    have f1' : ∀ W (hs : Stp (fun _ => False) w W), Calls Tryd.prog 24 #[.slice A xs.length c, .string n] W fun e w' => e = .returned (.tuple #[.string S, .int .i64 (q : Int)]) ∧ Stp (fun _ => False) W w' := fun W hs => by rw [hS]; exact f1 W hs
    have key : ∃ (b : Bool) (T : ByteArray) (m : Nat), (L.toList == n.toList) = b ∧ (∀ W v' (hv : Rd fldK (fun _ => False) W v' (xs ++ [(n, t)])), Calls Tryd.prog 24 #[v', .string n] W fun e w' => e = .returned (.tuple #[.string T, .int .i64 (m : Int)]) ∧ Stp (fun _ => False) W w') ∧
        ((b = false ∧ T = S ∧ m = q) ∨ (b = true ∧ q ≠ 0 ∧ T = S ∧ m = q + 1) ∨ (b = true ∧ q = 0 ∧ T = t ∧ m = 1 ∧ S = ⟨#[]⟩)) := by
      by_cases hlow : n.data.toList = lowS n.data.toList
      · refine ⟨true, if q = 0 then t else S, q + 1, ?_, fun W v' hv => ?_, ?_⟩
        · rw [hlq]; simpa using hlow.symm
        · refine (f2 W v' hv).mono fun e w' ⟨he, hs⟩ => ⟨?_, hs⟩
          rw [he, if_pos hlow, hS]
          split
          · rw [strB_of']
          · rfl
        · by_cases hq : q = 0
          · subst hq
            exact .inr (.inr ⟨rfl, rfl, rfl, rfl, hS0 rfl⟩)
          · exact .inr (.inl ⟨rfl, hq, if_neg hq, rfl⟩)
      · refine ⟨false, S, q, ?_, fun W v' hv => ?_, .inl ⟨rfl, rfl, rfl⟩⟩
        · rw [hlq]; simpa using fun h => hlow h.symm
        · refine (f2 W v' hv).mono fun e w' ⟨he, hs⟩ => ⟨?_, hs⟩
          rw [he, if_neg hlow, hS]
    obtain ⟨b, T, m, hb, f2', hk⟩ := key
    clear hr hS hS0 hf0 f1 f2 hfl hlq hL
    have HS0 := Lib.hid (Stp.refl (fun _ => False) w)
    go_enter Tryd.func7, Tryd.ntmps7
    go_wp2_with (go_at_call 19; refine stopc ?_)
    refine Stop.go ?_
    refine (small12_any _ (HM.out.step (HS0.out.alloc _))).mono ?_
    rintro e w1 ⟨he, hs1⟩
    subst he
    have HS1 := Lib.hid ((HS0.out.alloc _).trans hs1)
    have HBF := Lib.hid (show w1.heap[w.heap.size]? = some (.cells #[.string n, .string t] 24 (0, 0)) from hs1.blk (heap_alloc_new w _) id)
    clear hs1
    have kF0 : w1.cell? ⟨w.heap.size, 0, none⟩ = some (.string n) := blk_cell (j := 0) HBF.out
    have kF1 : w1.cell? ⟨w.heap.size, 1, none⟩ = some (.string t) := blk_cell (j := 1) HBF.out
    have ltF := blk_lt HBF.out
    have HF1 := Lib.hid (show FAt w.heap.size n t w1 from ⟨kF0, kF1⟩)
    clear kF0 kF1 ltF
    obtain ⟨k0, k1⟩ := HF1.out
    go_wp2_with fail
    have HT := Lib.hid ((Stp.refl (fun _ => False) w1).drew)
    refine wp_region_held_drew (S := FAt w.heap.size n t) (by kernel_rfl) (HF1.out.step HT.out) (fun hHeld => ?_)
    try (change wpAnyH _ _ _ _ _ _ _ _ (World.drew _))
    refine rg_take (i := 0) (o := { dst := some 22, op := Op.fieldAddr 24 (Operand.tmp 3) 0, type := 0, pos := "law.go:105", after := #[], guard := none }) (v := ?rgv1) rfl (by kernel_rfl) (by kernel_rfl) (by kernel_rfl) (fun _ _ _ h => h) (by rfl) (fun w hSw => ?rgy1) hHeld ?_
    case rgy1 => (try dsimp only at hSw); first | (go_simp; done) | (go_simp; with_reducible rfl)
    try simp only [Act.put, List.setIfInBounds_toArray, List.set_cons_zero, List.set_cons_succ]
    refine rg_take (i := 1) (o := { dst := some 23, op := Op.load 9 (Operand.tmp 22), type := 9, pos := "law.go:105", after := #[{ on := 0, ground := Ground.data }], guard := none }) (v := ?rgv2) rfl (by kernel_rfl) (by kernel_rfl) (by kernel_rfl) (fun _ _ _ h => h) (by rfl) (fun w hSw => ?rgy2) hHeld ?_
    case rgy2 => (have hk0 := hSw.1; go_simp; with_reducible rfl)
    try simp only [Act.put, List.setIfInBounds_toArray, List.set_cons_zero, List.set_cons_succ]
    refine rg_take (i := 3) (o := { dst := some 25, op := Op.fieldAddr 24 (Operand.tmp 3) 0, type := 0, pos := "law.go:105", after := #[], guard := none }) (v := ?rgv3) rfl (by kernel_rfl) (by kernel_rfl) (by kernel_rfl) (fun _ _ _ h => h) (by rfl) (fun w hSw => ?rgy3) hHeld ?_
    case rgy3 => (try dsimp only at hSw); first | (go_simp; done) | (go_simp; with_reducible rfl)
    try simp only [Act.put, List.setIfInBounds_toArray, List.set_cons_zero, List.set_cons_succ]
    refine rg_take (i := 4) (o := { dst := some 26, op := Op.load 9 (Operand.tmp 25), type := 9, pos := "law.go:105", after := #[{ on := 3, ground := Ground.data }], guard := none }) (v := ?rgv4) rfl (by kernel_rfl) (by kernel_rfl) (by kernel_rfl) (fun _ _ _ h => h) (by rfl) (fun w hSw => ?rgy4) hHeld ?_
    case rgy4 => (have hk0 := hSw.1; go_simp; with_reducible rfl)
    try simp only [Act.put, List.setIfInBounds_toArray, List.set_cons_zero, List.set_cons_succ]
    refine wpAnyH_ready (rs := [2]) (by kernel_rfl) (by simp) ?_
    refine (AllReadyH.cons (o := { dst := some 24, op := Op.call { callee := Callee.value (Operand.func 26), args := #[Operand.tmp 23], argTypes := #[9] }, type := 9, pos := "law.go:105", after := #[{ on := 1, ground := Ground.data }], guard := none }) rfl (fun K hK => ?_) AllReadyH.nil)
    go_simp
    refine (cl _).mono ?_
    rintro e w2 ⟨rfl, hs2⟩
    replace HT := Lib.hid (HT.out.trans hs2)
    clear hs2
    show K _ _
    clear hHeld
    refine hK.out _ _ (HF1.out.step HT.out) (fun hHeld => ?_)
    clear hK K
    try simp only [Act.put, List.setIfInBounds_toArray, List.set_cons_zero, List.set_cons_succ]
    refine rg_take (i := 5) (o := { dst := some 27, op := Op.binOp BinOp.eql 9 (Operand.tmp 24) (Operand.tmp 26) 9, type := 4, pos := "law.go:105", after := #[{ on := 2, ground := Ground.data }, { on := 4, ground := Ground.data }], guard := none }) (v := ?rgv5) rfl (by kernel_rfl) (by kernel_rfl) (by kernel_rfl) (fun _ _ _ h => h) (by rfl) (fun w hSw => ?rgy5) hHeld ?_
    case rgy5 => (try dsimp only at hSw); first | (go_simp; done) | (go_simp; with_reducible rfl)
    try simp only [Act.put, List.setIfInBounds_toArray, List.set_cons_zero, List.set_cons_succ]
    refine rg_take (i := 6) (o := { dst := some 6, op := Op.assign (Operand.tmp 27), type := 4, pos := "law.go:105", after := #[{ on := 5, ground := Ground.data }, { on := 2, ground := Ground.chain }, { on := 0, ground := Ground.phase }, { on := 1, ground := Ground.phase }, { on := 2, ground := Ground.phase }, { on := 3, ground := Ground.phase }, { on := 4, ground := Ground.phase }, { on := 5, ground := Ground.phase }], guard := none }) (v := ?rgv6) rfl (by kernel_rfl) (by kernel_rfl) (by kernel_rfl) (fun _ _ _ h => h) (by rfl) (fun w hSw => ?rgy6) hHeld ?_
    case rgy6 => (try dsimp only at hSw); first | (go_simp; done) | (go_simp; with_reducible rfl)
    try simp only [Act.put, List.setIfInBounds_toArray, List.set_cons_zero, List.set_cons_succ]
    clear hHeld
    refine wpAnyH_done (by kernel_rfl) ?_ _
    have HS2 := Lib.hid (HS1.out.trans HT.out)
    obtain ⟨k2, k3⟩ := HF1.out.step HT.out
    go_wp2_with (go_at_call 24; refine stopc ?_)
    refine Stop.go ?_
    refine (f1' _ HS2.out).mono ?_
    rintro e w3 ⟨rfl, hs3⟩
    have HF3 := Lib.hid ((HF1.out.step HT.out).step hs3)
    have HS3 := Lib.hid (HS2.out.trans hs3)
    clear hs3 k2 k3 HT
    go_wp2_with fail
    have hT0 : Stp (fun _ => False) w3 w3.drew := (Stp.refl _ _).drew
    refine wp_region_held_drew (S := FAt w.heap.size n t) (by kernel_rfl) (HF3.out.step hT0) (fun hHeld => ?_)
    try (change wpAnyH _ _ _ _ _ _ _ _ (World.drew _))
    generalize w3.drew = W0 at hT0 hHeld ⊢
    have HT := Lib.hid (Stp.refl (fun _ => False) W0)
    have HF := Lib.hid (HF3.out.step hT0)
    have HW := Lib.hid (HS3.out.trans hT0)
    have HOWN : True := trivial
    have HLIT : True := trivial
    have HNE : True := trivial
    clear hT0
    refine rg_take (i := 1) (o := { dst := some 37, op := Op.move (Operand.tmp 0), type := 29, pos := "law.go:107", after := #[], guard := none }) (v := ?rgv7) rfl (by kernel_rfl) (by kernel_rfl) (by kernel_rfl) (fun _ _ _ h => h) (by rfl) (fun w hSw => ?rgy7) hHeld ?_
    case rgy7 => (try dsimp only at hSw); first | (go_simp; done) | (go_simp; with_reducible rfl)
    try simp only [Act.put, List.setIfInBounds_toArray, List.set_cons_zero, List.set_cons_succ]
    refine rg_take (i := 3) (o := { dst := some 39, op := Op.load 24 (Operand.tmp 3), type := 24, pos := "law.go:107", after := #[], guard := none }) (v := ?rgv8) rfl (by kernel_rfl) (by kernel_rfl) (by kernel_rfl) (fun _ _ _ h => h) (by rfl) (fun w hSw => ?rgy8) hHeld ?_
    case rgy8 => (have hk0 := hSw.1; have hk1 := hSw.2; go_simp; with_reducible rfl)
    try simp only [Act.put, List.setIfInBounds_toArray, List.set_cons_zero, List.set_cons_succ]
    refine rg_take (i := 6) (o := { dst := some 42, op := Op.fieldAddr 24 (Operand.tmp 3) 0, type := 0, pos := "law.go:107", after := #[], guard := none }) (v := ?rgv9) rfl (by kernel_rfl) (by kernel_rfl) (by kernel_rfl) (fun _ _ _ h => h) (by rfl) (fun w hSw => ?rgy9) hHeld ?_
    case rgy9 => (try dsimp only at hSw); first | (go_simp; done) | (go_simp; with_reducible rfl)
    try simp only [Act.put, List.setIfInBounds_toArray, List.set_cons_zero, List.set_cons_succ]
    refine rg_take (i := 7) (o := { dst := some 43, op := Op.load 9 (Operand.tmp 42), type := 9, pos := "law.go:107", after := #[{ on := 6, ground := Ground.data }], guard := none }) (v := ?rgv10) rfl (by kernel_rfl) (by kernel_rfl) (by kernel_rfl) (fun _ _ _ h => h) (by rfl) (fun w hSw => ?rgy10) hHeld ?_
    case rgy10 => (have hk0 := hSw.1; go_simp; with_reducible rfl)
    try simp only [Act.put, List.setIfInBounds_toArray, List.set_cons_zero, List.set_cons_succ]
    refine wpAnyH_ready (rs := [0, 4]) (by kernel_rfl) (by simp) ?_
    refine (AllReadyH.cons (o := { dst := some 36, op := Op.buildSlice 29 0 #[], type := 29, pos := "law.go:107", after := #[], guard := none }) rfl (fun K hK => ?_) (AllReadyH.cons (o := { dst := some 40, op := Op.buildSlice 29 1 #[(0, Operand.tmp 39)], type := 29, pos := "law.go:107", after := #[{ on := 3, ground := Ground.data }], guard := none }) rfl (fun K hK => ?_) AllReadyH.nil))
    · skip
      go_simp
      have o1 := OwnM.empty fldK 24 W0.heap.size (fun k => W0.heap.size ≤ k) W0 HT.out.size
      have p1 := (Stp.refl (fun _ => False) W0).alloc (.cells #[] 24)
      try replace HNE := Lib.hid (ne_new HLIT.out)
      generalize W0.alloc (.cells #[] 24) = W1 at o1 p1 ⊢
      try replace HLIT := Lib.hid (HLIT.out.step p1)
      replace HOWN := Lib.hid o1
      replace HT := Lib.hid (HT.out.trans p1)
      clear o1 p1
      show K _ _
      clear hHeld
      refine hK.out _ _ (HF.out.step HT.out) (fun hHeld => ?_)
      clear hK K
      try simp only [Act.put, List.setIfInBounds_toArray, List.set_cons_zero, List.set_cons_succ]
      refine wpAnyH_ready (rs := [2, 4]) (by kernel_rfl) (by simp) ?_
      refine (AllReadyH.cons (o := { dst := some 38, op := Op.call { callee := Callee.builtin Builtin.append, args := #[Operand.tmp 36, Operand.tmp 37], argTypes := #[29, 29] }, type := 29, pos := "law.go:107", after := #[{ on := 0, ground := Ground.data }, { on := 1, ground := Ground.data }], guard := none }) rfl (fun K hK => ?_) (AllReadyH.cons (o := { dst := some 40, op := Op.buildSlice 29 1 #[(0, Operand.tmp 39)], type := 29, pos := "law.go:107", after := #[{ on := 3, ground := Ground.data }], guard := none }) rfl (fun K hK => ?_) AllReadyH.nil))
      · skip
        refine op_appendRdM (d := fldK) (B := W0.heap.size) (M := fun k => W0.heap.size ≤ k) (ys := xs) _ _ _ (by rfl) Tryd.underlying29 info_fld (by rfl) (by decide) HOWN.out (HX.out.stp0 (HW.out.trans HT.out)).now (fun k hk => (HOWN.out.lt k hk).1) (by rfl) (by rfl) (by simp; omega) (by simp; omega) HT.out.size ?_
        intro vA W2 ho hg
        rw [List.nil_append] at ho
        try replace HLIT := Lib.hid (HLIT.out.grown hg (fun e => HNE.out _ e rfl))
        have p1 := Stp.ownM HT.out HOWN.out (Nat.le_refl _) hg
        replace HT := Lib.hid p1
        replace HOWN := Lib.hid ho
        clear ho hg p1
        show K _ _
        clear hHeld
        refine hK.out _ _ (HF.out.step HT.out) (fun hHeld => ?_)
        clear hK K
        try simp only [Act.put, List.setIfInBounds_toArray, List.set_cons_zero, List.set_cons_succ]
        refine wpAnyH_ready (rs := [4]) (by kernel_rfl) (by simp) ?_
        refine (AllReadyH.cons (o := { dst := some 40, op := Op.buildSlice 29 1 #[(0, Operand.tmp 39)], type := 29, pos := "law.go:107", after := #[{ on := 3, ground := Ground.data }], guard := none }) rfl (fun K hK => ?_) AllReadyH.nil)
        go_simp
        have o1 := FAt.alloc W2 n t
        have p1 := (Stp.refl (fun _ => False) W2).alloc (.cells #[.string n, .string t] 24)
        generalize W2.alloc (.cells #[.string n, .string t] 24) = W3 at o1 p1 ⊢
        try replace HNE := Lib.hid (ne_own HOWN.out)
        try replace HOWN := Lib.hid (HOWN.out.stp0 p1)
        replace HLIT := Lib.hid o1
        replace HT := Lib.hid (HT.out.trans p1)
        clear o1 p1
        show K _ _
        clear hHeld
        refine hK.out _ _ (HF.out.step HT.out) (fun hHeld => ?_)
        clear hK K
        try simp only [Act.put, List.setIfInBounds_toArray, List.set_cons_zero, List.set_cons_succ]
        refine wpAnyH_ready (rs := [5]) (by kernel_rfl) (by simp) ?_
        refine (AllReadyH.cons (o := { dst := some 41, op := Op.call { callee := Callee.builtin Builtin.append, args := #[Operand.tmp 38, Operand.tmp 40], argTypes := #[29, 29] }, type := 29, pos := "law.go:107", after := #[{ on := 2, ground := Ground.data }, { on := 4, ground := Ground.data }, { on := 2, ground := Ground.chain }], guard := none }) rfl (fun K hK => ?_) AllReadyH.nil)
        refine op_appendRdM (d := fldK) (B := W0.heap.size) (M := fun k => W0.heap.size ≤ k) (ys := [(n, t)]) _ _ _ (by rfl) Tryd.underlying29 info_fld (by rfl) (by decide) HOWN.out (HLIT.out.now _) (fun k hk => (HOWN.out.lt k hk).1) (by rfl) (by rfl) (by simp; omega) (by simp; omega) HT.out.size ?_
        intro vB W4 ho hg
        have p1 := Stp.ownM HT.out HOWN.out (Nat.le_refl _) hg
        replace HT := Lib.hid p1
        replace HOWN := Lib.hid ho
        clear ho hg p1
        show K _ _
        clear hHeld
        refine hK.out _ _ (HF.out.step HT.out) (fun hHeld => ?_)
        clear hK K
        try simp only [Act.put, List.setIfInBounds_toArray, List.set_cons_zero, List.set_cons_succ]
        refine wpAnyH_ready (rs := [8]) (by kernel_rfl) (by simp) ?_
        refine (AllReadyH.cons (o := { dst := some 44, op := Op.call { callee := Callee.value (Operand.func 24), args := #[Operand.tmp 41, Operand.tmp 43], argTypes := #[29, 9] }, type := 32, pos := "law.go:107", after := #[{ on := 5, ground := Ground.data }, { on := 7, ground := Ground.data }, { on := 5, ground := Ground.chain }], guard := none }) rfl (fun K hK => ?_) AllReadyH.nil)
        go_simp
        refine (f2' _ _ (HOWN.out.rd (fun _ _ h => h.elim) (fun _ _ => id))).mono ?_
        rintro e W5 ⟨rfl, hs4⟩
        replace HT := Lib.hid (HT.out.trans hs4)
        clear hs4
        show K _ _
        clear hHeld
        refine hK.out _ _ (HF.out.step HT.out) (fun hHeld => ?_)
        clear hK K
        try simp only [Act.put, List.setIfInBounds_toArray, List.set_cons_zero, List.set_cons_succ]
        refine rg_take (i := 9) (o := { dst := some 35, op := Op.move (Operand.tmp 44), type := 32, pos := "law.go:107", after := #[{ on := 8, ground := Ground.data }], guard := none }) (v := ?rgv11) rfl (by kernel_rfl) (by kernel_rfl) (by kernel_rfl) (fun _ _ _ h => h) (by rfl) (fun w hSw => ?rgy11) hHeld ?_
        case rgy11 => (try dsimp only at hSw); first | (go_simp; done) | (go_simp; with_reducible rfl)
        try simp only [Act.put, List.setIfInBounds_toArray, List.set_cons_zero, List.set_cons_succ]
        refine rg_take (i := 10) (o := { dst := some 45, op := Op.extract (Operand.tmp 35) 0, type := 9, pos := "law.go:107", after := #[{ on := 9, ground := Ground.data }], guard := none }) (v := ?rgv12) rfl (by kernel_rfl) (by kernel_rfl) (by kernel_rfl) (fun _ _ _ h => h) (by rfl) (fun w hSw => ?rgy12) hHeld ?_
        case rgy12 => (try dsimp only at hSw); first | (go_simp; done) | (go_simp; with_reducible rfl)
        try simp only [Act.put, List.setIfInBounds_toArray, List.set_cons_zero, List.set_cons_succ]
        refine rg_take (i := 11) (o := { dst := some 46, op := Op.extract (Operand.tmp 35) 1, type := 3, pos := "law.go:107", after := #[{ on := 9, ground := Ground.data }, { on := 12, ground := Ground.gcOnly Departure.lateStores }], guard := none }) (v := ?rgv13) rfl (by kernel_rfl) (by kernel_rfl) (by kernel_rfl) (fun _ _ _ h => h) (by rfl) (fun w hSw => ?rgy13) hHeld ?_
        case rgy13 => (try dsimp only at hSw); first | (go_simp; done) | (go_simp; with_reducible rfl)
        try simp only [Act.put, List.setIfInBounds_toArray, List.set_cons_zero, List.set_cons_succ]
        refine rg_take (i := 12) (o := { dst := some 9, op := Op.assign (Operand.tmp 45), type := 9, pos := "law.go:107", after := #[{ on := 10, ground := Ground.data }, { on := 8, ground := Ground.chain }, { on := 0, ground := Ground.phase }, { on := 1, ground := Ground.phase }, { on := 2, ground := Ground.phase }, { on := 3, ground := Ground.phase }, { on := 4, ground := Ground.phase }, { on := 5, ground := Ground.phase }, { on := 6, ground := Ground.phase }, { on := 7, ground := Ground.phase }, { on := 8, ground := Ground.phase }, { on := 9, ground := Ground.phase }, { on := 10, ground := Ground.phase }, { on := 11, ground := Ground.textOnly Departure.lateStores }], guard := none }) (v := ?rgv14) rfl (by kernel_rfl) (by kernel_rfl) (by kernel_rfl) (fun _ _ _ h => h) (by rfl) (fun w hSw => ?rgy14) hHeld ?_
        case rgy14 => (try dsimp only at hSw); first | (go_simp; done) | (go_simp; with_reducible rfl)
        try simp only [Act.put, List.setIfInBounds_toArray, List.set_cons_zero, List.set_cons_succ]
        refine rg_take (i := 13) (o := { dst := some 10, op := Op.assign (Operand.tmp 46), type := 3, pos := "law.go:107", after := #[{ on := 11, ground := Ground.data }, { on := 12, ground := Ground.chain }, { on := 0, ground := Ground.phase }, { on := 1, ground := Ground.phase }, { on := 2, ground := Ground.phase }, { on := 3, ground := Ground.phase }, { on := 4, ground := Ground.phase }, { on := 5, ground := Ground.phase }, { on := 6, ground := Ground.phase }, { on := 7, ground := Ground.phase }, { on := 8, ground := Ground.phase }, { on := 9, ground := Ground.phase }, { on := 10, ground := Ground.phase }, { on := 11, ground := Ground.phase }, { on := 12, ground := Ground.phase }], guard := none }) (v := ?rgv15) rfl (by kernel_rfl) (by kernel_rfl) (by kernel_rfl) (fun _ _ _ h => h) (by rfl) (fun w hSw => ?rgy15) hHeld ?_
        case rgy15 => (try dsimp only at hSw); first | (go_simp; done) | (go_simp; with_reducible rfl)
        try simp only [Act.put, List.setIfInBounds_toArray, List.set_cons_zero, List.set_cons_succ]
        clear hHeld
        refine wpAnyH_done (by kernel_rfl) ?_ _
        obtain ⟨k2, k3⟩ := HF.out.step HT.out
        rcases hk with ⟨rfl, rfl, rfl⟩ | ⟨rfl, hq, rfl, rfl⟩ | ⟨rfl, rfl, rfl, rfl, rfl⟩
        · have e1 : (T.toList == T.toList) = true := by simp
          go_wp2
          rw [HR.out]
          exact ⟨rfl, HW.out.trans HT.out⟩
        · have e1 : (T.toList == T.toList) = true := by simp
          have q0 : 0 < q := by omega
          have q1 : ((q : Int) == 0) = false := by simp; omega
          clear hq
          go_wp2
          rw [HR.out]
          exact ⟨rfl, HW.out.trans HT.out⟩
        · have e1 : (T.toList == T.toList) = true := by simp
          go_wp2
          rw [HR.out]
          exact ⟨rfl, HW.out.trans HT.out⟩
      · skip
        go_simp
        have o1 := FAt.alloc W1 n t
        have p1 := (Stp.refl (fun _ => False) W1).alloc (.cells #[.string n, .string t] 24)
        generalize W1.alloc (.cells #[.string n, .string t] 24) = W2 at o1 p1 ⊢
        try replace HNE := Lib.hid (ne_own HOWN.out)
        try replace HOWN := Lib.hid (HOWN.out.stp0 p1)
        replace HLIT := Lib.hid o1
        replace HT := Lib.hid (HT.out.trans p1)
        clear o1 p1
        show K _ _
        clear hHeld
        refine hK.out _ _ (HF.out.step HT.out) (fun hHeld => ?_)
        clear hK K
        try simp only [Act.put, List.setIfInBounds_toArray, List.set_cons_zero, List.set_cons_succ]
        refine wpAnyH_ready (rs := [2]) (by kernel_rfl) (by simp) ?_
        refine (AllReadyH.cons (o := { dst := some 38, op := Op.call { callee := Callee.builtin Builtin.append, args := #[Operand.tmp 36, Operand.tmp 37], argTypes := #[29, 29] }, type := 29, pos := "law.go:107", after := #[{ on := 0, ground := Ground.data }, { on := 1, ground := Ground.data }], guard := none }) rfl (fun K hK => ?_) AllReadyH.nil)
        refine op_appendRdM (d := fldK) (B := W0.heap.size) (M := fun k => W0.heap.size ≤ k) (ys := xs) _ _ _ (by rfl) Tryd.underlying29 info_fld (by rfl) (by decide) HOWN.out (HX.out.stp0 (HW.out.trans HT.out)).now (fun k hk => (HOWN.out.lt k hk).1) (by rfl) (by rfl) (by simp; omega) (by simp; omega) HT.out.size ?_
        intro vA W3 ho hg
        rw [List.nil_append] at ho
        try replace HLIT := Lib.hid (HLIT.out.grown hg (fun e => HNE.out _ e rfl))
        have p1 := Stp.ownM HT.out HOWN.out (Nat.le_refl _) hg
        replace HT := Lib.hid p1
        replace HOWN := Lib.hid ho
        clear ho hg p1
        show K _ _
        clear hHeld
        refine hK.out _ _ (HF.out.step HT.out) (fun hHeld => ?_)
        clear hK K
        try simp only [Act.put, List.setIfInBounds_toArray, List.set_cons_zero, List.set_cons_succ]
        refine wpAnyH_ready (rs := [5]) (by kernel_rfl) (by simp) ?_
        refine (AllReadyH.cons (o := { dst := some 41, op := Op.call { callee := Callee.builtin Builtin.append, args := #[Operand.tmp 38, Operand.tmp 40], argTypes := #[29, 29] }, type := 29, pos := "law.go:107", after := #[{ on := 2, ground := Ground.data }, { on := 4, ground := Ground.data }, { on := 2, ground := Ground.chain }], guard := none }) rfl (fun K hK => ?_) AllReadyH.nil)
        refine op_appendRdM (d := fldK) (B := W0.heap.size) (M := fun k => W0.heap.size ≤ k) (ys := [(n, t)]) _ _ _ (by rfl) Tryd.underlying29 info_fld (by rfl) (by decide) HOWN.out (HLIT.out.now _) (fun k hk => (HOWN.out.lt k hk).1) (by rfl) (by rfl) (by simp; omega) (by simp; omega) HT.out.size ?_
        intro vB W4 ho hg
        have p1 := Stp.ownM HT.out HOWN.out (Nat.le_refl _) hg
        replace HT := Lib.hid p1
        replace HOWN := Lib.hid ho
        clear ho hg p1
        show K _ _
        clear hHeld
        refine hK.out _ _ (HF.out.step HT.out) (fun hHeld => ?_)
        clear hK K
        try simp only [Act.put, List.setIfInBounds_toArray, List.set_cons_zero, List.set_cons_succ]
        refine wpAnyH_ready (rs := [8]) (by kernel_rfl) (by simp) ?_
        refine (AllReadyH.cons (o := { dst := some 44, op := Op.call { callee := Callee.value (Operand.func 24), args := #[Operand.tmp 41, Operand.tmp 43], argTypes := #[29, 9] }, type := 32, pos := "law.go:107", after := #[{ on := 5, ground := Ground.data }, { on := 7, ground := Ground.data }, { on := 5, ground := Ground.chain }], guard := none }) rfl (fun K hK => ?_) AllReadyH.nil)
        go_simp
        refine (f2' _ _ (HOWN.out.rd (fun _ _ h => h.elim) (fun _ _ => id))).mono ?_
        rintro e W5 ⟨rfl, hs4⟩
        replace HT := Lib.hid (HT.out.trans hs4)
        clear hs4
        show K _ _
        clear hHeld
        refine hK.out _ _ (HF.out.step HT.out) (fun hHeld => ?_)
        clear hK K
        try simp only [Act.put, List.setIfInBounds_toArray, List.set_cons_zero, List.set_cons_succ]
        refine rg_take (i := 9) (o := { dst := some 35, op := Op.move (Operand.tmp 44), type := 32, pos := "law.go:107", after := #[{ on := 8, ground := Ground.data }], guard := none }) (v := ?rgv16) rfl (by kernel_rfl) (by kernel_rfl) (by kernel_rfl) (fun _ _ _ h => h) (by rfl) (fun w hSw => ?rgy16) hHeld ?_
        case rgy16 => (try dsimp only at hSw); first | (go_simp; done) | (go_simp; with_reducible rfl)
        try simp only [Act.put, List.setIfInBounds_toArray, List.set_cons_zero, List.set_cons_succ]
        refine rg_take (i := 10) (o := { dst := some 45, op := Op.extract (Operand.tmp 35) 0, type := 9, pos := "law.go:107", after := #[{ on := 9, ground := Ground.data }], guard := none }) (v := ?rgv17) rfl (by kernel_rfl) (by kernel_rfl) (by kernel_rfl) (fun _ _ _ h => h) (by rfl) (fun w hSw => ?rgy17) hHeld ?_
        case rgy17 => (try dsimp only at hSw); first | (go_simp; done) | (go_simp; with_reducible rfl)
        try simp only [Act.put, List.setIfInBounds_toArray, List.set_cons_zero, List.set_cons_succ]
        refine rg_take (i := 11) (o := { dst := some 46, op := Op.extract (Operand.tmp 35) 1, type := 3, pos := "law.go:107", after := #[{ on := 9, ground := Ground.data }, { on := 12, ground := Ground.gcOnly Departure.lateStores }], guard := none }) (v := ?rgv18) rfl (by kernel_rfl) (by kernel_rfl) (by kernel_rfl) (fun _ _ _ h => h) (by rfl) (fun w hSw => ?rgy18) hHeld ?_
        case rgy18 => (try dsimp only at hSw); first | (go_simp; done) | (go_simp; with_reducible rfl)
        try simp only [Act.put, List.setIfInBounds_toArray, List.set_cons_zero, List.set_cons_succ]
        refine rg_take (i := 12) (o := { dst := some 9, op := Op.assign (Operand.tmp 45), type := 9, pos := "law.go:107", after := #[{ on := 10, ground := Ground.data }, { on := 8, ground := Ground.chain }, { on := 0, ground := Ground.phase }, { on := 1, ground := Ground.phase }, { on := 2, ground := Ground.phase }, { on := 3, ground := Ground.phase }, { on := 4, ground := Ground.phase }, { on := 5, ground := Ground.phase }, { on := 6, ground := Ground.phase }, { on := 7, ground := Ground.phase }, { on := 8, ground := Ground.phase }, { on := 9, ground := Ground.phase }, { on := 10, ground := Ground.phase }, { on := 11, ground := Ground.textOnly Departure.lateStores }], guard := none }) (v := ?rgv19) rfl (by kernel_rfl) (by kernel_rfl) (by kernel_rfl) (fun _ _ _ h => h) (by rfl) (fun w hSw => ?rgy19) hHeld ?_
        case rgy19 => (try dsimp only at hSw); first | (go_simp; done) | (go_simp; with_reducible rfl)
        try simp only [Act.put, List.setIfInBounds_toArray, List.set_cons_zero, List.set_cons_succ]
        refine rg_take (i := 13) (o := { dst := some 10, op := Op.assign (Operand.tmp 46), type := 3, pos := "law.go:107", after := #[{ on := 11, ground := Ground.data }, { on := 12, ground := Ground.chain }, { on := 0, ground := Ground.phase }, { on := 1, ground := Ground.phase }, { on := 2, ground := Ground.phase }, { on := 3, ground := Ground.phase }, { on := 4, ground := Ground.phase }, { on := 5, ground := Ground.phase }, { on := 6, ground := Ground.phase }, { on := 7, ground := Ground.phase }, { on := 8, ground := Ground.phase }, { on := 9, ground := Ground.phase }, { on := 10, ground := Ground.phase }, { on := 11, ground := Ground.phase }, { on := 12, ground := Ground.phase }], guard := none }) (v := ?rgv20) rfl (by kernel_rfl) (by kernel_rfl) (by kernel_rfl) (fun _ _ _ h => h) (by rfl) (fun w hSw => ?rgy20) hHeld ?_
        case rgy20 => (try dsimp only at hSw); first | (go_simp; done) | (go_simp; with_reducible rfl)
        try simp only [Act.put, List.setIfInBounds_toArray, List.set_cons_zero, List.set_cons_succ]
        clear hHeld
        refine wpAnyH_done (by kernel_rfl) ?_ _
        obtain ⟨k2, k3⟩ := HF.out.step HT.out
        rcases hk with ⟨rfl, rfl, rfl⟩ | ⟨rfl, hq, rfl, rfl⟩ | ⟨rfl, rfl, rfl, rfl, rfl⟩
        · have e1 : (T.toList == T.toList) = true := by simp
          go_wp2
          rw [HR.out]
          exact ⟨rfl, HW.out.trans HT.out⟩
        · have e1 : (T.toList == T.toList) = true := by simp
          have q0 : 0 < q := by omega
          have q1 : ((q : Int) == 0) = false := by simp; omega
          clear hq
          go_wp2
          rw [HR.out]
          exact ⟨rfl, HW.out.trans HT.out⟩
        · have e1 : (T.toList == T.toList) = true := by simp
          go_wp2
          rw [HR.out]
          exact ⟨rfl, HW.out.trans HT.out⟩
    · skip
      go_simp
      have o1 := FAt.alloc W0 n t
      have p1 := (Stp.refl (fun _ => False) W0).alloc (.cells #[.string n, .string t] 24)
      generalize W0.alloc (.cells #[.string n, .string t] 24) = W1 at o1 p1 ⊢
      try replace HNE := Lib.hid (ne_own HOWN.out)
      try replace HOWN := Lib.hid (HOWN.out.stp0 p1)
      replace HLIT := Lib.hid o1
      replace HT := Lib.hid (HT.out.trans p1)
      clear o1 p1
      show K _ _
      clear hHeld
      refine hK.out _ _ (HF.out.step HT.out) (fun hHeld => ?_)
      clear hK K
      try simp only [Act.put, List.setIfInBounds_toArray, List.set_cons_zero, List.set_cons_succ]
      refine wpAnyH_ready (rs := [0]) (by kernel_rfl) (by simp) ?_
      refine (AllReadyH.cons (o := { dst := some 36, op := Op.buildSlice 29 0 #[], type := 29, pos := "law.go:107", after := #[], guard := none }) rfl (fun K hK => ?_) AllReadyH.nil)
      go_simp
      have o1 := OwnM.empty fldK 24 W0.heap.size (fun k => W0.heap.size ≤ k) W1 HT.out.size
      have p1 := (Stp.refl (fun _ => False) W1).alloc (.cells #[] 24)
      try replace HNE := Lib.hid (ne_new HLIT.out)
      generalize W1.alloc (.cells #[] 24) = W2 at o1 p1 ⊢
      try replace HLIT := Lib.hid (HLIT.out.step p1)
      replace HOWN := Lib.hid o1
      replace HT := Lib.hid (HT.out.trans p1)
      clear o1 p1
      show K _ _
      clear hHeld
      refine hK.out _ _ (HF.out.step HT.out) (fun hHeld => ?_)
      clear hK K
      try simp only [Act.put, List.setIfInBounds_toArray, List.set_cons_zero, List.set_cons_succ]
      refine wpAnyH_ready (rs := [2]) (by kernel_rfl) (by simp) ?_
      refine (AllReadyH.cons (o := { dst := some 38, op := Op.call { callee := Callee.builtin Builtin.append, args := #[Operand.tmp 36, Operand.tmp 37], argTypes := #[29, 29] }, type := 29, pos := "law.go:107", after := #[{ on := 0, ground := Ground.data }, { on := 1, ground := Ground.data }], guard := none }) rfl (fun K hK => ?_) AllReadyH.nil)
      refine op_appendRdM (d := fldK) (B := W0.heap.size) (M := fun k => W0.heap.size ≤ k) (ys := xs) _ _ _ (by rfl) Tryd.underlying29 info_fld (by rfl) (by decide) HOWN.out (HX.out.stp0 (HW.out.trans HT.out)).now (fun k hk => (HOWN.out.lt k hk).1) (by rfl) (by rfl) (by simp; omega) (by simp; omega) HT.out.size ?_
      intro vA W3 ho hg
      rw [List.nil_append] at ho
      try replace HLIT := Lib.hid (HLIT.out.grown hg (fun e => HNE.out _ e rfl))
      have p1 := Stp.ownM HT.out HOWN.out (Nat.le_refl _) hg
      replace HT := Lib.hid p1
      replace HOWN := Lib.hid ho
      clear ho hg p1
      show K _ _
      clear hHeld
      refine hK.out _ _ (HF.out.step HT.out) (fun hHeld => ?_)
      clear hK K
      try simp only [Act.put, List.setIfInBounds_toArray, List.set_cons_zero, List.set_cons_succ]
      refine wpAnyH_ready (rs := [5]) (by kernel_rfl) (by simp) ?_
      refine (AllReadyH.cons (o := { dst := some 41, op := Op.call { callee := Callee.builtin Builtin.append, args := #[Operand.tmp 38, Operand.tmp 40], argTypes := #[29, 29] }, type := 29, pos := "law.go:107", after := #[{ on := 2, ground := Ground.data }, { on := 4, ground := Ground.data }, { on := 2, ground := Ground.chain }], guard := none }) rfl (fun K hK => ?_) AllReadyH.nil)
      refine op_appendRdM (d := fldK) (B := W0.heap.size) (M := fun k => W0.heap.size ≤ k) (ys := [(n, t)]) _ _ _ (by rfl) Tryd.underlying29 info_fld (by rfl) (by decide) HOWN.out (HLIT.out.now _) (fun k hk => (HOWN.out.lt k hk).1) (by rfl) (by rfl) (by simp; omega) (by simp; omega) HT.out.size ?_
      intro vB W4 ho hg
      have p1 := Stp.ownM HT.out HOWN.out (Nat.le_refl _) hg
      replace HT := Lib.hid p1
      replace HOWN := Lib.hid ho
      clear ho hg p1
      show K _ _
      clear hHeld
      refine hK.out _ _ (HF.out.step HT.out) (fun hHeld => ?_)
      clear hK K
      try simp only [Act.put, List.setIfInBounds_toArray, List.set_cons_zero, List.set_cons_succ]
      refine wpAnyH_ready (rs := [8]) (by kernel_rfl) (by simp) ?_
      refine (AllReadyH.cons (o := { dst := some 44, op := Op.call { callee := Callee.value (Operand.func 24), args := #[Operand.tmp 41, Operand.tmp 43], argTypes := #[29, 9] }, type := 32, pos := "law.go:107", after := #[{ on := 5, ground := Ground.data }, { on := 7, ground := Ground.data }, { on := 5, ground := Ground.chain }], guard := none }) rfl (fun K hK => ?_) AllReadyH.nil)
      go_simp
      refine (f2' _ _ (HOWN.out.rd (fun _ _ h => h.elim) (fun _ _ => id))).mono ?_
      rintro e W5 ⟨rfl, hs4⟩
      replace HT := Lib.hid (HT.out.trans hs4)
      clear hs4
      show K _ _
      clear hHeld
      refine hK.out _ _ (HF.out.step HT.out) (fun hHeld => ?_)
      clear hK K
      try simp only [Act.put, List.setIfInBounds_toArray, List.set_cons_zero, List.set_cons_succ]
      refine rg_take (i := 9) (o := { dst := some 35, op := Op.move (Operand.tmp 44), type := 32, pos := "law.go:107", after := #[{ on := 8, ground := Ground.data }], guard := none }) (v := ?rgv21) rfl (by kernel_rfl) (by kernel_rfl) (by kernel_rfl) (fun _ _ _ h => h) (by rfl) (fun w hSw => ?rgy21) hHeld ?_
      case rgy21 => (try dsimp only at hSw); first | (go_simp; done) | (go_simp; with_reducible rfl)
      try simp only [Act.put, List.setIfInBounds_toArray, List.set_cons_zero, List.set_cons_succ]
      refine rg_take (i := 10) (o := { dst := some 45, op := Op.extract (Operand.tmp 35) 0, type := 9, pos := "law.go:107", after := #[{ on := 9, ground := Ground.data }], guard := none }) (v := ?rgv22) rfl (by kernel_rfl) (by kernel_rfl) (by kernel_rfl) (fun _ _ _ h => h) (by rfl) (fun w hSw => ?rgy22) hHeld ?_
      case rgy22 => (try dsimp only at hSw); first | (go_simp; done) | (go_simp; with_reducible rfl)
      try simp only [Act.put, List.setIfInBounds_toArray, List.set_cons_zero, List.set_cons_succ]
      refine rg_take (i := 11) (o := { dst := some 46, op := Op.extract (Operand.tmp 35) 1, type := 3, pos := "law.go:107", after := #[{ on := 9, ground := Ground.data }, { on := 12, ground := Ground.gcOnly Departure.lateStores }], guard := none }) (v := ?rgv23) rfl (by kernel_rfl) (by kernel_rfl) (by kernel_rfl) (fun _ _ _ h => h) (by rfl) (fun w hSw => ?rgy23) hHeld ?_
      case rgy23 => (try dsimp only at hSw); first | (go_simp; done) | (go_simp; with_reducible rfl)
      try simp only [Act.put, List.setIfInBounds_toArray, List.set_cons_zero, List.set_cons_succ]
      refine rg_take (i := 12) (o := { dst := some 9, op := Op.assign (Operand.tmp 45), type := 9, pos := "law.go:107", after := #[{ on := 10, ground := Ground.data }, { on := 8, ground := Ground.chain }, { on := 0, ground := Ground.phase }, { on := 1, ground := Ground.phase }, { on := 2, ground := Ground.phase }, { on := 3, ground := Ground.phase }, { on := 4, ground := Ground.phase }, { on := 5, ground := Ground.phase }, { on := 6, ground := Ground.phase }, { on := 7, ground := Ground.phase }, { on := 8, ground := Ground.phase }, { on := 9, ground := Ground.phase }, { on := 10, ground := Ground.phase }, { on := 11, ground := Ground.textOnly Departure.lateStores }], guard := none }) (v := ?rgv24) rfl (by kernel_rfl) (by kernel_rfl) (by kernel_rfl) (fun _ _ _ h => h) (by rfl) (fun w hSw => ?rgy24) hHeld ?_
      case rgy24 => (try dsimp only at hSw); first | (go_simp; done) | (go_simp; with_reducible rfl)
      try simp only [Act.put, List.setIfInBounds_toArray, List.set_cons_zero, List.set_cons_succ]
      refine rg_take (i := 13) (o := { dst := some 10, op := Op.assign (Operand.tmp 46), type := 3, pos := "law.go:107", after := #[{ on := 11, ground := Ground.data }, { on := 12, ground := Ground.chain }, { on := 0, ground := Ground.phase }, { on := 1, ground := Ground.phase }, { on := 2, ground := Ground.phase }, { on := 3, ground := Ground.phase }, { on := 4, ground := Ground.phase }, { on := 5, ground := Ground.phase }, { on := 6, ground := Ground.phase }, { on := 7, ground := Ground.phase }, { on := 8, ground := Ground.phase }, { on := 9, ground := Ground.phase }, { on := 10, ground := Ground.phase }, { on := 11, ground := Ground.phase }, { on := 12, ground := Ground.phase }], guard := none }) (v := ?rgv25) rfl (by kernel_rfl) (by kernel_rfl) (by kernel_rfl) (fun _ _ _ h => h) (by rfl) (fun w hSw => ?rgy25) hHeld ?_
      case rgy25 => (try dsimp only at hSw); first | (go_simp; done) | (go_simp; with_reducible rfl)
      try simp only [Act.put, List.setIfInBounds_toArray, List.set_cons_zero, List.set_cons_succ]
      clear hHeld
      refine wpAnyH_done (by kernel_rfl) ?_ _
      obtain ⟨k2, k3⟩ := HF.out.step HT.out
      rcases hk with ⟨rfl, rfl, rfl⟩ | ⟨rfl, hq, rfl, rfl⟩ | ⟨rfl, rfl, rfl, rfl, rfl⟩
      · have e1 : (T.toList == T.toList) = true := by simp
        go_wp2
        rw [HR.out]
        exact ⟨rfl, HW.out.trans HT.out⟩
      · have e1 : (T.toList == T.toList) = true := by simp
        have q0 : 0 < q := by omega
        have q1 : ((q : Int) == 0) = false := by simp; omega
        clear hq
        go_wp2
        rw [HR.out]
        exact ⟨rfl, HW.out.trans HT.out⟩
      · have e1 : (T.toList == T.toList) = true := by simp
        go_wp2
        rw [HR.out]
        exact ⟨rfl, HW.out.trans HT.out⟩
  · have key : 50 < xs.length ∨ (xs.length ≤ 50 ∧ 500 < n.size) := by omega
    clear hg
    rcases key with k1 | ⟨k1, k2⟩
    all_goals
      have HS0 := Lib.hid (Stp.refl (fun _ => False) w)
      go_enter Tryd.func7, Tryd.ntmps7
      go_wp2_with (go_at_call 19; refine stopc ?_)
      refine Stop.go ?_
      refine (small12_any _ (HM.out.step (HS0.out.alloc _))).mono ?_
      rintro e w1 ⟨he, hs1⟩
      subst he
      have HS1 := Lib.hid ((HS0.out.alloc _).trans hs1)
      have HBF := Lib.hid (show w1.heap[w.heap.size]? = some (.cells #[.string n, .string t] 24 (0, 0)) from hs1.blk (heap_alloc_new w _) id)
      clear hs1
      have kF0 : w1.cell? ⟨w.heap.size, 0, none⟩ = some (.string n) := blk_cell (j := 0) HBF.out
      have kF1 : w1.cell? ⟨w.heap.size, 1, none⟩ = some (.string t) := blk_cell (j := 1) HBF.out
      have ltF := blk_lt HBF.out
      go_wp2
      rw [HR.out]
      exact ⟨rfl, HS1.out⟩
end Go.Proofs.YteoffbglbpdekaaDoor.L
