/- Texts of the proof, joined: We. -/
import Derived.Test.YtligofmhbbgalaaGreatDoorG22
set_option linter.unusedVariables false
set_option linter.unusedSimpArgs false
/- Layer 3: the document's reading of an address. -/
namespace Go.Proofs.YtligofmhbbgalaaGreatDoor.L
open Go.RowKit Go.Proofs

theorem st_storeA {P : Program} {ops : Array Oper} {o : Oper} {a : Act} {W : World} {K : Act → World → Prop} {Q : Exit → Act → World → Prop} {E : Prop} (hgd : o.guard = none) (ty : TypeId) (x y : Operand) (ho : o.op = .store ty x y)
    {g : Nat} {t : TypeId} {l k : List UInt8} (hx : a.eval x = .pointer (some ⟨g, 0, none⟩)) (hy : a.eval y = .agg (cellsA l)) (hA : Arr g t k W) {n : Nat} (hi : (P.info? ty).map (·.size) = some n) (hn : l.length = n) (hk : k.length = n)
    (h : ∀ W', Arr g t l W' → Stp (fun j => j = g) W W' → K (a.put o.dst undef) W') : if Region.wanted o (yielded ops a.tmps) = true then Oper.wp P o a W K Q else E := by
  rw [if_pos (by simp [Region.wanted, hgd])]
  exact wp_store_row ty x y ho g (cellsA l) hx hy t (cellsA k) hA (by rw [cellsA_size, hn]; exact hi) (by rw [cellsA_size, cellsA_size, hn, hk]) (cellsA_one l) (h _ hA.row ((Stp.refl (fun j => j = g) W).rowA (fun _ => rfl) _))
def gapAt (l : List UInt8) (j : Nat) : Prop := l[j]? = some 58 ∧ l[j + 1]? = some 58
def atI (o : Option Nat) : Int := match o with
  | some j => (j : Int)
  | none => -1
def FourS (g : Nat) (x0 x1 x2 x3 : UInt8) (W : World) : Prop := W.cell? ⟨g, 0, none⟩ = some (.int .u8 (x0.toNat : Int)) ∧ W.cell? ⟨g, 1, none⟩ = some (.int .u8 (x1.toNat : Int)) ∧ W.cell? ⟨g, 2, none⟩ = some (.int .u8 (x2.toNat : Int)) ∧ W.cell? ⟨g, 3, none⟩ = some (.int .u8 (x3.toNat : Int))
theorem FourS.step {g : Nat} {x0 x1 x2 x3 : UInt8} {w w' : World} (h : FourS g x0 x1 x2 x3 w) (hs : Stp (fun _ => False) w.drew w') : FourS g x0 x1 x2 x3 w' := ⟨hs.cell h.1 id, hs.cell h.2.1 id, hs.cell h.2.2.1 id, hs.cell h.2.2.2 id⟩
theorem FourS.stepN {g n : Nat} {x0 x1 x2 x3 : UInt8} {w w' : World} (h : FourS g x0 x1 x2 x3 w) (hs : Stp (fun k => k = n) w w') (hn : g ≠ n) : FourS g x0 x1 x2 x3 w' := ⟨hs.cell h.1 hn, hs.cell h.2.1 hn, hs.cell h.2.2.1 hn, hs.cell h.2.2.2 hn⟩

set_option maxRecDepth 100000 in
set_option maxHeartbeats 8000000 in
theorem aparseR_any (s : ByteArray) (w : World) (hs : s.size < 4294967281) : Calls Tryz.prog 89 #[.string s] w (AdrP w s.data.toList) := by
  obtain ⟨R, hR⟩ : ∃ R, R = AdrP w s.data.toList := ⟨_, rfl⟩
  rw [← hR]
  have HR := Lib.hid hR
  clear hR
  have cd := fun W => dottedR_any s W hs
  go_enter Tryz.func89, Tryz.ntmps89
  go_wp2_with (go_at_call 124; refine stopc ?_)
  refine Stop.go ?_
  refine (cd _).mono ?_
  rintro e w3 ⟨vd, d, rfl, hown, hd, hdl, hs3⟩
  have HR3 := Lib.hid (((arr_new w w.heap.size 76 (zerosL 16) rfl).alloc (.cells (cellsA (zerosL 16)) 76)).step hs3 id)
  have HA3 := Lib.hid ((arr_new (w.alloc (.cells (cellsA (zerosL 16)) 76)) (w.heap.size + 1) 76 (zerosL 16) (by simp)).step hs3 id)
  have HS3 := Lib.hid ((((Stp.refl (fun _ => False) w).alloc _).alloc _).trans hs3)
  have HOD := Lib.hid hown
  have HDD := Lib.hid hd
  obtain ⟨A0, c0, rfl, hle0⟩ := HOD.out.form
  obtain ⟨D, hDv⟩ : ∃ D, D = (dotS s.data.toList).isSome := ⟨_, rfl⟩
  rw [← hDv]
  have HDV := Lib.hid hDv
  clear hs3 hown hd hDv cd
  cases D with
  | true =>
    have hsome : dotS s.data.toList = some d := by
      cases hq : dotS s.data.toList with
      | none => have := HDV.out; rw [hq] at this; cases this
      | some y => rw [HDD.out y hq]
    have hd4 : d.length = 4 := dotS_len _ _ hsome
    have HD4 : Hid (parseA s.data.toList = some (aheadL ++ d)) := Lib.hid (by
      unfold parseA
      rw [hsome])
    obtain ⟨x0, x1, x2, x3, rfl⟩ : ∃ x0 x1 x2 x3, d = [x0, x1, x2, x3] := by
      match d, hd4 with
      | [a, b, c, e], _ => exact ⟨a, b, c, e, rfl⟩
    obtain ⟨G, hAG, -, hBG, -⟩ := HOD.out.at_ (by omega)
    subst hAG
    have hGn : G ≠ w.heap.size := by
      simp at hBG
      omega
    have HF : Hid (FourS G x0 x1 x2 x3 w3) := Lib.hid ⟨HOD.out.cellAt 0 (by simp), HOD.out.cellAt 1 (by simp), HOD.out.cellAt 2 (by simp), HOD.out.cellAt 3 (by simp)⟩
    have hl16 : (aheadL ++ [x0, x1, x2, x3]).length = 16 := rfl
    have c4 := fun W => of4R_any [x0, x1, x2, x3] rfl W
    clear hsome HDD HDV hdl hBG HOD
    go_wp2
    refine wp_region_held_drew (S := FourS G x0 x1 x2 x3) (by kernel_rfl) (HF.out) (fun hHeld => ?_)
    try (change wpAnyH _ _ _ _ _ _ _ _ (World.drew _))
    refine rg_take (i := 0) (o := { dst := some 21, op := Op.move (Operand.tmp 5), type := 22, pos := "ref.go:98", after := #[], guard := none }) (v := ?rgv1) rfl (by kernel_rfl) (by kernel_rfl) (by kernel_rfl) (fun _ _ _ h => h) (by rfl) (fun w hSw => ?rgy1) hHeld ?_
    case rgy1 => (try dsimp only at hSw); first | (go_simp; done) | (go_simp; with_reducible rfl)
    try simp only [Act.put, List.setIfInBounds_toArray, List.set_cons_zero, List.set_cons_succ]
    refine rg_take (i := 1) (o := { dst := some 22, op := Op.indexAddr 22 (Operand.tmp 21) (Operand.const (Value.int IntKind.i64 0)), type := 0, pos := "ref.go:98", after := #[{ on := 0, ground := Ground.data }], guard := none }) (v := ?rgv2) rfl (by kernel_rfl) (by kernel_rfl) (by kernel_rfl) (fun _ _ _ h => h) (by rfl) (fun w hSw => ?rgy2) hHeld ?_
    case rgy2 => (try dsimp only at hSw); first | (go_simp; done) | (go_simp; with_reducible rfl)
    try simp only [Act.put, List.setIfInBounds_toArray, List.set_cons_zero, List.set_cons_succ]
    refine rg_take (i := 2) (o := { dst := some 23, op := Op.load 5 (Operand.tmp 22), type := 5, pos := "ref.go:98", after := #[{ on := 1, ground := Ground.data }], guard := none }) (v := ?rgv3) rfl (by kernel_rfl) (by kernel_rfl) (by kernel_rfl) (fun _ _ _ h => h) (by rfl) (fun w hSw => ?rgy3) hHeld ?_
    case rgy3 => (have hk0 := hSw.1; go_simp; with_reducible rfl)
    try simp only [Act.put, List.setIfInBounds_toArray, List.set_cons_zero, List.set_cons_succ]
    refine rg_take (i := 3) (o := { dst := some 24, op := Op.move (Operand.tmp 5), type := 22, pos := "ref.go:98", after := #[], guard := none }) (v := ?rgv4) rfl (by kernel_rfl) (by kernel_rfl) (by kernel_rfl) (fun _ _ _ h => h) (by rfl) (fun w hSw => ?rgy4) hHeld ?_
    case rgy4 => (try dsimp only at hSw); first | (go_simp; done) | (go_simp; with_reducible rfl)
    try simp only [Act.put, List.setIfInBounds_toArray, List.set_cons_zero, List.set_cons_succ]
    refine rg_take (i := 4) (o := { dst := some 25, op := Op.indexAddr 22 (Operand.tmp 24) (Operand.const (Value.int IntKind.i64 1)), type := 0, pos := "ref.go:98", after := #[{ on := 3, ground := Ground.data }], guard := none }) (v := ?rgv5) rfl (by kernel_rfl) (by kernel_rfl) (by kernel_rfl) (fun _ _ _ h => h) (by rfl) (fun w hSw => ?rgy5) hHeld ?_
    case rgy5 => (try dsimp only at hSw); first | (go_simp; done) | (go_simp; with_reducible rfl)
    try simp only [Act.put, List.setIfInBounds_toArray, List.set_cons_zero, List.set_cons_succ]
    refine rg_take (i := 5) (o := { dst := some 26, op := Op.load 5 (Operand.tmp 25), type := 5, pos := "ref.go:98", after := #[{ on := 4, ground := Ground.data }], guard := none }) (v := ?rgv6) rfl (by kernel_rfl) (by kernel_rfl) (by kernel_rfl) (fun _ _ _ h => h) (by rfl) (fun w hSw => ?rgy6) hHeld ?_
    case rgy6 => (have hk0 := hSw.2.1; go_simp; with_reducible rfl)
    try simp only [Act.put, List.setIfInBounds_toArray, List.set_cons_zero, List.set_cons_succ]
    refine rg_take (i := 6) (o := { dst := some 27, op := Op.move (Operand.tmp 5), type := 22, pos := "ref.go:98", after := #[], guard := none }) (v := ?rgv7) rfl (by kernel_rfl) (by kernel_rfl) (by kernel_rfl) (fun _ _ _ h => h) (by rfl) (fun w hSw => ?rgy7) hHeld ?_
    case rgy7 => (try dsimp only at hSw); first | (go_simp; done) | (go_simp; with_reducible rfl)
    try simp only [Act.put, List.setIfInBounds_toArray, List.set_cons_zero, List.set_cons_succ]
    refine rg_take (i := 7) (o := { dst := some 28, op := Op.indexAddr 22 (Operand.tmp 27) (Operand.const (Value.int IntKind.i64 2)), type := 0, pos := "ref.go:98", after := #[{ on := 6, ground := Ground.data }], guard := none }) (v := ?rgv8) rfl (by kernel_rfl) (by kernel_rfl) (by kernel_rfl) (fun _ _ _ h => h) (by rfl) (fun w hSw => ?rgy8) hHeld ?_
    case rgy8 => (try dsimp only at hSw); first | (go_simp; done) | (go_simp; with_reducible rfl)
    try simp only [Act.put, List.setIfInBounds_toArray, List.set_cons_zero, List.set_cons_succ]
    refine rg_take (i := 8) (o := { dst := some 29, op := Op.load 5 (Operand.tmp 28), type := 5, pos := "ref.go:98", after := #[{ on := 7, ground := Ground.data }], guard := none }) (v := ?rgv9) rfl (by kernel_rfl) (by kernel_rfl) (by kernel_rfl) (fun _ _ _ h => h) (by rfl) (fun w hSw => ?rgy9) hHeld ?_
    case rgy9 => (have hk0 := hSw.2.2.1; go_simp; with_reducible rfl)
    try simp only [Act.put, List.setIfInBounds_toArray, List.set_cons_zero, List.set_cons_succ]
    refine rg_take (i := 9) (o := { dst := some 30, op := Op.move (Operand.tmp 5), type := 22, pos := "ref.go:98", after := #[], guard := none }) (v := ?rgv10) rfl (by kernel_rfl) (by kernel_rfl) (by kernel_rfl) (fun _ _ _ h => h) (by rfl) (fun w hSw => ?rgy10) hHeld ?_
    case rgy10 => (try dsimp only at hSw); first | (go_simp; done) | (go_simp; with_reducible rfl)
    try simp only [Act.put, List.setIfInBounds_toArray, List.set_cons_zero, List.set_cons_succ]
    refine rg_take (i := 10) (o := { dst := some 31, op := Op.indexAddr 22 (Operand.tmp 30) (Operand.const (Value.int IntKind.i64 3)), type := 0, pos := "ref.go:98", after := #[{ on := 9, ground := Ground.data }], guard := none }) (v := ?rgv11) rfl (by kernel_rfl) (by kernel_rfl) (by kernel_rfl) (fun _ _ _ h => h) (by rfl) (fun w hSw => ?rgy11) hHeld ?_
    case rgy11 => (try dsimp only at hSw); first | (go_simp; done) | (go_simp; with_reducible rfl)
    try simp only [Act.put, List.setIfInBounds_toArray, List.set_cons_zero, List.set_cons_succ]
    refine rg_take (i := 11) (o := { dst := some 32, op := Op.load 5 (Operand.tmp 31), type := 5, pos := "ref.go:98", after := #[{ on := 10, ground := Ground.data }], guard := none }) (v := ?rgv12) rfl (by kernel_rfl) (by kernel_rfl) (by kernel_rfl) (fun _ _ _ h => h) (by rfl) (fun w hSw => ?rgy12) hHeld ?_
    case rgy12 => (have hk0 := hSw.2.2.2; go_simp; with_reducible rfl)
    try simp only [Act.put, List.setIfInBounds_toArray, List.set_cons_zero, List.set_cons_succ]
    refine rg_take (i := 12) (o := { dst := some 33, op := Op.build 107 #[(0, Operand.tmp 23), (1, Operand.tmp 26), (2, Operand.tmp 29), (3, Operand.tmp 32)], type := 107, pos := "ref.go:98", after := #[{ on := 2, ground := Ground.data }, { on := 5, ground := Ground.data }, { on := 8, ground := Ground.data }, { on := 11, ground := Ground.data }], guard := none }) (v := ?rgv13) rfl (by kernel_rfl) (by kernel_rfl) (by kernel_rfl) (fun _ _ _ h => h) (by rfl) (fun w hSw => ?rgy13) hHeld ?_
    case rgy13 => (try dsimp only at hSw); first | (go_simp; done) | (go_simp; with_reducible rfl)
    try simp only [Act.put, List.setIfInBounds_toArray, List.set_cons_zero, List.set_cons_succ]
    refine wpAnyH_ready (rs := [13]) (by kernel_rfl) (by simp) ?_
    refine (AllReadyH.cons (o := { dst := some 34, op := Op.call { callee := Callee.value (Operand.func 125), args := #[Operand.tmp 33], argTypes := #[107] }, type := 76, pos := "ref.go:98", after := #[{ on := 12, ground := Ground.data }], guard := none }) rfl (fun K hK => ?_) AllReadyH.nil)
    go_simp
    refine (c4 _).mono ?_
    rintro e w4 ⟨rfl, hs4⟩
    have HF4 := Lib.hid (HF.out.step hs4)
    have HR4 := Lib.hid (HR3.out.drew.step hs4 id)
    have HS4 := Lib.hid (HS3.out.drew.trans hs4)
    clear hs4
    show K _ _
    clear hHeld
    refine hK.out _ _ (HF4.out) (fun hHeld => ?_)
    clear hK K
    try simp only [Act.put, List.setIfInBounds_toArray, List.set_cons_zero, List.set_cons_succ]
    refine wpAnyH_ready (rs := [14]) (by kernel_rfl) (by simp) ?_
    refine (AllReadyH.cons (o := { dst := none, op := Op.store 76 (Operand.tmp 2) (Operand.tmp 34), type := 0, pos := "ref.go:98", after := #[{ on := 13, ground := Ground.data }, { on := 13, ground := Ground.chain }, { on := 0, ground := Ground.phase }, { on := 1, ground := Ground.phase }, { on := 2, ground := Ground.phase }, { on := 3, ground := Ground.phase }, { on := 4, ground := Ground.phase }, { on := 5, ground := Ground.phase }, { on := 6, ground := Ground.phase }, { on := 7, ground := Ground.phase }, { on := 8, ground := Ground.phase }, { on := 9, ground := Ground.phase }, { on := 10, ground := Ground.phase }, { on := 11, ground := Ground.phase }, { on := 12, ground := Ground.phase }, { on := 13, ground := Ground.phase }], guard := none }) rfl (fun K hK => ?_) AllReadyH.nil)
    refine st_storeA (by rfl) _ _ _ (by rfl) (by rfl) (by rfl) HR4.out size_addr hl16 rfl ?_
    intro w5 hA5 hs5
    have HA5 := Lib.hid hA5
    have HF5 := Lib.hid (HF4.out.stepN hs5 hGn)
    have HS5 := Lib.hid (HS4.out.then_ hs5 (fun k hk h => absurd h (by omega)))
    clear hA5 hs5
    show K _ _
    clear hHeld
    refine hK.out _ _ (HF5.out) (fun hHeld => ?_)
    clear hK K
    try simp only [Act.put, List.setIfInBounds_toArray, List.set_cons_zero, List.set_cons_succ]
    refine rg_take (i := 15) (o := { dst := some 3, op := Op.assign (Operand.const (Value.bool true)), type := 4, pos := "ref.go:98", after := #[{ on := 14, ground := Ground.chain }, { on := 0, ground := Ground.phase }, { on := 1, ground := Ground.phase }, { on := 2, ground := Ground.phase }, { on := 3, ground := Ground.phase }, { on := 4, ground := Ground.phase }, { on := 5, ground := Ground.phase }, { on := 6, ground := Ground.phase }, { on := 7, ground := Ground.phase }, { on := 8, ground := Ground.phase }, { on := 9, ground := Ground.phase }, { on := 10, ground := Ground.phase }, { on := 11, ground := Ground.phase }, { on := 12, ground := Ground.phase }, { on := 13, ground := Ground.phase }, { on := 14, ground := Ground.phase }], guard := none }) (v := ?rgv14) rfl (by kernel_rfl) (by kernel_rfl) (by kernel_rfl) (fun _ _ _ h => h) (by rfl) (fun w hSw => ?rgy14) hHeld ?_
    case rgy14 => (try dsimp only at hSw); first | (go_simp; done) | (go_simp; with_reducible rfl)
    try simp only [Act.put, List.setIfInBounds_toArray, List.set_cons_zero, List.set_cons_succ]
    clear hHeld
    refine wpAnyH_done (by kernel_rfl) ?_ _
    skip
    go_wp2
    refine bodyPost_ret (results_row_tmp rfl _ _ w.heap.size _ _ _ _ rfl HA5.out Tryz.underlying76 rfl (by rw [cellsA_size, hl16]; exact size_addr)) rfl ?_
    rw [HR.out]
    unfold AdrP
    rw [HD4.out]
    exact ⟨_, rfl, hl16, (fun a' h => by injection h with h; exact h.symm), (fun h => by cases h), HS5.out⟩
  | false =>
    have HD4 : Hid (dotS s.data.toList = none) := Lib.hid (by
      cases hq : dotS s.data.toList with
      | none => rfl
      | some y => have := HDV.out; rw [hq] at this; cases this)
    have hgl2 : w.heap.size < w.heap.size + 1 := by omega
    clear HDD HDV HOD hdl
    go_wp2
    go_loopg [7, 8] s.size (fun gf a i wx => ∃ (k : Nat) (o : Option Nat), k + gf = s.size ∧ i = .int .i64 k ∧ a = .int .i64 (atI o) ∧ (∀ j, j < k → gapAt s.data.toList j → o = some j) ∧ (∀ j, o = some j → j < k ∧ gapAt s.data.toList j) ∧ wx = w3)
    case atStart => exact ⟨0, none, by omega, rfl, rfl, fun j h => absurd h (by omega), (fun j h => by cases h), rfl⟩
    case round =>
      obtain ⟨k, o, hk, rfl, rfl, hu, hg, rfl⟩ := hrel
      have HU := Lib.hid hu
      have HGG := Lib.hid hg
      clear hu hg
      have i1 : IntKind.i64.wrap ((k : Int) + 1) = (k : Int) + 1 := IntWalk.i64_in _ (by omega)
      by_cases hlt : k + 1 < s.size
      · obtain ⟨g', rfl⟩ : ∃ g', gk = g' + 1 := ⟨gk - 1, by omega⟩
        have i2 : (k : Int) + 1 < (s.size : Int) := by omega
        have i3 : (k : Int) < (s.size : Int) := by omega
        have i4 : ((k : Int) + 1).toNat = k + 1 := by omega
        have i5 : (0 : Int) ≤ (k : Int) + 1 := by omega
        have hks : k < s.size := by omega
        have q1 := get_list s k hks
        have q2 := get_list s (k + 1) hlt
        obtain ⟨x, hx⟩ : ∃ x, x = s[k] := ⟨_, rfl⟩
        obtain ⟨y, hy⟩ : ∃ y, y = s[k + 1] := ⟨_, rfl⟩
        have hgap : gapAt s.data.toList k ↔ x = 58 ∧ y = 58 := by
          unfold gapAt
          rw [q1, q2, ← hx, ← hy]
          simp
        have b1 : ((s[k].toNat : Int) == 58) = decide (x = 58) := by
          rw [Bool.eq_iff_iff, beq_iff_eq, decide_eq_true_eq, hx, ← UInt8.toNat_inj]
          show _ ↔ _ = 58
          omega
        have b2 : ((s[k + 1].toNat : Int) == 58) = decide (y = 58) := by
          rw [Bool.eq_iff_iff, beq_iff_eq, decide_eq_true_eq, hy, ← UInt8.toNat_inj]
          show _ ↔ _ = 58
          omega
        have HGAP := Lib.hid hgap
        clear q1 q2 hx hy hgap
        have hstep : (¬ gapAt s.data.toList k) → (∀ j, j < k + 1 → gapAt s.data.toList j → o = some j) ∧ (∀ j, o = some j → j < k + 1 ∧ gapAt s.data.toList j) := fun hn =>
          ⟨fun j hj hh => by
            by_cases e : j = k
            · subst e
              exact absurd hh hn
            · exact HU.out j (by omega) hh, fun j e => ⟨by have := (HGG.out j e).1; omega, (HGG.out j e).2⟩⟩
        have HSTEP := Lib.hid hstep
        clear hstep
        by_cases e1 : x = 58
        · rw [decide_eq_true e1] at b1
          by_cases e2 : y = 58
          · rw [decide_eq_true e2] at b2
            have HK := Lib.hid (HGAP.out.2 ⟨e1, e2⟩)
            clear e1 e2
            cases o with
            | some j0 =>
              have hj0 := HGG.out j0 rfl
              have HN2 : Hid (parseA s.data.toList = none) := Lib.hid (parse_gap2 _ j0 k HD4.out (fun j hj hh => by
                have := HU.out j (by omega) hh
                injection this with this
                omega) hj0.2.1 hj0.2.2 hj0.1 HK.out.1 HK.out.2)
              have z1 : decide ((0 : Int) ≤ atI (some j0)) = true := decide_eq_true (by show (0 : Int) ≤ (j0 : Int); omega)
              clear hj0
              go_wp2_with (with_reducible refine stop (N := 55) rfl ?_)
              refine Stop.go ?_
              refine wp_loadA rfl _ _ rfl rfl HA3.out Tryz.underlying76 size_addr rfl ?_
              refine wp_storeA rfl _ _ _ rfl rfl rfl HR3.out size_addr rfl rfl ?_
              intro w5 hA5 hs5
              have HA5 := Lib.hid hA5
              have HS5 := Lib.hid (HS3.out.then_ hs5 (fun k hk h => absurd h (by omega)))
              clear hA5 hs5
              go_wp2
              refine bodyPost_ret (results_row_tmp rfl _ _ w.heap.size _ _ _ _ rfl HA5.out Tryz.underlying76 rfl (by rw [cellsA_size]; exact size_addr)) rfl ?_
              rw [HR.out]
              unfold AdrP
              rw [HN2.out]
              exact ⟨_, rfl, rfl, (fun a' h => by cases h), (fun _ => rfl), HS5.out⟩
            | none =>
              have z1 : decide ((0 : Int) ≤ atI none) = false := by decide
              go_wp2
              go_roundg g'
              case measure => omega
              case rel =>
                refine ⟨k + 1, some k, by omega, by go_num, rfl, fun j hj hh => ?_, fun j e => ?_, rfl⟩
                · by_cases e : j = k
                  · rw [e]
                  · have := HU.out j (by omega) hh
                    cases this
                · injection e with e
                  subst e
                  exact ⟨by omega, HK.out⟩
          · rw [decide_eq_false e2] at b2
            have HX := Lib.hid (HSTEP.out (fun h => e2 (HGAP.out.1 h).2))
            clear e1 e2
            go_wp2
            go_roundg g'
            case measure => omega
            case rel => exact ⟨k + 1, o, by omega, by go_num, rfl, HX.out.1, HX.out.2, rfl⟩
        · rw [decide_eq_false e1] at b1
          have HX := Lib.hid (HSTEP.out (fun h => e1 (HGAP.out.1 h).1))
          clear e1
          go_wp2
          go_roundg g'
          case measure => omega
          case rel => exact ⟨k + 1, o, by omega, by go_num, rfl, HX.out.1, HX.out.2, rfl⟩
      · have i2 : ¬ (k : Int) + 1 < (s.size : Int) := by omega
        have i3 : decide ((k : Int) + 1 < (s.size : Int)) = false := decide_eq_false (by omega)
        have hsl0 := size_list s
        have hall : ∀ j, j + 1 < s.data.toList.length → gapAt s.data.toList j → o = some j := fun j hj hh => HU.out j (by omega) hh
        cases o with
        | none =>
          have hg : gapS s.data.toList = none := gapS_none _ fun j hj hh => by
            have := hall j hj hh
            cases this
          have HPA : Hid (parseA s.data.toList = match readS true s.data.toList with
            | some b => if b.length = 16 then some b else none
            | none => none) := Lib.hid (by unfold parseA; rw [HD4.out]; simp only [hg]; rfl)
          have z1 : decide (atI none < (0 : Int)) = true := by decide
          clear hg hall hsl0 HU HGG
          have cr := fun W => groupsR_any s true W hs
          go_wp2_with (go_at_call 126; refine stopc ?_)
          refine Stop.go ?_
          refine (cr _).mono ?_
          rintro e w4 ⟨v, out, rfl, hown, hro, hle, hs4⟩
          have HR4 := Lib.hid (HR3.out.step hs4 id)
          have HA4 := Lib.hid (HA3.out.step hs4 id)
          have HS4 := Lib.hid (HS3.out.trans hs4)
          have HOW := Lib.hid hown
          have HRO := Lib.hid hro
          have hsl := size_list s
          obtain ⟨A, c, rfl, hlc⟩ := HOW.out.form
          obtain ⟨O, hOv⟩ : ∃ O, O = (readS true s.data.toList).isSome := ⟨_, rfl⟩
          rw [← hOv]
          have HOV := Lib.hid hOv
          clear hs4 hown hro hOv
          have HNO : Hid ((O = false ∨ out.length ≠ 16) → parseA s.data.toList = none) := Lib.hid (by
            intro h
            rw [HPA.out]
            cases hq : readS true s.data.toList with
            | none => rfl
            | some b =>
              rcases h with h | h
              · have := HOV.out
                rw [hq, h] at this
                cases this
              · rw [HRO.out b hq]
                simp only
                rw [if_neg h])
          by_cases hbad : O = false ∨ out.length ≠ 16
          · have HN2 := Lib.hid (HNO.out hbad)
            clear HNO
            have key : ∀ p : Prop, p → p := fun _ h => h
            cases O with
            | false =>
              clear hbad
              go_wp2_with (with_reducible refine stop (N := 71) rfl ?_)
              refine Stop.go ?_
              refine wp_loadA rfl _ _ rfl rfl HA4.out Tryz.underlying76 size_addr rfl ?_
              refine wp_storeA rfl _ _ _ rfl rfl rfl HR4.out size_addr rfl rfl ?_
              intro w5 hA5 hs5
              have HA5 := Lib.hid hA5
              have HS5 := Lib.hid (HS4.out.then_ hs5 (fun k hk h => absurd h (by omega)))
              clear hA5 hs5
              go_wp2
              refine bodyPost_ret (results_row_tmp rfl _ _ w.heap.size _ _ _ _ rfl HA5.out Tryz.underlying76 rfl (by rw [cellsA_size]; exact size_addr)) rfl ?_
              rw [HR.out]
              unfold AdrP
              rw [HN2.out]
              exact ⟨_, rfl, rfl, (fun a' h => by cases h), (fun _ => rfl), HS5.out⟩
            | true =>
              have hne : ((out.length : Int) != 16) = true := by
                rcases hbad with h | h
                · cases h
                · simp; omega
              clear hbad
              go_wp2_with (with_reducible refine stop (N := 71) rfl ?_)
              refine Stop.go ?_
              refine wp_loadA rfl _ _ rfl rfl HA4.out Tryz.underlying76 size_addr rfl ?_
              refine wp_storeA rfl _ _ _ rfl rfl rfl HR4.out size_addr rfl rfl ?_
              intro w5 hA5 hs5
              have HA5 := Lib.hid hA5
              have HS5 := Lib.hid (HS4.out.then_ hs5 (fun k hk h => absurd h (by omega)))
              clear hA5 hs5
              go_wp2
              refine bodyPost_ret (results_row_tmp rfl _ _ w.heap.size _ _ _ _ rfl HA5.out Tryz.underlying76 rfl (by rw [cellsA_size]; exact size_addr)) rfl ?_
              rw [HR.out]
              unfold AdrP
              rw [HN2.out]
              exact ⟨_, rfl, rfl, (fun a' h => by cases h), (fun _ => rfl), HS5.out⟩
          · rw [not_or] at hbad
            obtain ⟨hO, h16⟩ := hbad
            have hO : O = true := by simpa using hO
            subst hO
            have h16 : out.length = 16 := Decidable.of_not_not h16
            have hne : ((out.length : Int) != 16) = false := by simp; omega
            have HPO : Hid (parseA s.data.toList = some out) := Lib.hid (by
              rw [HPA.out]
              cases hq : readS true s.data.toList with
              | none => have := HOV.out; rw [hq] at this; cases this
              | some b => rw [HRO.out b hq]; simp only; rw [if_pos h16])
            have hrd := HOW.out.rd (h1 := fun _ => rfl) (M := fun _ => False) (fun _ _ => id)
            rw [h16] at hrd
            have HRD := Lib.hid hrd
            clear hrd
            go_wp2_with (with_reducible refine stop (N := 74) rfl ?_)
            refine Stop.go ?_
            refine wp_copyA rfl _ _ _ _ rfl 5 Tryz.underlying22 size_u8 HA4.out HRD.out rfl rfl (by decide) (by omega) ?_
            intro w5 hA5 hs5
            have HA5 := Lib.hid (over_all out h16 ▸ hA5)
            have HR5 := Lib.hid (HR4.out.step hs5 (by omega))
            have HS5 := Lib.hid (HS4.out.then_ hs5 (fun k hk h => absurd h (by omega)))
            clear hA5 hs5
            go_wp2_with (with_reducible refine stop (N := 75) rfl ?_)
            refine Stop.go ?_
            refine wp_loadA rfl _ _ rfl rfl HA5.out Tryz.underlying76 size_addr h16 ?_
            refine wp_storeA rfl _ _ _ rfl rfl rfl HR5.out size_addr h16 rfl ?_
            intro w6 hA6 hs6
            have HA6 := Lib.hid hA6
            have HS6 := Lib.hid (HS5.out.then_ hs6 (fun k hk h => absurd h (by omega)))
            clear hA6 hs6
            go_wp2
            refine bodyPost_ret (results_row_tmp rfl _ _ w.heap.size _ _ _ _ rfl HA6.out Tryz.underlying76 rfl (by rw [cellsA_size, h16]; exact size_addr)) rfl ?_
            rw [HR.out]
            unfold AdrP
            rw [HPO.out]
            exact ⟨_, rfl, h16, (fun a' h => by injection h with h; exact h.symm), (fun h => by cases h), HS6.out⟩
        | some j0 =>
          have hj0 := HGG.out j0 rfl
          have hjs : j0 + 1 < s.size := by
            have := (List.getElem?_eq_some_iff.1 hj0.2.2).1
            rw [size_list] at this
            exact this
          have hg : gapS s.data.toList = some (s.data.toList.take j0, s.data.toList.drop (j0 + 2)) := gapS_first _ j0 (fun j hj hh => by
            have := hall j (by omega) hh
            injection this with this
            omega) hj0.2.1 hj0.2.2
          obtain ⟨x, hxx⟩ : ∃ x, x = s.data.toList.take j0 := ⟨_, rfl⟩
          obtain ⟨y, hyy⟩ : ∃ y, y = s.data.toList.drop (j0 + 2) := ⟨_, rfl⟩
          rw [← hxx, ← hyy] at hg
          have hlen := gapS_len _ x y hg
          have hsl := size_list s
          have HPA : Hid (parseA s.data.toList = match readS false x, readS true y with
            | some a, some b => if a.length + b.length ≤ 14 then some (a ++ zerosL (16 - a.length - b.length) ++ b) else none
            | _, _ => none) := Lib.hid (by unfold parseA; rw [HD4.out]; simp only [hg]; rfl)
          have z1 : decide (atI (some j0) < (0 : Int)) = false := decide_eq_false (by show ¬ (j0 : Int) < 0; omega)
          have z2 : atI (some j0) = (j0 : Int) := rfl
          have z3 : (0 : Int) ≤ (j0 : Int) := by omega
          have z4 : (j0 : Int) ≤ (s.size : Int) := by omega
          have z5 : IntKind.i64.wrap ((j0 : Int) + 2) = (j0 : Int) + 2 := IntWalk.i64_in _ (by omega)
          have z6 : (0 : Int) ≤ (j0 : Int) + 2 := by omega
          have z7 : (j0 : Int) + 2 ≤ (s.size : Int) := by omega
          have z8 : ((j0 : Int) + 2).toNat = j0 + 2 := by omega
          clear hg hall hsl0 HU HGG hj0
          obtain ⟨xs, hxs⟩ : ∃ xs, xs = strB x := ⟨_, rfl⟩
          obtain ⟨ys, hys⟩ : ∃ ys, ys = strB y := ⟨_, rfl⟩
          have hxl : xs.size = x.length := by rw [hxs, strB_size]
          have hyl : ys.size = y.length := by rw [hys, strB_size]
          have hxd : xs.data.toList = x := by rw [hxs]; simp [strB]
          have hyd : ys.data.toList = y := by rw [hys]; simp [strB]
          have cx := fun W => groupsR_any xs false W (by omega)
          have cy := fun W => groupsR_any ys true W (by omega)
          rw [hxd] at cx
          rw [hyd] at cy
          have hex : s.extract 0 j0 = xs := by rw [ext_upto, hxs, hxx]
          have hey : s.extract (j0 + 2) s.size = ys := by rw [ext_from, hys, hyy]
          clear hxs hys hxd hyd hxl hyl hxx hyy
          go_wp2_with (go_at_call 126; refine stopc ?_)
          refine Stop.go ?_
          refine (cx _).mono ?_
          rintro e w4 ⟨v, xo, rfl, hown, hro, hle, hs4⟩
          have HR4 := Lib.hid (HR3.out.step hs4 id)
          have HA4 := Lib.hid (HA3.out.step hs4 id)
          have HS4 := Lib.hid (HS3.out.trans hs4)
          have HOX := Lib.hid hown
          have HRX := Lib.hid hro
          obtain ⟨A, c, rfl, hlc⟩ := HOX.out.form
          obtain ⟨O, hOv⟩ : ∃ O, O = (readS false x).isSome := ⟨_, rfl⟩
          rw [← hOv]
          have HOV := Lib.hid hOv
          clear hs4 hown hro hOv
          go_wp2_with (go_at_call 126; refine stopc ?_)
          refine Stop.go ?_
          refine (cy _).mono ?_
          rintro e w5 ⟨v, yo, rfl, hown, hro, hle2, hs5⟩
          have HR5 := Lib.hid (HR4.out.step hs5 id)
          have HA5 := Lib.hid (HA4.out.step hs5 id)
          have HS5 := Lib.hid (HS4.out.trans hs5)
          have HOX5 := Lib.hid (HOX.out.stp0 hs5)
          have HOY := Lib.hid hown
          have HRY := Lib.hid hro
          obtain ⟨A2, c2, rfl, hlc2⟩ := HOY.out.form
          obtain ⟨O2, hOv⟩ : ∃ O, O = (readS true y).isSome := ⟨_, rfl⟩
          rw [← hOv]
          have HOV2 := Lib.hid hOv
          clear hs5 hown hro hOv HOX
          have HNO : Hid ((O = false ∨ O2 = false ∨ ¬ xo.length + yo.length ≤ 14) → parseA s.data.toList = none) := Lib.hid (by
            intro h
            rw [HPA.out]
            cases hq : readS false x with
            | none => rfl
            | some a =>
              cases hq2 : readS true y with
              | none => rfl
              | some b =>
                rcases h with h | h | h
                · have := HOV.out
                  rw [hq, h] at this
                  cases this
                · have := HOV2.out
                  rw [hq2, h] at this
                  cases this
                · rw [HRX.out a hq, HRY.out b hq2]
                  simp only
                  rw [if_neg h])
          have hww : IntKind.i64.wrap ((xo.length : Int) + (yo.length : Int)) = (xo.length : Int) + (yo.length : Int) := IntWalk.i64_in _ (by omega)
          cases O with
          | false =>
            have HN2 := Lib.hid (HNO.out (Or.inl rfl))
            clear HNO
            go_wp2_with (with_reducible refine stop (N := 105) rfl ?_)
            refine Stop.go ?_
            refine wp_loadA rfl _ _ rfl rfl HA5.out Tryz.underlying76 size_addr rfl ?_
            refine wp_storeA rfl _ _ _ rfl rfl rfl HR5.out size_addr rfl rfl ?_
            intro w6 hA6 hs6
            have HA6 := Lib.hid hA6
            have HS6 := Lib.hid (HS5.out.then_ hs6 (fun k hk h => absurd h (by omega)))
            clear hA6 hs6
            go_wp2
            refine bodyPost_ret (results_row_tmp rfl _ _ w.heap.size _ _ _ _ rfl HA6.out Tryz.underlying76 rfl (by rw [cellsA_size]; exact size_addr)) rfl ?_
            rw [HR.out]
            unfold AdrP
            rw [HN2.out]
            exact ⟨_, rfl, rfl, (fun a' h => by cases h), (fun _ => rfl), HS6.out⟩
          | true =>
            cases O2 with
            | false =>
              have HN2 := Lib.hid (HNO.out (Or.inr (Or.inl rfl)))
              clear HNO
              go_wp2_with (with_reducible refine stop (N := 105) rfl ?_)
              refine Stop.go ?_
              refine wp_loadA rfl _ _ rfl rfl HA5.out Tryz.underlying76 size_addr rfl ?_
              refine wp_storeA rfl _ _ _ rfl rfl rfl HR5.out size_addr rfl rfl ?_
              intro w6 hA6 hs6
              have HA6 := Lib.hid hA6
              have HS6 := Lib.hid (HS5.out.then_ hs6 (fun k hk h => absurd h (by omega)))
              clear hA6 hs6
              go_wp2
              refine bodyPost_ret (results_row_tmp rfl _ _ w.heap.size _ _ _ _ rfl HA6.out Tryz.underlying76 rfl (by rw [cellsA_size]; exact size_addr)) rfl ?_
              rw [HR.out]
              unfold AdrP
              rw [HN2.out]
              exact ⟨_, rfl, rfl, (fun a' h => by cases h), (fun _ => rfl), HS6.out⟩
            | true =>
              by_cases h14 : xo.length + yo.length ≤ 14
              · have hdd : decide ((14 : Int) < (xo.length : Int) + (yo.length : Int)) = false := decide_eq_false (by omega)
                have HPO : Hid (parseA s.data.toList = some (xo ++ zerosL (16 - xo.length - yo.length) ++ yo)) := Lib.hid (by
                  rw [HPA.out]
                  cases hq : readS false x with
                  | none => have := HOV.out; rw [hq] at this; cases this
                  | some a =>
                    cases hq2 : readS true y with
                    | none => have := HOV2.out; rw [hq2] at this; cases this
                    | some b =>
                      rw [HRX.out a hq, HRY.out b hq2]
                      simp only
                      rw [if_pos h14])
                have hlt4 := HA4.out.lt
                have HRDX := Lib.hid (HOX5.out.rd (h1 := fun _ => rfl) (M := fun _ => False) (fun _ _ => id))
                have HRDY := Lib.hid (HOY.out.rd (h1 := fun _ => rfl) (M := fun k => k = (w.heap.size + 1)) (fun k hk h => by have := (HOY.out.lt k hk).1; omega))
                have hl16 : (xo ++ zerosL (16 - xo.length - yo.length) ++ yo).length = 16 := by simp [zerosL]; omega
                have hw1 : IntKind.i64.wrap (16 - (yo.length : Int)) = 16 - (yo.length : Int) := IntWalk.i64_in _ (by omega)
                have hw2 := fun W => slice_tail (w.heap.size + 1) yo.length (by omega) W
                clear HNO
                go_wp2_with (with_reducible refine stop (N := 108) rfl ?_)
                refine Stop.go ?_
                refine wp_copyA rfl _ _ _ _ rfl 5 Tryz.underlying22 size_u8 HA5.out HRDX.out rfl rfl (by decide) (by omega) ?_
                intro w6 hA6 hs6
                have HA6 := Lib.hid hA6
                have HR6 := Lib.hid (HR5.out.step hs6 (by omega))
                have HRDY6 := Lib.hid (HRDY.out.stp hs6)
                have HS6 := Lib.hid (HS5.out.then_ hs6 (fun k hk h => absurd h (by omega)))
                clear hA6 hs6
                go_wp2_with (with_reducible refine stop (N := 114) rfl ?_)
                refine Stop.go ?_
                refine wp_copyA rfl _ _ _ _ rfl 5 Tryz.underlying22 size_u8 HA6.out HRDY6.out rfl rfl (by rw [over_len _ _ _ (by simp [zerosL]; omega)]; unfold offT; simp [zerosL]; split <;> omega) (Nat.le_refl _) ?_
                intro w7 hA7 hs7
                rw [over_tail xo yo h14] at hA7
                have HA7 := Lib.hid hA7
                have HR7 := Lib.hid (HR6.out.step hs7 (by omega))
                have HS7 := Lib.hid (HS6.out.then_ hs7 (fun k hk h => absurd h (by omega)))
                clear hA7 hs7
                go_wp2_with (with_reducible refine stop (N := 115) rfl ?_)
                refine Stop.go ?_
                refine wp_loadA rfl _ _ rfl rfl HA7.out Tryz.underlying76 size_addr hl16 ?_
                refine wp_storeA rfl _ _ _ rfl rfl rfl HR7.out size_addr hl16 rfl ?_
                intro w8 hA8 hs8
                have HA8 := Lib.hid hA8
                have HS8 := Lib.hid (HS7.out.then_ hs8 (fun k hk h => absurd h (by omega)))
                clear hA8 hs8
                go_wp2
                refine bodyPost_ret (results_row_tmp rfl _ _ w.heap.size _ _ _ _ rfl HA8.out Tryz.underlying76 rfl (by rw [cellsA_size, hl16]; exact size_addr)) rfl ?_
                rw [HR.out]
                unfold AdrP
                rw [HPO.out]
                exact ⟨_, rfl, hl16, (fun a' h => by injection h with h; exact h.symm), (fun h => by cases h), HS8.out⟩
              · have hdd : decide ((14 : Int) < (xo.length : Int) + (yo.length : Int)) = true := decide_eq_true (by omega)
                have HN2 := Lib.hid (HNO.out (Or.inr (Or.inr h14)))
                clear HNO
                go_wp2_with (with_reducible refine stop (N := 105) rfl ?_)
                refine Stop.go ?_
                refine wp_loadA rfl _ _ rfl rfl HA5.out Tryz.underlying76 size_addr rfl ?_
                refine wp_storeA rfl _ _ _ rfl rfl rfl HR5.out size_addr rfl rfl ?_
                intro w6 hA6 hs6
                have HA6 := Lib.hid hA6
                have HS6 := Lib.hid (HS5.out.then_ hs6 (fun k hk h => absurd h (by omega)))
                clear hA6 hs6
                go_wp2
                refine bodyPost_ret (results_row_tmp rfl _ _ w.heap.size _ _ _ _ rfl HA6.out Tryz.underlying76 rfl (by rw [cellsA_size]; exact size_addr)) rfl ?_
                rw [HR.out]
                unfold AdrP
                rw [HN2.out]
                exact ⟨_, rfl, rfl, (fun a' h => by cases h), (fun _ => rfl), HS6.out⟩
end Go.Proofs.YtligofmhbbgalaaGreatDoor.L

/-! Layer 3: the document's printing of an address. -/
namespace Go.Proofs.YtligofmhbbgalaaGreatDoor.L
open Go.RowKit Go.Proofs

theorem wpl_wanted {P : Program} {ops : Array Oper} {rest : List Oper} {o : Oper} {a : Act} {w : World} {Q : Exit → Act → World → Prop} (hw : Region.wanted o (yielded ops a.tmps) = true)
    (h : o.wp P a w (wpList P ops Q rest) Q) : wpList P ops Q (o :: rest) a w := by
  unfold wpList
  rw [if_pos hw]
  exact .inl h
theorem rowA_upd (l : List Nat) (k f n : Nat) : ((rowA k f n l).1 = f ∧ (rowA k f n l).2 = n) ∨ (k ≤ (rowA k f n l).1 ∧ (rowA k f n l).1 + (rowA k f n l).2 ≤ k + l.length) := by
  induction l generalizing k f n with
  | nil => exact Or.inl ⟨rfl, rfl⟩
  | cons x r ih =>
    rw [rowA]
    split
    · rename_i hz
      have hl := (zrun_le (x :: r)).1
      rcases ih (k + 1) k (zrun (x :: r)) with ⟨h1, h2⟩ | ⟨h1, h2⟩
      · rw [h1, h2]
        exact Or.inr ⟨Nat.le_refl _, by omega⟩
      · exact Or.inr ⟨by omega, by simp; omega⟩
    · rcases ih (k + 1) f n with ⟨h1, h2⟩ | ⟨h1, h2⟩
      · exact Or.inl ⟨h1, h2⟩
      · exact Or.inr ⟨by omega, by simp; omega⟩
theorem rowR_range (l : List Nat) (h : l.length = 8) : ((rowR l).1 = 8 ∧ (rowR l).2 = 0) ∨ (2 ≤ (rowR l).2 ∧ (rowR l).1 + (rowR l).2 ≤ 8) := by
  unfold rowR
  split
  · exact Or.inl ⟨rfl, rfl⟩
  · rename_i h2
    rcases rowA_upd l 0 0 0 with ⟨h3, h4⟩ | ⟨h3, h4⟩
    · omega
    · exact Or.inr ⟨by omega, by omega⟩
theorem uptoP_len (l : List Nat) (h : ∀ n ∈ l, n < 65536) (hl : l.length = 8) (f m k : Nat) : (uptoP l f m k).length ≤ 100 := by
  have h1 : ∀ j, (joinH (l.take j)).length ≤ 40 := fun j => by
    have := joinH_len (l.take j) (fun n hn => h n (List.mem_of_mem_take hn))
    rw [List.length_take] at this
    omega
  have h2 : (joinH ((l.take k).drop (f + m))).length ≤ 40 := by
    have := joinH_len ((l.take k).drop (f + m)) (fun n hn => h n (List.mem_of_mem_take (List.mem_of_mem_drop hn)))
    rw [List.length_drop, List.length_take] at this
    omega
  unfold uptoP
  have a := h1 k
  have b := h1 f
  split
  · omega
  · simp only [List.length_append, List.length_cons, List.length_nil]
    omega
theorem print4_four (x y z u : UInt8) : print4 [x, y, z, u] = Lib.decDigits x.toNat ++ [46] ++ Lib.decDigits y.toNat ++ [46] ++ Lib.decDigits z.toNat ++ [46] ++ Lib.decDigits u.toNat := by
  unfold print4
  simp [joinC]

set_option maxRecDepth 100000 in
set_option maxHeartbeats 16000000 in
theorem aprintR_any (a : List UInt8) (ha : a.length = 16) (w : World) :
    Calls Tryz.prog 90 #[.agg (cellsA a)] w fun e w' => e = .returned (.string (strB (printA a))) ∧ Stp (fun _ => False) w w' := by
  obtain ⟨R, hR⟩ : ∃ R : Ending → World → Prop, R = fun e w' => e = .returned (.string (strB (printA a))) ∧ Stp (fun _ => False) w w' := ⟨_, rfl⟩
  rw [← hR]
  have HR := Lib.hid hR
  have HL := Lib.hid ha
  clear hR ha
  go_enter Tryz.func90, Tryz.ntmps90
  go_wp2_with (with_reducible refine stop (N := 9) rfl ?_)
  refine Stop.go ?_
  refine wpl_gen (fun W => Arr w.heap.size 76 a W ∧ Stp (fun _ => False) w W) ⟨arr_new _ _ _ _ rfl, (Stp.refl _ w).alloc _⟩ ?_
  rintro W1 ⟨hA, hs⟩
  have HA := Lib.hid hA
  have HS := Lib.hid hs
  clear hA hs
  refine wp_loadA rfl _ _ rfl rfl HA.out Tryz.underlying76 size_addr HL.out ?_
  go_wp2_with (go_at_call 127; refine stopc ?_)
  refine Stop.go ?_
  refine (fourR_any a HL.out _).mono ?_
  rintro e w2 ⟨rfl, hs2⟩
  have HA2 := Lib.hid (HA.out.step hs2 id)
  have HS2 := Lib.hid (HS.out.trans hs2)
  clear hs2 HA HS
  cases hf : fourB a with
  | true =>
    obtain ⟨x0, x1, x2, x3, hd⟩ : ∃ x0 x1 x2 x3, a.drop 12 = [x0, x1, x2, x3] := by
      have hl : (a.drop 12).length = 4 := by rw [List.length_drop, HL.out]
      match h : a.drop 12, hl with
      | [b, c, d, e], _ => exact ⟨b, c, d, e, rfl⟩
    have hP : printA a = Lib.decDigits x0.toNat ++ [46] ++ Lib.decDigits x1.toNat ++ [46] ++ Lib.decDigits x2.toNat ++ [46] ++ Lib.decDigits x3.toNat := by
      unfold printA
      rw [if_pos hf, hd, print4_four]
    have hc : ∀ j (hj : j < 4) x, (a.drop 12)[j]? = some x → w2.cell? ⟨w.heap.size, 12 + j, none⟩ = some (.int .u8 (x.toNat : Int)) := fun j hj x h => by
      rw [List.getElem?_drop] at h
      obtain ⟨hlt, rfl⟩ := List.getElem?_eq_some_iff.1 h
      exact HA2.out.cell (12 + j) hlt
    have k0 := hc 0 (by omega) x0 (by rw [hd]; rfl)
    have k1 := hc 1 (by omega) x1 (by rw [hd]; rfl)
    have k2 := hc 2 (by omega) x2 (by rw [hd]; rfl)
    have k3 := hc 3 (by omega) x3 (by rw [hd]; rfl)
    have HQ : Hid (w2.cell? ⟨w.heap.size, 12, none⟩ = some (.int .u8 (x0.toNat : Int)) ∧ w2.cell? ⟨w.heap.size, 13, none⟩ = some (.int .u8 (x1.toNat : Int)) ∧ w2.cell? ⟨w.heap.size, 14, none⟩ = some (.int .u8 (x2.toNat : Int)) ∧ w2.cell? ⟨w.heap.size, 15, none⟩ = some (.int .u8 (x3.toNat : Int))) := Lib.hid ⟨k0, k1, k2, k3⟩
    have ct : ∀ (x : UInt8), ∃ T : ByteArray, T = strB (Lib.decDigits x.toNat) ∧ T.size ≤ 20 ∧ ∀ W, Calls Tryz.prog 128 #[.int .i64 (x.toNat : Int)] W fun e w' => e = .returned (.string T) ∧ w' = W := fun x =>
      ⟨_, rfl, by rw [strB_size, Lib.decDigits_length]; exact Lib.nDigits_le20 _ (by have := UInt8.toNat_lt x; omega), fun W => text_any x.toNat W (by have := UInt8.toNat_lt x; omega)⟩
    obtain ⟨T0, t0, s0, c0⟩ := ct x0
    obtain ⟨T1, t1, s1, c1⟩ := ct x1
    obtain ⟨T2, t2, s2, c2⟩ := ct x2
    obtain ⟨T3, t3, s3, c3⟩ := ct x3
    have HP : Hid (strB (printA a) = T0 ++ (⟨#[46]⟩ : ByteArray) ++ T1 ++ (⟨#[46]⟩ : ByteArray) ++ T2 ++ (⟨#[46]⟩ : ByteArray) ++ T3) := Lib.hid (by
      rw [hP, ← strB_append, ← strB_append, ← strB_append, ← strB_append, ← strB_append, ← strB_append, ← t0, ← t1, ← t2, ← t3]
      rfl)
    have wr : ∀ x : UInt8, IntKind.i64.wrap (x.toNat : Int) = (x.toNat : Int) := fun x => IntWalk.i64_in _ (by have := UInt8.toNat_lt x; omega)
    have r0 := wr x0
    have r1 := wr x1
    have r2 := wr x2
    have r3 := wr x3
    have z1 : ¬ 9223372036854775807 < T0.size + 1 := by omega
    have z2 : ¬ 9223372036854775807 < T0.size + 1 + T1.size := by omega
    have z3 : ¬ 9223372036854775807 < T0.size + 1 + T1.size + 1 := by omega
    have z4 : ¬ 9223372036854775807 < T0.size + 1 + T1.size + 1 + T2.size := by omega
    have z5 : ¬ 9223372036854775807 < T0.size + 1 + T1.size + 1 + T2.size + 1 := by omega
    have z6 : ¬ 9223372036854775807 < T0.size + 1 + T1.size + 1 + T2.size + 1 + T3.size := by omega
    clear hf hd hP hc k0 k1 k2 k3 ct wr t0 t1 t2 t3 s0 s1 s2 s3
    go_wp2
    refine wp_region_held_drew (S := (fun W => W.cell? ⟨w.heap.size, 12, none⟩ = some (.int .u8 (x0.toNat : Int)) ∧ W.cell? ⟨w.heap.size, 13, none⟩ = some (.int .u8 (x1.toNat : Int)) ∧ W.cell? ⟨w.heap.size, 14, none⟩ = some (.int .u8 (x2.toNat : Int)) ∧ W.cell? ⟨w.heap.size, 15, none⟩ = some (.int .u8 (x3.toNat : Int)))) (by kernel_rfl) (HQ.out) (fun hHeld => ?_)
    try (change wpAnyH _ _ _ _ _ _ _ _ (World.drew _))
    refine rg_take (i := 0) (o := { dst := some 11, op := Op.indexAddr 76 (Operand.tmp 1) (Operand.const (Value.int IntKind.i64 12)), type := 0, pos := "ref.go:141", after := #[], guard := none }) (v := ?rgv15) rfl (by kernel_rfl) (by kernel_rfl) (by kernel_rfl) (fun _ _ _ h => h) (by rfl) (fun w hSw => ?rgy15) hHeld ?_
    case rgy15 => (try dsimp only at hSw); first | (go_simp; done) | (go_simp; with_reducible rfl)
    try simp only [Act.put, List.setIfInBounds_toArray, List.set_cons_zero, List.set_cons_succ]
    refine rg_take (i := 1) (o := { dst := some 12, op := Op.load 5 (Operand.tmp 11), type := 5, pos := "ref.go:141", after := #[{ on := 0, ground := Ground.data }], guard := none }) (v := ?rgv16) rfl (by kernel_rfl) (by kernel_rfl) (by kernel_rfl) (fun _ _ _ h => h) (by rfl) (fun w hSw => ?rgy16) hHeld ?_
    case rgy16 => (have hk0 := hSw.1; go_simp; with_reducible rfl)
    try simp only [Act.put, List.setIfInBounds_toArray, List.set_cons_zero, List.set_cons_succ]
    refine rg_take (i := 2) (o := { dst := some 13, op := Op.convert 5 3 (Operand.tmp 12), type := 3, pos := "ref.go:141", after := #[{ on := 1, ground := Ground.data }], guard := none }) (v := ?rgv17) rfl (by kernel_rfl) (by kernel_rfl) (by kernel_rfl) (fun _ _ _ h => h) (by rfl) (fun w hSw => ?rgy17) hHeld ?_
    case rgy17 => (try dsimp only at hSw); first | (go_simp; done) | (go_simp; with_reducible rfl)
    try simp only [Act.put, List.setIfInBounds_toArray, List.set_cons_zero, List.set_cons_succ]
    refine rg_take (i := 5) (o := { dst := some 16, op := Op.indexAddr 76 (Operand.tmp 1) (Operand.const (Value.int IntKind.i64 13)), type := 0, pos := "ref.go:141", after := #[], guard := none }) (v := ?rgv18) rfl (by kernel_rfl) (by kernel_rfl) (by kernel_rfl) (fun _ _ _ h => h) (by rfl) (fun w hSw => ?rgy18) hHeld ?_
    case rgy18 => (try dsimp only at hSw); first | (go_simp; done) | (go_simp; with_reducible rfl)
    try simp only [Act.put, List.setIfInBounds_toArray, List.set_cons_zero, List.set_cons_succ]
    refine rg_take (i := 6) (o := { dst := some 17, op := Op.load 5 (Operand.tmp 16), type := 5, pos := "ref.go:141", after := #[{ on := 5, ground := Ground.data }], guard := none }) (v := ?rgv19) rfl (by kernel_rfl) (by kernel_rfl) (by kernel_rfl) (fun _ _ _ h => h) (by rfl) (fun w hSw => ?rgy19) hHeld ?_
    case rgy19 => (have hk0 := hSw.2.1; go_simp; with_reducible rfl)
    try simp only [Act.put, List.setIfInBounds_toArray, List.set_cons_zero, List.set_cons_succ]
    refine rg_take (i := 7) (o := { dst := some 18, op := Op.convert 5 3 (Operand.tmp 17), type := 3, pos := "ref.go:141", after := #[{ on := 6, ground := Ground.data }], guard := none }) (v := ?rgv20) rfl (by kernel_rfl) (by kernel_rfl) (by kernel_rfl) (fun _ _ _ h => h) (by rfl) (fun w hSw => ?rgy20) hHeld ?_
    case rgy20 => (try dsimp only at hSw); first | (go_simp; done) | (go_simp; with_reducible rfl)
    try simp only [Act.put, List.setIfInBounds_toArray, List.set_cons_zero, List.set_cons_succ]
    refine rg_take (i := 11) (o := { dst := some 22, op := Op.indexAddr 76 (Operand.tmp 1) (Operand.const (Value.int IntKind.i64 14)), type := 0, pos := "ref.go:141", after := #[], guard := none }) (v := ?rgv21) rfl (by kernel_rfl) (by kernel_rfl) (by kernel_rfl) (fun _ _ _ h => h) (by rfl) (fun w hSw => ?rgy21) hHeld ?_
    case rgy21 => (try dsimp only at hSw); first | (go_simp; done) | (go_simp; with_reducible rfl)
    try simp only [Act.put, List.setIfInBounds_toArray, List.set_cons_zero, List.set_cons_succ]
    refine rg_take (i := 12) (o := { dst := some 23, op := Op.load 5 (Operand.tmp 22), type := 5, pos := "ref.go:141", after := #[{ on := 11, ground := Ground.data }], guard := none }) (v := ?rgv22) rfl (by kernel_rfl) (by kernel_rfl) (by kernel_rfl) (fun _ _ _ h => h) (by rfl) (fun w hSw => ?rgy22) hHeld ?_
    case rgy22 => (have hk0 := hSw.2.2.1; go_simp; with_reducible rfl)
    try simp only [Act.put, List.setIfInBounds_toArray, List.set_cons_zero, List.set_cons_succ]
    refine rg_take (i := 13) (o := { dst := some 24, op := Op.convert 5 3 (Operand.tmp 23), type := 3, pos := "ref.go:141", after := #[{ on := 12, ground := Ground.data }], guard := none }) (v := ?rgv23) rfl (by kernel_rfl) (by kernel_rfl) (by kernel_rfl) (fun _ _ _ h => h) (by rfl) (fun w hSw => ?rgy23) hHeld ?_
    case rgy23 => (try dsimp only at hSw); first | (go_simp; done) | (go_simp; with_reducible rfl)
    try simp only [Act.put, List.setIfInBounds_toArray, List.set_cons_zero, List.set_cons_succ]
    refine rg_take (i := 17) (o := { dst := some 28, op := Op.indexAddr 76 (Operand.tmp 1) (Operand.const (Value.int IntKind.i64 15)), type := 0, pos := "ref.go:141", after := #[], guard := none }) (v := ?rgv24) rfl (by kernel_rfl) (by kernel_rfl) (by kernel_rfl) (fun _ _ _ h => h) (by rfl) (fun w hSw => ?rgy24) hHeld ?_
    case rgy24 => (try dsimp only at hSw); first | (go_simp; done) | (go_simp; with_reducible rfl)
    try simp only [Act.put, List.setIfInBounds_toArray, List.set_cons_zero, List.set_cons_succ]
    refine rg_take (i := 18) (o := { dst := some 29, op := Op.load 5 (Operand.tmp 28), type := 5, pos := "ref.go:141", after := #[{ on := 17, ground := Ground.data }], guard := none }) (v := ?rgv25) rfl (by kernel_rfl) (by kernel_rfl) (by kernel_rfl) (fun _ _ _ h => h) (by rfl) (fun w hSw => ?rgy25) hHeld ?_
    case rgy25 => (have hk0 := hSw.2.2.2; go_simp; with_reducible rfl)
    try simp only [Act.put, List.setIfInBounds_toArray, List.set_cons_zero, List.set_cons_succ]
    refine rg_take (i := 19) (o := { dst := some 30, op := Op.convert 5 3 (Operand.tmp 29), type := 3, pos := "ref.go:141", after := #[{ on := 18, ground := Ground.data }], guard := none }) (v := ?rgv26) rfl (by kernel_rfl) (by kernel_rfl) (by kernel_rfl) (fun _ _ _ h => h) (by rfl) (fun w hSw => ?rgy26) hHeld ?_
    case rgy26 => (try dsimp only at hSw); first | (go_simp; done) | (go_simp; with_reducible rfl)
    try simp only [Act.put, List.setIfInBounds_toArray, List.set_cons_zero, List.set_cons_succ]
    refine wpAnyH_ready (rs := [3]) (by kernel_rfl) (by simp) ?_
    refine (AllReadyH.cons (o := { dst := some 14, op := Op.call { callee := Callee.value (Operand.func 128), args := #[Operand.tmp 13], argTypes := #[3] }, type := 9, pos := "ref.go:141", after := #[{ on := 2, ground := Ground.data }], guard := none }) rfl (fun K hK => ?_) AllReadyH.nil)
    go_simp
    refine (c0 _).mono ?_
    rintro e w3 ⟨rfl, rfl⟩
    show K _ _
    clear hHeld
    refine hK.out _ _ (HQ.out) (fun hHeld => ?_)
    clear hK K
    try simp only [Act.put, List.setIfInBounds_toArray, List.set_cons_zero, List.set_cons_succ]
    refine rg_take (i := 4) (o := { dst := some 15, op := Op.binOp BinOp.add 9 (Operand.tmp 14) (Operand.const (Value.string { data := #[46] })) 9, type := 9, pos := "ref.go:141", after := #[{ on := 3, ground := Ground.data }], guard := none }) (v := ?rgv27) rfl (by kernel_rfl) (by kernel_rfl) (by kernel_rfl) (fun _ _ _ h => h) (by rfl) (fun w hSw => ?rgy27) hHeld ?_
    case rgy27 => (try dsimp only at hSw); first | (go_simp; done) | (go_simp; with_reducible rfl)
    try simp only [Act.put, List.setIfInBounds_toArray, List.set_cons_zero, List.set_cons_succ]
    refine wpAnyH_ready (rs := [8]) (by kernel_rfl) (by simp) ?_
    refine (AllReadyH.cons (o := { dst := some 19, op := Op.call { callee := Callee.value (Operand.func 128), args := #[Operand.tmp 18], argTypes := #[3] }, type := 9, pos := "ref.go:141", after := #[{ on := 7, ground := Ground.data }, { on := 3, ground := Ground.chain }], guard := none }) rfl (fun K hK => ?_) AllReadyH.nil)
    go_simp
    refine (c1 _).mono ?_
    rintro e w3 ⟨rfl, rfl⟩
    show K _ _
    clear hHeld
    refine hK.out _ _ (HQ.out) (fun hHeld => ?_)
    clear hK K
    try simp only [Act.put, List.setIfInBounds_toArray, List.set_cons_zero, List.set_cons_succ]
    refine rg_take (i := 9) (o := { dst := some 20, op := Op.binOp BinOp.add 9 (Operand.tmp 15) (Operand.tmp 19) 9, type := 9, pos := "ref.go:141", after := #[{ on := 4, ground := Ground.data }, { on := 8, ground := Ground.data }], guard := none }) (v := ?rgv28) rfl (by kernel_rfl) (by kernel_rfl) (by kernel_rfl) (fun _ _ _ h => h) (by rfl) (fun w hSw => ?rgy28) hHeld ?_
    case rgy28 => (try dsimp only at hSw); first | (go_simp; done) | (go_simp; with_reducible rfl)
    try simp only [Act.put, List.setIfInBounds_toArray, List.set_cons_zero, List.set_cons_succ]
    refine rg_take (i := 10) (o := { dst := some 21, op := Op.binOp BinOp.add 9 (Operand.tmp 20) (Operand.const (Value.string { data := #[46] })) 9, type := 9, pos := "ref.go:141", after := #[{ on := 9, ground := Ground.data }], guard := none }) (v := ?rgv29) rfl (by kernel_rfl) (by kernel_rfl) (by kernel_rfl) (fun _ _ _ h => h) (by rfl) (fun w hSw => ?rgy29) hHeld ?_
    case rgy29 => (try dsimp only at hSw); first | (go_simp; done) | (go_simp; with_reducible rfl)
    try simp only [Act.put, List.setIfInBounds_toArray, List.set_cons_zero, List.set_cons_succ]
    refine wpAnyH_ready (rs := [14]) (by kernel_rfl) (by simp) ?_
    refine (AllReadyH.cons (o := { dst := some 25, op := Op.call { callee := Callee.value (Operand.func 128), args := #[Operand.tmp 24], argTypes := #[3] }, type := 9, pos := "ref.go:141", after := #[{ on := 13, ground := Ground.data }, { on := 8, ground := Ground.chain }], guard := none }) rfl (fun K hK => ?_) AllReadyH.nil)
    go_simp
    refine (c2 _).mono ?_
    rintro e w3 ⟨rfl, rfl⟩
    show K _ _
    clear hHeld
    refine hK.out _ _ (HQ.out) (fun hHeld => ?_)
    clear hK K
    try simp only [Act.put, List.setIfInBounds_toArray, List.set_cons_zero, List.set_cons_succ]
    refine rg_take (i := 15) (o := { dst := some 26, op := Op.binOp BinOp.add 9 (Operand.tmp 21) (Operand.tmp 25) 9, type := 9, pos := "ref.go:141", after := #[{ on := 10, ground := Ground.data }, { on := 14, ground := Ground.data }], guard := none }) (v := ?rgv30) rfl (by kernel_rfl) (by kernel_rfl) (by kernel_rfl) (fun _ _ _ h => h) (by rfl) (fun w hSw => ?rgy30) hHeld ?_
    case rgy30 => (try dsimp only at hSw); first | (go_simp; done) | (go_simp; with_reducible rfl)
    try simp only [Act.put, List.setIfInBounds_toArray, List.set_cons_zero, List.set_cons_succ]
    refine rg_take (i := 16) (o := { dst := some 27, op := Op.binOp BinOp.add 9 (Operand.tmp 26) (Operand.const (Value.string { data := #[46] })) 9, type := 9, pos := "ref.go:141", after := #[{ on := 15, ground := Ground.data }], guard := none }) (v := ?rgv31) rfl (by kernel_rfl) (by kernel_rfl) (by kernel_rfl) (fun _ _ _ h => h) (by rfl) (fun w hSw => ?rgy31) hHeld ?_
    case rgy31 => (try dsimp only at hSw); first | (go_simp; done) | (go_simp; with_reducible rfl)
    try simp only [Act.put, List.setIfInBounds_toArray, List.set_cons_zero, List.set_cons_succ]
    refine wpAnyH_ready (rs := [20]) (by kernel_rfl) (by simp) ?_
    refine (AllReadyH.cons (o := { dst := some 31, op := Op.call { callee := Callee.value (Operand.func 128), args := #[Operand.tmp 30], argTypes := #[3] }, type := 9, pos := "ref.go:141", after := #[{ on := 19, ground := Ground.data }, { on := 14, ground := Ground.chain }], guard := none }) rfl (fun K hK => ?_) AllReadyH.nil)
    go_simp
    refine (c3 _).mono ?_
    rintro e w3 ⟨rfl, rfl⟩
    show K _ _
    clear hHeld
    refine hK.out _ _ (HQ.out) (fun hHeld => ?_)
    clear hK K
    try simp only [Act.put, List.setIfInBounds_toArray, List.set_cons_zero, List.set_cons_succ]
    refine rg_take (i := 21) (o := { dst := some 32, op := Op.binOp BinOp.add 9 (Operand.tmp 27) (Operand.tmp 31) 9, type := 9, pos := "ref.go:141", after := #[{ on := 16, ground := Ground.data }, { on := 20, ground := Ground.data }], guard := none }) (v := ?rgv32) rfl (by kernel_rfl) (by kernel_rfl) (by kernel_rfl) (fun _ _ _ h => h) (by rfl) (fun w hSw => ?rgy32) hHeld ?_
    case rgy32 => (try dsimp only at hSw); first | (go_simp; done) | (go_simp; with_reducible rfl)
    try simp only [Act.put, List.setIfInBounds_toArray, List.set_cons_zero, List.set_cons_succ]
    refine rg_take (i := 22) (o := { dst := some 2, op := Op.assign (Operand.tmp 32), type := 9, pos := "ref.go:141", after := #[{ on := 21, ground := Ground.data }, { on := 20, ground := Ground.chain }, { on := 0, ground := Ground.phase }, { on := 1, ground := Ground.phase }, { on := 2, ground := Ground.phase }, { on := 3, ground := Ground.phase }, { on := 4, ground := Ground.phase }, { on := 5, ground := Ground.phase }, { on := 6, ground := Ground.phase }, { on := 7, ground := Ground.phase }, { on := 8, ground := Ground.phase }, { on := 9, ground := Ground.phase }, { on := 10, ground := Ground.phase }, { on := 11, ground := Ground.phase }, { on := 12, ground := Ground.phase }, { on := 13, ground := Ground.phase }, { on := 14, ground := Ground.phase }, { on := 15, ground := Ground.phase }, { on := 16, ground := Ground.phase }, { on := 17, ground := Ground.phase }, { on := 18, ground := Ground.phase }, { on := 19, ground := Ground.phase }, { on := 20, ground := Ground.phase }, { on := 21, ground := Ground.phase }], guard := none }) (v := ?rgv33) rfl (by kernel_rfl) (by kernel_rfl) (by kernel_rfl) (fun _ _ _ h => h) (by rfl) (fun w hSw => ?rgy33) hHeld ?_
    case rgy33 => (try dsimp only at hSw); first | (go_simp; done) | (go_simp; with_reducible rfl)
    try simp only [Act.put, List.setIfInBounds_toArray, List.set_cons_zero, List.set_cons_succ]
    clear hHeld
    refine wpAnyH_done (by kernel_rfl) ?_ _
    skip
    go_wp2
    rw [HR.out]
    exact ⟨by rw [HP.out]; rfl, HS2.out.drew⟩
  | false =>
    have HP : Hid (printA a = print6 (pairsN a)) := Lib.hid (by unfold printA; rw [hf, if_neg (by decide)])
    clear hf
    obtain ⟨hb1, hb2, hb3⟩ := bytesN_pairsN a 8 HL.out
    obtain ⟨ls, hls⟩ : ∃ ls, ls = pairsN a := ⟨_, rfl⟩
    rw [← hls] at hb1 hb2 hb3 HP
    have HB2 := Lib.hid hb2
    have HB3 := Lib.hid hb3
    have cg : ∀ (k n : Nat) (hk : k < 8) (hn : ls[k]? = some n) W, Calls Tryz.prog 129 #[.agg (cellsA a), .int .i64 (k : Int)] W fun e w' => e = .returned (.int .i64 (n : Int)) ∧ Stp (fun _ => False) W w' := fun k n hk hn W =>
      groupR_any a HL.out k n hk (by rw [← hls]; exact hn) W
    have CG := Lib.hid cg
    clear hls hb1 hb2 hb3 cg
    go_wp2
    go_loopg [3, 4, 5] 8 (fun gf vf vn i wx => ∃ (k f n : Nat), k + gf = 8 ∧ i = .int .i64 k ∧ vf = .int .i64 f ∧ vn = .int .i64 n ∧ rowA 0 0 0 ls = rowA k f n (ls.drop k) ∧ n ≤ 8 ∧ f ≤ 8 ∧ Stp (fun _ => False) w2 wx)
    case atStart => exact ⟨0, 0, 0, rfl, rfl, rfl, rfl, rfl, by omega, by omega, Stp.refl _ _⟩
    case round =>
      obtain ⟨k, f, n, hk, rfl, rfl, rfl, hr, hn8, hf8, hst⟩ := hrel
      have HRW := Lib.hid hr
      have HT := Lib.hid hst
      clear hr hst
      have w1 : IntKind.i64.wrap ((k : Int) + 1) = (k : Int) + 1 := IntWalk.i64_in _ (by omega)
      by_cases hlt : k < 8
      · obtain ⟨gk', rfl⟩ : ∃ gk', gk = gk' + 1 := ⟨gk - 1, by omega⟩
        have hkk : decide ((k : Int) < 8) = true := decide_eq_true (by omega)
        go_wp2
        go_loopg [6] (8 - k) (fun gf i wx => ∃ (e : Nat), k + e + gf = 8 ∧ i = .int .i64 e ∧ zrun (ls.drop k) = e + zrun (ls.drop (k + e)) ∧ Stp (fun _ => False) w2 wx)
        case atStart => exact ⟨0, by omega, rfl, by rw [Nat.add_zero]; omega, HT.out⟩
        case round =>
          obtain ⟨e, he, rfl, hz, hst⟩ := hrel
          have HZR := Lib.hid hz
          have HT2 := Lib.hid hst
          clear hz hst
          have hl8 := HB2.out
          have hkl : k < ls.length := by omega
          have we1 : IntKind.i64.wrap ((e : Int) + 1) = (e : Int) + 1 := IntWalk.i64_in _ (by omega)
          have we2 : IntKind.i64.wrap ((k : Int) + (e : Int)) = ((k + e : Nat) : Int) := by rw [IntWalk.i64_in _ (by omega)]; omega
          obtain ⟨ke, hke⟩ : ∃ ke, ke = k + e := ⟨_, rfl⟩
          rw [← hke] at we2
          by_cases he8 : ke < 8
          · have hel : ke < ls.length := by omega
            have he1 : decide ((ke : Int) < 8) = true := decide_eq_true (by omega)
            obtain ⟨g, hg⟩ : ∃ g, g = ls[ke] := ⟨_, rfl⟩
            have cgk := fun W => CG.out ke g he8 (by rw [hg]; exact List.getElem?_eq_getElem hel) W
            have hzd := zrun_drop ls ke hel
            rw [← hg] at hzd
            have HZD := Lib.hid hzd
            have HKE := Lib.hid hke
            have HA3 := Lib.hid (HA2.out.step HT2.out id)
            clear hzd hke hg
            by_cases h0 : g = 0
            · have h0' : ((g : Int) == 0) = true := by rw [h0]; rfl
              have HN : Hid (zrun (ls.drop k) = (e + 1) + zrun (ls.drop (k + (e + 1)))) := Lib.hid (by rw [HZR.out, ← HKE.out, HZD.out.1 h0, HKE.out, Nat.add_assoc]; omega)
              clear h0
              have hgk : 0 < gk := by have := HKE.out; omega
              obtain ⟨gi, rfl⟩ : ∃ g, gk = g + 1 := ⟨gk - 1, by omega⟩
              go_wp2_with (with_reducible refine stop (N := 42) rfl ?_)
              refine Stop.go ?_
              refine wpl_wanted (by kernel_rfl) (wp_load_row _ _ rfl w.heap.size rfl _ (cellsA a) (0, 0) _ HA3.out Tryz.underlying76 rfl (by rw [cellsA_size, HL.out]; exact size_addr) ?_)
              go_wp2_with (go_at_call 129; refine stopc ?_)
              refine Stop.go ?_
              refine (cgk _).mono ?_
              rintro e2 w5 ⟨rfl, hs5⟩
              have HT5 := Lib.hid (HT2.out.trans hs5)
              clear hs5
              go_wp2
              go_roundg gi
              case measure => omega
              case rel => exact ⟨e + 1, by omega, by go_num, HN.out, HT5.out⟩
            · have h0' : ((g : Int) == 0) = false := by simp; omega
              have HZ : Hid (zrun (ls.drop k) = e) := Lib.hid (by rw [HZR.out, ← HKE.out, HZD.out.2 h0]; omega)
              have HRA : Hid (rowA 0 0 0 ls = if n < e then rowA (k + 1) k e (ls.drop (k + 1)) else rowA (k + 1) f n (ls.drop (k + 1))) := Lib.hid (by
                rw [HRW.out, List.drop_eq_getElem_cons hkl, rowA, ← List.drop_eq_getElem_cons hkl, HZ.out])
              clear h0
              go_wp2_with (with_reducible refine stop (N := 42) rfl ?_)
              refine Stop.go ?_
              refine wpl_wanted (by kernel_rfl) (wp_load_row _ _ rfl w.heap.size rfl _ (cellsA a) (0, 0) _ HA3.out Tryz.underlying76 rfl (by rw [cellsA_size, HL.out]; exact size_addr) ?_)
              go_wp2_with (go_at_call 129; refine stopc ?_)
              refine Stop.go ?_
              refine (cgk _).mono ?_
              rintro e2 w5 ⟨rfl, hs5⟩
              have HT5 := Lib.hid (HT2.out.trans hs5)
              clear hs5
              by_cases hnz : n < e
              · have hgt : decide ((n : Int) < (e : Int)) = true := decide_eq_true (by omega)
                go_wp2
                go_roundg gk'
                case measure => omega
                case rel => exact ⟨k + 1, k, e, by omega, by go_num, rfl, rfl, by rw [HRA.out, if_pos hnz], by omega, by omega, HT5.out⟩
              · have hgt : decide ((n : Int) < (e : Int)) = false := decide_eq_false (by omega)
                go_wp2
                go_roundg gk'
                case measure => omega
                case rel => exact ⟨k + 1, f, n, by omega, by go_num, rfl, rfl, by rw [HRA.out, if_neg hnz], by omega, by omega, HT5.out⟩
          · have he1 : decide ((ke : Int) < 8) = false := decide_eq_false (by omega)
            have HZ : Hid (zrun (ls.drop k) = e) := Lib.hid (by rw [HZR.out, List.drop_eq_nil_of_le (by omega), show zrun [] = 0 from rfl]; omega)
            have HRA : Hid (rowA 0 0 0 ls = if n < e then rowA (k + 1) k e (ls.drop (k + 1)) else rowA (k + 1) f n (ls.drop (k + 1))) := Lib.hid (by
              rw [HRW.out, List.drop_eq_getElem_cons hkl, rowA, ← List.drop_eq_getElem_cons hkl, HZ.out])
            have he8' : e ≤ 8 := by omega
            clear hke
            by_cases hnz : n < e
            · have hgt : decide ((n : Int) < (e : Int)) = true := decide_eq_true (by omega)
              go_wp2
              go_roundg gk'
              case measure => omega
              case rel => exact ⟨k + 1, k, e, by omega, by go_num, rfl, rfl, by rw [HRA.out, if_pos hnz], by omega, by omega, HT2.out⟩
            · have hgt : decide ((n : Int) < (e : Int)) = false := decide_eq_false (by omega)
              go_wp2
              go_roundg gk'
              case measure => omega
              case rel => exact ⟨k + 1, f, n, by omega, by go_num, rfl, rfl, by rw [HRA.out, if_neg hnz], by omega, by omega, HT2.out⟩
      · obtain rfl : k = 8 := by omega
        have hl8 := HB2.out
        have HRA : Hid (rowA 0 0 0 ls = (f, n)) := Lib.hid (by rw [HRW.out, List.drop_eq_nil_of_le (by omega), rowA])
        have HA3 := Lib.hid (HA2.out.step HT.out id)
        have hrr : rowR ls = if n < 2 then (8, 0) else (f, n) := by unfold rowR; rw [HRA.out]
        have hrng := rowR_range ls HB2.out
        have hend := uptoP_end ls HB2.out
        have key : ∃ F m : Nat, rowR ls = (F, m) ∧ ((n < 2 ∧ F = 8 ∧ m = 0) ∨ (¬ n < 2 ∧ F = f ∧ m = n)) := by
          by_cases h2 : n < 2
          · exact ⟨8, 0, by rw [hrr, if_pos h2], Or.inl ⟨h2, rfl, rfl⟩⟩
          · exact ⟨f, n, by rw [hrr, if_neg h2], Or.inr ⟨h2, rfl, rfl⟩⟩
        obtain ⟨F, m, hFm, hk2⟩ := key
        rw [hFm] at hrng hend
        simp only at hrng hend
        have HEND : Hid (printA a = uptoP ls F m 8) := Lib.hid (by rw [HP.out, hend])
        have HRNG := Lib.hid hrng
        have LOOP : ∀ gk' : Nat, True := fun _ => trivial
        clear hrr hend hFm HRA HRW hrng LOOP
        rcases hk2 with ⟨h2, rfl, rfl⟩ | ⟨h2, rfl, rfl⟩
        · have d2 : decide ((n : Int) < 2) = true := decide_eq_true (by omega)
          go_wp2
          go_loopg [7, 8] 8 (fun gf sv i wx => ∃ (k : Nat), k + gf = 8 ∧ i = .int .i64 k ∧ sv = .string (strB (uptoP ls 8 0 k)) ∧ Stp (fun _ => False) w2 wx)
          case atStart => exact ⟨0, rfl, rfl, by unfold uptoP; rw [if_pos (Nat.zero_le _)]; rfl, HT.out⟩
          case round =>
            obtain ⟨k, hk, rfl, rfl, hst⟩ := hrel
            have HT3 := Lib.hid hst
            have HA4 := Lib.hid (HA2.out.step hst id)
            clear hst
            have hFm := HRNG.out
            have hlp := uptoP_len ls HB3.out HB2.out 8 0 k
            obtain ⟨T, hT⟩ : ∃ T, T = strB (uptoP ls 8 0 k) := ⟨_, rfl⟩
            have hTs : T.size ≤ 100 := by rw [hT, strB_size]; exact hlp
            rw [← hT]
            have HTT := Lib.hid hT
            clear hT hlp
            have i1 : IntKind.i64.wrap ((k : Int) + 1) = (k : Int) + 1 := IntWalk.i64_in _ (by omega)
            have i2 : IntKind.i64.wrap (((8 : Nat) : Int) + ((0 : Nat) : Int)) = ((8 : Nat) : Int) + ((0 : Nat) : Int) := IntWalk.i64_in _ (by omega)
            by_cases hlt : k < 8
            · obtain ⟨gk', rfl⟩ : ∃ gk', gk = gk' + 1 := ⟨gk - 1, by omega⟩
              have hkk : decide ((k : Int) < 8) = true := decide_eq_true (by omega)
              have hkl : k < ls.length := by have := HB2.out; omega
              obtain ⟨u1, u2, u3, u4, u5⟩ := uptoP_step ls 8 0 k hkl (by have := HB2.out; omega) (by have := HB2.out; omega)
              obtain ⟨g, hg⟩ : ∃ g, g = ls[k] := ⟨_, rfl⟩
              have hgr : g < 65536 := HB3.out g (by rw [hg]; exact List.getElem_mem _)
              have cgk := fun W => CG.out k g hlt (by rw [hg]; exact List.getElem?_eq_getElem hkl) W
              have chx := fun W => hexRT_any g W hgr
              rw [← hg] at u1 u4 u5
              obtain ⟨Y, hY⟩ : ∃ Y, Y = strB (hxT g) := ⟨_, rfl⟩
              have hYs : Y.size ≤ 4 := by rw [hY, strB_size]; exact hxT_len g 3 (by omega)
              rw [← hY] at chx
              have z1 : ¬ 9223372036854775807 < T.size + 2 := by omega
              have z2 : ¬ 9223372036854775807 < T.size + Y.size := by omega
              have z3 : ¬ 9223372036854775807 < T.size + 1 := by omega
              have z4 : ¬ 9223372036854775807 < T.size + 1 + Y.size := by omega
              have q1 : ((k : Int) == 8) = false := by rw [beq_eq_false_iff_ne]; omega
              have q2 : decide ((8 : Int) ≤ (k : Int)) = false := decide_eq_false (by omega)
              have q5 : ((k : Int) != 8) = true := by rw [bne_iff_ne]; omega
              have q45 : (¬ 0 < k ∧ strB (uptoP ls 8 0 (k + 1)) = T ++ Y) ∨ (0 < k ∧ strB (uptoP ls 8 0 (k + 1)) = T ++ (⟨#[58]⟩ : ByteArray) ++ Y) := by
                by_cases h0 : 0 < k
                · refine Or.inr ⟨h0, ?_⟩
                  rw [u1 hlt, if_pos h0, ← strB_append, ← strB_append, HTT.out, hY]
                  rfl
                · refine Or.inl ⟨h0, ?_⟩
                  rw [u1 hlt, if_neg h0, ← strB_append, HTT.out, hY]
              clear u1 u2 u3 u4 u5 hg hY hgr
              rcases q45 with ⟨q4, hN⟩ | ⟨q4, hN⟩
              all_goals
                have HN := Lib.hid hN
                clear hN
                go_wp2_with (with_reducible refine stop (N := 89) rfl ?_)
                refine Stop.go ?_
                refine wp_loadA rfl _ _ rfl rfl HA4.out Tryz.underlying76 size_addr HL.out ?_
                go_wp2_with (go_at_call 129; refine stopc ?_)
                refine Stop.go ?_
                refine (cgk _).mono ?_
                rintro e5 w5 ⟨rfl, hs5⟩
                have HT5 := Lib.hid (HT3.out.trans hs5)
                clear hs5
                go_wp2_with (go_at_call 130; refine stopc ?_)
                refine Stop.go ?_
                refine (chx _).mono ?_
                rintro e6 w6 ⟨rfl, rfl⟩
                go_wp2
                go_roundg gk'
                case measure => omega
                case rel => exact ⟨k + 1, by omega, by go_num, by rw [HN.out], HT5.out⟩
            · obtain rfl : k = 8 := by omega
              have hkk : decide (((8 : Nat) : Int) < 8) = false := by decide
              go_wp2
              rw [HR.out, HEND.out, ← HTT.out]
              exact ⟨rfl, HS2.out.trans HT3.out⟩
        · have d2 : decide ((m : Int) < 2) = false := decide_eq_false (by omega)
          go_wp2
          go_loopg [7, 8] 8 (fun gf sv i wx => ∃ (k : Nat), k + gf = 8 ∧ i = .int .i64 k ∧ sv = .string (strB (uptoP ls F m k)) ∧ Stp (fun _ => False) w2 wx)
          case atStart => exact ⟨0, rfl, rfl, by unfold uptoP; rw [if_pos (Nat.zero_le _)]; rfl, HT.out⟩
          case round =>
            obtain ⟨k, hk, rfl, rfl, hst⟩ := hrel
            have HT3 := Lib.hid hst
            have HA4 := Lib.hid (HA2.out.step hst id)
            clear hst
            have hFm := HRNG.out
            have hlp := uptoP_len ls HB3.out HB2.out F m k
            obtain ⟨T, hT⟩ : ∃ T, T = strB (uptoP ls F m k) := ⟨_, rfl⟩
            have hTs : T.size ≤ 100 := by rw [hT, strB_size]; exact hlp
            rw [← hT]
            have HTT := Lib.hid hT
            clear hT hlp
            have i1 : IntKind.i64.wrap ((k : Int) + 1) = (k : Int) + 1 := IntWalk.i64_in _ (by omega)
            obtain ⟨fm, hfm⟩ : ∃ fm, fm = F + m := ⟨_, rfl⟩
            have i2 : IntKind.i64.wrap (((F : Nat) : Int) + ((m : Nat) : Int)) = (fm : Int) := by rw [IntWalk.i64_in _ (by omega)]; omega
            by_cases hlt : k < 8
            · obtain ⟨gk', rfl⟩ : ∃ gk', gk = gk' + 1 := ⟨gk - 1, by omega⟩
              have hkk : decide ((k : Int) < 8) = true := decide_eq_true (by omega)
              have hkl : k < ls.length := by have := HB2.out; omega
              obtain ⟨u1, u2, u3, u4, u5⟩ := uptoP_step ls F m k hkl (by have := HB2.out; omega) (by have := HB2.out; omega)
              obtain ⟨g, hg⟩ : ∃ g, g = ls[k] := ⟨_, rfl⟩
              have hgr : g < 65536 := HB3.out g (by rw [hg]; exact List.getElem_mem _)
              have cgk := fun W => CG.out k g hlt (by rw [hg]; exact List.getElem?_eq_getElem hkl) W
              have chx := fun W => hexRT_any g W hgr
              rw [← hg] at u1 u4 u5
              obtain ⟨Y, hY⟩ : ∃ Y, Y = strB (hxT g) := ⟨_, rfl⟩
              have hYs : Y.size ≤ 4 := by rw [hY, strB_size]; exact hxT_len g 3 (by omega)
              rw [← hY] at chx
              have z1 : ¬ 9223372036854775807 < T.size + 2 := by omega
              have z2 : ¬ 9223372036854775807 < T.size + Y.size := by omega
              have z3 : ¬ 9223372036854775807 < T.size + 1 := by omega
              have z4 : ¬ 9223372036854775807 < T.size + 1 + Y.size := by omega
              by_cases hc1 : k = F
              · have HN : Hid (strB (uptoP ls F m (k + 1)) = T ++ (⟨#[58, 58]⟩ : ByteArray)) := Lib.hid (by rw [u2 hc1, ← strB_append, HTT.out]; rfl)
                have q1 : ((k : Int) == ((F : Nat) : Int)) = true := by rw [beq_iff_eq]; omega
                have q2 : F ≤ k := by omega
                have q3 : k < fm := by omega
                clear u1 u2 u3 u4 u5 hg hY hgr cgk chx hYs hfm hc1
                go_wp2
                go_roundg gk'
                case measure => omega
                case rel => exact ⟨k + 1, by omega, by go_num, by rw [HN.out], HT3.out⟩
              · have q1 : ((k : Int) == ((F : Nat) : Int)) = false := by rw [beq_eq_false_iff_ne]; omega
                by_cases hc2 : F < k ∧ k < F + m
                · have HN : Hid (strB (uptoP ls F m (k + 1)) = T) := Lib.hid (by rw [u3 hc2.1 hc2.2, HTT.out])
                  have q2 : F ≤ k := by omega
                  have q3 : k < fm := by omega
                  clear u1 u2 u3 u4 u5 hg hY hgr cgk chx hYs hfm
                  go_wp2
                  go_roundg gk'
                  case measure => omega
                  case rel => exact ⟨k + 1, by omega, by go_num, by rw [HN.out], HT3.out⟩
                · have q23 : (¬ F ≤ k) ∨ (F ≤ k ∧ ¬ k < fm) := by omega
                  have q45 : (¬ 0 < k ∧ strB (uptoP ls F m (k + 1)) = T ++ Y) ∨ (0 < k ∧ ((k : Int) != (fm : Int)) = false ∧ strB (uptoP ls F m (k + 1)) = T ++ Y) ∨
                      (0 < k ∧ ((k : Int) != (fm : Int)) = true ∧ strB (uptoP ls F m (k + 1)) = T ++ (⟨#[58]⟩ : ByteArray) ++ Y) := by
                    by_cases h0 : 0 < k
                    · by_cases h5 : k = F + m
                      · refine Or.inr (Or.inl ⟨h0, by rw [bne_eq_false_iff_eq]; omega, ?_⟩)
                        rw [u4 (by omega) h5, ← strB_append, HTT.out, hY]
                      · refine Or.inr (Or.inr ⟨h0, by rw [bne_iff_ne]; omega, ?_⟩)
                        by_cases h6 : k < F
                        · rw [u1 h6, if_pos h0, ← strB_append, ← strB_append, HTT.out, hY]
                          rfl
                        · rw [u5 (by omega), ← strB_append, ← strB_append, HTT.out, hY]
                          rfl
                    · refine Or.inl ⟨h0, ?_⟩
                      rw [u1 (by omega), if_neg h0, ← strB_append, HTT.out, hY]
                  clear u1 u2 u3 u4 u5 hg hY hgr hfm
                  rcases q23 with q2 | ⟨q2, q3⟩
                  all_goals
                    rcases q45 with ⟨q4, hN⟩ | ⟨q4, q5, hN⟩ | ⟨q4, q5, hN⟩
                    all_goals
                      have HN := Lib.hid hN
                      clear hN
                      go_wp2_with (with_reducible refine stop (N := 89) rfl ?_)
                      refine Stop.go ?_
                      refine wp_loadA rfl _ _ rfl rfl HA4.out Tryz.underlying76 size_addr HL.out ?_
                      go_wp2_with (go_at_call 129; refine stopc ?_)
                      refine Stop.go ?_
                      refine (cgk _).mono ?_
                      rintro e5 w5 ⟨rfl, hs5⟩
                      have HT5 := Lib.hid (HT3.out.trans hs5)
                      clear hs5
                      go_wp2_with (go_at_call 130; refine stopc ?_)
                      refine Stop.go ?_
                      refine (chx _).mono ?_
                      rintro e6 w6 ⟨rfl, rfl⟩
                      go_wp2
                      go_roundg gk'
                      case measure => omega
                      case rel => exact ⟨k + 1, by omega, by go_num, by rw [HN.out], HT5.out⟩
            · obtain rfl : k = 8 := by omega
              have hkk : decide (((8 : Nat) : Int) < 8) = false := by decide
              go_wp2
              rw [HR.out, HEND.out, ← HTT.out]
              exact ⟨rfl, HS2.out.trans HT3.out⟩
end Go.Proofs.YtligofmhbbgalaaGreatDoor.L
