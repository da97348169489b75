/- Layer 11: a request's line is parsed: the walk. -/
import Derived.Test.YtgjmaifgkgejgaaGreatDoorRt
set_option linter.unusedVariables false
set_option linter.unusedSimpArgs false
namespace Go.Proofs.YtgjmaifgkgejgaaGreatDoor.L
open Go.RowKit Go.Proofs

/-- A request, and what is wrong: as they are handed back. -/
def ReqV (r : Rq) : Value := .agg #[.string (strB r.m), .string (strB r.t), .int .i64 r.n]
def ReqE (r : Rq × Int) : Value := .tuple #[ReqV r.1, .int .i64 r.2]

set_option maxRecDepth 100000 in
set_option maxHeartbeats 8000000 in
theorem qparse_any (s : ByteArray) (w : World) (hs : s.size < 4294967281) (hm : MaxL w) :
    Calls Tryz.prog 53 #[.string s] w fun e w' => e = .returned (ReqE (parseRq s.data.toList)) ∧ Stp (fun _ => False) w w' := by
  obtain ⟨X, hX, cs⟩ := split_call s hs
  obtain ⟨r, hr⟩ : ∃ r, r = parseRq s.data.toList := ⟨_, rfl⟩
  rw [← hr]
  have HM := Lib.hid hm
  have hle : ∀ x ∈ X, x.size ≤ s.size := fun x hx => by
    have := split_le s.data.toList x.data.toList (by rw [← hX]; exact List.mem_map_of_mem hx)
    rw [size_list, size_list] at this
    exact this
  clear hm
  unfold parseRq at hr
  rw [← hX] at hr
  clear hX
  by_cases h3 : X.length = 3
  · obtain ⟨a, b, c, rfl⟩ : ∃ a b c, X = [a, b, c] := by
      match X, h3 with
      | [a, b, c], _ => exact ⟨a, b, c, rfl⟩
    simp only [List.map_cons, List.map_nil] at hr
    have la : a.size ≤ s.size := hle a (by simp)
    have lb : b.size ≤ s.size := hle b (by simp)
    have cw := fun W => wrong_any a b W (by omega) (by omega)
    unfold threeS at hr
    obtain ⟨q, hq⟩ : ∃ q, q = wrongS a.data.toList b.data.toList := ⟨_, rfl⟩
    rw [← hq] at cw hr
    clear hle h3 hq
    by_cases hq0 : q = 0
    · subst hq0
      rw [if_neg (by decide)] at hr
      have q1 := list_eqb c olderL
      have q2 := list_eqb c newerL
      have ci := fun (W : World) (g : Nat) (k0 : W.cell? ⟨g, 0, none⟩ = some (.string ⟨#[72, 84, 84, 80, 47, 49, 46, 48]⟩)) (k1 : W.cell? ⟨g, 1, none⟩ = some (.string ⟨#[72, 84, 84, 80, 47, 49, 46, 49]⟩)) => sidx_any g _ _ c W k0 k1
      have e1 : (⟨#[72, 84, 84, 80, 47, 49, 46, 48]⟩ : ByteArray).toList = olderL := by rw [Lib.toList_data]; rfl
      have e2 : (⟨#[72, 84, 84, 80, 47, 49, 46, 49]⟩ : ByteArray).toList = newerL := by rw [Lib.toList_data]; rfl
      rw [e1, e2, q1, q2] at ci
      clear e1 e2 q1 q2
      obtain ⟨j, hj⟩ : ∃ j : Int, j = if decide (c.data.toList = olderL) = true then 0 else if decide (c.data.toList = newerL) = true then 1 else -1 := ⟨_, rfl⟩
      rw [← hj] at ci
      have key : (j = -1 ∧ r = (Rq.none, 5)) ∨ (¬ j < 0 ∧ r = (⟨a.data.toList, b.data.toList, j⟩, 0)) := by
        by_cases h1 : c.data.toList = olderL
        · rw [if_pos (by simpa using h1)] at hj
          rw [if_pos h1] at hr
          exact .inr ⟨by omega, by rw [hr, hj]⟩
        · rw [if_neg (by simpa using h1)] at hj
          rw [if_neg h1] at hr
          by_cases h2 : c.data.toList = newerL
          · rw [if_pos (by simpa using h2)] at hj
            rw [if_pos h2] at hr
            exact .inr ⟨by omega, by rw [hr, hj]⟩
          · rw [if_neg (by simpa using h2)] at hj
            rw [if_neg h2] at hr
            exact .inl ⟨hj, hr⟩
      have KEY := Lib.hid key
      clear hj hr key
      go_enter Tryz.func53, Tryz.ntmps53
      go_wp2_with (go_at_call 39; refine stopc ?_)
      refine Stop.go ?_
      refine (cs _ (HM.out.step ((Stp.refl _ _).alloc _))).mono ?_
      rintro e w1 ⟨rfl, hs1, hbk⟩
      have hsz : (w.alloc (.cells #[.string ⟨#[]⟩, .string ⟨#[]⟩, .int .i64 0] 40)).heap.size = w.heap.size + 1 := by simp
      rw [hsz] at hbk
      have HS1 := Lib.hid hs1
      have HB1 := Lib.hid (hs1.blk (heap_alloc_new w (.cells #[.string ⟨#[]⟩, .string ⟨#[]⟩, .int .i64 0] 40)) id)
      have HBK := Lib.hid hbk
      have HT := Lib.hid ((Stp.refl (fun _ => False) w1).drew)
      clear hs1 hbk hsz
      go_wp2_with fail
      refine wp_region_held_drew (S := (fun w' => w'.cell? ⟨w.heap.size + 1, 0, none⟩ = some (.string a) ∧ w'.cell? ⟨w.heap.size + 1, 1, none⟩ = some (.string b))) (by kernel_rfl) (⟨blk_cell (j := 0) (HT.out.blk HBK.out id), blk_cell (j := 1) (HT.out.blk HBK.out id)⟩) (fun hHeld => ?_)
      try (change wpAnyH _ _ _ _ _ _ _ _ (World.drew _))
      refine rg_take (i := 0) (o := { dst := some 13, op := Op.move (Operand.tmp 4), type := 26, pos := "reqline.go:42", after := #[], guard := none }) (v := ?rgv1) rfl (by kernel_rfl) (by kernel_rfl) (by kernel_rfl) (fun _ _ _ h => h) (by rfl) (fun w hSw => ?rgy1) hHeld ?_
      case rgy1 => (try dsimp only at hSw); first | (go_simp; done) | (go_simp; with_reducible rfl)
      try simp only [Act.put, List.setIfInBounds_toArray, List.set_cons_zero, List.set_cons_succ]
      refine rg_take (i := 1) (o := { dst := some 14, op := Op.indexAddr 26 (Operand.tmp 13) (Operand.const (Value.int IntKind.i64 0)), type := 0, pos := "reqline.go:42", after := #[{ on := 0, ground := Ground.data }], guard := none }) (v := ?rgv2) rfl (by kernel_rfl) (by kernel_rfl) (by kernel_rfl) (fun _ _ _ h => h) (by rfl) (fun w hSw => ?rgy2) hHeld ?_
      case rgy2 => (try dsimp only at hSw); first | (go_simp; done) | (go_simp; with_reducible rfl)
      try simp only [Act.put, List.setIfInBounds_toArray, List.set_cons_zero, List.set_cons_succ]
      refine rg_take (i := 2) (o := { dst := some 15, op := Op.load 9 (Operand.tmp 14), type := 9, pos := "reqline.go:42", after := #[{ on := 1, ground := Ground.data }], guard := none }) (v := ?rgv3) rfl (by kernel_rfl) (by kernel_rfl) (by kernel_rfl) (fun _ _ _ h => h) (by rfl) (fun w hSw => ?rgy3) hHeld ?_
      case rgy3 => (try dsimp only at hSw); first | (go_simp; done) | (go_simp; with_reducible rfl)
      try simp only [Act.put, List.setIfInBounds_toArray, List.set_cons_zero, List.set_cons_succ]
      refine rg_take (i := 3) (o := { dst := some 16, op := Op.move (Operand.tmp 4), type := 26, pos := "reqline.go:42", after := #[], guard := none }) (v := ?rgv4) rfl (by kernel_rfl) (by kernel_rfl) (by kernel_rfl) (fun _ _ _ h => h) (by rfl) (fun w hSw => ?rgy4) hHeld ?_
      case rgy4 => (try dsimp only at hSw); first | (go_simp; done) | (go_simp; with_reducible rfl)
      try simp only [Act.put, List.setIfInBounds_toArray, List.set_cons_zero, List.set_cons_succ]
      refine rg_take (i := 4) (o := { dst := some 17, op := Op.indexAddr 26 (Operand.tmp 16) (Operand.const (Value.int IntKind.i64 1)), type := 0, pos := "reqline.go:42", after := #[{ on := 3, ground := Ground.data }], guard := none }) (v := ?rgv5) rfl (by kernel_rfl) (by kernel_rfl) (by kernel_rfl) (fun _ _ _ h => h) (by rfl) (fun w hSw => ?rgy5) hHeld ?_
      case rgy5 => (try dsimp only at hSw); first | (go_simp; done) | (go_simp; with_reducible rfl)
      try simp only [Act.put, List.setIfInBounds_toArray, List.set_cons_zero, List.set_cons_succ]
      refine rg_take (i := 5) (o := { dst := some 18, op := Op.load 9 (Operand.tmp 17), type := 9, pos := "reqline.go:42", after := #[{ on := 4, ground := Ground.data }], guard := none }) (v := ?rgv6) rfl (by kernel_rfl) (by kernel_rfl) (by kernel_rfl) (fun _ _ _ h => h) (by rfl) (fun w hSw => ?rgy6) hHeld ?_
      case rgy6 => (try dsimp only at hSw); first | (go_simp; done) | (go_simp; with_reducible rfl)
      try simp only [Act.put, List.setIfInBounds_toArray, List.set_cons_zero, List.set_cons_succ]
      refine wpAnyH_ready (rs := [6]) (by kernel_rfl) (by simp) ?_
      refine (AllReadyH.cons (o := { dst := some 19, op := Op.call { callee := Callee.value (Operand.func 25), args := #[Operand.tmp 15, Operand.tmp 18], argTypes := #[9, 9] }, type := 25, pos := "reqline.go:42", after := #[{ on := 2, ground := Ground.data }, { on := 5, ground := Ground.data }], guard := none }) rfl (fun K hK => ?_) AllReadyH.nil)
      go_simp
      refine (cw _).mono ?_
      rintro e w3 ⟨rfl, hs3⟩
      have HT3 := Lib.hid (HT.out.trans hs3)
      clear hs3
      show K _ _
      clear hHeld
      refine hK.out _ _ (⟨blk_cell (j := 0) (HT3.out.blk HBK.out id), blk_cell (j := 1) (HT3.out.blk HBK.out id)⟩) (fun hHeld => ?_)
      clear hK K
      try simp only [Act.put, List.setIfInBounds_toArray, List.set_cons_zero, List.set_cons_succ]
      refine rg_take (i := 7) (o := { dst := some 5, op := Op.assign (Operand.tmp 19), type := 25, pos := "reqline.go:42", after := #[{ on := 6, ground := Ground.data }, { on := 6, ground := Ground.chain }, { on := 0, ground := Ground.phase }, { on := 1, ground := Ground.phase }, { on := 2, ground := Ground.phase }, { on := 3, ground := Ground.phase }, { on := 4, ground := Ground.phase }, { on := 5, ground := Ground.phase }, { on := 6, ground := Ground.phase }], guard := none }) (v := ?rgv7) rfl (by kernel_rfl) (by kernel_rfl) (by kernel_rfl) (fun _ _ _ h => h) (by rfl) (fun w hSw => ?rgy7) hHeld ?_
      case rgy7 => (try dsimp only at hSw); first | (go_simp; done) | (go_simp; with_reducible rfl)
      try simp only [Act.put, List.setIfInBounds_toArray, List.set_cons_zero, List.set_cons_succ]
      clear hHeld
      refine wpAnyH_done (by kernel_rfl) ?_ _
      skip
      have c2 : w3.cell? ⟨w.heap.size + 1, 2, none⟩ = some (.string c) := blk_cell (j := 2) (HT3.out.blk HBK.out id)
      have lt2 : w.heap.size + 1 < w3.heap.size := blk_lt (HT3.out.blk HBK.out id)
      go_wp2_with (go_at_call 96; refine stopc ?_)
      refine Stop.go ?_
      refine (ci _ _ (blk_cell (j := 0) (heap_alloc_new _ _)) (blk_cell (j := 1) (heap_alloc_new _ _))).mono ?_
      rintro e w4 ⟨rfl, hw4⟩
      have hs4 : Stp (fun _ => False) w3 w4 := by rw [hw4]; exact (Stp.refl _ _).alloc _
      have HT4 := Lib.hid (HT3.out.trans hs4)
      clear hw4 hs4 c2 lt2
      rcases KEY.out with ⟨rfl, rfl⟩ | ⟨hjn, rfl⟩
      · have hb2 := HT4.out.blk HB1.out id
        have hf0 := blk_free hb2 0
        have hf1 := blk_free hb2 1
        have hf2 := blk_free hb2 2
        have hc0 := blk_cell (j := 0) hb2
        have hc1 := blk_cell (j := 1) hb2
        have hc2 := blk_cell (j := 2) hb2
        have HB2 := Lib.hid hb2
        clear hb2
        go_wp2
        try simp only [Exit.inBlock, Exit.then]
        refine bodyPost_ret (results_row_tmp rfl _ _ w.heap.size _ _ _ _ rfl (blk_set (blk_set (blk_set HB2.out 0 _) 1 _) 2 _) Tryz.underlying40 rfl (by kernel_rfl)) rfl ⟨by rfl, ?_⟩
        exact ((Stp.refl (fun _ => False) w).alloc _).new (((((HS1.out.trans HT4.out).to (S := fun k => k = w.heap.size)).setg 0 _).setg 1 _).setg 2 _) (Nat.le_refl _)
      · have HC4 := Lib.hid (And.intro (blk_cell (j := 0) (HT4.out.blk HBK.out id)) (blk_cell (j := 1) (HT4.out.blk HBK.out id)))
        have HT5 := Lib.hid (HT4.out.trans (Stp.refl _ w4).drew)
        have HJ := Lib.hid (sB_self a)
        have HJ2 := Lib.hid (sB_self b)
        have hjd : decide (j < 0) = false := decide_eq_false (by omega)
        clear ci
        go_wp2_with fail
        refine wp_region_held_drew (S := (fun w' => w'.cell? ⟨w.heap.size + 1, 0, none⟩ = some (.string a) ∧ w'.cell? ⟨w.heap.size + 1, 1, none⟩ = some (.string b))) (by kernel_rfl) (⟨blk_cell (j := 0) (HT5.out.blk HBK.out id), blk_cell (j := 1) (HT5.out.blk HBK.out id)⟩) (fun hHeld => ?_)
        try (change wpAnyH _ _ _ _ _ _ _ _ (World.drew _))
        generalize w4.drew = W5 at HT5 hHeld ⊢
        refine rg_take (i := 0) (o := { dst := some 32, op := Op.move (Operand.tmp 4), type := 26, pos := "reqline.go:49", after := #[], guard := none }) (v := ?rgv8) rfl (by kernel_rfl) (by kernel_rfl) (by kernel_rfl) (fun _ _ _ h => h) (by rfl) (fun w hSw => ?rgy8) hHeld ?_
        case rgy8 => (try dsimp only at hSw); first | (go_simp; done) | (go_simp; with_reducible rfl)
        try simp only [Act.put, List.setIfInBounds_toArray, List.set_cons_zero, List.set_cons_succ]
        refine rg_take (i := 1) (o := { dst := some 33, op := Op.indexAddr 26 (Operand.tmp 32) (Operand.const (Value.int IntKind.i64 0)), type := 0, pos := "reqline.go:49", after := #[{ on := 0, ground := Ground.data }], guard := none }) (v := ?rgv9) rfl (by kernel_rfl) (by kernel_rfl) (by kernel_rfl) (fun _ _ _ h => h) (by rfl) (fun w hSw => ?rgy9) hHeld ?_
        case rgy9 => (try dsimp only at hSw); first | (go_simp; done) | (go_simp; with_reducible rfl)
        try simp only [Act.put, List.setIfInBounds_toArray, List.set_cons_zero, List.set_cons_succ]
        refine rg_take (i := 2) (o := { dst := some 34, op := Op.load 9 (Operand.tmp 33), type := 9, pos := "reqline.go:49", after := #[{ on := 1, ground := Ground.data }], guard := none }) (v := ?rgv10) rfl (by kernel_rfl) (by kernel_rfl) (by kernel_rfl) (fun _ _ _ h => h) (by rfl) (fun w hSw => ?rgy10) hHeld ?_
        case rgy10 => (try dsimp only at hSw); first | (go_simp; done) | (go_simp; with_reducible rfl)
        try simp only [Act.put, List.setIfInBounds_toArray, List.set_cons_zero, List.set_cons_succ]
        refine rg_take (i := 3) (o := { dst := some 35, op := Op.move (Operand.tmp 4), type := 26, pos := "reqline.go:49", after := #[], guard := none }) (v := ?rgv11) rfl (by kernel_rfl) (by kernel_rfl) (by kernel_rfl) (fun _ _ _ h => h) (by rfl) (fun w hSw => ?rgy11) hHeld ?_
        case rgy11 => (try dsimp only at hSw); first | (go_simp; done) | (go_simp; with_reducible rfl)
        try simp only [Act.put, List.setIfInBounds_toArray, List.set_cons_zero, List.set_cons_succ]
        refine rg_take (i := 4) (o := { dst := some 36, op := Op.indexAddr 26 (Operand.tmp 35) (Operand.const (Value.int IntKind.i64 1)), type := 0, pos := "reqline.go:49", after := #[{ on := 3, ground := Ground.data }], guard := none }) (v := ?rgv12) rfl (by kernel_rfl) (by kernel_rfl) (by kernel_rfl) (fun _ _ _ h => h) (by rfl) (fun w hSw => ?rgy12) hHeld ?_
        case rgy12 => (try dsimp only at hSw); first | (go_simp; done) | (go_simp; with_reducible rfl)
        try simp only [Act.put, List.setIfInBounds_toArray, List.set_cons_zero, List.set_cons_succ]
        refine rg_take (i := 5) (o := { dst := some 37, op := Op.load 9 (Operand.tmp 36), type := 9, pos := "reqline.go:49", after := #[{ on := 4, ground := Ground.data }], guard := none }) (v := ?rgv13) rfl (by kernel_rfl) (by kernel_rfl) (by kernel_rfl) (fun _ _ _ h => h) (by rfl) (fun w hSw => ?rgy13) hHeld ?_
        case rgy13 => (try dsimp only at hSw); first | (go_simp; done) | (go_simp; with_reducible rfl)
        try simp only [Act.put, List.setIfInBounds_toArray, List.set_cons_zero, List.set_cons_succ]
        refine rg_take (i := 6) (o := { dst := some 38, op := Op.move (Operand.tmp 6), type := 3, pos := "reqline.go:49", after := #[], guard := none }) (v := ?rgv14) rfl (by kernel_rfl) (by kernel_rfl) (by kernel_rfl) (fun _ _ _ h => h) (by rfl) (fun w hSw => ?rgy14) hHeld ?_
        case rgy14 => (try dsimp only at hSw); first | (go_simp; done) | (go_simp; with_reducible rfl)
        try simp only [Act.put, List.setIfInBounds_toArray, List.set_cons_zero, List.set_cons_succ]
        refine rg_take (i := 7) (o := { dst := some 39, op := Op.build 40 #[(0, Operand.tmp 34), (1, Operand.tmp 37), (2, Operand.tmp 38)], type := 40, pos := "reqline.go:49", after := #[{ on := 2, ground := Ground.data }, { on := 5, ground := Ground.data }, { on := 6, ground := Ground.data }], guard := none }) (v := ?rgv15) rfl (by kernel_rfl) (by kernel_rfl) (by kernel_rfl) (fun _ _ _ h => h) (by rfl) (fun w hSw => ?rgy15) hHeld ?_
        case rgy15 => (try dsimp only at hSw); first | (go_simp; done) | (go_simp; with_reducible rfl)
        try simp only [Act.put, List.setIfInBounds_toArray, List.set_cons_zero, List.set_cons_succ]
        refine wpAnyH_ready (rs := [8]) (by kernel_rfl) (by simp) ?_
        refine (AllReadyH.cons (o := { dst := none, op := Op.store 40 (Operand.tmp 2) (Operand.tmp 39), type := 0, pos := "reqline.go:49", after := #[{ on := 7, ground := Ground.data }, { on := 0, ground := Ground.phase }, { on := 1, ground := Ground.phase }, { on := 2, ground := Ground.phase }, { on := 3, ground := Ground.phase }, { on := 4, ground := Ground.phase }, { on := 5, ground := Ground.phase }, { on := 6, ground := Ground.phase }, { on := 7, ground := Ground.phase }], guard := none }) rfl (fun K hK => ?_) AllReadyH.nil)
        have hb2 := HT5.out.blk HB1.out id
        have hc0 := blk_cell (j := 0) hb2
        have hc1 := blk_cell (j := 1) hb2
        have hc2 := blk_cell (j := 2) hb2
        have hf0 := blk_free hb2 0
        have hf1 := blk_free hb2 1
        have hf2 := blk_free hb2 2
        have HB2 := Lib.hid hb2
        clear hb2
        go_simp
        clear hHeld
        refine hK.out _ _ (by have X := (((HT5.out.to (S := fun k => k = w.heap.size)).setg 0 (.string a)).setg 1 (.string b)).setg 2 (.int .i64 j); exact ⟨blk_cell (j := 0) (X.blk HBK.out (by omega)), blk_cell (j := 1) (X.blk HBK.out (by omega))⟩) (fun hHeld => ?_)
        clear hK K
        try simp only [Act.put, List.setIfInBounds_toArray, List.set_cons_zero, List.set_cons_succ]
        refine rg_take (i := 9) (o := { dst := some 3, op := Op.assign (Operand.const (Value.int IntKind.i64 0)), type := 25, pos := "reqline.go:49", after := #[{ on := 8, ground := Ground.chain }, { on := 0, ground := Ground.phase }, { on := 1, ground := Ground.phase }, { on := 2, ground := Ground.phase }, { on := 3, ground := Ground.phase }, { on := 4, ground := Ground.phase }, { on := 5, ground := Ground.phase }, { on := 6, ground := Ground.phase }, { on := 7, ground := Ground.phase }, { on := 8, ground := Ground.phase }], guard := none }) (v := ?rgv16) rfl (by kernel_rfl) (by kernel_rfl) (by kernel_rfl) (fun _ _ _ h => h) (by rfl) (fun w hSw => ?rgy16) hHeld ?_
        case rgy16 => (try dsimp only at hSw); first | (go_simp; done) | (go_simp; with_reducible rfl)
        try simp only [Act.put, List.setIfInBounds_toArray, List.set_cons_zero, List.set_cons_succ]
        clear hHeld
        refine wpAnyH_done (by kernel_rfl) ?_ _
        go_wp2
        try simp only [Exit.inBlock, Exit.then]
        refine bodyPost_ret (results_row_tmp rfl _ _ w.heap.size _ _ _ _ rfl (blk_set (blk_set (blk_set HB2.out 0 _) 1 _) 2 _) Tryz.underlying40 rfl (by kernel_rfl)) rfl ⟨?_, ?_⟩
        · show _ = Ending.returned (.tuple #[.agg #[.string (strB a.data.toList), .string (strB b.data.toList), .int .i64 j], .int .i64 0])
          rw [HJ.out, HJ2.out]
          rfl
        · exact ((Stp.refl (fun _ => False) w).alloc _).new (((((HS1.out.trans HT5.out).to (S := fun k => k = w.heap.size)).setg 0 _).setg 1 _).setg 2 _) (Nat.le_refl _)
    · have hq1 : (q != 0) = true := by simpa using hq0
      rw [if_pos hq0] at hr
      subst hr
      clear hq0
      go_enter Tryz.func53, Tryz.ntmps53
      go_wp2_with (go_at_call 39; refine stopc ?_)
      refine Stop.go ?_
      refine (cs _ (HM.out.step ((Stp.refl _ _).alloc _))).mono ?_
      rintro e w1 ⟨rfl, hs1, hbk⟩
      have hsz : (w.alloc (.cells #[.string ⟨#[]⟩, .string ⟨#[]⟩, .int .i64 0] 40)).heap.size = w.heap.size + 1 := by simp
      rw [hsz] at hbk
      have HS1 := Lib.hid hs1
      have HB1 := Lib.hid (hs1.blk (heap_alloc_new w (.cells #[.string ⟨#[]⟩, .string ⟨#[]⟩, .int .i64 0] 40)) id)
      have HBK := Lib.hid hbk
      have HT := Lib.hid ((Stp.refl (fun _ => False) w1).drew)
      clear hs1 hbk hsz
      go_wp2_with fail
      refine wp_region_held_drew (S := (fun w' => w'.cell? ⟨w.heap.size + 1, 0, none⟩ = some (.string a) ∧ w'.cell? ⟨w.heap.size + 1, 1, none⟩ = some (.string b))) (by kernel_rfl) (⟨blk_cell (j := 0) (HT.out.blk HBK.out id), blk_cell (j := 1) (HT.out.blk HBK.out id)⟩) (fun hHeld => ?_)
      try (change wpAnyH _ _ _ _ _ _ _ _ (World.drew _))
      refine rg_take (i := 0) (o := { dst := some 13, op := Op.move (Operand.tmp 4), type := 26, pos := "reqline.go:42", after := #[], guard := none }) (v := ?rgv17) rfl (by kernel_rfl) (by kernel_rfl) (by kernel_rfl) (fun _ _ _ h => h) (by rfl) (fun w hSw => ?rgy17) hHeld ?_
      case rgy17 => (try dsimp only at hSw); first | (go_simp; done) | (go_simp; with_reducible rfl)
      try simp only [Act.put, List.setIfInBounds_toArray, List.set_cons_zero, List.set_cons_succ]
      refine rg_take (i := 1) (o := { dst := some 14, op := Op.indexAddr 26 (Operand.tmp 13) (Operand.const (Value.int IntKind.i64 0)), type := 0, pos := "reqline.go:42", after := #[{ on := 0, ground := Ground.data }], guard := none }) (v := ?rgv18) rfl (by kernel_rfl) (by kernel_rfl) (by kernel_rfl) (fun _ _ _ h => h) (by rfl) (fun w hSw => ?rgy18) hHeld ?_
      case rgy18 => (try dsimp only at hSw); first | (go_simp; done) | (go_simp; with_reducible rfl)
      try simp only [Act.put, List.setIfInBounds_toArray, List.set_cons_zero, List.set_cons_succ]
      refine rg_take (i := 2) (o := { dst := some 15, op := Op.load 9 (Operand.tmp 14), type := 9, pos := "reqline.go:42", after := #[{ on := 1, ground := Ground.data }], guard := none }) (v := ?rgv19) rfl (by kernel_rfl) (by kernel_rfl) (by kernel_rfl) (fun _ _ _ h => h) (by rfl) (fun w hSw => ?rgy19) hHeld ?_
      case rgy19 => (try dsimp only at hSw); first | (go_simp; done) | (go_simp; with_reducible rfl)
      try simp only [Act.put, List.setIfInBounds_toArray, List.set_cons_zero, List.set_cons_succ]
      refine rg_take (i := 3) (o := { dst := some 16, op := Op.move (Operand.tmp 4), type := 26, pos := "reqline.go:42", after := #[], guard := none }) (v := ?rgv20) rfl (by kernel_rfl) (by kernel_rfl) (by kernel_rfl) (fun _ _ _ h => h) (by rfl) (fun w hSw => ?rgy20) hHeld ?_
      case rgy20 => (try dsimp only at hSw); first | (go_simp; done) | (go_simp; with_reducible rfl)
      try simp only [Act.put, List.setIfInBounds_toArray, List.set_cons_zero, List.set_cons_succ]
      refine rg_take (i := 4) (o := { dst := some 17, op := Op.indexAddr 26 (Operand.tmp 16) (Operand.const (Value.int IntKind.i64 1)), type := 0, pos := "reqline.go:42", after := #[{ on := 3, ground := Ground.data }], guard := none }) (v := ?rgv21) rfl (by kernel_rfl) (by kernel_rfl) (by kernel_rfl) (fun _ _ _ h => h) (by rfl) (fun w hSw => ?rgy21) hHeld ?_
      case rgy21 => (try dsimp only at hSw); first | (go_simp; done) | (go_simp; with_reducible rfl)
      try simp only [Act.put, List.setIfInBounds_toArray, List.set_cons_zero, List.set_cons_succ]
      refine rg_take (i := 5) (o := { dst := some 18, op := Op.load 9 (Operand.tmp 17), type := 9, pos := "reqline.go:42", after := #[{ on := 4, ground := Ground.data }], guard := none }) (v := ?rgv22) rfl (by kernel_rfl) (by kernel_rfl) (by kernel_rfl) (fun _ _ _ h => h) (by rfl) (fun w hSw => ?rgy22) hHeld ?_
      case rgy22 => (try dsimp only at hSw); first | (go_simp; done) | (go_simp; with_reducible rfl)
      try simp only [Act.put, List.setIfInBounds_toArray, List.set_cons_zero, List.set_cons_succ]
      refine wpAnyH_ready (rs := [6]) (by kernel_rfl) (by simp) ?_
      refine (AllReadyH.cons (o := { dst := some 19, op := Op.call { callee := Callee.value (Operand.func 25), args := #[Operand.tmp 15, Operand.tmp 18], argTypes := #[9, 9] }, type := 25, pos := "reqline.go:42", after := #[{ on := 2, ground := Ground.data }, { on := 5, ground := Ground.data }], guard := none }) rfl (fun K hK => ?_) AllReadyH.nil)
      go_simp
      refine (cw _).mono ?_
      rintro e w3 ⟨rfl, hs3⟩
      have HT3 := Lib.hid (HT.out.trans hs3)
      clear hs3
      show K _ _
      clear hHeld
      refine hK.out _ _ (⟨blk_cell (j := 0) (HT3.out.blk HBK.out id), blk_cell (j := 1) (HT3.out.blk HBK.out id)⟩) (fun hHeld => ?_)
      clear hK K
      try simp only [Act.put, List.setIfInBounds_toArray, List.set_cons_zero, List.set_cons_succ]
      refine rg_take (i := 7) (o := { dst := some 5, op := Op.assign (Operand.tmp 19), type := 25, pos := "reqline.go:42", after := #[{ on := 6, ground := Ground.data }, { on := 6, ground := Ground.chain }, { on := 0, ground := Ground.phase }, { on := 1, ground := Ground.phase }, { on := 2, ground := Ground.phase }, { on := 3, ground := Ground.phase }, { on := 4, ground := Ground.phase }, { on := 5, ground := Ground.phase }, { on := 6, ground := Ground.phase }], guard := none }) (v := ?rgv23) rfl (by kernel_rfl) (by kernel_rfl) (by kernel_rfl) (fun _ _ _ h => h) (by rfl) (fun w hSw => ?rgy23) hHeld ?_
      case rgy23 => (try dsimp only at hSw); first | (go_simp; done) | (go_simp; with_reducible rfl)
      try simp only [Act.put, List.setIfInBounds_toArray, List.set_cons_zero, List.set_cons_succ]
      clear hHeld
      refine wpAnyH_done (by kernel_rfl) ?_ _
      skip
      have hb2 := HT3.out.blk HB1.out id
      have hf0 := blk_free hb2 0
      have hf1 := blk_free hb2 1
      have hf2 := blk_free hb2 2
      have hc0 := blk_cell (j := 0) hb2
      have hc1 := blk_cell (j := 1) hb2
      have hc2 := blk_cell (j := 2) hb2
      have HB2 := Lib.hid hb2
      clear hb2
      go_wp2
      try simp only [Exit.inBlock, Exit.then]
      refine bodyPost_ret (results_row_tmp rfl _ _ w.heap.size _ _ _ _ rfl (blk_set (blk_set (blk_set HB2.out 0 _) 1 _) 2 _) Tryz.underlying40 rfl (by kernel_rfl)) rfl ⟨by rfl, ?_⟩
      exact ((Stp.refl (fun _ => False) w).alloc _).new (((((HS1.out.trans HT3.out).to (S := fun k => k = w.heap.size)).setg 0 _).setg 1 _).setg 2 _) (Nat.le_refl _)
  · have h3n : ((X.length : Int) != 3) = true := by simp; omega
    have hr2 : r = (Rq.none, 3) := by
      rw [hr]
      split
      · rename_i m t v h
        have := congrArg List.length h
        rw [List.length_map] at this
        exact absurd this h3
      · rfl
    subst hr2
    clear hr h3 hle
    obtain ⟨cells, hcells⟩ : ∃ cells, (X.map Value.string).toArray = cells := ⟨_, rfl⟩
    rw [hcells] at cs
    obtain ⟨n, hn⟩ : ∃ n, X.length = n := ⟨_, rfl⟩
    rw [hn] at cs h3n
    clear hcells hn
    go_enter Tryz.func53, Tryz.ntmps53
    go_wp2_with (go_at_call 39; refine stopc ?_)
    refine Stop.go ?_
    refine (cs _ (HM.out.step ((Stp.refl _ _).alloc _))).mono ?_
    rintro e w1 ⟨rfl, hs1, hbk⟩
    have HS1 := Lib.hid hs1
    clear hs1 hbk
    have hb0 := heap_alloc_new w (.cells #[.string ⟨#[]⟩, .string ⟨#[]⟩, .int .i64 0] 40)
    have hb2 := HS1.out.blk hb0 (fun h => h)
    have hf0 := blk_free hb2 0
    have hf1 := blk_free hb2 1
    have hf2 := blk_free hb2 2
    have hc0 := blk_cell (j := 0) hb2
    have hc1 := blk_cell (j := 1) hb2
    have hc2 := blk_cell (j := 2) hb2
    have HB2 := Lib.hid hb2
    clear hb0 hb2
    go_wp2
    try simp only [Exit.inBlock, Exit.then]
    refine bodyPost_ret (results_row_tmp rfl _ _ w.heap.size _ _ _ _ rfl (blk_set (blk_set (blk_set HB2.out 0 _) 1 _) 2 _) Tryz.underlying40 rfl (by kernel_rfl)) rfl ⟨by rfl, ?_⟩
    exact ((Stp.refl (fun _ => False) w).alloc _).new ((((HS1.out.to (S := fun k => k = w.heap.size)).setg 0 _).setg 1 _).setg 2 _) (Nat.le_refl _)
end Go.Proofs.YtgjmaifgkgejgaaGreatDoor.L
