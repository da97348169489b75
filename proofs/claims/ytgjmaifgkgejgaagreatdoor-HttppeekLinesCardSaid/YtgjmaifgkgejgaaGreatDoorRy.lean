/- Layer 11: the reference's parser. -/
import Derived.Test.YtgjmaifgkgejgaaGreatDoorRx
import Derived.Test.YtgjmaifgkgejgaaGreatDoorRw
set_option linter.unusedVariables false
set_option linter.unusedSimpArgs false
namespace Go.Proofs.YtgjmaifgkgejgaaGreatDoor.L
open Go.RowKit Go.Proofs

theorem three_key (a b c : ByteArray) (r : Rq × Int) (hr : r = threeS a.data.toList b.data.toList c.data.toList) (T V : Bool) (hT : T = allS tokR a.data.toList) (hV : V = allS visR b.data.toList) :
    (T = false ∧ r = (Rq.none, 11)) ∨ (T = true ∧ decide ((32 : Int) < (a.size : Int)) = true ∧ r = (Rq.none, 11)) ∨ (T = true ∧ decide ((32 : Int) < (a.size : Int)) = false ∧ V = false ∧ r = (Rq.none, 3)) ∨
    (T = true ∧ decide ((32 : Int) < (a.size : Int)) = false ∧ V = true ∧ decide ((8000 : Int) < (b.size : Int)) = true ∧ r = (Rq.none, 6)) ∨
    (T = true ∧ decide ((32 : Int) < (a.size : Int)) = false ∧ V = true ∧ decide ((8000 : Int) < (b.size : Int)) = false ∧ (c.toList == olderL) = true ∧ r = (⟨a.data.toList, b.data.toList, 0⟩, 0)) ∨
    (T = true ∧ decide ((32 : Int) < (a.size : Int)) = false ∧ V = true ∧ decide ((8000 : Int) < (b.size : Int)) = false ∧ (c.toList == olderL) = false ∧ (c.toList == newerL) = true ∧ r = (⟨a.data.toList, b.data.toList, 1⟩, 0)) ∨
    (T = true ∧ decide ((32 : Int) < (a.size : Int)) = false ∧ V = true ∧ decide ((8000 : Int) < (b.size : Int)) = false ∧ (c.toList == olderL) = false ∧ (c.toList == newerL) = false ∧ r = (Rq.none, 5)) := by
  have d32 : decide ((32 : Int) < (a.size : Int)) = decide (32 < a.data.toList.length) := by
    rw [size_list]
    by_cases h : 32 < a.size
    · rw [decide_eq_true h, decide_eq_true (by omega)]
    · rw [decide_eq_false h, decide_eq_false (by omega)]
  have d80 : decide ((8000 : Int) < (b.size : Int)) = decide (8000 < b.data.toList.length) := by
    rw [size_list]
    by_cases h : 8000 < b.size
    · rw [decide_eq_true h, decide_eq_true (by omega)]
    · rw [decide_eq_false h, decide_eq_false (by omega)]
  rw [d32, d80, list_eqb, list_eqb]
  unfold threeS wrongS at hr
  rw [← hT, ← hV] at hr
  clear d32 d80 hT hV
  generalize a.data.toList.length = x at hr ⊢
  generalize b.data.toList.length = y at hr ⊢
  cases T
  · exact .inl ⟨rfl, by simpa using hr⟩
  · by_cases h1 : 32 < x
    · exact .inr (.inl ⟨rfl, decide_eq_true h1, by simpa [h1] using hr⟩)
    · cases V
      · exact .inr (.inr (.inl ⟨rfl, decide_eq_false h1, rfl, by simpa [h1] using hr⟩))
      · by_cases h2 : 8000 < y
        · exact .inr (.inr (.inr (.inl ⟨rfl, decide_eq_false h1, rfl, decide_eq_true h2, by simpa [h1, h2] using hr⟩)))
        · by_cases h3 : c.data.toList = olderL
          · exact .inr (.inr (.inr (.inr (.inl ⟨rfl, decide_eq_false h1, rfl, decide_eq_false h2, decide_eq_true h3, by simpa [h1, h2, h3] using hr⟩))))
          · by_cases h4 : c.data.toList = newerL
            · exact .inr (.inr (.inr (.inr (.inr (.inl ⟨rfl, decide_eq_false h1, rfl, decide_eq_false h2, decide_eq_false h3, decide_eq_true h4, by rw [hr]; simp [h1, h2, h3, h4]; decide⟩)))))
            · exact .inr (.inr (.inr (.inr (.inr (.inr ⟨rfl, decide_eq_false h1, rfl, decide_eq_false h2, decide_eq_false h3, decide_eq_false h4, by simpa [h1, h2, h3, h4] using hr⟩)))))

set_option maxRecDepth 100000 in
set_option maxHeartbeats 8000000 in
theorem qparseR_any (s : ByteArray) (w : World) (hs : s.size < 4294967281) :
    Calls Tryz.prog 20 #[.string s] w fun e w' => e = .returned (ReqE (parseRq s.data.toList)) ∧ Stp (fun _ => False) w w' := by
  have cs := fun W => cutR_any s 32 W hs
  obtain ⟨r, hr⟩ : ∃ r, r = parseRq s.data.toList := ⟨_, rfl⟩
  rw [← hr]
  have HR := Lib.hid hr
  clear hr
  go_enter Tryz.func20, Tryz.ntmps20
  go_wp2_with (go_at_call 45; refine stopc ?_)
  refine Stop.go ?_
  refine (cs _).mono ?_
  rintro e w1 ⟨v, X, rfl, hX, ho, hs1⟩
  have hsz : (w.alloc (.cells #[.string ⟨#[]⟩, .string ⟨#[]⟩, .int .i64 0] 40)).heap.size = w.heap.size + 1 := by simp
  rw [hsz] at ho
  have HS1 := Lib.hid hs1
  have HB1 := Lib.hid (hs1.blk (heap_alloc_new w (.cells #[.string ⟨#[]⟩, .string ⟨#[]⟩, .int .i64 0] 40)) id)
  have hle : ∀ x ∈ X, x.size ≤ s.size := fun x hx => by
    have := split_le s.data.toList x.data.toList (by rw [← hX]; exact List.mem_map_of_mem hx)
    rw [size_list, size_list] at this
    exact this
  have hr := HR.out
  unfold parseRq at hr
  rw [← hX] at hr
  obtain ⟨A, cp, rfl, hlc⟩ := ho.form
  have HO := Lib.hid ho
  clear hs1 hsz hX ho cs
  by_cases h3 : X.length = 3
  · obtain ⟨a, b, c, rfl⟩ : ∃ a b c, X = [a, b, c] := by
      match X, h3 with
      | [a, b, c], _ => exact ⟨a, b, c, rfl⟩
    simp only [List.map_cons, List.map_nil] at hr
    have la : a.size ≤ s.size := hle a (by simp)
    have lb : b.size ≤ s.size := hle b (by simp)
    obtain ⟨g, hA, -, hg1, hg2⟩ := HO.out.at_ (by simp)
    subst hA
    obtain ⟨T, hT⟩ : ∃ T, T = allS tokR a.data.toList := ⟨_, rfl⟩
    obtain ⟨V, hV⟩ : ∃ V, V = allS visR b.data.toList := ⟨_, rfl⟩
    have ct := fun W => tokenR_any a W (by omega)
    have cv := fun W => visibleR_any b W (by omega)
    rw [← hT] at ct
    rw [← hV] at cv
    have KEY := Lib.hid (three_key a b c r hr T V hT hV)
    clear hr hT hV hle h3
    have k0 : w1.cell? ⟨g, 0, none⟩ = some (.string a) := HO.out.cellAt 0 (by simp)
    go_wp2_with (go_at_call 46; refine stopc ?_)
    refine Stop.go ?_
    refine (ct _).mono ?_
    rintro e w2 ⟨rfl, hs2⟩
    have HT2 := Lib.hid hs2
    have k1 : w2.cell? ⟨g, 1, none⟩ = some (.string b) := (HO.out.stp0 hs2).cellAt 1 (by simp)
    clear hs2 k0
    go_wp2_with (go_at_call 47; refine stopc ?_)
    refine Stop.go ?_
    refine (cv _).mono ?_
    rintro e w3 ⟨rfl, hs3⟩
    have HT3 := Lib.hid (HT2.out.trans hs3)
    clear hs3 k1 ct cv
    rcases KEY.out with ⟨rfl, rfl⟩ | ⟨rfl, h1, rfl⟩ | ⟨rfl, h1, rfl, rfl⟩ | ⟨rfl, h1, rfl, h2, rfl⟩ | ⟨rfl, h1, rfl, h2, h4, rfl⟩ | ⟨rfl, h1, rfl, h2, h4, h5, rfl⟩ | ⟨rfl, h1, rfl, h2, h4, h5, rfl⟩
    · have k0 : w3.cell? ⟨g, 0, none⟩ = some (.string a) := (HO.out.stp0 HT3.out).cellAt 0 (by simp)
      have k1 : w3.cell? ⟨g, 1, none⟩ = some (.string b) := (HO.out.stp0 HT3.out).cellAt 1 (by simp)
      have k2 : w3.cell? ⟨g, 2, none⟩ = some (.string c) := (HO.out.stp0 HT3.out).cellAt 2 (by simp)
      have hb2 := HT3.out.blk HB1.out id
      have hf0 := blk_free hb2 0
      have hf1 := blk_free hb2 1
      have hf2 := blk_free hb2 2
      have hc0 := blk_cell (j := 0) hb2
      have hc1 := blk_cell (j := 1) hb2
      have hc2 := blk_cell (j := 2) hb2
      have HB2 := Lib.hid hb2
      clear hb2
      go_wp2
      try simp only [Exit.inBlock, Exit.then]
      refine bodyPost_ret (results_row_tmp rfl _ _ w.heap.size _ _ _ _ rfl (blk_set (blk_set (blk_set HB2.out 0 _) 1 _) 2 _) Tryz.underlying40 rfl (by kernel_rfl)) rfl ⟨by rfl, ?_⟩
      exact ((Stp.refl (fun _ => False) w).alloc _).new (((((HS1.out.trans HT3.out).to (S := fun k => k = w.heap.size)).setg 0 _).setg 1 _).setg 2 _) (Nat.le_refl _)
    · have k0 : w3.cell? ⟨g, 0, none⟩ = some (.string a) := (HO.out.stp0 HT3.out).cellAt 0 (by simp)
      have k1 : w3.cell? ⟨g, 1, none⟩ = some (.string b) := (HO.out.stp0 HT3.out).cellAt 1 (by simp)
      have k2 : w3.cell? ⟨g, 2, none⟩ = some (.string c) := (HO.out.stp0 HT3.out).cellAt 2 (by simp)
      have hb2 := HT3.out.blk HB1.out id
      have hf0 := blk_free hb2 0
      have hf1 := blk_free hb2 1
      have hf2 := blk_free hb2 2
      have hc0 := blk_cell (j := 0) hb2
      have hc1 := blk_cell (j := 1) hb2
      have hc2 := blk_cell (j := 2) hb2
      have HB2 := Lib.hid hb2
      clear hb2
      go_wp2
      try simp only [Exit.inBlock, Exit.then]
      refine bodyPost_ret (results_row_tmp rfl _ _ w.heap.size _ _ _ _ rfl (blk_set (blk_set (blk_set HB2.out 0 _) 1 _) 2 _) Tryz.underlying40 rfl (by kernel_rfl)) rfl ⟨by rfl, ?_⟩
      exact ((Stp.refl (fun _ => False) w).alloc _).new (((((HS1.out.trans HT3.out).to (S := fun k => k = w.heap.size)).setg 0 _).setg 1 _).setg 2 _) (Nat.le_refl _)
    · have k0 : w3.cell? ⟨g, 0, none⟩ = some (.string a) := (HO.out.stp0 HT3.out).cellAt 0 (by simp)
      have k1 : w3.cell? ⟨g, 1, none⟩ = some (.string b) := (HO.out.stp0 HT3.out).cellAt 1 (by simp)
      have k2 : w3.cell? ⟨g, 2, none⟩ = some (.string c) := (HO.out.stp0 HT3.out).cellAt 2 (by simp)
      have hb2 := HT3.out.blk HB1.out id
      have hf0 := blk_free hb2 0
      have hf1 := blk_free hb2 1
      have hf2 := blk_free hb2 2
      have hc0 := blk_cell (j := 0) hb2
      have hc1 := blk_cell (j := 1) hb2
      have hc2 := blk_cell (j := 2) hb2
      have HB2 := Lib.hid hb2
      clear hb2
      go_wp2
      try simp only [Exit.inBlock, Exit.then]
      refine bodyPost_ret (results_row_tmp rfl _ _ w.heap.size _ _ _ _ rfl (blk_set (blk_set (blk_set HB2.out 0 _) 1 _) 2 _) Tryz.underlying40 rfl (by kernel_rfl)) rfl ⟨by rfl, ?_⟩
      exact ((Stp.refl (fun _ => False) w).alloc _).new (((((HS1.out.trans HT3.out).to (S := fun k => k = w.heap.size)).setg 0 _).setg 1 _).setg 2 _) (Nat.le_refl _)
    · have k0 : w3.cell? ⟨g, 0, none⟩ = some (.string a) := (HO.out.stp0 HT3.out).cellAt 0 (by simp)
      have k1 : w3.cell? ⟨g, 1, none⟩ = some (.string b) := (HO.out.stp0 HT3.out).cellAt 1 (by simp)
      have k2 : w3.cell? ⟨g, 2, none⟩ = some (.string c) := (HO.out.stp0 HT3.out).cellAt 2 (by simp)
      have hb2 := HT3.out.blk HB1.out id
      have hf0 := blk_free hb2 0
      have hf1 := blk_free hb2 1
      have hf2 := blk_free hb2 2
      have hc0 := blk_cell (j := 0) hb2
      have hc1 := blk_cell (j := 1) hb2
      have hc2 := blk_cell (j := 2) hb2
      have HB2 := Lib.hid hb2
      clear hb2
      go_wp2
      try simp only [Exit.inBlock, Exit.then]
      refine bodyPost_ret (results_row_tmp rfl _ _ w.heap.size _ _ _ _ rfl (blk_set (blk_set (blk_set HB2.out 0 _) 1 _) 2 _) Tryz.underlying40 rfl (by kernel_rfl)) rfl ⟨by rfl, ?_⟩
      exact ((Stp.refl (fun _ => False) w).alloc _).new (((((HS1.out.trans HT3.out).to (S := fun k => k = w.heap.size)).setg 0 _).setg 1 _).setg 2 _) (Nat.le_refl _)
    · unfold olderL at h4
      have k0 : w3.cell? ⟨g, 0, none⟩ = some (.string a) := (HO.out.stp0 HT3.out).cellAt 0 (by simp)
      have k1 : w3.cell? ⟨g, 1, none⟩ = some (.string b) := (HO.out.stp0 HT3.out).cellAt 1 (by simp)
      have k2 : w3.cell? ⟨g, 2, none⟩ = some (.string c) := (HO.out.stp0 HT3.out).cellAt 2 (by simp)
      have HT5 := Lib.hid (HT3.out.trans (Stp.refl _ w3).drew)
      have HJ := Lib.hid (sB_self a)
      have HJ2 := Lib.hid (sB_self b)
      go_wp2_with fail
      refine wp_region_held_drew (S := (fun w' => w'.cell? ⟨g, 0, none⟩ = some (.string a) ∧ w'.cell? ⟨g, 1, none⟩ = some (.string b))) (by kernel_rfl) (⟨(HO.out.stp0 HT5.out).cellAt 0 (by simp), (HO.out.stp0 HT5.out).cellAt 1 (by simp)⟩) (fun hHeld => ?_)
      try (change wpAnyH _ _ _ _ _ _ _ _ (World.drew _))
      generalize w3.drew = W5 at HT5 hHeld ⊢
      refine rg_take (i := 0) (o := { dst := some 48, op := Op.move (Operand.tmp 4), type := 26, pos := "ref.go:26", after := #[], guard := none }) (v := ?rgv1) rfl (by kernel_rfl) (by kernel_rfl) (by kernel_rfl) (fun _ _ _ h => h) (by rfl) (fun w hSw => ?rgy1) hHeld ?_
      case rgy1 => (try dsimp only at hSw); first | (go_simp; done) | (go_simp; with_reducible rfl)
      try simp only [Act.put, List.setIfInBounds_toArray, List.set_cons_zero, List.set_cons_succ]
      refine rg_take (i := 1) (o := { dst := some 49, op := Op.indexAddr 26 (Operand.tmp 48) (Operand.const (Value.int IntKind.i64 0)), type := 0, pos := "ref.go:26", after := #[{ on := 0, ground := Ground.data }], guard := none }) (v := ?rgv2) rfl (by kernel_rfl) (by kernel_rfl) (by kernel_rfl) (fun _ _ _ h => h) (by rfl) (fun w hSw => ?rgy2) hHeld ?_
      case rgy2 => (try dsimp only at hSw); first | (go_simp; done) | (go_simp; with_reducible rfl)
      try simp only [Act.put, List.setIfInBounds_toArray, List.set_cons_zero, List.set_cons_succ]
      refine rg_take (i := 2) (o := { dst := some 50, op := Op.load 9 (Operand.tmp 49), type := 9, pos := "ref.go:26", after := #[{ on := 1, ground := Ground.data }], guard := none }) (v := ?rgv3) rfl (by kernel_rfl) (by kernel_rfl) (by kernel_rfl) (fun _ _ _ h => h) (by rfl) (fun w hSw => ?rgy3) hHeld ?_
      case rgy3 => (try dsimp only at hSw); first | (go_simp; done) | (go_simp; with_reducible rfl)
      try simp only [Act.put, List.setIfInBounds_toArray, List.set_cons_zero, List.set_cons_succ]
      refine rg_take (i := 3) (o := { dst := some 51, op := Op.move (Operand.tmp 4), type := 26, pos := "ref.go:26", after := #[], guard := none }) (v := ?rgv4) rfl (by kernel_rfl) (by kernel_rfl) (by kernel_rfl) (fun _ _ _ h => h) (by rfl) (fun w hSw => ?rgy4) hHeld ?_
      case rgy4 => (try dsimp only at hSw); first | (go_simp; done) | (go_simp; with_reducible rfl)
      try simp only [Act.put, List.setIfInBounds_toArray, List.set_cons_zero, List.set_cons_succ]
      refine rg_take (i := 4) (o := { dst := some 52, op := Op.indexAddr 26 (Operand.tmp 51) (Operand.const (Value.int IntKind.i64 1)), type := 0, pos := "ref.go:26", after := #[{ on := 3, ground := Ground.data }], guard := none }) (v := ?rgv5) rfl (by kernel_rfl) (by kernel_rfl) (by kernel_rfl) (fun _ _ _ h => h) (by rfl) (fun w hSw => ?rgy5) hHeld ?_
      case rgy5 => (try dsimp only at hSw); first | (go_simp; done) | (go_simp; with_reducible rfl)
      try simp only [Act.put, List.setIfInBounds_toArray, List.set_cons_zero, List.set_cons_succ]
      refine rg_take (i := 5) (o := { dst := some 53, op := Op.load 9 (Operand.tmp 52), type := 9, pos := "ref.go:26", after := #[{ on := 4, ground := Ground.data }], guard := none }) (v := ?rgv6) rfl (by kernel_rfl) (by kernel_rfl) (by kernel_rfl) (fun _ _ _ h => h) (by rfl) (fun w hSw => ?rgy6) hHeld ?_
      case rgy6 => (try dsimp only at hSw); first | (go_simp; done) | (go_simp; with_reducible rfl)
      try simp only [Act.put, List.setIfInBounds_toArray, List.set_cons_zero, List.set_cons_succ]
      refine rg_take (i := 6) (o := { dst := some 54, op := Op.build 40 #[(0, Operand.tmp 50), (1, Operand.tmp 53)], type := 40, pos := "ref.go:26", after := #[{ on := 2, ground := Ground.data }, { on := 5, ground := Ground.data }], guard := none }) (v := ?rgv7) rfl (by kernel_rfl) (by kernel_rfl) (by kernel_rfl) (fun _ _ _ h => h) (by rfl) (fun w hSw => ?rgy7) hHeld ?_
      case rgy7 => (try dsimp only at hSw); first | (go_simp; done) | (go_simp; with_reducible rfl)
      try simp only [Act.put, List.setIfInBounds_toArray, List.set_cons_zero, List.set_cons_succ]
      refine wpAnyH_ready (rs := [7]) (by kernel_rfl) (by simp) ?_
      refine (AllReadyH.cons (o := { dst := none, op := Op.store 40 (Operand.tmp 2) (Operand.tmp 54), type := 0, pos := "ref.go:26", after := #[{ on := 6, ground := Ground.data }, { on := 0, ground := Ground.phase }, { on := 1, ground := Ground.phase }, { on := 2, ground := Ground.phase }, { on := 3, ground := Ground.phase }, { on := 4, ground := Ground.phase }, { on := 5, ground := Ground.phase }, { on := 6, ground := Ground.phase }], guard := none }) rfl (fun K hK => ?_) AllReadyH.nil)
      have hb2 := HT5.out.blk HB1.out id
      have hc0 := blk_cell (j := 0) hb2
      have hc1 := blk_cell (j := 1) hb2
      have hc2 := blk_cell (j := 2) hb2
      have hf0 := blk_free hb2 0
      have hf1 := blk_free hb2 1
      have hf2 := blk_free hb2 2
      have HB2 := Lib.hid hb2
      clear hb2
      go_simp
      clear hHeld
      refine hK.out _ _ (by have X := (((HT5.out.to (S := fun k => k = w.heap.size)).setg 0 (.string a)).setg 1 (.string b)).setg 2 (.int .i64 0); have Y := HO.out.step X (fun k hk he => by have h9 : g = k := Option.some.inj hk; have h8 : k = w.heap.size := he; omega); exact ⟨Y.cellAt 0 (by simp), Y.cellAt 1 (by simp)⟩) (fun hHeld => ?_)
      clear hK K
      try simp only [Act.put, List.setIfInBounds_toArray, List.set_cons_zero, List.set_cons_succ]
      refine rg_take (i := 8) (o := { dst := some 3, op := Op.assign (Operand.const (Value.int IntKind.i64 0)), type := 25, pos := "ref.go:26", after := #[{ on := 7, ground := Ground.chain }, { on := 0, ground := Ground.phase }, { on := 1, ground := Ground.phase }, { on := 2, ground := Ground.phase }, { on := 3, ground := Ground.phase }, { on := 4, ground := Ground.phase }, { on := 5, ground := Ground.phase }, { on := 6, ground := Ground.phase }, { on := 7, ground := Ground.phase }], guard := none }) (v := ?rgv8) rfl (by kernel_rfl) (by kernel_rfl) (by kernel_rfl) (fun _ _ _ h => h) (by rfl) (fun w hSw => ?rgy8) hHeld ?_
      case rgy8 => (try dsimp only at hSw); first | (go_simp; done) | (go_simp; with_reducible rfl)
      try simp only [Act.put, List.setIfInBounds_toArray, List.set_cons_zero, List.set_cons_succ]
      clear hHeld
      refine wpAnyH_done (by kernel_rfl) ?_ _
      go_wp2
      try simp only [Exit.inBlock, Exit.then]
      refine bodyPost_ret (results_row_tmp rfl _ _ w.heap.size _ _ _ _ rfl (blk_set (blk_set (blk_set HB2.out 0 _) 1 _) 2 _) Tryz.underlying40 rfl (by kernel_rfl)) rfl ⟨?_, ?_⟩
      · show _ = Ending.returned (.tuple #[.agg #[.string (strB a.data.toList), .string (strB b.data.toList), .int .i64 0], .int .i64 0])
        rw [HJ.out, HJ2.out]
        rfl
      · exact ((Stp.refl (fun _ => False) w).alloc _).new (((((HS1.out.trans HT5.out).to (S := fun k => k = w.heap.size)).setg 0 _).setg 1 _).setg 2 _) (Nat.le_refl _)
    · unfold olderL at h4
      unfold newerL at h5
      have k0 : w3.cell? ⟨g, 0, none⟩ = some (.string a) := (HO.out.stp0 HT3.out).cellAt 0 (by simp)
      have k1 : w3.cell? ⟨g, 1, none⟩ = some (.string b) := (HO.out.stp0 HT3.out).cellAt 1 (by simp)
      have k2 : w3.cell? ⟨g, 2, none⟩ = some (.string c) := (HO.out.stp0 HT3.out).cellAt 2 (by simp)
      have HT5 := Lib.hid (HT3.out.trans (Stp.refl _ w3).drew)
      have HJ := Lib.hid (sB_self a)
      have HJ2 := Lib.hid (sB_self b)
      go_wp2_with fail
      refine wp_region_held_drew (S := (fun w' => w'.cell? ⟨g, 0, none⟩ = some (.string a) ∧ w'.cell? ⟨g, 1, none⟩ = some (.string b))) (by kernel_rfl) (⟨(HO.out.stp0 HT5.out).cellAt 0 (by simp), (HO.out.stp0 HT5.out).cellAt 1 (by simp)⟩) (fun hHeld => ?_)
      try (change wpAnyH _ _ _ _ _ _ _ _ (World.drew _))
      generalize w3.drew = W5 at HT5 hHeld ⊢
      refine rg_take (i := 0) (o := { dst := some 60, op := Op.move (Operand.tmp 4), type := 26, pos := "ref.go:28", after := #[], guard := none }) (v := ?rgv9) rfl (by kernel_rfl) (by kernel_rfl) (by kernel_rfl) (fun _ _ _ h => h) (by rfl) (fun w hSw => ?rgy9) hHeld ?_
      case rgy9 => (try dsimp only at hSw); first | (go_simp; done) | (go_simp; with_reducible rfl)
      try simp only [Act.put, List.setIfInBounds_toArray, List.set_cons_zero, List.set_cons_succ]
      refine rg_take (i := 1) (o := { dst := some 61, op := Op.indexAddr 26 (Operand.tmp 60) (Operand.const (Value.int IntKind.i64 0)), type := 0, pos := "ref.go:28", after := #[{ on := 0, ground := Ground.data }], guard := none }) (v := ?rgv10) rfl (by kernel_rfl) (by kernel_rfl) (by kernel_rfl) (fun _ _ _ h => h) (by rfl) (fun w hSw => ?rgy10) hHeld ?_
      case rgy10 => (try dsimp only at hSw); first | (go_simp; done) | (go_simp; with_reducible rfl)
      try simp only [Act.put, List.setIfInBounds_toArray, List.set_cons_zero, List.set_cons_succ]
      refine rg_take (i := 2) (o := { dst := some 62, op := Op.load 9 (Operand.tmp 61), type := 9, pos := "ref.go:28", after := #[{ on := 1, ground := Ground.data }], guard := none }) (v := ?rgv11) rfl (by kernel_rfl) (by kernel_rfl) (by kernel_rfl) (fun _ _ _ h => h) (by rfl) (fun w hSw => ?rgy11) hHeld ?_
      case rgy11 => (try dsimp only at hSw); first | (go_simp; done) | (go_simp; with_reducible rfl)
      try simp only [Act.put, List.setIfInBounds_toArray, List.set_cons_zero, List.set_cons_succ]
      refine rg_take (i := 3) (o := { dst := some 63, op := Op.move (Operand.tmp 4), type := 26, pos := "ref.go:28", after := #[], guard := none }) (v := ?rgv12) rfl (by kernel_rfl) (by kernel_rfl) (by kernel_rfl) (fun _ _ _ h => h) (by rfl) (fun w hSw => ?rgy12) hHeld ?_
      case rgy12 => (try dsimp only at hSw); first | (go_simp; done) | (go_simp; with_reducible rfl)
      try simp only [Act.put, List.setIfInBounds_toArray, List.set_cons_zero, List.set_cons_succ]
      refine rg_take (i := 4) (o := { dst := some 64, op := Op.indexAddr 26 (Operand.tmp 63) (Operand.const (Value.int IntKind.i64 1)), type := 0, pos := "ref.go:28", after := #[{ on := 3, ground := Ground.data }], guard := none }) (v := ?rgv13) rfl (by kernel_rfl) (by kernel_rfl) (by kernel_rfl) (fun _ _ _ h => h) (by rfl) (fun w hSw => ?rgy13) hHeld ?_
      case rgy13 => (try dsimp only at hSw); first | (go_simp; done) | (go_simp; with_reducible rfl)
      try simp only [Act.put, List.setIfInBounds_toArray, List.set_cons_zero, List.set_cons_succ]
      refine rg_take (i := 5) (o := { dst := some 65, op := Op.load 9 (Operand.tmp 64), type := 9, pos := "ref.go:28", after := #[{ on := 4, ground := Ground.data }], guard := none }) (v := ?rgv14) rfl (by kernel_rfl) (by kernel_rfl) (by kernel_rfl) (fun _ _ _ h => h) (by rfl) (fun w hSw => ?rgy14) hHeld ?_
      case rgy14 => (try dsimp only at hSw); first | (go_simp; done) | (go_simp; with_reducible rfl)
      try simp only [Act.put, List.setIfInBounds_toArray, List.set_cons_zero, List.set_cons_succ]
      refine rg_take (i := 6) (o := { dst := some 66, op := Op.build 40 #[(0, Operand.tmp 62), (1, Operand.tmp 65), (2, Operand.const (Value.int IntKind.i64 1))], type := 40, pos := "ref.go:28", after := #[{ on := 2, ground := Ground.data }, { on := 5, ground := Ground.data }], guard := none }) (v := ?rgv15) rfl (by kernel_rfl) (by kernel_rfl) (by kernel_rfl) (fun _ _ _ h => h) (by rfl) (fun w hSw => ?rgy15) hHeld ?_
      case rgy15 => (try dsimp only at hSw); first | (go_simp; done) | (go_simp; with_reducible rfl)
      try simp only [Act.put, List.setIfInBounds_toArray, List.set_cons_zero, List.set_cons_succ]
      refine wpAnyH_ready (rs := [7]) (by kernel_rfl) (by simp) ?_
      refine (AllReadyH.cons (o := { dst := none, op := Op.store 40 (Operand.tmp 2) (Operand.tmp 66), type := 0, pos := "ref.go:28", after := #[{ on := 6, ground := Ground.data }, { on := 0, ground := Ground.phase }, { on := 1, ground := Ground.phase }, { on := 2, ground := Ground.phase }, { on := 3, ground := Ground.phase }, { on := 4, ground := Ground.phase }, { on := 5, ground := Ground.phase }, { on := 6, ground := Ground.phase }], guard := none }) rfl (fun K hK => ?_) AllReadyH.nil)
      have hb2 := HT5.out.blk HB1.out id
      have hc0 := blk_cell (j := 0) hb2
      have hc1 := blk_cell (j := 1) hb2
      have hc2 := blk_cell (j := 2) hb2
      have hf0 := blk_free hb2 0
      have hf1 := blk_free hb2 1
      have hf2 := blk_free hb2 2
      have HB2 := Lib.hid hb2
      clear hb2
      go_simp
      clear hHeld
      refine hK.out _ _ (by have X := (((HT5.out.to (S := fun k => k = w.heap.size)).setg 0 (.string a)).setg 1 (.string b)).setg 2 (.int .i64 1); have Y := HO.out.step X (fun k hk he => by have h9 : g = k := Option.some.inj hk; have h8 : k = w.heap.size := he; omega); exact ⟨Y.cellAt 0 (by simp), Y.cellAt 1 (by simp)⟩) (fun hHeld => ?_)
      clear hK K
      try simp only [Act.put, List.setIfInBounds_toArray, List.set_cons_zero, List.set_cons_succ]
      refine rg_take (i := 8) (o := { dst := some 3, op := Op.assign (Operand.const (Value.int IntKind.i64 0)), type := 25, pos := "ref.go:28", after := #[{ on := 7, ground := Ground.chain }, { on := 0, ground := Ground.phase }, { on := 1, ground := Ground.phase }, { on := 2, ground := Ground.phase }, { on := 3, ground := Ground.phase }, { on := 4, ground := Ground.phase }, { on := 5, ground := Ground.phase }, { on := 6, ground := Ground.phase }, { on := 7, ground := Ground.phase }], guard := none }) (v := ?rgv16) rfl (by kernel_rfl) (by kernel_rfl) (by kernel_rfl) (fun _ _ _ h => h) (by rfl) (fun w hSw => ?rgy16) hHeld ?_
      case rgy16 => (try dsimp only at hSw); first | (go_simp; done) | (go_simp; with_reducible rfl)
      try simp only [Act.put, List.setIfInBounds_toArray, List.set_cons_zero, List.set_cons_succ]
      clear hHeld
      refine wpAnyH_done (by kernel_rfl) ?_ _
      go_wp2
      try simp only [Exit.inBlock, Exit.then]
      refine bodyPost_ret (results_row_tmp rfl _ _ w.heap.size _ _ _ _ rfl (blk_set (blk_set (blk_set HB2.out 0 _) 1 _) 2 _) Tryz.underlying40 rfl (by kernel_rfl)) rfl ⟨?_, ?_⟩
      · show _ = Ending.returned (.tuple #[.agg #[.string (strB a.data.toList), .string (strB b.data.toList), .int .i64 1], .int .i64 0])
        rw [HJ.out, HJ2.out]
        rfl
      · exact ((Stp.refl (fun _ => False) w).alloc _).new (((((HS1.out.trans HT5.out).to (S := fun k => k = w.heap.size)).setg 0 _).setg 1 _).setg 2 _) (Nat.le_refl _)
    · unfold olderL at h4
      unfold newerL at h5
      have k0 : w3.cell? ⟨g, 0, none⟩ = some (.string a) := (HO.out.stp0 HT3.out).cellAt 0 (by simp)
      have k1 : w3.cell? ⟨g, 1, none⟩ = some (.string b) := (HO.out.stp0 HT3.out).cellAt 1 (by simp)
      have k2 : w3.cell? ⟨g, 2, none⟩ = some (.string c) := (HO.out.stp0 HT3.out).cellAt 2 (by simp)
      have hb2 := HT3.out.blk HB1.out id
      have hf0 := blk_free hb2 0
      have hf1 := blk_free hb2 1
      have hf2 := blk_free hb2 2
      have hc0 := blk_cell (j := 0) hb2
      have hc1 := blk_cell (j := 1) hb2
      have hc2 := blk_cell (j := 2) hb2
      have HB2 := Lib.hid hb2
      clear hb2
      go_wp2
      try simp only [Exit.inBlock, Exit.then]
      refine bodyPost_ret (results_row_tmp rfl _ _ w.heap.size _ _ _ _ rfl (blk_set (blk_set (blk_set HB2.out 0 _) 1 _) 2 _) Tryz.underlying40 rfl (by kernel_rfl)) rfl ⟨by rfl, ?_⟩
      exact ((Stp.refl (fun _ => False) w).alloc _).new (((((HS1.out.trans HT3.out).to (S := fun k => k = w.heap.size)).setg 0 _).setg 1 _).setg 2 _) (Nat.le_refl _)
  · have h3n : ((X.length : Int) != 3) = true := by simp; omega
    have hr2 : r = (Rq.none, 3) := by
      rw [hr]
      split
      · rename_i m t v h
        have := congrArg List.length h
        rw [List.length_map] at this
        exact absurd this h3
      · rfl
    subst hr2
    obtain ⟨n, hn⟩ : ∃ n, X.length = n := ⟨_, rfl⟩
    rw [hn] at h3n ⊢
    clear hr h3 hle hn hlc
    have hb2 := HB1.out
    have hf0 := blk_free hb2 0
    have hf1 := blk_free hb2 1
    have hf2 := blk_free hb2 2
    have hc0 := blk_cell (j := 0) hb2
    have hc1 := blk_cell (j := 1) hb2
    have hc2 := blk_cell (j := 2) hb2
    have HB2 := Lib.hid hb2
    clear hb2
    go_wp2
    try simp only [Exit.inBlock, Exit.then]
    refine bodyPost_ret (results_row_tmp rfl _ _ w.heap.size _ _ _ _ rfl (blk_set (blk_set (blk_set HB2.out 0 _) 1 _) 2 _) Tryz.underlying40 rfl (by kernel_rfl)) rfl ⟨by rfl, ?_⟩
    exact ((Stp.refl (fun _ => False) w).alloc _).new (((((HS1.out).to (S := fun k => k = w.heap.size)).setg 0 _).setg 1 _).setg 2 _) (Nat.le_refl _)
end Go.Proofs.YtgjmaifgkgejgaaGreatDoor.L
