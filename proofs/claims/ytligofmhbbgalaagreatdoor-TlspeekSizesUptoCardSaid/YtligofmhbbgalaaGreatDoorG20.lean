/- Texts of the proof, joined: Td Vd. -/
import Derived.Test.YtligofmhbbgalaaGreatDoorG09
import Derived.Test.YtligofmhbbgalaaGreatDoorG10
import Derived.Test.YtligofmhbbgalaaGreatDoorG19
import Derived.Test.YtligofmhbbgalaaGreatDoorG14
set_option linter.unusedVariables false
set_option linter.unusedSimpArgs false
/- Layer 15: one that looks at bytes: what is wrong, what is whole, what is handed out. -/
namespace Go.Proofs.YtligofmhbbgalaaGreatDoor.L
open Go.RowKit Go.Proofs

/-- The cells of a verdict on TLS. -/
def vtC (v : Vt) (u : Nat) (va vv : Value) : List Value := [.int .i64 v.st, .int .i64 1, .int .i64 (u : Int), .int .i64 v.rs, .string (strB v.ho), .int .i64 0, .bool v.sn.has, .string v.sn.name, va, vv, .bool v.sn.ech]
def vtV (v : Vt) (u : Nat) (va vv : Value) : Value := .agg (vtC v u va vv).toArray
/-- The cells of one that looks. -/
def ptObj (gd gm u : Nat) (v : Vt) (u2 : Nat) (va vv : Value) : Array Value := #[.pointer (some ⟨gd, 0, none⟩), .pointer (some ⟨gm, 0, none⟩), .int .i64 (u : Int), .int .i64 v.st, .int .i64 1, .int .i64 (u2 : Int), .int .i64 v.rs, .string (strB v.ho), .int .i64 0, .bool v.sn.has, .string v.sn.name, va, vv, .bool v.sn.ech]
def PtBlk (w : World) (g gd gm u : Nat) (v : Vt) (va vv : Value) : Prop := w.heap[g]? = some (.cells (ptObj gd gm u v u va vv) 50 (0, 0))
theorem pt_mid {w : World} {g gd gm u : Nat} {v : Vt} {va vv : Value} (h : PtBlk w g gd gm u v va vv) : w.rangeAt g 3 (vtC v u va vv) := World.rangeAt_of_block h 3 11
/-- What a verdict's rows read as. -/
def VtR (M : Nat → Prop) (w : World) (v : Vt) (va vv : Value) : Prop := Rd str M w va v.sn.alpn ∧ Rd (int .i64) M w vv v.sn.vers ∧ v.sn.alpn.length ≤ 65535 ∧ v.sn.vers.length ≤ 65535
theorem VtR.step {M S : Nat → Prop} {w w1 : World} {v : Vt} {va vv : Value} (h : VtR M w v va vv) (hs : Stp S w w1) (hS : ∀ k, k < w.heap.size → S k → M k) : VtR M w1 v va vv := ⟨h.1.step hs hS, h.2.1.step hs hS, h.2.2⟩
theorem VtR.stp0 {M : Nat → Prop} {w w1 : World} {v : Vt} {va vv : Value} (h : VtR M w v va vv) (hs : Stp (fun _ => False) w w1) : VtR M w1 v va vv := h.step hs fun _ _ h => h.elim
theorem VtR.weak {M M' : Nat → Prop} {w : World} {v : Vt} {va vv : Value} (h : VtR M w v va vv) (hM : ∀ k, k < w.heap.size → M' k → M k) : VtR M' w v va vv := ⟨h.1.weak (by decide) hM, h.2.1.weak (by decide) hM, h.2.2⟩
theorem VtR.nil (M : Nat → Prop) (w : World) (e : Int) (st : Int) (ho : List UInt8) : VtR M w ⟨st, e, ho, .zero⟩ (.slice none 0 0) (.slice none 0 0) := ⟨Rd.nil _ _ _, Rd.nil _ _ _, Nat.zero_le _, Nat.zero_le _⟩
/-- One that knows: its rows stand whatever becomes of blocks below A and from some B on. -/
def KnT (w : World) (g A : Nat) (v : Vt) (u : Nat) : Prop := ∃ gd gm va vv B, PtBlk w g gd gm u v va vv ∧ B ≤ w.heap.size ∧ g < A ∧ A ≤ B ∧ VtR (fun k => k < A ∨ B ≤ k) w v va vv
theorem KnT.lt {w : World} {g A : Nat} {v : Vt} {u : Nat} (h : KnT w g A v u) : g < w.heap.size := by
  obtain ⟨_, _, _, _, _, h, _⟩ := h
  exact blk_lt h
theorem KnT.step {S : Nat → Prop} {w w1 : World} {g A : Nat} {v : Vt} {u : Nat} (h : KnT w g A v u) (hs : Stp S w w1) (hg : ¬ S g) (hS : ∀ k, S k → k < A ∨ w.heap.size ≤ k) : KnT w1 g A v u := by
  obtain ⟨gd, gm, va, vv, B, h1, h2, h3, h4, h5⟩ := h
  exact ⟨gd, gm, va, vv, B, hs.blk h1 hg, Nat.le_trans h2 hs.size, h3, h4, h5.step hs fun k hk h => by
    rcases hS k h with h | h
    · exact Or.inl h
    · exact Or.inr (Nat.le_trans h2 h)⟩
theorem KnT.stp0 {w w1 : World} {g A : Nat} {v : Vt} {u : Nat} (h : KnT w g A v u) (hs : Stp (fun _ => False) w w1) : KnT w1 g A v u := h.step hs id fun _ h => h.elim
theorem KnT.low {w : World} {g A A' : Nat} {v : Vt} {u : Nat} (h : KnT w g A v u) (hA : A' ≤ A) (hg : g < A') : KnT w g A' v u := by
  obtain ⟨gd, gm, va, vv, B, h1, h2, h3, h4, h5⟩ := h
  exact ⟨gd, gm, va, vv, B, h1, h2, hg, Nat.le_trans hA h4, h5.weak fun k _ h => h.elim (fun h => Or.inl (Nat.lt_of_lt_of_le h hA)) Or.inr⟩
/-- Eleven cells from the fourth on, written one by one. -/
theorem pt_set {w : World} {g : Nat} {a0 a1 a2 a3 a4 a5 a6 a7 a8 a9 a10 a11 a12 a13 : Value} (h : w.heap[g]? = some (.cells #[a0, a1, a2, a3, a4, a5, a6, a7, a8, a9, a10, a11, a12, a13] 50 (0, 0))) (v0 v1 v2 v3 v4 v5 v6 v7 v8 v9 v10 : Value) : (((((((((((w.setCell ⟨g, 3, none⟩ v0).setCell ⟨g, 4, none⟩ v1).setCell ⟨g, 5, none⟩ v2).setCell ⟨g, 6, none⟩ v3).setCell ⟨g, 7, none⟩ v4).setCell ⟨g, 8, none⟩ v5).setCell ⟨g, 9, none⟩ v6).setCell ⟨g, 10, none⟩ v7).setCell ⟨g, 11, none⟩ v8).setCell ⟨g, 12, none⟩ v9).setCell ⟨g, 13, none⟩ v10).heap[g]? = some (.cells #[a0, a1, a2, v0, v1, v2, v3, v4, v5, v6, v7, v8, v9, v10] 50 (0, 0)) := by
  have h2 := (blk_set (blk_set (blk_set (blk_set (blk_set (blk_set (blk_set (blk_set (blk_set (blk_set (blk_set h 3 v0) 4 v1) 5 v2) 6 v3) 7 v4) 8 v5) 9 v6) 10 v7) 11 v8) 12 v9) 13 v10)
  simp only [List.setIfInBounds_toArray, List.set_cons_zero, List.set_cons_succ] at h2
  exact h2
theorem pt_stp (w : World) (g : Nat) (v0 v1 v2 v3 v4 v5 v6 v7 v8 v9 v10 : Value) : Stp (fun k => k = g) w (((((((((((w.setCell ⟨g, 3, none⟩ v0).setCell ⟨g, 4, none⟩ v1).setCell ⟨g, 5, none⟩ v2).setCell ⟨g, 6, none⟩ v3).setCell ⟨g, 7, none⟩ v4).setCell ⟨g, 8, none⟩ v5).setCell ⟨g, 9, none⟩ v6).setCell ⟨g, 10, none⟩ v7).setCell ⟨g, 11, none⟩ v8).setCell ⟨g, 12, none⟩ v9).setCell ⟨g, 13, none⟩ v10) := (((((((((((Stp.refl (fun k => k = g) w).setg 3 v0).setg 4 v1).setg 5 v2).setg 6 v3).setg 7 v4).setg 8 v5).setg 9 v6).setg 10 v7).setg 11 v8).setg 12 v9).setg 13 v10
def BaT (w : World) (g : Nat) (v : Vt) (u : Nat) (e : Ending) (w' : World) : Prop := e = .returned (.tuple #[]) ∧ KnT w' g w.heap.size v u ∧ Stp (fun k => k = g) w w'
set_option maxRecDepth 100000 in
set_option maxHeartbeats 8000000 in
theorem tbad_any (g gd gm u : Nat) (er : Int) (w : World) (h : PtBlk w g gd gm u .open_ (.slice none 0 0) (.slice none 0 0)) :
    Calls Tryz.prog 27 #[.pointer (some ⟨g, 0, none⟩), .int .i64 er] w (BaT w g (.bad er) u) := by
  obtain ⟨R, hR⟩ : ∃ R, R = BaT w g (.bad er) u := ⟨_, rfl⟩
  rw [← hR]
  have HR := Lib.hid hR
  have HG := Lib.hid h
  unfold PtBlk at h
  have c2 : w.cell? ⟨g, 2, none⟩ = some (.int .i64 (u : Int)) := blk_cell (j := 2) h
  have c3 : w.cell? ⟨g, 3, none⟩ = some (.int .i64 0) := blk_cell (j := 3) h
  have c4 : w.cell? ⟨g, 4, none⟩ = some (.int .i64 1) := blk_cell (j := 4) h
  have c5 : w.cell? ⟨g, 5, none⟩ = some (.int .i64 (u : Int)) := blk_cell (j := 5) h
  have c6 : w.cell? ⟨g, 6, none⟩ = some (.int .i64 0) := blk_cell (j := 6) h
  have c7 : w.cell? ⟨g, 7, none⟩ = some (.string ⟨#[]⟩) := blk_cell (j := 7) h
  have c8 : w.cell? ⟨g, 8, none⟩ = some (.int .i64 0) := blk_cell (j := 8) h
  have c9 : w.cell? ⟨g, 9, none⟩ = some (.bool false) := blk_cell (j := 9) h
  have c10 : w.cell? ⟨g, 10, none⟩ = some (.string ⟨#[]⟩) := blk_cell (j := 10) h
  have c11 : w.cell? ⟨g, 11, none⟩ = some (.slice none 0 0) := blk_cell (j := 11) h
  have c12 : w.cell? ⟨g, 12, none⟩ = some (.slice none 0 0) := blk_cell (j := 12) h
  have c13 : w.cell? ⟨g, 13, none⟩ = some (.bool false) := blk_cell (j := 13) h
  have f3 := blk_free h 3
  have f4 := blk_free h 4
  have f5 := blk_free h 5
  have f6 := blk_free h 6
  have f7 := blk_free h 7
  have f8 := blk_free h 8
  have f9 := blk_free h 9
  have f10 := blk_free h 10
  have f11 := blk_free h 11
  have f12 := blk_free h 12
  have f13 := blk_free h 13
  have hlt := blk_lt h
  clear h hR
  go_enter Tryz.func27, Tryz.ntmps27
  go_wp2
  refine bp_none rfl ?_
  rw [HR.out]
  refine ⟨rfl, ⟨gd, gm, _, _, w.heap.size, pt_set HG.out _ _ _ _ _ _ _ _ _ _ _, (pt_stp w g _ _ _ _ _ _ _ _ _ _ _).size, hlt, Nat.le_refl _, VtR.nil _ _ _ _ _⟩, pt_stp w g _ _ _ _ _ _ _ _ _ _ _⟩

/-! ### a verdict that shares nothing -/
def ovC (st : Int) (u : Nat) (rs : Int) (H : ByteArray) (has : Bool) (nm : ByteArray) (a b : Value) (ec : Bool) : Array Value := #[.int .i64 st, .int .i64 1, .int .i64 (u : Int), .int .i64 rs, .string H, .int .i64 0, .bool has, .string nm, a, b, .bool ec]
def OwT (w : World) (v : Vt) (u : Nat) (e : Ending) (w' : World) : Prop := ∃ va vv, e = .returned (vtV v u va vv) ∧ Own Value.string 9 w.heap.size w' va v.sn.alpn ∧ Own (Value.int .i64) 3 w.heap.size w' vv v.sn.vers ∧ Stp (fun _ => False) w w'
set_option maxRecDepth 100000 in
set_option maxHeartbeats 8000000 in
theorem own_any (M : Nat → Prop) (v : Vt) (u : Nat) (va vv : Value) (w : World) (h : VtR M w v va vv) : Calls Tryz.prog 29 #[vtV v u va vv] w (OwT w v u) := by
  obtain ⟨R, hR⟩ : ∃ R, R = OwT w v u := ⟨_, rfl⟩
  rw [← hR]
  have HR := Lib.hid hR
  obtain ⟨st, rs, ho, ⟨has, nm, al, vs, ec⟩⟩ := v
  obtain ⟨h1, h2, l1, l2⟩ := h
  simp only at h1 h2 l1 l2
  have c1 := fun W hs => cloneS_any M va al W (h1.stp0 hs) (by omega)
  have c2 := fun W hs => cloneI_any M vv vs W (h2.stp0 hs) (by omega)
  obtain ⟨A1, p1, rfl, -⟩ := h1.form
  obtain ⟨A2, p2, rfl, -⟩ := h2.form
  unfold vtV vtC
  simp only
  obtain ⟨H, hH⟩ : ∃ H, H = strB ho := ⟨_, rfl⟩
  rw [← hH]
  have HH := Lib.hid hH
  clear hR h1 h2 hH
  go_enter Tryz.func29, Tryz.ntmps29
  go_wp2_with fail
  have hs0 : Stp (fun _ => False) w ((w.alloc (.cells (ovC st u rs H has nm (.slice A1 al.length p1) (.slice A2 vs.length p2) ec) 31)).alloc (.cells vd0 31)) := ((Stp.refl _ _).alloc _).alloc _
  have hb1 := ((Stp.refl (fun _ => False) (w.alloc (.cells (ovC st u rs H has nm (.slice A1 al.length p1) (.slice A2 vs.length p2) ec) 31))).alloc (.cells vd0 31)).blk (heap_alloc_new w (.cells (ovC st u rs H has nm (.slice A1 al.length p1) (.slice A2 vs.length p2) ec) 31)) id
  have hb2 := heap_alloc_new (w.alloc (.cells (ovC st u rs H has nm (.slice A1 al.length p1) (.slice A2 vs.length p2) ec) 31)) (.cells vd0 31)
  rw [show (w.alloc (.cells (ovC st u rs H has nm (.slice A1 al.length p1) (.slice A2 vs.length p2) ec) 31)).heap.size = w.heap.size + 1 by simp] at hb2
  change Code.wp _ _ _ _ ((w.alloc (.cells (ovC st u rs H has nm (.slice A1 al.length p1) (.slice A2 vs.length p2) ec) 31)).alloc (.cells vd0 31))
  generalize (w.alloc (.cells (ovC st u rs H has nm (.slice A1 al.length p1) (.slice A2 vs.length p2) ec) 31)).alloc (.cells vd0 31) = w1 at hs0 hb1 hb2 ⊢
  obtain ⟨g, hg⟩ : ∃ g, g = w.heap.size := ⟨_, rfl⟩
  rw [← hg] at hb1 hb2
  simp only [← hg]
  have HGW := Lib.hid hg
  clear hg
  have hT0 : Stp (fun _ => False) w1 w1.drew := (Stp.refl _ _).drew
  refine wp_region_held_drew (S := (fun _ => True)) (by kernel_rfl) (trivial) (fun hHeld => ?_)
  try (change wpAnyH _ _ _ _ _ _ _ _ (World.drew _))
  generalize w1.drew = W0 at hT0 hHeld ⊢
  have HT := Lib.hid (hs0.trans hT0)
  have HB1 := Lib.hid (hT0.blk hb1 id)
  have HB2 := Lib.hid (hT0.blk hb2 id)
  have HOA : True := trivial
  have HOB : True := trivial
  clear hT0 hs0 hb1 hb2
  refine rg_take (i := 0) (o := { dst := some 3, op := Op.fieldAddr 31 (Operand.tmp 1) 6, type := 0, pos := "tlspeek.go:83", after := #[], guard := none }) (v := ?rgv1) rfl (by kernel_rfl) (by kernel_rfl) (by kernel_rfl) (fun _ _ _ h => h) (by rfl) (fun w hSw => ?rgy1) hHeld ?_
  case rgy1 => (try dsimp only at hSw); first | (go_simp; done) | (go_simp; with_reducible rfl)
  try simp only [Act.put, List.setIfInBounds_toArray, List.set_cons_zero, List.set_cons_succ]
  refine rg_take (i := 1) (o := { dst := some 4, op := Op.fieldAddr 29 (Operand.tmp 3) 2, type := 0, pos := "tlspeek.go:83", after := #[{ on := 0, ground := Ground.data }], guard := none }) (v := ?rgv2) rfl (by kernel_rfl) (by kernel_rfl) (by kernel_rfl) (fun _ _ _ h => h) (by rfl) (fun w hSw => ?rgy2) hHeld ?_
  case rgy2 => (try dsimp only at hSw); first | (go_simp; done) | (go_simp; with_reducible rfl)
  try simp only [Act.put, List.setIfInBounds_toArray, List.set_cons_zero, List.set_cons_succ]
  refine rg_take (i := 4) (o := { dst := some 7, op := Op.fieldAddr 31 (Operand.tmp 1) 6, type := 0, pos := "tlspeek.go:83", after := #[], guard := none }) (v := ?rgv3) rfl (by kernel_rfl) (by kernel_rfl) (by kernel_rfl) (fun _ _ _ h => h) (by rfl) (fun w hSw => ?rgy3) hHeld ?_
  case rgy3 => (try dsimp only at hSw); first | (go_simp; done) | (go_simp; with_reducible rfl)
  try simp only [Act.put, List.setIfInBounds_toArray, List.set_cons_zero, List.set_cons_succ]
  refine rg_take (i := 5) (o := { dst := some 8, op := Op.fieldAddr 29 (Operand.tmp 7) 3, type := 0, pos := "tlspeek.go:83", after := #[{ on := 4, ground := Ground.data }], guard := none }) (v := ?rgv4) rfl (by kernel_rfl) (by kernel_rfl) (by kernel_rfl) (fun _ _ _ h => h) (by rfl) (fun w hSw => ?rgy4) hHeld ?_
  case rgy4 => (try dsimp only at hSw); first | (go_simp; done) | (go_simp; with_reducible rfl)
  try simp only [Act.put, List.setIfInBounds_toArray, List.set_cons_zero, List.set_cons_succ]
  refine wpAnyH_ready (rs := [2, 6]) (by kernel_rfl) (by simp) ?_
  refine (AllReadyH.cons (o := { dst := some 5, op := Op.load 26 (Operand.tmp 4), type := 26, pos := "tlspeek.go:83", after := #[{ on := 1, ground := Ground.data }], guard := none }) rfl (fun K hK => ?_) (AllReadyH.cons (o := { dst := some 9, op := Op.load 27 (Operand.tmp 8), type := 27, pos := "tlspeek.go:83", after := #[{ on := 5, ground := Ground.data }], guard := none }) rfl (fun K hK => ?_) AllReadyH.nil))
  · skip
    obtain ⟨W1, rfl⟩ : ∃ W : World, W = W0 := ⟨_, rfl⟩
    have hk8 := blk_cell (j := 8) HB1.out
    have hlt := blk_lt HB1.out
    simp [ovC] at hk8
    go_simp
    clear hk8 hlt
    show K _ _
    clear hHeld
    refine hK.out _ _ (trivial) (fun hHeld => ?_)
    clear hK K
    try simp only [Act.put, List.setIfInBounds_toArray, List.set_cons_zero, List.set_cons_succ]
    refine wpAnyH_ready (rs := [3, 6]) (by kernel_rfl) (by simp) ?_
    refine (AllReadyH.cons (o := { dst := some 6, op := Op.call { callee := Callee.value (Operand.func 56), args := #[Operand.tmp 5], argTypes := #[26] }, type := 26, pos := "tlspeek.go:83", after := #[{ on := 2, ground := Ground.data }], guard := none }) rfl (fun K hK => ?_) (AllReadyH.cons (o := { dst := some 9, op := Op.load 27 (Operand.tmp 8), type := 27, pos := "tlspeek.go:83", after := #[{ on := 5, ground := Ground.data }], guard := none }) rfl (fun K hK => ?_) AllReadyH.nil))
    · skip
      go_simp
      refine (c1 _ HT.out).mono ?_
      rintro e W2 ⟨va', rfl, ho1, hs1⟩
      replace HOA := Lib.hid (ho1.lower (B' := g + 2) (by have := blk_lt HB2.out; omega))
      obtain ⟨A3, p3, rfl, -⟩ := ho1.form
      replace HT := Lib.hid (HT.out.trans hs1)
      replace HB1 := Lib.hid (hs1.blk HB1.out id)
      replace HB2 := Lib.hid (hs1.blk HB2.out id)
      clear hs1 ho1
      show K _ _
      clear hHeld
      refine hK.out _ _ (trivial) (fun hHeld => ?_)
      clear hK K
      try simp only [Act.put, List.setIfInBounds_toArray, List.set_cons_zero, List.set_cons_succ]
      refine wpAnyH_ready (rs := [6]) (by kernel_rfl) (by simp) ?_
      refine (AllReadyH.cons (o := { dst := some 9, op := Op.load 27 (Operand.tmp 8), type := 27, pos := "tlspeek.go:83", after := #[{ on := 5, ground := Ground.data }], guard := none }) rfl (fun K hK => ?_) AllReadyH.nil)
      obtain ⟨W3, rfl⟩ : ∃ W : World, W = W2 := ⟨_, rfl⟩
      have hk9 := blk_cell (j := 9) HB1.out
      have hlt := blk_lt HB1.out
      simp [ovC] at hk9
      go_simp
      clear hk9 hlt
      show K _ _
      clear hHeld
      refine hK.out _ _ (trivial) (fun hHeld => ?_)
      clear hK K
      try simp only [Act.put, List.setIfInBounds_toArray, List.set_cons_zero, List.set_cons_succ]
      refine rg_take (i := 8) (o := { dst := some 11, op := Op.fieldAddr 31 (Operand.tmp 1) 6, type := 0, pos := "tlspeek.go:83", after := #[{ on := 0, ground := Ground.phase }, { on := 1, ground := Ground.phase }, { on := 2, ground := Ground.phase }, { on := 3, ground := Ground.phase }, { on := 4, ground := Ground.phase }, { on := 5, ground := Ground.phase }, { on := 6, ground := Ground.phase }, { on := 7, ground := Ground.textOnly Departure.lateStoresUnsure }], guard := none }) (v := ?rgv5) rfl (by kernel_rfl) (by kernel_rfl) (by kernel_rfl) (fun _ _ _ h => h) (by rfl) (fun w hSw => ?rgy5) hHeld ?_
      case rgy5 => (try dsimp only at hSw); first | (go_simp; done) | (go_simp; with_reducible rfl)
      try simp only [Act.put, List.setIfInBounds_toArray, List.set_cons_zero, List.set_cons_succ]
      refine rg_take (i := 9) (o := { dst := some 12, op := Op.fieldAddr 29 (Operand.tmp 11) 2, type := 0, pos := "tlspeek.go:83", after := #[{ on := 8, ground := Ground.data }, { on := 0, ground := Ground.phase }, { on := 1, ground := Ground.phase }, { on := 2, ground := Ground.phase }, { on := 3, ground := Ground.phase }, { on := 4, ground := Ground.phase }, { on := 5, ground := Ground.phase }, { on := 6, ground := Ground.phase }, { on := 7, ground := Ground.textOnly Departure.lateStoresUnsure }], guard := none }) (v := ?rgv6) rfl (by kernel_rfl) (by kernel_rfl) (by kernel_rfl) (fun _ _ _ h => h) (by rfl) (fun w hSw => ?rgy6) hHeld ?_
      case rgy6 => (try dsimp only at hSw); first | (go_simp; done) | (go_simp; with_reducible rfl)
      try simp only [Act.put, List.setIfInBounds_toArray, List.set_cons_zero, List.set_cons_succ]
      refine wpAnyH_ready (rs := [7]) (by kernel_rfl) (by simp) ?_
      refine (AllReadyH.cons (o := { dst := some 10, op := Op.call { callee := Callee.value (Operand.func 57), args := #[Operand.tmp 9], argTypes := #[27] }, type := 27, pos := "tlspeek.go:83", after := #[{ on := 6, ground := Ground.data }, { on := 3, ground := Ground.chain }], guard := none }) rfl (fun K hK => ?_) AllReadyH.nil)
      go_simp
      refine (c2 _ HT.out).mono ?_
      rintro e W4 ⟨vv', rfl, ho1, hs1⟩
      replace HOB := Lib.hid (ho1.lower (B' := g + 2) (by have := blk_lt HB2.out; omega))
      obtain ⟨A4, p4, rfl, -⟩ := ho1.form
      replace HT := Lib.hid (HT.out.trans hs1)
      replace HB1 := Lib.hid (hs1.blk HB1.out id)
      replace HB2 := Lib.hid (hs1.blk HB2.out id)
      replace HOA := Lib.hid (HOA.out.stp0 hs1)
      clear hs1 ho1
      show K _ _
      clear hHeld
      refine hK.out _ _ (trivial) (fun hHeld => ?_)
      clear hK K
      try simp only [Act.put, List.setIfInBounds_toArray, List.set_cons_zero, List.set_cons_succ]
      refine wpAnyH_ready (rs := [10]) (by kernel_rfl) (by simp) ?_
      refine (AllReadyH.cons (o := { dst := none, op := Op.store 26 (Operand.tmp 12) (Operand.tmp 6), type := 0, pos := "tlspeek.go:83", after := #[{ on := 9, ground := Ground.data }, { on := 3, ground := Ground.data }, { on := 7, ground := Ground.chain }, { on := 0, ground := Ground.phase }, { on := 1, ground := Ground.phase }, { on := 2, ground := Ground.phase }, { on := 3, ground := Ground.phase }, { on := 4, ground := Ground.phase }, { on := 5, ground := Ground.phase }, { on := 6, ground := Ground.phase }, { on := 7, ground := Ground.textOnly Departure.lateStoresUnsure }], guard := none }) rfl (fun K hK => ?_) AllReadyH.nil)
      have hk8 := blk_cell (j := 8) HB1.out
      have hf8 := blk_free HB1.out 8
      have hlt := blk_lt HB1.out
      simp [ovC] at hk8
      go_simp
      have p5 := (Stp.refl (fun k => k = g) W4).setg 8 (.slice A3 al.length p3)
      have b5 := blk_set HB1.out 8 (.slice A3 al.length p3)
      clear hk8 hf8 hlt
      generalize W4.setCell ⟨g, 8, none⟩ (.slice A3 al.length p3) = W5 at p5 b5 ⊢
      replace HT := Lib.hid (HT.out.then_ p5 (fun k hk h => by have := HGW.out; omega))
      replace HB1 := Lib.hid b5
      replace HB2 := Lib.hid (p5.blk HB2.out (by omega))
      replace HOA := Lib.hid (HOA.out.step p5 (fun k hk h => by have := (HOA.out.lt k hk).1; omega))
      replace HOB := Lib.hid (HOB.out.step p5 (fun k hk h => by have := (HOB.out.lt k hk).1; omega))
      clear p5 b5
      show K _ _
      clear hHeld
      refine hK.out _ _ (trivial) (fun hHeld => ?_)
      clear hK K
      try simp only [Act.put, List.setIfInBounds_toArray, List.set_cons_zero, List.set_cons_succ]
      refine rg_take (i := 11) (o := { dst := some 13, op := Op.fieldAddr 31 (Operand.tmp 1) 6, type := 0, pos := "tlspeek.go:83", after := #[{ on := 0, ground := Ground.phase }, { on := 1, ground := Ground.phase }, { on := 2, ground := Ground.phase }, { on := 3, ground := Ground.phase }, { on := 4, ground := Ground.phase }, { on := 5, ground := Ground.phase }, { on := 6, ground := Ground.phase }, { on := 7, ground := Ground.phase }, { on := 8, ground := Ground.phase }, { on := 9, ground := Ground.phase }, { on := 10, ground := Ground.phase }], guard := none }) (v := ?rgv7) rfl (by kernel_rfl) (by kernel_rfl) (by kernel_rfl) (fun _ _ _ h => h) (by rfl) (fun w hSw => ?rgy7) hHeld ?_
      case rgy7 => (try dsimp only at hSw); first | (go_simp; done) | (go_simp; with_reducible rfl)
      try simp only [Act.put, List.setIfInBounds_toArray, List.set_cons_zero, List.set_cons_succ]
      refine rg_take (i := 12) (o := { dst := some 14, op := Op.fieldAddr 29 (Operand.tmp 13) 3, type := 0, pos := "tlspeek.go:83", after := #[{ on := 11, ground := Ground.data }, { on := 0, ground := Ground.phase }, { on := 1, ground := Ground.phase }, { on := 2, ground := Ground.phase }, { on := 3, ground := Ground.phase }, { on := 4, ground := Ground.phase }, { on := 5, ground := Ground.phase }, { on := 6, ground := Ground.phase }, { on := 7, ground := Ground.phase }, { on := 8, ground := Ground.phase }, { on := 9, ground := Ground.phase }, { on := 10, ground := Ground.phase }], guard := none }) (v := ?rgv8) rfl (by kernel_rfl) (by kernel_rfl) (by kernel_rfl) (fun _ _ _ h => h) (by rfl) (fun w hSw => ?rgy8) hHeld ?_
      case rgy8 => (try dsimp only at hSw); first | (go_simp; done) | (go_simp; with_reducible rfl)
      try simp only [Act.put, List.setIfInBounds_toArray, List.set_cons_zero, List.set_cons_succ]
      refine wpAnyH_ready (rs := [13]) (by kernel_rfl) (by simp) ?_
      refine (AllReadyH.cons (o := { dst := none, op := Op.store 27 (Operand.tmp 14) (Operand.tmp 10), type := 0, pos := "tlspeek.go:83", after := #[{ on := 12, ground := Ground.data }, { on := 7, ground := Ground.data }, { on := 10, ground := Ground.chain }, { on := 0, ground := Ground.phase }, { on := 1, ground := Ground.phase }, { on := 2, ground := Ground.phase }, { on := 3, ground := Ground.phase }, { on := 4, ground := Ground.phase }, { on := 5, ground := Ground.phase }, { on := 6, ground := Ground.phase }, { on := 7, ground := Ground.phase }, { on := 8, ground := Ground.phase }, { on := 9, ground := Ground.phase }, { on := 10, ground := Ground.phase }], guard := none }) rfl (fun K hK => ?_) AllReadyH.nil)
      have hk9 := blk_cell (j := 9) HB1.out
      have hf9 := blk_free HB1.out 9
      have hlt := blk_lt HB1.out
      simp [ovC] at hk9
      go_simp
      have p5 := (Stp.refl (fun k => k = g) W5).setg 9 (.slice A4 vs.length p4)
      have b5 := blk_set HB1.out 9 (.slice A4 vs.length p4)
      clear hk9 hf9 hlt
      generalize W5.setCell ⟨g, 9, none⟩ (.slice A4 vs.length p4) = W6 at p5 b5 ⊢
      replace HT := Lib.hid (HT.out.then_ p5 (fun k hk h => by have := HGW.out; omega))
      replace HB1 := Lib.hid (show W6.heap[g]? = some (.cells (ovC st u rs H has nm (.slice A3 al.length p3) (.slice A4 vs.length p4) ec) 31 (0, 0)) from b5)
      replace HB2 := Lib.hid (p5.blk HB2.out (by omega))
      replace HOA := Lib.hid (HOA.out.step p5 (fun k hk h => by have := (HOA.out.lt k hk).1; omega))
      replace HOB := Lib.hid (HOB.out.step p5 (fun k hk h => by have := (HOB.out.lt k hk).1; omega))
      clear p5 b5
      show K _ _
      clear hHeld
      refine hK.out _ _ (trivial) (fun hHeld => ?_)
      clear hK K
      try simp only [Act.put, List.setIfInBounds_toArray, List.set_cons_zero, List.set_cons_succ]
      clear hHeld
      refine wpAnyH_done (by kernel_rfl) ?_ _
      go_wp2_with (with_reducible refine stop (N := 15) rfl ?_)
      refine Stop.go ?_
      refine wpList_load_row rfl _ _ rfl g rfl _ _ (0, 0) _ HB1.out Tryz.underlying31 rfl size_vd ?_
      refine wpList_store_row rfl _ _ _ rfl (g + 1) _ rfl rfl _ vd0 HB2.out size_vd rfl (by simp [ovC, Value.oneCell']) ?_
      have HR8 := Lib.hid (row_blk HB2.out (ovC st u rs H has nm (.slice A3 al.length p3) (.slice A4 vs.length p4) ec))
      have hs8 := (Stp.refl (fun k => k = g + 1) W6).rowA (g := g + 1) (fun _ => rfl) (ovC st u rs H has nm (.slice A3 al.length p3) (.slice A4 vs.length p4) ec)
      replace HOA := Lib.hid (HOA.out.step hs8 (fun k hk h => by have := (HOA.out.lt k hk).1; omega))
      replace HOB := Lib.hid (HOB.out.step hs8 (fun k hk h => by have := (HOB.out.lt k hk).1; omega))
      replace HT := Lib.hid (HT.out.then_ hs8 (fun k hk h => by have := HGW.out; omega))
      clear hs8
      go_wp2
      refine bodyPost_ret (results_cell_row rfl _ _ (g + 1) _ _ _ _ rfl HR8.out Tryz.underlying31 rfl size_vd) rfl ?_
      rw [HR.out]
      refine ⟨.slice A3 al.length p3, .slice A4 vs.length p4, ?_, HOA.out.lower (by have := HGW.out; omega), HOB.out.lower (by have := HGW.out; omega), HT.out⟩
      rw [HH.out]
      rfl
    · skip
      obtain ⟨W2, rfl⟩ : ∃ W : World, W = W1 := ⟨_, rfl⟩
      have hk9 := blk_cell (j := 9) HB1.out
      have hlt := blk_lt HB1.out
      simp [ovC] at hk9
      go_simp
      clear hk9 hlt
      show K _ _
      clear hHeld
      refine hK.out _ _ (trivial) (fun hHeld => ?_)
      clear hK K
      try simp only [Act.put, List.setIfInBounds_toArray, List.set_cons_zero, List.set_cons_succ]
      refine wpAnyH_ready (rs := [3]) (by kernel_rfl) (by simp) ?_
      refine (AllReadyH.cons (o := { dst := some 6, op := Op.call { callee := Callee.value (Operand.func 56), args := #[Operand.tmp 5], argTypes := #[26] }, type := 26, pos := "tlspeek.go:83", after := #[{ on := 2, ground := Ground.data }], guard := none }) rfl (fun K hK => ?_) AllReadyH.nil)
      go_simp
      refine (c1 _ HT.out).mono ?_
      rintro e W3 ⟨va', rfl, ho1, hs1⟩
      replace HOA := Lib.hid (ho1.lower (B' := g + 2) (by have := blk_lt HB2.out; omega))
      obtain ⟨A3, p3, rfl, -⟩ := ho1.form
      replace HT := Lib.hid (HT.out.trans hs1)
      replace HB1 := Lib.hid (hs1.blk HB1.out id)
      replace HB2 := Lib.hid (hs1.blk HB2.out id)
      clear hs1 ho1
      show K _ _
      clear hHeld
      refine hK.out _ _ (trivial) (fun hHeld => ?_)
      clear hK K
      try simp only [Act.put, List.setIfInBounds_toArray, List.set_cons_zero, List.set_cons_succ]
      refine rg_take (i := 8) (o := { dst := some 11, op := Op.fieldAddr 31 (Operand.tmp 1) 6, type := 0, pos := "tlspeek.go:83", after := #[{ on := 0, ground := Ground.phase }, { on := 1, ground := Ground.phase }, { on := 2, ground := Ground.phase }, { on := 3, ground := Ground.phase }, { on := 4, ground := Ground.phase }, { on := 5, ground := Ground.phase }, { on := 6, ground := Ground.phase }, { on := 7, ground := Ground.textOnly Departure.lateStoresUnsure }], guard := none }) (v := ?rgv9) rfl (by kernel_rfl) (by kernel_rfl) (by kernel_rfl) (fun _ _ _ h => h) (by rfl) (fun w hSw => ?rgy9) hHeld ?_
      case rgy9 => (try dsimp only at hSw); first | (go_simp; done) | (go_simp; with_reducible rfl)
      try simp only [Act.put, List.setIfInBounds_toArray, List.set_cons_zero, List.set_cons_succ]
      refine rg_take (i := 9) (o := { dst := some 12, op := Op.fieldAddr 29 (Operand.tmp 11) 2, type := 0, pos := "tlspeek.go:83", after := #[{ on := 8, ground := Ground.data }, { on := 0, ground := Ground.phase }, { on := 1, ground := Ground.phase }, { on := 2, ground := Ground.phase }, { on := 3, ground := Ground.phase }, { on := 4, ground := Ground.phase }, { on := 5, ground := Ground.phase }, { on := 6, ground := Ground.phase }, { on := 7, ground := Ground.textOnly Departure.lateStoresUnsure }], guard := none }) (v := ?rgv10) rfl (by kernel_rfl) (by kernel_rfl) (by kernel_rfl) (fun _ _ _ h => h) (by rfl) (fun w hSw => ?rgy10) hHeld ?_
      case rgy10 => (try dsimp only at hSw); first | (go_simp; done) | (go_simp; with_reducible rfl)
      try simp only [Act.put, List.setIfInBounds_toArray, List.set_cons_zero, List.set_cons_succ]
      refine wpAnyH_ready (rs := [7]) (by kernel_rfl) (by simp) ?_
      refine (AllReadyH.cons (o := { dst := some 10, op := Op.call { callee := Callee.value (Operand.func 57), args := #[Operand.tmp 9], argTypes := #[27] }, type := 27, pos := "tlspeek.go:83", after := #[{ on := 6, ground := Ground.data }, { on := 3, ground := Ground.chain }], guard := none }) rfl (fun K hK => ?_) AllReadyH.nil)
      go_simp
      refine (c2 _ HT.out).mono ?_
      rintro e W4 ⟨vv', rfl, ho1, hs1⟩
      replace HOB := Lib.hid (ho1.lower (B' := g + 2) (by have := blk_lt HB2.out; omega))
      obtain ⟨A4, p4, rfl, -⟩ := ho1.form
      replace HT := Lib.hid (HT.out.trans hs1)
      replace HB1 := Lib.hid (hs1.blk HB1.out id)
      replace HB2 := Lib.hid (hs1.blk HB2.out id)
      replace HOA := Lib.hid (HOA.out.stp0 hs1)
      clear hs1 ho1
      show K _ _
      clear hHeld
      refine hK.out _ _ (trivial) (fun hHeld => ?_)
      clear hK K
      try simp only [Act.put, List.setIfInBounds_toArray, List.set_cons_zero, List.set_cons_succ]
      refine wpAnyH_ready (rs := [10]) (by kernel_rfl) (by simp) ?_
      refine (AllReadyH.cons (o := { dst := none, op := Op.store 26 (Operand.tmp 12) (Operand.tmp 6), type := 0, pos := "tlspeek.go:83", after := #[{ on := 9, ground := Ground.data }, { on := 3, ground := Ground.data }, { on := 7, ground := Ground.chain }, { on := 0, ground := Ground.phase }, { on := 1, ground := Ground.phase }, { on := 2, ground := Ground.phase }, { on := 3, ground := Ground.phase }, { on := 4, ground := Ground.phase }, { on := 5, ground := Ground.phase }, { on := 6, ground := Ground.phase }, { on := 7, ground := Ground.textOnly Departure.lateStoresUnsure }], guard := none }) rfl (fun K hK => ?_) AllReadyH.nil)
      have hk8 := blk_cell (j := 8) HB1.out
      have hf8 := blk_free HB1.out 8
      have hlt := blk_lt HB1.out
      simp [ovC] at hk8
      go_simp
      have p5 := (Stp.refl (fun k => k = g) W4).setg 8 (.slice A3 al.length p3)
      have b5 := blk_set HB1.out 8 (.slice A3 al.length p3)
      clear hk8 hf8 hlt
      generalize W4.setCell ⟨g, 8, none⟩ (.slice A3 al.length p3) = W5 at p5 b5 ⊢
      replace HT := Lib.hid (HT.out.then_ p5 (fun k hk h => by have := HGW.out; omega))
      replace HB1 := Lib.hid b5
      replace HB2 := Lib.hid (p5.blk HB2.out (by omega))
      replace HOA := Lib.hid (HOA.out.step p5 (fun k hk h => by have := (HOA.out.lt k hk).1; omega))
      replace HOB := Lib.hid (HOB.out.step p5 (fun k hk h => by have := (HOB.out.lt k hk).1; omega))
      clear p5 b5
      show K _ _
      clear hHeld
      refine hK.out _ _ (trivial) (fun hHeld => ?_)
      clear hK K
      try simp only [Act.put, List.setIfInBounds_toArray, List.set_cons_zero, List.set_cons_succ]
      refine rg_take (i := 11) (o := { dst := some 13, op := Op.fieldAddr 31 (Operand.tmp 1) 6, type := 0, pos := "tlspeek.go:83", after := #[{ on := 0, ground := Ground.phase }, { on := 1, ground := Ground.phase }, { on := 2, ground := Ground.phase }, { on := 3, ground := Ground.phase }, { on := 4, ground := Ground.phase }, { on := 5, ground := Ground.phase }, { on := 6, ground := Ground.phase }, { on := 7, ground := Ground.phase }, { on := 8, ground := Ground.phase }, { on := 9, ground := Ground.phase }, { on := 10, ground := Ground.phase }], guard := none }) (v := ?rgv11) rfl (by kernel_rfl) (by kernel_rfl) (by kernel_rfl) (fun _ _ _ h => h) (by rfl) (fun w hSw => ?rgy11) hHeld ?_
      case rgy11 => (try dsimp only at hSw); first | (go_simp; done) | (go_simp; with_reducible rfl)
      try simp only [Act.put, List.setIfInBounds_toArray, List.set_cons_zero, List.set_cons_succ]
      refine rg_take (i := 12) (o := { dst := some 14, op := Op.fieldAddr 29 (Operand.tmp 13) 3, type := 0, pos := "tlspeek.go:83", after := #[{ on := 11, ground := Ground.data }, { on := 0, ground := Ground.phase }, { on := 1, ground := Ground.phase }, { on := 2, ground := Ground.phase }, { on := 3, ground := Ground.phase }, { on := 4, ground := Ground.phase }, { on := 5, ground := Ground.phase }, { on := 6, ground := Ground.phase }, { on := 7, ground := Ground.phase }, { on := 8, ground := Ground.phase }, { on := 9, ground := Ground.phase }, { on := 10, ground := Ground.phase }], guard := none }) (v := ?rgv12) rfl (by kernel_rfl) (by kernel_rfl) (by kernel_rfl) (fun _ _ _ h => h) (by rfl) (fun w hSw => ?rgy12) hHeld ?_
      case rgy12 => (try dsimp only at hSw); first | (go_simp; done) | (go_simp; with_reducible rfl)
      try simp only [Act.put, List.setIfInBounds_toArray, List.set_cons_zero, List.set_cons_succ]
      refine wpAnyH_ready (rs := [13]) (by kernel_rfl) (by simp) ?_
      refine (AllReadyH.cons (o := { dst := none, op := Op.store 27 (Operand.tmp 14) (Operand.tmp 10), type := 0, pos := "tlspeek.go:83", after := #[{ on := 12, ground := Ground.data }, { on := 7, ground := Ground.data }, { on := 10, ground := Ground.chain }, { on := 0, ground := Ground.phase }, { on := 1, ground := Ground.phase }, { on := 2, ground := Ground.phase }, { on := 3, ground := Ground.phase }, { on := 4, ground := Ground.phase }, { on := 5, ground := Ground.phase }, { on := 6, ground := Ground.phase }, { on := 7, ground := Ground.phase }, { on := 8, ground := Ground.phase }, { on := 9, ground := Ground.phase }, { on := 10, ground := Ground.phase }], guard := none }) rfl (fun K hK => ?_) AllReadyH.nil)
      have hk9 := blk_cell (j := 9) HB1.out
      have hf9 := blk_free HB1.out 9
      have hlt := blk_lt HB1.out
      simp [ovC] at hk9
      go_simp
      have p5 := (Stp.refl (fun k => k = g) W5).setg 9 (.slice A4 vs.length p4)
      have b5 := blk_set HB1.out 9 (.slice A4 vs.length p4)
      clear hk9 hf9 hlt
      generalize W5.setCell ⟨g, 9, none⟩ (.slice A4 vs.length p4) = W6 at p5 b5 ⊢
      replace HT := Lib.hid (HT.out.then_ p5 (fun k hk h => by have := HGW.out; omega))
      replace HB1 := Lib.hid (show W6.heap[g]? = some (.cells (ovC st u rs H has nm (.slice A3 al.length p3) (.slice A4 vs.length p4) ec) 31 (0, 0)) from b5)
      replace HB2 := Lib.hid (p5.blk HB2.out (by omega))
      replace HOA := Lib.hid (HOA.out.step p5 (fun k hk h => by have := (HOA.out.lt k hk).1; omega))
      replace HOB := Lib.hid (HOB.out.step p5 (fun k hk h => by have := (HOB.out.lt k hk).1; omega))
      clear p5 b5
      show K _ _
      clear hHeld
      refine hK.out _ _ (trivial) (fun hHeld => ?_)
      clear hK K
      try simp only [Act.put, List.setIfInBounds_toArray, List.set_cons_zero, List.set_cons_succ]
      clear hHeld
      refine wpAnyH_done (by kernel_rfl) ?_ _
      go_wp2_with (with_reducible refine stop (N := 15) rfl ?_)
      refine Stop.go ?_
      refine wpList_load_row rfl _ _ rfl g rfl _ _ (0, 0) _ HB1.out Tryz.underlying31 rfl size_vd ?_
      refine wpList_store_row rfl _ _ _ rfl (g + 1) _ rfl rfl _ vd0 HB2.out size_vd rfl (by simp [ovC, Value.oneCell']) ?_
      have HR8 := Lib.hid (row_blk HB2.out (ovC st u rs H has nm (.slice A3 al.length p3) (.slice A4 vs.length p4) ec))
      have hs8 := (Stp.refl (fun k => k = g + 1) W6).rowA (g := g + 1) (fun _ => rfl) (ovC st u rs H has nm (.slice A3 al.length p3) (.slice A4 vs.length p4) ec)
      replace HOA := Lib.hid (HOA.out.step hs8 (fun k hk h => by have := (HOA.out.lt k hk).1; omega))
      replace HOB := Lib.hid (HOB.out.step hs8 (fun k hk h => by have := (HOB.out.lt k hk).1; omega))
      replace HT := Lib.hid (HT.out.then_ hs8 (fun k hk h => by have := HGW.out; omega))
      clear hs8
      go_wp2
      refine bodyPost_ret (results_cell_row rfl _ _ (g + 1) _ _ _ _ rfl HR8.out Tryz.underlying31 rfl size_vd) rfl ?_
      rw [HR.out]
      refine ⟨.slice A3 al.length p3, .slice A4 vs.length p4, ?_, HOA.out.lower (by have := HGW.out; omega), HOB.out.lower (by have := HGW.out; omega), HT.out⟩
      rw [HH.out]
      rfl
  · skip
    obtain ⟨W1, rfl⟩ : ∃ W : World, W = W0 := ⟨_, rfl⟩
    have hk9 := blk_cell (j := 9) HB1.out
    have hlt := blk_lt HB1.out
    simp [ovC] at hk9
    go_simp
    clear hk9 hlt
    show K _ _
    clear hHeld
    refine hK.out _ _ (trivial) (fun hHeld => ?_)
    clear hK K
    try simp only [Act.put, List.setIfInBounds_toArray, List.set_cons_zero, List.set_cons_succ]
    refine wpAnyH_ready (rs := [2]) (by kernel_rfl) (by simp) ?_
    refine (AllReadyH.cons (o := { dst := some 5, op := Op.load 26 (Operand.tmp 4), type := 26, pos := "tlspeek.go:83", after := #[{ on := 1, ground := Ground.data }], guard := none }) rfl (fun K hK => ?_) AllReadyH.nil)
    obtain ⟨W2, rfl⟩ : ∃ W : World, W = W1 := ⟨_, rfl⟩
    have hk8 := blk_cell (j := 8) HB1.out
    have hlt := blk_lt HB1.out
    simp [ovC] at hk8
    go_simp
    clear hk8 hlt
    show K _ _
    clear hHeld
    refine hK.out _ _ (trivial) (fun hHeld => ?_)
    clear hK K
    try simp only [Act.put, List.setIfInBounds_toArray, List.set_cons_zero, List.set_cons_succ]
    refine wpAnyH_ready (rs := [3]) (by kernel_rfl) (by simp) ?_
    refine (AllReadyH.cons (o := { dst := some 6, op := Op.call { callee := Callee.value (Operand.func 56), args := #[Operand.tmp 5], argTypes := #[26] }, type := 26, pos := "tlspeek.go:83", after := #[{ on := 2, ground := Ground.data }], guard := none }) rfl (fun K hK => ?_) AllReadyH.nil)
    go_simp
    refine (c1 _ HT.out).mono ?_
    rintro e W3 ⟨va', rfl, ho1, hs1⟩
    replace HOA := Lib.hid (ho1.lower (B' := g + 2) (by have := blk_lt HB2.out; omega))
    obtain ⟨A3, p3, rfl, -⟩ := ho1.form
    replace HT := Lib.hid (HT.out.trans hs1)
    replace HB1 := Lib.hid (hs1.blk HB1.out id)
    replace HB2 := Lib.hid (hs1.blk HB2.out id)
    clear hs1 ho1
    show K _ _
    clear hHeld
    refine hK.out _ _ (trivial) (fun hHeld => ?_)
    clear hK K
    try simp only [Act.put, List.setIfInBounds_toArray, List.set_cons_zero, List.set_cons_succ]
    refine rg_take (i := 8) (o := { dst := some 11, op := Op.fieldAddr 31 (Operand.tmp 1) 6, type := 0, pos := "tlspeek.go:83", after := #[{ on := 0, ground := Ground.phase }, { on := 1, ground := Ground.phase }, { on := 2, ground := Ground.phase }, { on := 3, ground := Ground.phase }, { on := 4, ground := Ground.phase }, { on := 5, ground := Ground.phase }, { on := 6, ground := Ground.phase }, { on := 7, ground := Ground.textOnly Departure.lateStoresUnsure }], guard := none }) (v := ?rgv13) rfl (by kernel_rfl) (by kernel_rfl) (by kernel_rfl) (fun _ _ _ h => h) (by rfl) (fun w hSw => ?rgy13) hHeld ?_
    case rgy13 => (try dsimp only at hSw); first | (go_simp; done) | (go_simp; with_reducible rfl)
    try simp only [Act.put, List.setIfInBounds_toArray, List.set_cons_zero, List.set_cons_succ]
    refine rg_take (i := 9) (o := { dst := some 12, op := Op.fieldAddr 29 (Operand.tmp 11) 2, type := 0, pos := "tlspeek.go:83", after := #[{ on := 8, ground := Ground.data }, { on := 0, ground := Ground.phase }, { on := 1, ground := Ground.phase }, { on := 2, ground := Ground.phase }, { on := 3, ground := Ground.phase }, { on := 4, ground := Ground.phase }, { on := 5, ground := Ground.phase }, { on := 6, ground := Ground.phase }, { on := 7, ground := Ground.textOnly Departure.lateStoresUnsure }], guard := none }) (v := ?rgv14) rfl (by kernel_rfl) (by kernel_rfl) (by kernel_rfl) (fun _ _ _ h => h) (by rfl) (fun w hSw => ?rgy14) hHeld ?_
    case rgy14 => (try dsimp only at hSw); first | (go_simp; done) | (go_simp; with_reducible rfl)
    try simp only [Act.put, List.setIfInBounds_toArray, List.set_cons_zero, List.set_cons_succ]
    refine wpAnyH_ready (rs := [7]) (by kernel_rfl) (by simp) ?_
    refine (AllReadyH.cons (o := { dst := some 10, op := Op.call { callee := Callee.value (Operand.func 57), args := #[Operand.tmp 9], argTypes := #[27] }, type := 27, pos := "tlspeek.go:83", after := #[{ on := 6, ground := Ground.data }, { on := 3, ground := Ground.chain }], guard := none }) rfl (fun K hK => ?_) AllReadyH.nil)
    go_simp
    refine (c2 _ HT.out).mono ?_
    rintro e W4 ⟨vv', rfl, ho1, hs1⟩
    replace HOB := Lib.hid (ho1.lower (B' := g + 2) (by have := blk_lt HB2.out; omega))
    obtain ⟨A4, p4, rfl, -⟩ := ho1.form
    replace HT := Lib.hid (HT.out.trans hs1)
    replace HB1 := Lib.hid (hs1.blk HB1.out id)
    replace HB2 := Lib.hid (hs1.blk HB2.out id)
    replace HOA := Lib.hid (HOA.out.stp0 hs1)
    clear hs1 ho1
    show K _ _
    clear hHeld
    refine hK.out _ _ (trivial) (fun hHeld => ?_)
    clear hK K
    try simp only [Act.put, List.setIfInBounds_toArray, List.set_cons_zero, List.set_cons_succ]
    refine wpAnyH_ready (rs := [10]) (by kernel_rfl) (by simp) ?_
    refine (AllReadyH.cons (o := { dst := none, op := Op.store 26 (Operand.tmp 12) (Operand.tmp 6), type := 0, pos := "tlspeek.go:83", after := #[{ on := 9, ground := Ground.data }, { on := 3, ground := Ground.data }, { on := 7, ground := Ground.chain }, { on := 0, ground := Ground.phase }, { on := 1, ground := Ground.phase }, { on := 2, ground := Ground.phase }, { on := 3, ground := Ground.phase }, { on := 4, ground := Ground.phase }, { on := 5, ground := Ground.phase }, { on := 6, ground := Ground.phase }, { on := 7, ground := Ground.textOnly Departure.lateStoresUnsure }], guard := none }) rfl (fun K hK => ?_) AllReadyH.nil)
    have hk8 := blk_cell (j := 8) HB1.out
    have hf8 := blk_free HB1.out 8
    have hlt := blk_lt HB1.out
    simp [ovC] at hk8
    go_simp
    have p5 := (Stp.refl (fun k => k = g) W4).setg 8 (.slice A3 al.length p3)
    have b5 := blk_set HB1.out 8 (.slice A3 al.length p3)
    clear hk8 hf8 hlt
    generalize W4.setCell ⟨g, 8, none⟩ (.slice A3 al.length p3) = W5 at p5 b5 ⊢
    replace HT := Lib.hid (HT.out.then_ p5 (fun k hk h => by have := HGW.out; omega))
    replace HB1 := Lib.hid b5
    replace HB2 := Lib.hid (p5.blk HB2.out (by omega))
    replace HOA := Lib.hid (HOA.out.step p5 (fun k hk h => by have := (HOA.out.lt k hk).1; omega))
    replace HOB := Lib.hid (HOB.out.step p5 (fun k hk h => by have := (HOB.out.lt k hk).1; omega))
    clear p5 b5
    show K _ _
    clear hHeld
    refine hK.out _ _ (trivial) (fun hHeld => ?_)
    clear hK K
    try simp only [Act.put, List.setIfInBounds_toArray, List.set_cons_zero, List.set_cons_succ]
    refine rg_take (i := 11) (o := { dst := some 13, op := Op.fieldAddr 31 (Operand.tmp 1) 6, type := 0, pos := "tlspeek.go:83", after := #[{ on := 0, ground := Ground.phase }, { on := 1, ground := Ground.phase }, { on := 2, ground := Ground.phase }, { on := 3, ground := Ground.phase }, { on := 4, ground := Ground.phase }, { on := 5, ground := Ground.phase }, { on := 6, ground := Ground.phase }, { on := 7, ground := Ground.phase }, { on := 8, ground := Ground.phase }, { on := 9, ground := Ground.phase }, { on := 10, ground := Ground.phase }], guard := none }) (v := ?rgv15) rfl (by kernel_rfl) (by kernel_rfl) (by kernel_rfl) (fun _ _ _ h => h) (by rfl) (fun w hSw => ?rgy15) hHeld ?_
    case rgy15 => (try dsimp only at hSw); first | (go_simp; done) | (go_simp; with_reducible rfl)
    try simp only [Act.put, List.setIfInBounds_toArray, List.set_cons_zero, List.set_cons_succ]
    refine rg_take (i := 12) (o := { dst := some 14, op := Op.fieldAddr 29 (Operand.tmp 13) 3, type := 0, pos := "tlspeek.go:83", after := #[{ on := 11, ground := Ground.data }, { on := 0, ground := Ground.phase }, { on := 1, ground := Ground.phase }, { on := 2, ground := Ground.phase }, { on := 3, ground := Ground.phase }, { on := 4, ground := Ground.phase }, { on := 5, ground := Ground.phase }, { on := 6, ground := Ground.phase }, { on := 7, ground := Ground.phase }, { on := 8, ground := Ground.phase }, { on := 9, ground := Ground.phase }, { on := 10, ground := Ground.phase }], guard := none }) (v := ?rgv16) rfl (by kernel_rfl) (by kernel_rfl) (by kernel_rfl) (fun _ _ _ h => h) (by rfl) (fun w hSw => ?rgy16) hHeld ?_
    case rgy16 => (try dsimp only at hSw); first | (go_simp; done) | (go_simp; with_reducible rfl)
    try simp only [Act.put, List.setIfInBounds_toArray, List.set_cons_zero, List.set_cons_succ]
    refine wpAnyH_ready (rs := [13]) (by kernel_rfl) (by simp) ?_
    refine (AllReadyH.cons (o := { dst := none, op := Op.store 27 (Operand.tmp 14) (Operand.tmp 10), type := 0, pos := "tlspeek.go:83", after := #[{ on := 12, ground := Ground.data }, { on := 7, ground := Ground.data }, { on := 10, ground := Ground.chain }, { on := 0, ground := Ground.phase }, { on := 1, ground := Ground.phase }, { on := 2, ground := Ground.phase }, { on := 3, ground := Ground.phase }, { on := 4, ground := Ground.phase }, { on := 5, ground := Ground.phase }, { on := 6, ground := Ground.phase }, { on := 7, ground := Ground.phase }, { on := 8, ground := Ground.phase }, { on := 9, ground := Ground.phase }, { on := 10, ground := Ground.phase }], guard := none }) rfl (fun K hK => ?_) AllReadyH.nil)
    have hk9 := blk_cell (j := 9) HB1.out
    have hf9 := blk_free HB1.out 9
    have hlt := blk_lt HB1.out
    simp [ovC] at hk9
    go_simp
    have p5 := (Stp.refl (fun k => k = g) W5).setg 9 (.slice A4 vs.length p4)
    have b5 := blk_set HB1.out 9 (.slice A4 vs.length p4)
    clear hk9 hf9 hlt
    generalize W5.setCell ⟨g, 9, none⟩ (.slice A4 vs.length p4) = W6 at p5 b5 ⊢
    replace HT := Lib.hid (HT.out.then_ p5 (fun k hk h => by have := HGW.out; omega))
    replace HB1 := Lib.hid (show W6.heap[g]? = some (.cells (ovC st u rs H has nm (.slice A3 al.length p3) (.slice A4 vs.length p4) ec) 31 (0, 0)) from b5)
    replace HB2 := Lib.hid (p5.blk HB2.out (by omega))
    replace HOA := Lib.hid (HOA.out.step p5 (fun k hk h => by have := (HOA.out.lt k hk).1; omega))
    replace HOB := Lib.hid (HOB.out.step p5 (fun k hk h => by have := (HOB.out.lt k hk).1; omega))
    clear p5 b5
    show K _ _
    clear hHeld
    refine hK.out _ _ (trivial) (fun hHeld => ?_)
    clear hK K
    try simp only [Act.put, List.setIfInBounds_toArray, List.set_cons_zero, List.set_cons_succ]
    clear hHeld
    refine wpAnyH_done (by kernel_rfl) ?_ _
    go_wp2_with (with_reducible refine stop (N := 15) rfl ?_)
    refine Stop.go ?_
    refine wpList_load_row rfl _ _ rfl g rfl _ _ (0, 0) _ HB1.out Tryz.underlying31 rfl size_vd ?_
    refine wpList_store_row rfl _ _ _ rfl (g + 1) _ rfl rfl _ vd0 HB2.out size_vd rfl (by simp [ovC, Value.oneCell']) ?_
    have HR8 := Lib.hid (row_blk HB2.out (ovC st u rs H has nm (.slice A3 al.length p3) (.slice A4 vs.length p4) ec))
    have hs8 := (Stp.refl (fun k => k = g + 1) W6).rowA (g := g + 1) (fun _ => rfl) (ovC st u rs H has nm (.slice A3 al.length p3) (.slice A4 vs.length p4) ec)
    replace HOA := Lib.hid (HOA.out.step hs8 (fun k hk h => by have := (HOA.out.lt k hk).1; omega))
    replace HOB := Lib.hid (HOB.out.step hs8 (fun k hk h => by have := (HOB.out.lt k hk).1; omega))
    replace HT := Lib.hid (HT.out.then_ hs8 (fun k hk h => by have := HGW.out; omega))
    clear hs8
    go_wp2
    refine bodyPost_ret (results_cell_row rfl _ _ (g + 1) _ _ _ _ rfl HR8.out Tryz.underlying31 rfl size_vd) rfl ?_
    rw [HR.out]
    refine ⟨.slice A3 al.length p3, .slice A4 vs.length p4, ?_, HOA.out.lower (by have := HGW.out; omega), HOB.out.lower (by have := HGW.out; omega), HT.out⟩
    rw [HH.out]
    rfl
end Go.Proofs.YtligofmhbbgalaaGreatDoor.L

/- Layers 15, 16: a verdict's eleven cells, written one by one. -/
namespace Go.Proofs.YtligofmhbbgalaaGreatDoor.L
open Go.RowKit Go.Proofs

theorem vd_set {w : World} {g : Nat} (h : w.heap[g]? = some (.cells vd0 31 (0, 0))) (v0 v1 v2 v3 v4 v5 v6 v7 v8 v9 v10 : Value) : (((((((((((w.setCell ⟨g, 0, none⟩ v0).setCell ⟨g, 1, none⟩ v1).setCell ⟨g, 2, none⟩ v2).setCell ⟨g, 3, none⟩ v3).setCell ⟨g, 4, none⟩ v4).setCell ⟨g, 5, none⟩ v5).setCell ⟨g, 6, none⟩ v6).setCell ⟨g, 7, none⟩ v7).setCell ⟨g, 8, none⟩ v8).setCell ⟨g, 9, none⟩ v9).setCell ⟨g, 10, none⟩ v10).heap[g]? = some (.cells #[v0, v1, v2, v3, v4, v5, v6, v7, v8, v9, v10] 31 (0, 0)) := by
  have h2 := (blk_set (blk_set (blk_set (blk_set (blk_set (blk_set (blk_set (blk_set (blk_set (blk_set (blk_set h 0 v0) 1 v1) 2 v2) 3 v3) 4 v4) 5 v5) 6 v6) 7 v7) 8 v8) 9 v9) 10 v10)
  simp only [vd0, List.setIfInBounds_toArray, List.set_cons_zero, List.set_cons_succ] at h2
  exact h2
theorem vd_stp (w : World) (g : Nat) (v0 v1 v2 v3 v4 v5 v6 v7 v8 v9 v10 : Value) : Stp (fun k => k = g) w (((((((((((w.setCell ⟨g, 0, none⟩ v0).setCell ⟨g, 1, none⟩ v1).setCell ⟨g, 2, none⟩ v2).setCell ⟨g, 3, none⟩ v3).setCell ⟨g, 4, none⟩ v4).setCell ⟨g, 5, none⟩ v5).setCell ⟨g, 6, none⟩ v6).setCell ⟨g, 7, none⟩ v7).setCell ⟨g, 8, none⟩ v8).setCell ⟨g, 9, none⟩ v9).setCell ⟨g, 10, none⟩ v10) := ((((((((((((Stp.refl (fun k => k = g) w).setg 0 v0).setg 1 v1).setg 2 v2).setg 3 v3).setg 4 v4).setg 5 v5).setg 6 v6).setg 7 v7).setg 8 v8).setg 9 v9).setg 10 v10)
end Go.Proofs.YtligofmhbbgalaaGreatDoor.L
