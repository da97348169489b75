/- Texts of the proof, joined: Te Tf Tg. -/
import Derived.Test.YtligofmhbbgalaaGreatDoorG20
import Derived.Deep.DeepCutAuto
import Derived.Deep.CutRange
import Derived.Deep.CutBlock
set_option linter.unusedVariables false
set_option linter.unusedSimpArgs false
/- Layer 15: one that looks at bytes: a whole message. -/
namespace Go.Proofs.YtligofmhbbgalaaGreatDoor.L
open Go.RowKit Go.Proofs

/-! ### a whole message -/
set_option maxRecDepth 100000 in
set_option maxHeartbeats 8000000 in
theorem tfinish_any (g gd gm u : Nat) (b : List UInt8) (w : World) (h : PtBlk w g gd gm u .open_ (.slice none 0 0) (.slice none 0 0)) (hm : MsB w gm b) (h4 : 4 ≤ b.length) (hb : b.length = 4 + msz b) (hl : b.length ≤ 100000) (he : EnvP w) :
    Calls Tryz.prog 28 #[.pointer (some ⟨g, 0, none⟩)] w (BaT w g (judgeT (b.drop 4)) u) := by
  obtain ⟨R, hR⟩ : ∃ R, R = BaT w g (judgeT (b.drop 4)) u := ⟨_, rfl⟩
  rw [← hR]
  have HR := Lib.hid hR
  have HV := Lib.hid he
  have HG := Lib.hid h
  have hlt := blk_lt h
  have c1 : w.cell? ⟨g, 1, none⟩ = some (.pointer (some ⟨gm, 0, none⟩)) := blk_cell (j := 1) h
  have cB := body_any gm b w hm h4 hb (by omega)
  have hdl : (b.drop 4).length = b.length - 4 := List.length_drop
  obtain ⟨x, hx⟩ : ∃ x, x = b.drop 4 := ⟨_, rfl⟩
  unfold BdP at cB
  rw [← hx] at cB hdl HR
  have cS := fun (vb : Value) (M : Nat → Prop) (W : World) (hW : Rd u8 M W vb x) (hE : EnvP W) => tsee_any M vb x W hW (by omega) hE
  have hJ := judgeT_see x
  have hsl : (seeT x).1.alpn.length ≤ 65535 ∧ (seeT x).1.vers.length ≤ 65535 := by
    have hz := seeS_len (parseS x).1.exs 65535 (parse_fit x).2
    unfold seeT
    split
    · exact ⟨Nat.zero_le _, Nat.zero_le _⟩
    · split
      · exact hz
      · exact hz
  obtain ⟨r, hr⟩ : ∃ r, r = seeT x := ⟨_, rfl⟩
  rw [← hr] at cS hJ hsl
  have HJ := Lib.hid hJ
  have HSL := Lib.hid hsl
  obtain ⟨⟨has, nm, al, vs, ec⟩, ho, er⟩ := r
  obtain ⟨H, hH⟩ : ∃ H, H = strB ho := ⟨_, rfl⟩
  unfold SeP at cS
  simp only [← hH] at cS
  have HH := Lib.hid hH
  clear h hm h4 hb hl he hdl hJ hr hR hsl hH hx
  go_enter Tryz.func28, Tryz.ntmps28
  go_wp2_with (go_at_call 55; refine stopc ?_)
  refine Stop.go ?_
  refine cB.mono ?_
  rintro e w1 ⟨vb, rfl, hrd, hs1⟩
  have HRD := Lib.hid hrd
  have HS1 := Lib.hid hs1
  obtain ⟨Ab, cb, rfl, -⟩ := hrd.form
  clear hrd hs1 cB c1
  go_wp2_with (go_at_call 54; refine stopc ?_)
  refine Stop.go ?_
  refine (cS _ _ _ HRD.out (HV.out.step HS1.out)).mono ?_
  rintro e w2 ⟨v2, rfl, hv2, hs2⟩
  have HS2 := Lib.hid (HS1.out.trans hs2)
  have HG2 := Lib.hid (HS2.out.blk HG.out id)
  obtain ⟨va, vv, rfl, h1, h2⟩ := hv2
  simp only at h1 h2
  have HV2 := Lib.hid (show VtR (fun k => k < w.heap.size ∨ w2.heap.size ≤ k) w2 ⟨1, 0, ho, ⟨has, nm, al, vs, ec⟩⟩ va vv from ⟨h1.weak (by decide) (fun k hk h => by have := HS1.out.size; omega), h2.weak (by decide) (fun k hk h => by have := HS1.out.size; omega), HSL.out⟩)
  obtain ⟨A1, p1, rfl, -⟩ := h1.form
  obtain ⟨A2, p2, rfl, -⟩ := h2.form
  have hlt2 := blk_lt HG2.out
  clear hs2 h1 h2 cS
  by_cases h0 : er = 0
  · subst h0
    have HJ2 : Hid (judgeT x = ⟨1, 0, ho, ⟨has, nm, al, vs, ec⟩⟩) := Lib.hid (by rw [HJ.out, if_neg (by simp)])
    go_wp2_with fail
    have hs3 : Stp (fun _ => False) w2 (w2.alloc (.cells #[.bool has, .string nm, .slice A1 al.length p1, .slice A2 vs.length p2, .bool ec] 29)) := (Stp.refl _ _).alloc _
    have hb3 := heap_alloc_new w2 (.cells #[.bool has, .string nm, .slice A1 al.length p1, .slice A2 vs.length p2, .bool ec] 29)
    have HS3 := Lib.hid (HS2.out.trans hs3)
    have HG3 := Lib.hid (hs3.blk HG2.out id)
    have HV3 := Lib.hid (HV2.out.stp0 hs3)
    generalize w2.alloc (.cells #[.bool has, .string nm, .slice A1 al.length p1, .slice A2 vs.length p2, .bool ec] 29) = w3 at hs3 hb3 HS3 HG3 HV3 ⊢
    obtain ⟨gs, hgs⟩ : ∃ gs, gs = w2.heap.size := ⟨_, rfl⟩
    have hz3 := hs3.size
    have hz0 := HS2.out.size
    rw [← hgs] at hb3 hlt2 HV3 hz3 hz0
    simp only [← hgs]
    have HB3 := Lib.hid hb3
    clear hgs hs3 hb3
    have hT0 : Stp (fun _ => False) w3 w3.drew := (Stp.refl _ _).drew
    refine wp_region_held_drew (S := (fun w' => w'.cell? ⟨g, 2, none⟩ = some (.int .i64 (u : Int)) ∧ w'.heap[gs]? = some (.cells #[.bool has, .string nm, .slice A1 al.length p1, .slice A2 vs.length p2, .bool ec] 29 (0, 0)))) (by kernel_rfl) (⟨blk_cell (j := 2) (hT0.blk HG3.out id), hT0.blk HB3.out id⟩) (fun hHeld => ?_)
    try (change wpAnyH _ _ _ _ _ _ _ _ (World.drew _))
    generalize w3.drew = W0 at hT0 hHeld ⊢
    have HT := Lib.hid hT0
    clear hT0
    refine rg_take (i := 0) (o := { dst := some 20, op := Op.move (Operand.tmp 0), type := 34, pos := "tlspeek.go:78", after := #[], guard := none }) (v := ?rgv1) rfl (by kernel_rfl) (by kernel_rfl) (by kernel_rfl) (fun _ _ _ h => h) (by rfl) (fun w hSw => ?rgy1) hHeld ?_
    case rgy1 => (try dsimp only at hSw); first | (go_simp; done) | (go_simp; with_reducible rfl)
    try simp only [Act.put, List.setIfInBounds_toArray, List.set_cons_zero, List.set_cons_succ]
    refine rg_take (i := 1) (o := { dst := some 21, op := Op.move (Operand.tmp 0), type := 34, pos := "tlspeek.go:78", after := #[], guard := none }) (v := ?rgv2) rfl (by kernel_rfl) (by kernel_rfl) (by kernel_rfl) (fun _ _ _ h => h) (by rfl) (fun w hSw => ?rgy2) hHeld ?_
    case rgy2 => (try dsimp only at hSw); first | (go_simp; done) | (go_simp; with_reducible rfl)
    try simp only [Act.put, List.setIfInBounds_toArray, List.set_cons_zero, List.set_cons_succ]
    refine rg_take (i := 2) (o := { dst := some 22, op := Op.nilCheck (Operand.tmp 21), type := 0, pos := "tlspeek.go:78", after := #[{ on := 1, ground := Ground.data }], guard := none }) (v := ?rgv3) rfl (by kernel_rfl) (by kernel_rfl) (by kernel_rfl) (fun _ _ _ h => h) (by rfl) (fun w hSw => ?rgy3) hHeld ?_
    case rgy3 => (try dsimp only at hSw); first | (go_simp; done) | (go_simp; with_reducible rfl)
    try simp only [Act.put, List.setIfInBounds_toArray, List.set_cons_zero, List.set_cons_succ]
    refine rg_take (i := 3) (o := { dst := some 23, op := Op.fieldAddr 50 (Operand.tmp 22) 2, type := 0, pos := "tlspeek.go:78", after := #[{ on := 2, ground := Ground.data }], guard := none }) (v := ?rgv4) rfl (by kernel_rfl) (by kernel_rfl) (by kernel_rfl) (fun _ _ _ h => h) (by rfl) (fun w hSw => ?rgy4) hHeld ?_
    case rgy4 => (try dsimp only at hSw); first | (go_simp; done) | (go_simp; with_reducible rfl)
    try simp only [Act.put, List.setIfInBounds_toArray, List.set_cons_zero, List.set_cons_succ]
    refine rg_take (i := 4) (o := { dst := some 24, op := Op.load 3 (Operand.tmp 23), type := 3, pos := "tlspeek.go:78", after := #[{ on := 3, ground := Ground.data }], guard := none }) (v := ?rgv5) rfl (by kernel_rfl) (by kernel_rfl) (by kernel_rfl) (fun _ _ _ h => h) (by rfl) (fun w hSw => ?rgy5) hHeld ?_
    case rgy5 => (have hk0 := hSw.1; go_simp; with_reducible rfl)
    try simp only [Act.put, List.setIfInBounds_toArray, List.set_cons_zero, List.set_cons_succ]
    refine rg_take (i := 5) (o := { dst := some 25, op := Op.move (Operand.tmp 3), type := 9, pos := "tlspeek.go:78", after := #[], guard := none }) (v := ?rgv6) rfl (by kernel_rfl) (by kernel_rfl) (by kernel_rfl) (fun _ _ _ h => h) (by rfl) (fun w hSw => ?rgy6) hHeld ?_
    case rgy6 => (try dsimp only at hSw); first | (go_simp; done) | (go_simp; with_reducible rfl)
    try simp only [Act.put, List.setIfInBounds_toArray, List.set_cons_zero, List.set_cons_succ]
    refine rg_take (i := 6) (o := { dst := some 26, op := Op.load 29 (Operand.tmp 2), type := 29, pos := "tlspeek.go:78", after := #[], guard := none }) (v := ?rgv7) rfl (by kernel_rfl) (by kernel_rfl) (by kernel_rfl) (fun _ _ _ h => h) (by rfl) (fun w hSw => ?rgy7) hHeld ?_
    case rgy7 => (have hk0 : w.cell? ⟨gs, 0, none⟩ = some (.bool has) := blk_cell (j := 0) hSw.2; have hk1 : w.cell? ⟨gs, 1, none⟩ = some (.string nm) := blk_cell (j := 1) hSw.2; have hk2 : w.cell? ⟨gs, 2, none⟩ = some (.slice A1 al.length p1) := blk_cell (j := 2) hSw.2; have hk3 : w.cell? ⟨gs, 3, none⟩ = some (.slice A2 vs.length p2) := blk_cell (j := 3) hSw.2; have hk4 : w.cell? ⟨gs, 4, none⟩ = some (.bool ec) := blk_cell (j := 4) hSw.2; have hk5 := blk_lt hSw.2; go_simp; with_reducible rfl)
    try simp only [Act.put, List.setIfInBounds_toArray, List.set_cons_zero, List.set_cons_succ]
    refine rg_take (i := 7) (o := { dst := some 27, op := Op.build 31 #[(0, Operand.const (Value.int IntKind.i64 1)), (1, Operand.const (Value.int IntKind.i64 1)), (2, Operand.tmp 24), (4, Operand.tmp 25), (6, Operand.tmp 26)], type := 31, pos := "tlspeek.go:78", after := #[{ on := 4, ground := Ground.data }, { on := 5, ground := Ground.data }, { on := 6, ground := Ground.data }], guard := none }) (v := ?rgv8) rfl (by kernel_rfl) (by kernel_rfl) (by kernel_rfl) (fun _ _ _ h => h) (by rfl) (fun w hSw => ?rgy8) hHeld ?_
    case rgy8 => (try dsimp only at hSw); first | (go_simp; done) | (go_simp; with_reducible rfl)
    try simp only [Act.put, List.setIfInBounds_toArray, List.set_cons_zero, List.set_cons_succ]
    refine rg_take (i := 8) (o := { dst := some 28, op := Op.nilCheck (Operand.tmp 20), type := 0, pos := "tlspeek.go:78", after := #[{ on := 0, ground := Ground.data }, { on := 0, ground := Ground.phase }, { on := 1, ground := Ground.phase }, { on := 2, ground := Ground.phase }, { on := 3, ground := Ground.phase }, { on := 4, ground := Ground.phase }, { on := 5, ground := Ground.phase }, { on := 6, ground := Ground.phase }, { on := 7, ground := Ground.phase }], guard := none }) (v := ?rgv9) rfl (by kernel_rfl) (by kernel_rfl) (by kernel_rfl) (fun _ _ _ h => h) (by rfl) (fun w hSw => ?rgy9) hHeld ?_
    case rgy9 => (try dsimp only at hSw); first | (go_simp; done) | (go_simp; with_reducible rfl)
    try simp only [Act.put, List.setIfInBounds_toArray, List.set_cons_zero, List.set_cons_succ]
    refine rg_take (i := 9) (o := { dst := some 29, op := Op.fieldAddr 50 (Operand.tmp 28) 3, type := 0, pos := "tlspeek.go:78", after := #[{ on := 8, ground := Ground.data }, { on := 0, ground := Ground.phase }, { on := 1, ground := Ground.phase }, { on := 2, ground := Ground.phase }, { on := 3, ground := Ground.phase }, { on := 4, ground := Ground.phase }, { on := 5, ground := Ground.phase }, { on := 6, ground := Ground.phase }, { on := 7, ground := Ground.phase }], guard := none }) (v := ?rgv10) rfl (by kernel_rfl) (by kernel_rfl) (by kernel_rfl) (fun _ _ _ h => h) (by rfl) (fun w hSw => ?rgy10) hHeld ?_
    case rgy10 => (try dsimp only at hSw); first | (go_simp; done) | (go_simp; with_reducible rfl)
    try simp only [Act.put, List.setIfInBounds_toArray, List.set_cons_zero, List.set_cons_succ]
    refine wpAnyH_ready (rs := [10]) (by kernel_rfl) (by simp) ?_
    refine (AllReadyH.cons (o := { dst := none, op := Op.store 31 (Operand.tmp 29) (Operand.tmp 27), type := 0, pos := "tlspeek.go:78", after := #[{ on := 9, ground := Ground.data }, { on := 7, ground := Ground.data }, { on := 0, ground := Ground.phase }, { on := 1, ground := Ground.phase }, { on := 2, ground := Ground.phase }, { on := 3, ground := Ground.phase }, { on := 4, ground := Ground.phase }, { on := 5, ground := Ground.phase }, { on := 6, ground := Ground.phase }, { on := 7, ground := Ground.phase }], guard := none }) rfl (fun K hK => ?_) AllReadyH.nil)
    have hg0 := HT.out.blk HG3.out id
    have c3 : W0.cell? ⟨g, 3, none⟩ = some (.int .i64 0) := blk_cell (j := 3) hg0
    have c4 : W0.cell? ⟨g, 4, none⟩ = some (.int .i64 1) := blk_cell (j := 4) hg0
    have c5 : W0.cell? ⟨g, 5, none⟩ = some (.int .i64 (u : Int)) := blk_cell (j := 5) hg0
    have c6 : W0.cell? ⟨g, 6, none⟩ = some (.int .i64 0) := blk_cell (j := 6) hg0
    have c7 : W0.cell? ⟨g, 7, none⟩ = some (.string ⟨#[]⟩) := blk_cell (j := 7) hg0
    have c8 : W0.cell? ⟨g, 8, none⟩ = some (.int .i64 0) := blk_cell (j := 8) hg0
    have c9 : W0.cell? ⟨g, 9, none⟩ = some (.bool false) := blk_cell (j := 9) hg0
    have c10 : W0.cell? ⟨g, 10, none⟩ = some (.string ⟨#[]⟩) := blk_cell (j := 10) hg0
    have c11 : W0.cell? ⟨g, 11, none⟩ = some (.slice none 0 0) := blk_cell (j := 11) hg0
    have c12 : W0.cell? ⟨g, 12, none⟩ = some (.slice none 0 0) := blk_cell (j := 12) hg0
    have c13 : W0.cell? ⟨g, 13, none⟩ = some (.bool false) := blk_cell (j := 13) hg0
    have f3 := blk_free hg0 3
    have f4 := blk_free hg0 4
    have f5 := blk_free hg0 5
    have f6 := blk_free hg0 6
    have f7 := blk_free hg0 7
    have f8 := blk_free hg0 8
    have f9 := blk_free hg0 9
    have f10 := blk_free hg0 10
    have f11 := blk_free hg0 11
    have f12 := blk_free hg0 12
    have f13 := blk_free hg0 13
    have hltg := blk_lt hg0
    go_simp
    have p5 := pt_stp W0 g (.int .i64 1) (.int .i64 1) (.int .i64 (u : Int)) (.int .i64 0) (.string H) (.int .i64 0) (.bool has) (.string nm) (.slice A1 al.length p1) (.slice A2 vs.length p2) (.bool ec)
    have b5 := pt_set hg0 (.int .i64 1) (.int .i64 1) (.int .i64 (u : Int)) (.int .i64 0) (.string H) (.int .i64 0) (.bool has) (.string nm) (.slice A1 al.length p1) (.slice A2 vs.length p2) (.bool ec)
    have b6 := p5.blk (HT.out.blk HB3.out id) (by omega)
    clear hg0 c3 f3 c4 f4 c5 f5 c6 f6 c7 f7 c8 f8 c9 f9 c10 f10 c11 f11 c12 f12 c13 f13 hltg
    show K _ _
    clear hHeld
    refine hK.out _ _ (⟨blk_cell (j := 2) b5, b6⟩) (fun hHeld => ?_)
    clear hK K
    try simp only [Act.put, List.setIfInBounds_toArray, List.set_cons_zero, List.set_cons_succ]
    clear hHeld
    refine wpAnyH_done (by kernel_rfl) ?_ _
    refine bp_none rfl ?_
    rw [HR.out, HJ2.out]
    have hH := HH.out
    subst hH
    refine ⟨rfl, ⟨gd, gm, .slice A1 al.length p1, .slice A2 vs.length p2, gs, b5, Nat.le_trans hz3 (Nat.le_trans HT.out.size p5.size), hlt, hz0, (HV3.out.stp0 HT.out).step p5 (fun k _ h => Or.inl (by omega))⟩, (HS3.out.trans HT.out).to.trans p5⟩
  · have hne : (er != 0) = true := by simpa using h0
    have HJ2 : Hid (judgeT x = .bad er) := Lib.hid (by rw [HJ.out, if_pos h0])
    have cB := fun W hW => tbad_any g gd gm u er W hW
    clear h0
    go_wp2_with (go_at_call 27; refine stopc ?_)
    refine Stop.go ?_
    refine (cB _ (((Stp.refl (fun _ => False) w2).alloc _).blk HG2.out id)).mono ?_
    rintro e w3 ⟨rfl, hk, hs3⟩
    have HK := Lib.hid hk
    have HS3 := Lib.hid (((HS2.out.alloc _).to).trans hs3)
    clear hk hs3 cB
    go_wp2
    refine bp_noneR rfl ?_
    rw [HR.out, HJ2.out]
    exact ⟨rfl, HK.out.low (Nat.le_trans HS2.out.size (by simp)) hlt, HS3.out⟩

/-! ### a byte for records and the message -/
theorem blk_ne {w : World} {a b : Nat} {cs cs' : Array Value} {t t' : TypeId} {fr fr' : Nat × Nat} (h : w.heap[a]? = some (.cells cs t fr)) (h' : w.heap[b]? = some (.cells cs' t' fr')) (ht : t ≠ t') : a ≠ b := by
  rintro rfl
  rw [h] at h'
  injection h' with h'
  injection h' with _ h2 _
  exact ht h2
def StS (gd gm : Nat) (v : Value) (k : Nat) : Prop := k = gd ∨ k = gm ∨ v.ownBlock = some k
def stp2 (t : Ts) (c : UInt8) : Bool × Int := if (takeD t.1 c).2.2 ≠ 0 ∨ (takeD t.1 c).2.1 = false then (false, (takeD t.1 c).2.2) else ((takeM t.2 c).2.1, (takeM t.2 c).2.2)
theorem stepT_stp2 (t : Ts) (c : UInt8) : (stepT t c).2 = if (stp2 t c).2 ≠ 0 then .bad (stp2 t c).2 else if (stp2 t c).1 = true then judgeT ((stepT t c).1.2.drop 4) else .open_ := by
  unfold stepT stp2
  by_cases h1 : (takeD t.1 c).2.2 ≠ 0
  · rw [if_pos h1, if_pos (Or.inl h1)]
    simp only
    rw [if_pos h1]
  · rw [if_neg h1]
    by_cases h2 : (takeD t.1 c).2.1 = false
    · rw [if_pos h2, if_pos (Or.inr h2)]
      simp only
      rw [if_neg h1, if_neg (by simp)]
    · have hx : ¬ ((takeD t.1 c).2.2 ≠ 0 ∨ (takeD t.1 c).2.1 = false) := fun h => h.elim h1 h2
      rw [if_neg h2, if_neg hx]
      simp only
      by_cases h3 : (takeM t.2 c).2.2 ≠ 0
      · rw [if_pos h3, if_pos h3]
      · rw [if_neg h3, if_neg h3]
        by_cases h4 : (takeM t.2 c).2.1 = false
        · rw [if_pos h4, if_neg (by rw [h4]; simp)]
        · rw [if_neg h4, if_pos (by simpa using h4)]
theorem stepT_st (t : Ts) (c : UInt8) : (stepT t c).1 = if (takeD t.1 c).2.2 ≠ 0 ∨ (takeD t.1 c).2.1 = false then ((takeD t.1 c).1, t.2) else ((takeD t.1 c).1, (takeM t.2 c).1) := by
  unfold stepT
  by_cases h1 : (takeD t.1 c).2.2 ≠ 0
  · rw [if_pos h1, if_pos (Or.inl h1)]
  · by_cases h2 : (takeD t.1 c).2.1 = false
    · rw [if_neg h1, if_pos h2, if_pos (Or.inr h2)]
    · have hx : ¬ ((takeD t.1 c).2.2 ≠ 0 ∨ (takeD t.1 c).2.1 = false) := fun h => h.elim h1 h2
      rw [if_neg h1, if_neg h2, if_neg hx]
      by_cases h3 : (takeM t.2 c).2.2 ≠ 0
      · rw [if_pos h3]
      · rw [if_neg h3]
        by_cases h4 : (takeM t.2 c).2.1 = false
        · rw [if_pos h4]
        · rw [if_neg h4]
theorem stp2_whole {t : Ts} {c : UInt8} (h0 : (stp2 t c).2 = 0) (h1 : (stp2 t c).1 = true) : 4 ≤ (stepT t c).1.2.length ∧ (stepT t c).1.2.length = 4 + msz (stepT t c).1.2 ∧ (stepT t c).1.2.length ≤ t.2.length + 1 := by
  unfold stp2 at h0 h1
  by_cases hx : (takeD t.1 c).2.2 ≠ 0 ∨ (takeD t.1 c).2.1 = false
  · rw [if_pos hx] at h1
    cases h1
  · rw [if_neg hx] at h0 h1
    simp only at h0 h1
    have e : (stepT t c).1.2 = (takeM t.2 c).1 := by
      unfold stepT
      rw [if_neg (fun h => hx (Or.inl h)), if_neg (fun h => hx (Or.inr h)), if_neg (by rw [h0]; simp), if_neg (by rw [h1]; simp)]
    rw [e]
    unfold takeM at h1 ⊢
    split at h1
    · cases h1
    · rename_i hb
      rw [if_neg hb]
      split at h1
      · cases h1
      · rename_i hc
        rw [if_neg hc]
        simp only at h1
        have := of_decide_eq_true h1
        exact ⟨this.1, this.2, by simp⟩
theorem TsOk.len {t : Ts} {u : Nat} (h : TsOk t u) : t.2.length ≤ 16388 := by
  have h1 := h.sz
  have h2 := h.op
  by_cases h4 : 4 ≤ t.2.length
  · have := h2 h4
    rw [fsz_four _ h4] at h1
    omega
  · omega
def StP (w : World) (gd gm : Nat) (t : Ts) (v : Value) (c : UInt8) (e : Ending) (w' : World) : Prop := e = .returned (.tuple #[.bool (stp2 t c).1, .int .i64 (stp2 t c).2]) ∧ ((stp2 t c).2 = 0 → DfB w' gd (stepT t c).1.1 ∧ MsB w' gm (stepT t c).1.2) ∧ Stp (StS gd gm v) w w'
set_option maxRecDepth 100000 in
set_option maxHeartbeats 8000000 in
theorem tstep_any (g gd gm u n : Nat) (t : Ts) (v : Value) (c : UInt8) (w : World) (h : PtBlk w g gd gm u .open_ (.slice none 0 0) (.slice none 0 0)) (hd : DfB w gd t.1) (hm : MsF w gm t.2 v) (hok : TsOk t n) :
    Calls Tryz.prog 26 #[.pointer (some ⟨g, 0, none⟩), .int .u8 (c.toNat : Int)] w (StP w gd gm t v c) := by
  obtain ⟨R, hR⟩ : ∃ R, R = StP w gd gm t v c := ⟨_, rfl⟩
  rw [← hR]
  have HR := Lib.hid hR
  have HG := Lib.hid h
  have HM := Lib.hid hm
  have hlt := blk_lt h
  have c0 : w.cell? ⟨g, 0, none⟩ = some (.pointer (some ⟨gd, 0, none⟩)) := blk_cell (j := 0) h
  have hgd : g ≠ gd := by
    obtain ⟨n, hd⟩ := hd
    exact blk_ne h hd (by decide)
  have hmd : gm ≠ gd := by
    obtain ⟨n, hd⟩ := hd
    exact blk_ne hm.1 hd (by decide)
  have hvd : v.ownBlock ≠ some gd := by
    obtain ⟨n, hd⟩ := hd
    exact own_ty hm.2 hd (by decide)
  have HVD := Lib.hid hvd
  have cD := dtake_any gd t.1 c w hd hok.er hok.nx hok.l4 hok.l5
  have cM := fun W hW => mtake_any gm t.2 v c W hW hok.sz hok.op (by have := hok.len; omega)
  have hJ : stp2 t c = stp2 t c := rfl
  conv at hJ => rhs; unfold stp2
  have hT := stepT_st t c
  unfold TkP7 at cD
  unfold MtP at cM
  obtain ⟨p, hp⟩ : ∃ p, p = takeD t.1 c := ⟨_, rfl⟩
  obtain ⟨q, hq⟩ : ∃ q, q = takeM t.2 c := ⟨_, rfl⟩
  rw [← hp] at cD hJ hT
  rw [← hq] at cM hJ hT
  obtain ⟨s, hs⟩ : ∃ s, s = stp2 t c := ⟨_, rfl⟩
  rw [← hs] at hJ
  have HS2 := Lib.hid hs
  have HJ := Lib.hid hJ
  have HT := Lib.hid hT
  obtain ⟨d', is, ed⟩ := p
  obtain ⟨b', wh, em⟩ := q
  simp only at cD cM HJ HT
  clear hR h hd hm hok hJ hT hp hq hs hvd
  go_enter Tryz.func26, Tryz.ntmps26
  go_wp2_with (go_at_call 52; refine stopc ?_)
  refine Stop.go ?_
  refine cD.mono ?_
  rintro e w1 ⟨rfl, hd1, hs1⟩
  have HD1 := Lib.hid hd1
  have HS1 := Lib.hid hs1
  have hg1 := hs1.blk HG.out hgd
  have HM1 := Lib.hid (HM.out.step hs1 hmd (fun k hk h => HVD.out (by rw [← h]; exact hk)))
  have lt1 := blk_lt hg1
  have d1 : w1.cell? ⟨g, 1, none⟩ = some (.pointer (some ⟨gm, 0, none⟩)) := blk_cell (j := 1) hg1
  clear hd1 hs1 hg1 c0 cD
  by_cases h1 : ed = 0
  · subst h1
    cases is with
    | true =>
      have HJ2 : Hid (s = (wh, em)) := Lib.hid (by rw [HJ.out, if_neg (by simp)])
      have HT2 : Hid ((stepT t c).1 = (d', b')) := Lib.hid (by rw [HT.out, if_neg (by simp)])
      go_wp2_with (go_at_call 53; refine stopc ?_)
      refine Stop.go ?_
      refine (cM _ HM1.out).mono ?_
      rintro e w2 ⟨rfl, hm2, hs2⟩
      have HM2 := Lib.hid hm2
      have HD2 := Lib.hid (HD1.out.step hs2 (fun h => h.elim (fun h => hmd h.symm) HVD.out))
      have HZ2 := Lib.hid ((HS1.out.mono (T := StS gd gm v) fun k _ e => Or.inl e).trans (hs2.mono fun k _ h => Or.inr h))
      clear hm2 hs2 cM
      go_wp2
      rw [HR.out]
      unfold StP
      rw [← HS2.out, HJ2.out, HT2.out]
      exact ⟨rfl, fun h => ⟨HD2.out, HM2.out h⟩, HZ2.out⟩
    | false =>
      have HJ2 : Hid (s = (false, 0)) := Lib.hid (by rw [HJ.out, if_pos (Or.inr rfl)])
      have HT2 : Hid ((stepT t c).1 = (d', t.2)) := Lib.hid (by rw [HT.out, if_pos (Or.inr rfl)])
      go_wp2
      rw [HR.out]
      unfold StP
      rw [← HS2.out, HJ2.out, HT2.out]
      exact ⟨rfl, fun h => ⟨HD1.out, v, HM1.out⟩, HS1.out.mono fun k _ e => Or.inl e⟩
  · have hne : (ed != 0) = true := by simpa using h1
    have HJ2 : Hid (s = (false, ed)) := Lib.hid (by rw [HJ.out, if_pos (Or.inl h1)])
    have HNE := Lib.hid h1
    clear h1
    go_wp2
    rw [HR.out]
    unfold StP
    rw [← HS2.out, HJ2.out]
    exact ⟨rfl, fun h => absurd h HNE.out, HS1.out.mono fun k _ e => Or.inl e⟩
end Go.Proofs.YtligofmhbbgalaaGreatDoor.L

/- Layer 15: one that looks at bytes: a byte. -/
namespace Go.Proofs.YtligofmhbbgalaaGreatDoor.L
open Go.RowKit Go.Proofs

theorem calls_gen {P : Program} {f : FuncId} {args : Array Value} {W : World} {R : Ending → World → Prop} (p : World → Prop) (h : p W) (k : ∀ W', p W' → Calls P f args W' R) : Calls P f args W R := k W h
/-- One that looks, and knows nothing yet. -/
def OpF (w : World) (g0 g gd gm : Nat) (t : Ts) (u : Nat) (v : Value) : Prop := PtBlk w g gd gm u .open_ (.slice none 0 0) (.slice none 0 0) ∧ DfB w gd t.1 ∧ MsF w gm t.2 v ∧ g0 ≤ g ∧ g0 ≤ gd ∧ g0 ≤ gm
def OpT (w : World) (g0 g : Nat) (t : Ts) (u : Nat) : Prop := ∃ gd gm v, OpF w g0 g gd gm t u v
def AtT (g gd gm : Nat) (v : Value) (k : Nat) : Prop := k = g ∨ StS gd gm v k
theorem OpF.own {w : World} {g0 g gd gm : Nat} {t : Ts} {u : Nat} {v : Value} (h : OpF w g0 g gd gm t u v) : ∀ k, AtT g gd gm v k → NoVd g0 w k := by
  obtain ⟨h1, ⟨n, h2⟩, h3, l1, l2, l3⟩ := h
  rintro k (rfl | rfl | rfl | hk)
  · exact ⟨l1, fun ⟨cs, fr, hb⟩ => blk_ne h1 hb (by decide) rfl⟩
  · exact ⟨l2, fun ⟨cs, fr, hb⟩ => blk_ne h2 hb (by decide) rfl⟩
  · exact ⟨l3, fun ⟨cs, fr, hb⟩ => blk_ne h3.1 hb (by decide) rfl⟩
  · refine ⟨?_, fun ⟨cs, fr, hb⟩ => own_ty h3.2 hb (by decide) hk⟩
    have := (h3.2.lt k hk).1
    omega
theorem OpF.step {S : Nat → Prop} {w w1 : World} {g0 g gd gm : Nat} {t : Ts} {u : Nat} {v : Value} (h : OpF w g0 g gd gm t u v) (hs : Stp S w w1) (hS : ∀ k, AtT g gd gm v k → ¬ S k) : OpF w1 g0 g gd gm t u v := by
  obtain ⟨h1, h2, h3, h4⟩ := h
  exact ⟨hs.blk h1 (hS _ (Or.inl rfl)), h2.step hs (hS _ (Or.inr (Or.inl rfl))), h3.step hs (hS _ (Or.inr (Or.inr (Or.inl rfl)))) (fun k hk => hS _ (Or.inr (Or.inr (Or.inr hk)))), h4⟩
theorem OpT.stp0 {w w1 : World} {g0 g : Nat} {t : Ts} {u : Nat} (h : OpT w g0 g t u) (hs : Stp (fun _ => False) w w1) : OpT w1 g0 g t u := by
  obtain ⟨gd, gm, v, h⟩ := h
  exact ⟨gd, gm, v, h.step hs fun _ _ h => h⟩
/-- A verdict's block is written. -/
theorem OpT.atb {w w1 : World} {g0 g b : Nat} {t : Ts} {u : Nat} {cs : Array Value} {fr : Nat × Nat} (h : OpT w g0 g t u) (hb : w.heap[b]? = some (.cells cs 31 fr)) (hs : Stp (fun k => k = b) w w1) : OpT w1 g0 g t u := by
  obtain ⟨gd, gm, v, h⟩ := h
  exact ⟨gd, gm, v, h.step hs fun k hk e => (h.own k hk).2 ⟨cs, fr, by rw [e]; exact hb⟩⟩
theorem OpT.lt {w : World} {g0 g : Nat} {t : Ts} {u : Nat} (h : OpT w g0 g t u) : g < w.heap.size := by
  obtain ⟨_, _, _, h, _⟩ := h
  exact blk_lt h
theorem vtC_one (v : Vt) (u : Nat) (A B : Option Addr) (n m p q : Nat) : (vtC v u (.slice A n p) (.slice B m q)).toArray.all (·.oneCell') = true := by simp [vtC, Value.oneCell']
/-- One that knows: its rows lie below N. -/
def KnN (w : World) (g A N : Nat) (v : Vt) (u : Nat) : Prop := ∃ gd gm va vv B, PtBlk w g gd gm u v va vv ∧ B ≤ w.heap.size ∧ g < A ∧ A ≤ B ∧ B ≤ N ∧ VtR (fun k => k < A ∨ B ≤ k) w v va vv
theorem KnN.knt {w : World} {g A N : Nat} {v : Vt} {u : Nat} (h : KnN w g A N v u) : KnT w g A v u := by
  obtain ⟨gd, gm, va, vv, B, h1, h2, h3, h4, _, h5⟩ := h
  exact ⟨gd, gm, va, vv, B, h1, h2, h3, h4, h5⟩
theorem KnT.knn {w : World} {g A : Nat} {v : Vt} {u : Nat} (h : KnT w g A v u) : KnN w g A w.heap.size v u := by
  obtain ⟨gd, gm, va, vv, B, h1, h2, h3, h4, h5⟩ := h
  exact ⟨gd, gm, va, vv, B, h1, h2, h3, h4, h2, h5⟩
theorem KnN.step {S : Nat → Prop} {w w1 : World} {g A N : Nat} {v : Vt} {u : Nat} (h : KnN w g A N v u) (hs : Stp S w w1) (hg : ¬ S g) (hS : ∀ k, S k → k < A ∨ N ≤ k) : KnN w1 g A N v u := by
  obtain ⟨gd, gm, va, vv, B, h1, h2, h3, h4, h5, h6⟩ := h
  exact ⟨gd, gm, va, vv, B, hs.blk h1 hg, Nat.le_trans h2 hs.size, h3, h4, h5, h6.step hs fun k hk h => by
    rcases hS k h with h | h
    · exact Or.inl h
    · exact Or.inr (Nat.le_trans h5 h)⟩
theorem KnN.stp0 {w w1 : World} {g A N : Nat} {v : Vt} {u : Nat} (h : KnN w g A N v u) (hs : Stp (fun _ => False) w w1) : KnN w1 g A N v u := h.step hs id fun _ h => h.elim
theorem KnN.low {w : World} {g A A' N : Nat} {v : Vt} {u : Nat} (h : KnN w g A N v u) (hA : A' ≤ A) (hg : g < A') : KnN w g A' N v u := by
  obtain ⟨gd, gm, va, vv, B, h1, h2, h3, h4, h5, h6⟩ := h
  exact ⟨gd, gm, va, vv, B, h1, h2, hg, Nat.le_trans hA h4, h5, h6.weak fun k _ h => h.elim (fun h => Or.inl (Nat.lt_of_lt_of_le h hA)) Or.inr⟩
def TkK (w : World) (g A : Nat) (v : Vt) (u : Nat) (e : Ending) (w' : World) : Prop := ∃ va vv, e = .returned (vtV v u va vv) ∧ Own Value.string 9 w.heap.size w' va v.sn.alpn ∧ Own (Value.int .i64) 3 w.heap.size w' vv v.sn.vers ∧ KnN w' g A w.heap.size v u ∧ Stp (fun _ => False) w w'
set_option maxRecDepth 100000 in
set_option maxHeartbeats 8000000 in
theorem ttake_known (g A : Nat) (v : Vt) (u : Nat) (c : UInt8) (w : World) (h : KnT w g A v u) (hv : v.st ≠ 0) :
    Calls Tryz.prog 13 #[.pointer (some ⟨g, 0, none⟩), .int .u8 (c.toNat : Int)] w (TkK w g A v u) := by
  obtain ⟨R, hR⟩ : ∃ R, R = TkK w g A v u := ⟨_, rfl⟩
  rw [← hR]
  have HR := Lib.hid hR
  have HK := Lib.hid h
  obtain ⟨gd, gm, va, vv, B, hg, hB, hgA, hAB, hvr⟩ := h
  have HG := Lib.hid hg
  have HVR := Lib.hid hvr
  have hlt := blk_lt hg
  have c3 : w.cell? ⟨g, 3, none⟩ = some (.int .i64 v.st) := blk_cell (j := 3) hg
  have hne : (v.st == 0) = false := by simpa using hv
  have cO := fun (M : Nat → Prop) (W : World) (hW : VtR M W v va vv) => own_any M v u va vv W hW
  unfold OwT vtV at cO
  clear hR hg hvr hv hB hgA hAB
  go_enter Tryz.func13, Tryz.ntmps13
  go_wp2_with (with_reducible refine stop (N := 47) rfl ?_)
  refine Stop.go ?_
  have hs1 := (Stp.refl (fun _ => False) w).alloc (.cells vd0 31)
  refine wpList_load_mid rfl _ _ rfl g 3 rfl (vtC v u va vv) _ (pt_mid (hs1.blk HG.out id)) Tryz.underlying31 rfl size_vd ?_
  go_wp2_with (go_at_call 29; refine stopc ?_)
  refine Stop.go ?_
  refine (cO _ _ (HVR.out.stp0 hs1)).mono ?_
  rintro e w2 ⟨va', vv', rfl, h1, h2, hs2⟩
  have HO1 := Lib.hid h1
  have HO2 := Lib.hid h2
  obtain ⟨A1, p1, rfl, -⟩ := h1.form
  obtain ⟨A2, p2, rfl, -⟩ := h2.form
  have HB2 := Lib.hid (hs2.blk (heap_alloc_new w (.cells vd0 31)) id)
  have HS2 := Lib.hid (hs1.trans hs2)
  clear hs1 hs2 h1 h2 c3 cO
  go_wp2_with (refine wpList_store_row rfl _ _ _ rfl w.heap.size _ rfl rfl _ vd0 HB2.out size_vd rfl (vtC_one _ _ _ _ _ _ _ _) ?_; refine stopw ?_)
  refine Stop.go ?_
  have HR8 := Lib.hid (row_blk HB2.out (vtC v u (.slice A1 v.sn.alpn.length p1) (.slice A2 v.sn.vers.length p2)).toArray)
  have hs8 := (Stp.refl (fun k => k = w.heap.size) w2).rowA (g := w.heap.size) (fun _ => rfl) (vtC v u (.slice A1 v.sn.alpn.length p1) (.slice A2 v.sn.vers.length p2)).toArray
  have HS8 := Lib.hid (HS2.out.then_ hs8 (fun k hk h => by omega))
  have HQ1 := Lib.hid (HO1.out.step hs8 (fun k hk h => by have := (HO1.out.lt k hk).1; simp at this; omega))
  have HQ2 := Lib.hid (HO2.out.step hs8 (fun k hk h => by have := (HO2.out.lt k hk).1; simp at this; omega))
  clear hs8
  go_wp2
  refine bodyPost_ret (results_cell_row rfl _ _ w.heap.size _ _ _ _ rfl HR8.out Tryz.underlying31 rfl size_vd) rfl ?_
  rw [HR.out]
  exact ⟨_, _, rfl, HQ1.out.lower (by simp), HQ2.out.lower (by simp), HK.out.knn.stp0 HS8.out, HS8.out⟩

/-! ### while it is open -/
def TkT (w : World) (g0 g : Nat) (t : Ts) (v : Vt) (u : Nat) (e : Ending) (w' : World) : Prop := ∃ va vv N, e = .returned (vtV v u va vv) ∧ w.heap.size ≤ N ∧ N ≤ w'.heap.size ∧ Own Value.string 9 N w' va v.sn.alpn ∧ Own (Value.int .i64) 3 N w' vv v.sn.vers ∧ (v.st = 0 → OpT w' g0 g t u) ∧ (v.st ≠ 0 → KnN w' g w.heap.size N v u) ∧ Stp (NoVd g0 w) w w'
/-- What holds behind the step. -/
def CuT (w : World) (g0 g : Nat) (t : Ts) (v : Vt) (u : Nat) (wx : World) : Prop := ∃ gd gm va vv, ∃ M : Nat → Prop, PtBlk wx g gd gm u v va vv ∧ VtR M wx v va vv ∧ wx.heap[w.heap.size]? = some (.cells vd0 31 (0, 0)) ∧ (v.st = 0 → OpT wx g0 g t u) ∧ (v.st ≠ 0 → KnT wx g (w.heap.size + 1) v u) ∧ Stp (NoVd g0 w) w wx
theorem CuT.kn {w wx : World} {g0 g A : Nat} {t : Ts} {v : Vt} {u : Nat} (hk : KnT wx g A v u) (hA : w.heap.size + 1 ≤ A) (hg : g < w.heap.size) (hb : wx.heap[w.heap.size]? = some (.cells vd0 31 (0, 0))) (hs : Stp (NoVd g0 w) w wx) (hv : v.st ≠ 0) : CuT w g0 g t v u wx := by
  have hk2 := hk.low hA (Nat.lt_succ_of_lt hg)
  obtain ⟨gd, gm, va, vv, B, h1, h2, h3, h4, h5⟩ := hk
  exact ⟨gd, gm, va, vv, _, h1, h5, hb, fun h => absurd h hv, fun _ => hk2, hs⟩
set_option maxRecDepth 100000 in
set_option maxHeartbeats 8000000 in
theorem ttake_open (g0 g : Nat) (t : Ts) (u : Nat) (c : UInt8) (w : World) (h : OpT w g0 g t u) (he : EnvB g0 w) (hok : TsOk t u) (hu : u < 1000000) :
    Calls Tryz.prog 13 #[.pointer (some ⟨g, 0, none⟩), .int .u8 (c.toNat : Int)] w (TkT w g0 g (stepT t c).1 (stepT t c).2 (u + 1)) := by
  have hJ := stepT_stp2 t c
  have hwh := fun h0 h1 => stp2_whole (t := t) (c := c) h0 h1
  have hlen := hok.len
  obtain ⟨gd, gm, v, hf⟩ := h
  have cT := fun W hg hd hm => tstep_any g gd gm (u + 1) u t v c W hg hd hm hok
  unfold StP at cT
  obtain ⟨s, hs⟩ : ∃ s, s = stp2 t c := ⟨_, rfl⟩
  obtain ⟨q, hq⟩ : ∃ q, q = stepT t c := ⟨_, rfl⟩
  rw [← hs] at hJ cT hwh
  rw [← hq] at hJ cT hwh ⊢
  obtain ⟨wh, er⟩ := s
  obtain ⟨T, V⟩ := q
  simp only at hJ cT hwh ⊢
  obtain ⟨R, hR⟩ : ∃ R, R = TkT w g0 g T V (u + 1) := ⟨_, rfl⟩
  rw [← hR]
  have HR := Lib.hid hR
  have HJ := Lib.hid hJ
  have HWH := Lib.hid hwh
  have HV := Lib.hid he
  have HF := Lib.hid hf
  have HNV := Lib.hid hf.own
  obtain ⟨hg, hd, hm, l1, l2, l3⟩ := hf
  have HG := Lib.hid hg
  have HD := Lib.hid hd
  have HM := Lib.hid hm
  have hlt := blk_lt hg
  have c2 : w.cell? ⟨g, 2, none⟩ = some (.int .i64 (u : Int)) := blk_cell (j := 2) hg
  have c3 : w.cell? ⟨g, 3, none⟩ = some (.int .i64 0) := blk_cell (j := 3) hg
  have c5 : w.cell? ⟨g, 5, none⟩ = some (.int .i64 (u : Int)) := blk_cell (j := 5) hg
  have f2 := blk_free hg 2
  have f5 := blk_free hg 5
  have hw : IntKind.i64.wrap ((u : Int) + 1) = (u : Int) + 1 := IntWalk.i64_in _ (by omega)
  have hgd : gd ≠ g := by
    obtain ⟨n, hd⟩ := hd
    exact blk_ne hd hg (by decide)
  have hgm : gm ≠ g := blk_ne hm.1 hg (by decide)
  have hvg : v.ownBlock ≠ some g := own_ty hm.2 hg (by decide)
  have HNE := Lib.hid (And.intro hgd (And.intro hgm hvg))
  clear hR hJ hwh he hg hd hm hs hq hok hgd hgm hvg
  go_enter Tryz.func13, Tryz.ntmps13
  go_wp2_with (go_at_call 26; refine stopc ?_)
  refine Stop.go ?_
  have hsg : Stp (fun k => k = g) w ((w.setCell ⟨g, 2, none⟩ (.int .i64 ((u : Int) + 1))).setCell ⟨g, 5, none⟩ (.int .i64 ((u : Int) + 1))) := ((Stp.refl _ _).setg 2 _).setg 5 _
  have hs0 := (Stp.refl (fun _ => False) ((w.setCell ⟨g, 2, none⟩ (.int .i64 ((u : Int) + 1))).setCell ⟨g, 5, none⟩ (.int .i64 ((u : Int) + 1)))).alloc (.cells vd0 31)
  have hnew := heap_alloc_new ((w.setCell ⟨g, 2, none⟩ (.int .i64 ((u : Int) + 1))).setCell ⟨g, 5, none⟩ (.int .i64 ((u : Int) + 1))) (.cells vd0 31)
  rw [show ((w.setCell ⟨g, 2, none⟩ (.int .i64 ((u : Int) + 1))).setCell ⟨g, 5, none⟩ (.int .i64 ((u : Int) + 1))).heap.size = w.heap.size by simp [World.setCell]] at hnew
  have hg1 : PtBlk _ g gd gm (u + 1) .open_ (.slice none 0 0) (.slice none 0 0) := hs0.blk (blk_set (blk_set HG.out 2 _) 5 _) id
  have hm1 := (HM.out.step hsg HNE.out.2.1 (fun k hk e => HNE.out.2.2 (by rw [← e]; exact hk))).stp0 hs0
  have hd1 := (HD.out.step hsg HNE.out.1).step hs0 id
  refine calls_gen (fun W => PtBlk W g gd gm (u + 1) .open_ (.slice none 0 0) (.slice none 0 0) ∧ DfB W gd t.1 ∧ MsF W gm t.2 v ∧ W.heap[w.heap.size]? = some (.cells vd0 31 (0, 0)) ∧ Stp (AtT g gd gm v) w W) ⟨hg1, hd1, hm1, hnew, (hsg.mono fun k _ e => Or.inl e).trans hs0.to⟩ ?_
  clear hsg hs0 hnew hg1 hm1 hd1 c2 c3 c5 f2 f5 hw
  rintro W1 ⟨hg1, hd1, hm1, hb1, hs1⟩
  have HG1 := Lib.hid hg1
  have HM1 := Lib.hid hm1
  have HB1 := Lib.hid hb1
  have HS1 := Lib.hid hs1
  have hvb := own_ty hm1.2 hb1 (by decide)
  have hmb : w.heap.size ≠ gm := blk_ne hb1 hm1.1 (by decide)
  have hdb : w.heap.size ≠ gd := by
    obtain ⟨n, hd1⟩ := hd1
    exact blk_ne hb1 hd1 (by decide)
  refine (cT _ hg1 hd1 hm1).mono ?_
  rintro e w2 ⟨rfl, hx2, hs2⟩
  have HX2 := Lib.hid hx2
  have HS2 := Lib.hid (HS1.out.trans (hs2.mono fun k _ h => Or.inr h))
  have HB2 := Lib.hid (hs2.blk HB1.out (fun h => by
    rcases h with h | h | h
    · exact hdb h
    · exact hmb h
    · exact hvb h))
  have HG2 := Lib.hid (hs2.blk HG1.out (fun h => by
    rcases h with h | h | h
    · exact HNE.out.1 h.symm
    · exact HNE.out.2.1 h.symm
    · exact HNE.out.2.2 h))
  have HL2 := Lib.hid (blk_lt HB2.out)
  have lt2 := blk_lt HG2.out
  clear hg1 hd1 hm1 hb1 hs1 hx2 hs2 cT hvb hmb hdb
  go_upto_block 0 with fail
  go_cut [] (fun wx => CuT w g0 g T V (u + 1) wx)
  case first =>
    by_cases h0 : er = 0
    · subst h0
      obtain ⟨hd2, hm2⟩ := HX2.out rfl
      have HD2 := Lib.hid hd2
      have HM2 := Lib.hid hm2
      clear hd2 hm2
      cases wh with
      | true =>
        have HJ2 : Hid (V = judgeT (T.2.drop 4)) := Lib.hid (by rw [HJ.out, if_neg (by simp), if_pos rfl])
        obtain ⟨k4, ke, kl⟩ := HWH.out rfl rfl
        have cF := fun W hg hm he => tfinish_any g gd gm (u + 1) T.2 W hg hm k4 ke (by omega) he
        rw [← HJ2.out] at cF
        clear k4 ke kl
        go_wp2_with (go_at_call 28; refine stopc ?_)
        refine Stop.go ?_
        refine (cF _ HG2.out HM2.out (HV.out.step (HS2.out.mono fun k _ h => (HNV.out k h).1)).env).mono ?_
        rintro e w3 ⟨rfl, hk, hs3⟩
        have HK := Lib.hid hk
        have HS3 := Lib.hid ((HS2.out.mono fun k _ h => HNV.out k h).trans (hs3.mono (T := NoVd g0 w) fun k _ e => HNV.out k (Or.inl e)))
        have HB3 := Lib.hid (hs3.blk HB2.out (fun e => by have := HF.out.1; omega))
        clear hk hs3 cF
        go_wp2
        go_meet
        exact CuT.kn HK.out HL2.out hlt HB3.out HS3.out (by
          rw [HJ2.out]
          rcases judgeT_cases (T.2.drop 4) with ⟨g, -⟩ | ⟨e, -, g⟩
          · rw [g]; decide
          · rw [g]; exact (show ¬ (2 : Int) = 0 by decide))
      | false =>
        have HJ2 : Hid (V = .open_) := Lib.hid (by rw [HJ.out, if_neg (by simp), if_neg (by simp)])
        go_wp2
        go_meet
        have hV := HJ2.out
        subst hV
        obtain ⟨v', hm'⟩ := HM2.out
        exact ⟨gd, gm, _, _, fun _ => False, HG2.out, VtR.nil _ _ _ _ _, HB2.out, fun _ => ⟨gd, gm, v', HG2.out, HD2.out, hm', HF.out.2.2.2⟩, fun h => absurd rfl h, HS2.out.mono fun k _ h => HNV.out k h⟩
    · have hne : (er != 0) = true := by simpa using h0
      have HJ2 : Hid (V = .bad er) := Lib.hid (by rw [HJ.out, if_pos h0])
      have cB := fun W hg => tbad_any g gd gm (u + 1) er W hg
      rw [← HJ2.out] at cB
      clear h0
      go_wp2_with (go_at_call 27; refine stopc ?_)
      refine Stop.go ?_
      refine (cB _ HG2.out).mono ?_
      rintro e w3 ⟨rfl, hk, hs3⟩
      have HK := Lib.hid hk
      have HS3 := Lib.hid ((HS2.out.mono fun k _ h => HNV.out k h).trans (hs3.mono (T := NoVd g0 w) fun k _ e => HNV.out k (Or.inl e)))
      have HB3 := Lib.hid (hs3.blk HB2.out (fun e => by omega))
      clear hk hs3 cB
      go_wp2
      go_meet
      exact CuT.kn HK.out HL2.out hlt HB3.out HS3.out (by
        rw [HJ2.out]
        exact (show ¬ (2 : Int) = 0 by decide))
  case rest =>
    obtain ⟨gd', gm', va, vv, M, hg, hvr, hb, ho, hk, hs⟩ := hcut
    have HG3 := Lib.hid hg
    have HVR := Lib.hid hvr
    have HB3 := Lib.hid hb
    have HO3 := Lib.hid ho
    have HK3 := Lib.hid hk
    have HS3 := Lib.hid hs
    have lt3 := blk_lt hg
    have ltb := blk_lt hb
    have cO := own_any M V (u + 1) va vv wc hvr
    unfold OwT vtV at cO
    clear hg hvr hb ho hk hs HX2 HS2 HB2 HG2 HL2 lt2
    go_wp2_with (with_reducible refine stop (N := 47) rfl ?_)
    refine Stop.go ?_
    refine wpList_load_mid rfl _ _ rfl g 3 rfl (vtC V (u + 1) va vv) _ (pt_mid HG3.out) Tryz.underlying31 rfl size_vd ?_
    go_wp2_with (go_at_call 29; refine stopc ?_)
    refine Stop.go ?_
    refine cO.mono ?_
    rintro e w4 ⟨va', vv', rfl, h1, h2, hs4⟩
    have HO1 := Lib.hid h1
    have HO2 := Lib.hid h2
    obtain ⟨A1, p1, rfl, -⟩ := h1.form
    obtain ⟨A2, p2, rfl, -⟩ := h2.form
    have HB4 := Lib.hid (hs4.blk HB3.out id)
    have HS4 := Lib.hid hs4
    clear hs4 h1 h2 cO
    go_wp2_with (refine wpList_store_row rfl _ _ _ rfl w.heap.size _ rfl rfl _ vd0 HB4.out size_vd rfl (vtC_one _ _ _ _ _ _ _ _) ?_; refine stopw ?_)
    refine Stop.go ?_
    have HR8 := Lib.hid (row_blk HB4.out (vtC V (u + 1) (.slice A1 V.sn.alpn.length p1) (.slice A2 V.sn.vers.length p2)).toArray)
    have hs8 := (Stp.refl (fun k => k = w.heap.size) w4).rowA (g := w.heap.size) (fun _ => rfl) (vtC V (u + 1) (.slice A1 V.sn.alpn.length p1) (.slice A2 V.sn.vers.length p2)).toArray
    have HZ8 := Lib.hid ((HS3.out.trans HS4.out.to).then_ hs8 (fun k hk h => by omega))
    have HQ1 := Lib.hid (HO1.out.step hs8 (fun k hk h => by have := (HO1.out.lt k hk).1; omega))
    have HQ2 := Lib.hid (HO2.out.step hs8 (fun k hk h => by have := (HO2.out.lt k hk).1; omega))
    have HO8 := Lib.hid (fun h => ((HO3.out h).stp0 HS4.out).atb HB4.out hs8)
    have HK8 := Lib.hid (fun h => (((HK3.out h).knn.stp0 HS4.out).step hs8 (by omega) (fun k h => Or.inl (by omega))).low (Nat.le_succ _) hlt)
    have HN8 := Lib.hid (Nat.le_trans HS4.out.size hs8.size)
    clear hs8
    go_wp2
    refine bodyPost_ret (results_cell_row rfl _ _ w.heap.size _ _ _ _ rfl HR8.out Tryz.underlying31 rfl size_vd) rfl ?_
    rw [HR.out]
    exact ⟨_, _, wc.heap.size, rfl, HS3.out.size, HN8.out, HQ1.out, HQ2.out, HO8.out, HK8.out, HZ8.out⟩
end Go.Proofs.YtligofmhbbgalaaGreatDoor.L

/- Layer 15: all bytes. -/
namespace Go.Proofs.YtligofmhbbgalaaGreatDoor.L
open Go.RowKit Go.Proofs

theorem own_tyG {α : Type} {enc : α → Value} {e B : Nat} {w : World} {v : Value} {xs : List α} {g : Nat} {cs : Array Value} {t : TypeId} {fr : Nat × Nat} (h : Own enc e B w v xs) (hb : w.heap[g]? = some (.cells cs t fr)) (ht : t ≠ e) : v.ownBlock ≠ some g := by
  intro hk
  rcases h.2 with ⟨rfl, _⟩ | ⟨b, cap, cur, rfl, _, hb2, _⟩
  · cases hk
  · injection hk with hk
    simp only at hk
    rw [hk, hb] at hb2
    injection hb2 with hb2
    injection hb2 with _ h2 _
    exact ht h2
def NwD (w : World) (e : Ending) (w' : World) : Prop := ∃ g, e = .returned (.pointer (some ⟨g, 0, none⟩)) ∧ w.heap.size ≤ g ∧ DfB w' g .new ∧ Stp (fun _ => False) w w'
theorem dnew_any (w : World) : Calls Tryz.prog 24 #[] w (NwD w) := by
  obtain ⟨R, hR⟩ : ∃ R, R = NwD w := ⟨_, rfl⟩
  rw [← hR]
  have HR := Lib.hid hR
  clear hR
  go_enter Tryz.func24, Tryz.ntmps24
  go_wp2
  rw [HR.out]
  exact ⟨_, rfl, Nat.le_refl _, ⟨0, heap_alloc_new w _⟩, (Stp.refl _ _).alloc _⟩
def NwM (w : World) (e : Ending) (w' : World) : Prop := ∃ g, e = .returned (.pointer (some ⟨g, 0, none⟩)) ∧ w.heap.size ≤ g ∧ MsF w' g [] (.slice none 0 0) ∧ Stp (fun _ => False) w w'
theorem mnew_any (w : World) : Calls Tryz.prog 25 #[] w (NwM w) := by
  obtain ⟨R, hR⟩ : ∃ R, R = NwM w := ⟨_, rfl⟩
  rw [← hR]
  have HR := Lib.hid hR
  clear hR
  go_enter Tryz.func25, Tryz.ntmps25
  go_wp2
  rw [HR.out]
  exact ⟨_, rfl, Nat.le_refl _, ⟨heap_alloc_new w _, Own.nil _ _ _ _⟩, (Stp.refl _ _).alloc _⟩
def NewT (w : World) (e : Ending) (w' : World) : Prop := ∃ g gd gm, e = .returned (.pointer (some ⟨g, 0, none⟩)) ∧ w.heap.size ≤ g ∧ OpF w' w.heap.size g gd gm .new 0 (.slice none 0 0) ∧ Stp (fun _ => False) w w'
set_option maxHeartbeats 1000000 in
theorem tnew_any (w : World) : Calls Tryz.prog 12 #[] w (NewT w) := by
  obtain ⟨R, hR⟩ : ∃ R, R = NewT w := ⟨_, rfl⟩
  rw [← hR]
  have HR := Lib.hid hR
  clear hR
  go_enter Tryz.func12, Tryz.ntmps12
  go_wp2_with (go_at_call 24; refine stopc ?_)
  refine Stop.go ?_
  refine (dnew_any _).mono ?_
  rintro e w1 ⟨gd, rfl, l1, h1, hs1⟩
  have H1 := Lib.hid h1
  have HS1 := Lib.hid hs1
  clear h1 hs1
  go_wp2_with (go_at_call 25; refine stopc ?_)
  refine Stop.go ?_
  refine (mnew_any _).mono ?_
  rintro e w2 ⟨gm, rfl, l2, h2, hs2⟩
  have H1 := Lib.hid (H1.out.step hs2 id)
  have H2 := Lib.hid h2
  have HZ := Lib.hid (And.intro HS1.out.size hs2.size)
  have HS2 := Lib.hid (HS1.out.trans hs2)
  clear h2 hs2
  go_wp2
  rw [HR.out]
  have hs3 : Stp (fun _ => False) w2 (w2.alloc (.cells (ptObj gd gm 0 .open_ 0 (.slice none 0 0) (.slice none 0 0)) 50)) := (Stp.refl _ _).alloc _
  have hz := HZ.out
  exact ⟨_, gd, gm, rfl, by omega, ⟨heap_alloc_new w2 _, H1.out.step hs3 id, H2.out.stp0 hs3, by omega, by omega, by omega⟩, HS2.out.trans hs3⟩

def AllT (w : World) (b : List UInt8) (e : Ending) (w' : World) : Prop := ∃ va vv, e = .returned (vtV (allT b).1 (allT b).2 va vv) ∧ Own Value.string 9 w.heap.size w' va (allT b).1.sn.alpn ∧ Own (Value.int .i64) 3 w.heap.size w' vv (allT b).1.sn.vers ∧ Stp (fun _ => False) w w'
/-- A verdict that lies in a block, with rows of its own. -/
def OwB (w : World) (n g : Nat) (v : Vt) (u : Nat) : Prop := ∃ A p B q, w.heap[g]? = some (.cells (vtC v u (.slice A v.sn.alpn.length p) (.slice B v.sn.vers.length q)).toArray 31 (0, 0)) ∧ Own Value.string 9 n w (.slice A v.sn.alpn.length p) v.sn.alpn ∧ Own (Value.int .i64) 3 n w (.slice B v.sn.vers.length q) v.sn.vers
theorem OwB.step {w w1 : World} {n g h : Nat} {v : Vt} {u : Nat} {cs : Array Value} {fr : Nat × Nat} (ho : OwB w n g v u) (hb : w.heap[h]? = some (.cells cs 31 fr)) (hs : Stp (fun k => k = h) w w1) (hne : g ≠ h) : OwB w1 n g v u := by
  obtain ⟨A, p, B, q, h1, h2, h3⟩ := ho
  exact ⟨A, p, B, q, hs.blk h1 hne, h2.step hs fun k hk e => own_tyG h2 hb (by decide) (by rw [← e]; exact hk), h3.step hs fun k hk e => own_tyG h3 hb (by decide) (by rw [← e]; exact hk)⟩
theorem NoVd.blk {g0 : Nat} {w w1 : World} {b : Nat} {cs : Array Value} {fr : Nat × Nat} (hb : w.heap[b]? = some (.cells cs 31 fr)) (hs : Stp (NoVd g0 w) w w1) : w1.heap[b]? = some (.cells cs 31 fr) := hs.blk hb fun h => h.2 ⟨_, _, hb⟩
set_option maxRecDepth 100000 in
set_option maxHeartbeats 8000000 in
theorem tall_any (M : Nat → Prop) (vb : Value) (b : List UInt8) (w : World) (hb : Rd u8 M w vb b) (hl : b.length ≤ 1000000) (he : EnvP w) : Calls Tryz.prog 10 #[vb] w (AllT w b) := by
  obtain ⟨R, hR⟩ : ∃ R, R = AllT w b := ⟨_, rfl⟩
  rw [← hR]
  have HR := Lib.hid hR
  have HV := Lib.hid he
  have HX := Lib.hid hb
  obtain ⟨A, cp, rfl, hle⟩ := hb.form
  clear hR he hb
  go_enter Tryz.func10, Tryz.ntmps10
  go_wp2_with (go_at_call 12; refine stopc ?_)
  refine Stop.go ?_
  refine (tnew_any _).mono ?_
  rintro e w1 ⟨g, gd, gm, rfl, hgw, hp1, hs1⟩
  have hsA := (Stp.refl (fun _ => False) w).alloc (.cells vd0 31)
  have hgw' : w.heap.size < g := by
    have := hgw
    simp at this
    omega
  have hb1 := hs1.blk (heap_alloc_new w (.cells vd0 31)) id
  have HS1 := Lib.hid (hsA.trans hs1)
  have HB1 := Lib.hid hb1
  have HP1 := Lib.hid (show OpT w1 (w.heap.size + 1) g .new 0 from ⟨gd, gm, _, by simpa using hp1⟩)
  have hlt := HP1.out.lt
  have HG1 := Lib.hid hp1.1
  have HGW := Lib.hid hgw'
  clear hgw hgw' hsA hs1 hb1 hp1
  go_wp2_with (with_reducible refine stop (N := 11) rfl ?_)
  refine Stop.go ?_
  refine wpList_load_mid rfl _ _ rfl g 3 rfl (vtC .open_ 0 (.slice none 0 0) (.slice none 0 0)) _ (pt_mid HG1.out) Tryz.underlying31 rfl size_vd ?_
  go_wp2_with (refine wpList_store_row rfl _ _ _ rfl w1.heap.size _ rfl rfl _ vd0 (heap_alloc_new w1 _) size_vd rfl (vtC_one _ _ _ _ _ _ _ _) ?_; refine stopw ?_)
  refine Stop.go ?_
  have hsB := (Stp.refl (fun _ => False) w1).alloc (.cells vd0 31)
  have hsC : Stp (fun k => k = w1.heap.size) (w1.alloc (.cells vd0 31)) ((w1.alloc (.cells vd0 31)).setRow w1.heap.size (vtC .open_ 0 (.slice none 0 0) (.slice none 0 0)).toArray) := (Stp.refl (fun k => k = w1.heap.size) _).rowA (g := w1.heap.size) (fun _ => rfl) _
  have hsD : Stp (fun _ => False) w1 ((w1.alloc (.cells vd0 31)).setRow w1.heap.size (vtC .open_ 0 (.slice none 0 0) (.slice none 0 0)).toArray) := hsB.then_ hsC (fun k hk e => by omega)
  refine wpl_gen (fun W => OpT W (w.heap.size + 1) g .new 0 ∧ OwB W w.heap.size w1.heap.size .open_ 0 ∧ W.heap[w.heap.size]? = some (.cells vd0 31 (0, 0)) ∧ Stp (fun _ => False) w W) ⟨HP1.out.stp0 hsD, ⟨none, 0, none, 0, row_blk (heap_alloc_new w1 _) _, Own.nil _ _ _ _, Own.nil _ _ _ _⟩, hsD.blk HB1.out id, HS1.out.trans hsD⟩ ?_
  rintro W2 ⟨hp2, ho2, hr2, hs2⟩
  obtain ⟨bo, hbo⟩ : ∃ n, n = w1.heap.size := ⟨_, rfl⟩
  obtain ⟨br, hbr⟩ : ∃ n, n = w.heap.size := ⟨_, rfl⟩
  rw [← hbo, ← hbr] at ho2
  rw [← hbr] at hr2 hp2
  simp only [← hbo, ← hbr]
  have hgo : g < bo := by omega
  have HBR := Lib.hid hbr
  have hbg : br < g := by have := HGW.out; omega
  have HP2 := Lib.hid hp2
  have HO2 := Lib.hid ho2
  have HR2 := Lib.hid hr2
  have HS2 := Lib.hid hs2
  clear hp2 ho2 hr2 hs2
  clear hbo hbr hsB hsC hsD hlt HB1 HP1 HG1 HS1
  have hb63 : (b.length : Int) ≤ 1000000 := by omega
  go_wp2
  go_loopg [6, 14] b.length (fun gf _ i wr => ∃ (k : Nat) (s : Ts), k + gf = b.length ∧ i = .int .i64 k ∧ allT b = runT s k (b.drop k) ∧ TsOk s k ∧ OpT wr (br + 1) g s k ∧ OwB wr br bo .open_ k ∧ wr.heap[br]? = some (.cells vd0 31 (0, 0)) ∧ Stp (fun _ => False) w wr)
  case atStart => exact ⟨0, .new, by omega, rfl, rfl, TsOk.new, HP2.out, HO2.out, HR2.out, HS2.out⟩
  case round =>
    obtain ⟨k, s, hk, rfl, hrun, hok, hp, ho, hrb, hs⟩ := hrel
    have HRUN := Lib.hid hrun
    have HOK := Lib.hid hok
    have HP := Lib.hid hp
    have HO := Lib.hid ho
    have HRB := Lib.hid hrb
    have HS := Lib.hid hs
    clear hrun hok hp ho hrb hs
    by_cases hlt : k < b.length
    · obtain ⟨ad, rfl, -, hc⟩ := plain_cell (HX.out.stp0 HS.out) k hlt
      obtain ⟨c, hcc⟩ : ∃ c, c = b[k] := ⟨_, rfl⟩
      rw [← hcc] at hc
      simp only [enc8] at hc
      have hstep : allT b = if (stepT s c).2.st = 0 then runT (stepT s c).1 (k + 1) (b.drop (k + 1)) else ((stepT s c).2, k + 1) := by
        rw [HRUN.out, drop_cons' b k hlt, runT_cons, ← hcc]
      have cT := ttake_open (br + 1) g s k c wr HP.out ⟨w, HV.out, by have := HBR.out; omega, HS.out⟩ HOK.out (by omega)
      have hok2 := fun h => HOK.out.step c h
      have hop : (stepT s c).2.st = 0 → (stepT s c).2 = .open_ := stepT_open
      obtain ⟨q, hq⟩ : ∃ q, q = stepT s c := ⟨_, rfl⟩
      rw [← hq] at hstep cT hok2 hop
      obtain ⟨s', v'⟩ := q
      simp only at hstep cT hok2 hop
      unfold TkT vtV at cT
      have HST := Lib.hid hstep
      have HOK2 := Lib.hid hok2
      have HOP := Lib.hid hop
      have hin : (k : Int) < (b.length : Int) := by omega
      have hw : IntKind.i64.wrap ((k : Int) + 1) = (k : Int) + 1 := IntWalk.i64_in _ (by omega)
      obtain ⟨A0, p0, B0, q0, hob, -, -⟩ := HO.out
      have HOB := Lib.hid hob
      have HWZ := Lib.hid HS.out.size
      clear hstep hok2 hop hq hcc hob
      go_wp2_with (go_at_call 13; refine stopc ?_)
      refine Stop.go ?_
      refine cT.mono ?_
      rintro e W3 ⟨va, vv, N9, rfl, hN1, hN2, h1, h2, hp3, hk3, hs3⟩
      obtain ⟨A1, p1, rfl, -⟩ := h1.form
      obtain ⟨A2, p2, rfl, -⟩ := h2.form
      have HO1 := Lib.hid (h1.lower (B' := br) (by have := HBR.out; have := HWZ.out; omega))
      have HO2 := Lib.hid (h2.lower (B' := br) (by have := HBR.out; have := HWZ.out; omega))
      have HP3 := Lib.hid hp3
      have HB3 := Lib.hid (NoVd.blk HOB.out hs3)
      have HR3 := Lib.hid (NoVd.blk HRB.out hs3)
      have HS3 := Lib.hid (HS.out.then_ hs3 (fun j hj h => by have := h.1; have := HBR.out; omega))
      clear hp3 hk3 hs3 cT h1 h2 hN1 hN2
      go_wp2_with (refine wpList_store_row rfl _ _ _ rfl bo _ rfl rfl _ _ HB3.out size_vd rfl (vtC_one _ _ _ _ _ _ _ _) ?_; refine stopw ?_)
      refine Stop.go ?_
      obtain ⟨W4, hW4⟩ : ∃ W, W = W3.setRow bo (vtC v' (k + 1) (.slice A1 v'.sn.alpn.length p1) (.slice A2 v'.sn.vers.length p2)).toArray := ⟨_, rfl⟩
      have hs4 : Stp (fun k => k = bo) W3 W4 := by rw [hW4]; exact (Stp.refl (fun k => k = bo) W3).rowA (g := bo) (fun _ => rfl) _
      have hb4 : W4.heap[bo]? = some (.cells (vtC v' (k + 1) (.slice A1 v'.sn.alpn.length p1) (.slice A2 v'.sn.vers.length p2)).toArray 31 (0, 0)) := by rw [hW4]; exact row_blk HB3.out _
      have HP4 := Lib.hid (fun h => (HP3.out h).atb HB3.out hs4)
      have HO4 : Hid (OwB W4 br bo v' (k + 1)) := Lib.hid ⟨A1, p1, A2, p2, hb4, HO1.out.step hs4 fun k hk e => own_tyG HO1.out HB3.out (by decide) (by rw [← e]; exact hk), HO2.out.step hs4 fun k hk e => own_tyG HO2.out HB3.out (by decide) (by rw [← e]; exact hk)⟩
      have HR4 := Lib.hid (hs4.blk HR3.out (by omega))
      have HS4 := Lib.hid (HS3.out.then_ hs4 (fun j hj h => by have := HBR.out; omega))
      have HB4 := Lib.hid hb4
      have hc0 : W4.cell? ⟨bo, 0, none⟩ = some (.int .i64 v'.st) := by rw [blk_cell hb4]; rfl
      rw [← hW4]
      clear hW4 hs4 hb4
      by_cases h0 : v'.st = 0
      · have hop := HOP.out h0
        have HKX := Lib.hid (And.intro (HOK2.out h0) (HP4.out h0))
        have HRU := Lib.hid (HST.out.trans (if_pos h0))
        subst hop
        obtain ⟨g', rfl⟩ : ∃ g', gk = g' + 1 := ⟨gk - 1, by omega⟩
        clear h0
        simp only [Vt.open_] at hc0
        go_wp2
        go_roundg g'
        case measure => omega
        case rel => exact ⟨k + 1, s', by omega, by go_num, HRU.out, HKX.out.1, HKX.out.2, HO4.out, HR4.out, HS4.out⟩
      · have hne : (v'.st != 0) = true := by simpa using h0
        have HRU := Lib.hid (HST.out.trans (if_neg h0))
        clear h0
        go_wp2_with (with_reducible refine stop (N := 25) rfl ?_)
        refine Stop.go ?_
        refine wpList_load_row rfl _ _ rfl bo rfl _ _ (0, 0) _ HB4.out Tryz.underlying31 rfl size_vd ?_
        go_wp2_with (refine wpList_store_row rfl _ _ _ rfl br _ rfl rfl _ vd0 HR4.out size_vd rfl (vtC_one _ _ _ _ _ _ _ _) ?_; refine stopw ?_)
        refine Stop.go ?_
        have hs8 := (Stp.refl (fun k => k = br) W4).rowA (g := br) (fun _ => rfl) (vtC v' (k + 1) (.slice A1 v'.sn.alpn.length p1) (.slice A2 v'.sn.vers.length p2)).toArray
        have HS8 := Lib.hid (HS4.out.then_ hs8 (fun j hj h => by have := HBR.out; omega))
        have HR8 := Lib.hid (row_blk HR4.out (vtC v' (k + 1) (.slice A1 v'.sn.alpn.length p1) (.slice A2 v'.sn.vers.length p2)).toArray)
        have HZ8 := Lib.hid (HO4.out.step HR4.out hs8 (by omega))
        have HB8 := Lib.hid (hs8.blk HB4.out (by omega))
        clear hs8
        go_wp2
        refine bodyPost_ret (results_cell_row rfl _ _ br _ _ _ _ rfl HR8.out Tryz.underlying31 rfl size_vd) rfl ?_
        rw [HR.out]
        unfold AllT
        rw [HRU.out, ← HBR.out]
        obtain ⟨A9, p9, B9, q9, h7, h8, h9⟩ := HZ8.out
        rw [HB8.out] at h7
        injection h7 with h7
        injection h7 with h7 _ _
        have h71 := congrArg (fun a => a[8]?) h7
        have h72 := congrArg (fun a => a[9]?) h7
        simp [vtC] at h71 h72
        obtain ⟨rfl, rfl⟩ := h71
        obtain ⟨rfl, rfl⟩ := h72
        exact ⟨_, _, rfl, h8, h9, HS8.out⟩
    · obtain rfl : k = b.length := by omega
      have HRU : Hid (allT b = (.open_, b.length)) := Lib.hid (by rw [HRUN.out, List.drop_length]; rfl)
      obtain ⟨A0, p0, B0, q0, hob, h1, h2⟩ := HO.out
      have HOB := Lib.hid hob
      have HO1 := Lib.hid h1
      have HO2 := Lib.hid h2
      clear hob h1 h2
      go_wp2_with (with_reducible refine stop (N := 25) rfl ?_)
      refine Stop.go ?_
      refine wpList_load_row rfl _ _ rfl bo rfl _ _ (0, 0) _ HOB.out Tryz.underlying31 rfl size_vd ?_
      go_wp2_with (refine wpList_store_row rfl _ _ _ rfl br _ rfl rfl _ vd0 HRB.out size_vd rfl (vtC_one _ _ _ _ _ _ _ _) ?_; refine stopw ?_)
      refine Stop.go ?_
      have hs8 := (Stp.refl (fun k => k = br) wr).rowA (g := br) (fun _ => rfl) (vtC .open_ b.length (.slice A0 Vt.open_.sn.alpn.length p0) (.slice B0 Vt.open_.sn.vers.length q0)).toArray
      have HS8 := Lib.hid (HS.out.then_ hs8 (fun j hj h => by have := HBR.out; omega))
      have HR8 := Lib.hid (row_blk HRB.out (vtC .open_ b.length (.slice A0 Vt.open_.sn.alpn.length p0) (.slice B0 Vt.open_.sn.vers.length q0)).toArray)
      have HQ1 := Lib.hid (HO1.out.step hs8 fun k hk e => own_tyG HO1.out HRB.out (by decide) (by rw [← e]; exact hk))
      have HQ2 := Lib.hid (HO2.out.step hs8 fun k hk e => own_tyG HO2.out HRB.out (by decide) (by rw [← e]; exact hk))
      clear hs8
      go_wp2
      refine bodyPost_ret (results_cell_row rfl _ _ br _ _ _ _ rfl HR8.out Tryz.underlying31 rfl size_vd) rfl ?_
      rw [HR.out]
      unfold AllT
      rw [HRU.out, ← HBR.out]
      exact ⟨_, _, rfl, HQ1.out, HQ2.out, HS8.out⟩
end Go.Proofs.YtligofmhbbgalaaGreatDoor.L
