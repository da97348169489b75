/- Texts of the proof, joined: Tu. -/
import Derived.Test.YtligofmhbbgalaaGreatDoorG28
set_option linter.unusedVariables false
set_option linter.unusedSimpArgs false
/- Layer 15: the law TlspeekTakes. -/
namespace Go.Proofs.YtligofmhbbgalaaGreatDoor.L
open Go.RowKit Go.Proofs

/-- What holds of one that took bytes. -/
structure TkTok (t : Ts × Vt × Nat) (n : Nat) : Prop where
  ok : t.2.1.st = 0 → TsOk t.1 t.2.2
  op : t.2.1.st = 0 → t.2.1 = .open_
  le : t.2.2 ≤ n
theorem TkTok.take {t : Ts × Vt × Nat} {n : Nat} (h : TkTok t n) (c : UInt8) : TkTok (takeT t c) (n + 1) := by
  unfold takeT
  by_cases h0 : t.2.1.st = 0
  · rw [if_pos h0]
    exact ⟨fun ho => (h.ok h0).step c ho, stepT_open, Nat.succ_le_succ h.le⟩
  · rw [if_neg h0]
    exact ⟨fun h' => absurd h' h0, fun h' => absurd h' h0, Nat.le_succ_of_le h.le⟩
def PkW (w : World) (g0 g : Nat) (t : Ts × Vt × Nat) : Prop := (t.2.1.st = 0 → OpT w g0 g t.1 t.2.2) ∧ (t.2.1.st ≠ 0 → ∃ A N, KnN w g A N t.2.1 t.2.2)
theorem PkW.stp0 {w w1 : World} {g0 g : Nat} {t : Ts × Vt × Nat} (h : PkW w g0 g t) (hs : Stp (fun _ => False) w w1) : PkW w1 g0 g t := ⟨fun h0 => (h.1 h0).stp0 hs, fun h0 => by obtain ⟨A, N, h1⟩ := h.2 h0; exact ⟨A, N, h1.stp0 hs⟩⟩
def TkW (w : World) (g0 g : Nat) (ts : Ts) (v : Vt) (u : Nat) (e : Ending) (w' : World) : Prop := ∃ va vv N, e = .returned (vtV v u va vv) ∧ w.heap.size ≤ N ∧ N ≤ w'.heap.size ∧ Own Value.string 9 N w' va v.sn.alpn ∧ Own (Value.int .i64) 3 N w' vv v.sn.vers ∧ (v.st = 0 → OpT w' g0 g ts u) ∧ (v.st ≠ 0 → ∃ A, KnN w' g A N v u) ∧ Stp (NoVd g0 w) w w'
theorem takeW_any (g0 g : Nat) (t : Ts × Vt × Nat) (n : Nat) (c : UInt8) (w : World) (h : PkW w g0 g t) (he : EnvB g0 w) (hk : TkTok t n) (hn : n < 1000000) :
    Calls Tryz.prog 13 #[.pointer (some ⟨g, 0, none⟩), .int .u8 (c.toNat : Int)] w (TkW w g0 g (takeT t c).1 (takeT t c).2.1 (takeT t c).2.2) := by
  unfold takeT
  by_cases h0 : t.2.1.st = 0
  · rw [if_pos h0]
    refine (ttake_open g0 g t.1 t.2.2 c w (h.1 h0) he (hk.ok h0) (Nat.lt_of_le_of_lt hk.le hn)).mono ?_
    rintro e w1 ⟨va, vv, N, rfl, k1, k2, k3, k4, k5, k6, k7⟩
    exact ⟨va, vv, N, rfl, k1, k2, k3, k4, k5, fun h => ⟨_, k6 h⟩, k7⟩
  · rw [if_neg h0]
    obtain ⟨A, N, h1⟩ := h.2 h0
    refine (ttake_known g A t.2.1 t.2.2 c w h1.knt h0).mono ?_
    rintro e w1 ⟨va, vv, rfl, k1, k2, k3, k4⟩
    exact ⟨va, vv, w.heap.size, rfl, Nat.le_refl _, k4.size, k1, k2, fun h => absurd h h0, fun _ => ⟨A, k3⟩, k4.to⟩
/-- The cells of what the document's All tells. -/
theorem rallC_any (M : Nat → Prop) (vb : Value) (b : List UInt8) (w : World) (hb : Rd u8 M w vb b) (hl : b.length ≤ 1000000) {st rs : Int} {ho : List UInt8} {has ec : Bool} {nm : ByteArray} {al : List ByteArray} {vs : List Int} {u : Nat} (hq : allT b = (⟨st, rs, ho, ⟨has, nm, al, vs, ec⟩⟩, u)) {H : ByteArray} (hH : H = strB ho) :
    Calls Tryz.prog 11 #[vb] w fun e w' => ∃ A p B q, e = .returned (.agg #[.int .i64 st, .int .i64 1, .int .i64 (u : Int), .int .i64 rs, .string H, .int .i64 0, .bool has, .string nm, .slice A al.length p, .slice B vs.length q, .bool ec]) ∧ VtR (fun _ => False) w' ⟨st, rs, ho, ⟨has, nm, al, vs, ec⟩⟩ (.slice A al.length p) (.slice B vs.length q) ∧ Stp (fun _ => False) w w' := by
  refine (rallV_any M vb b w hb hl).mono ?_
  rintro e w1 ⟨va, vv, rfl, h1, hs⟩
  rw [hq] at h1 ⊢
  obtain ⟨A, p, rfl, -⟩ := h1.1.form
  obtain ⟨B, q, rfl, -⟩ := h1.2.1.form
  subst hH
  exact ⟨A, p, B, q, rfl, h1, hs⟩
theorem sameD_any (M : Nat → Prop) {st rs : Int} {ho : List UInt8} {has ec : Bool} {nm : ByteArray} {al : List ByteArray} {vs : List Int} {u : Nat} {H : ByteArray} {va vv ua uv : Value} {w : World} (hH : H = strB ho) (h1 : VtR M w ⟨st, rs, ho, ⟨has, nm, al, vs, ec⟩⟩ va vv) (h2 : VtR M w ⟨st, rs, ho, ⟨has, nm, al, vs, ec⟩⟩ ua uv) :
    Calls Tryz.prog 9 #[.agg #[.int .i64 st, .int .i64 1, .int .i64 (u : Int), .int .i64 rs, .string H, .int .i64 0, .bool has, .string nm, va, vv, .bool ec], .agg #[.int .i64 st, .int .i64 1, .int .i64 (u : Int), .int .i64 rs, .string H, .int .i64 0, .bool has, .string nm, ua, uv, .bool ec]] w (TrueT w) := by
  subst hH
  exact same15T_any M ⟨st, rs, ho, ⟨has, nm, al, vs, ec⟩⟩ u va vv ua uv w h1 h2
theorem foldT_few (b : List UInt8) : fewT (foldT b).2.1 := by
  rw [foldT_all]
  exact runT_few _ _ _
set_option maxRecDepth 100000 in
set_option maxHeartbeats 16000000 in
theorem takes15_any (M : Nat → Prop) (vb : Value) (b : List UInt8) (w : World) (hb : Rd u8 M w vb b) (he : EnvP w) :
    Calls Tryz.prog 4 #[vb] w (TrueT w) := by
  obtain ⟨A, cp, rfl, hle⟩ := hb.form
  have hcm := hb.at_.2.2.1
  unfold maxLen at hcm
  obtain ⟨R, hR⟩ : ∃ R, R = TrueT w := ⟨_, rfl⟩
  rw [← hR]
  have HR := Lib.hid hR
  have HM := Lib.hid he
  have HB := Lib.hid hb
  clear hR he hb
  by_cases hbig : b.length ≤ 400
  · have h1 : decide ((400 : Int) < (b.length : Int)) = false := decide_eq_false (by omega)
    have HS0 := Lib.hid (Stp.refl (fun _ => False) w)
    go_enter Tryz.func4, Tryz.ntmps4
    go_wp2_with (go_at_call 8; refine stopc ?_)
    refine Stop.go ?_
    refine (small15_any _ (HM.out.step HS0.out)).mono ?_
    rintro e w1 ⟨he, hs1⟩
    subst he
    have HS1 := Lib.hid (HS0.out.trans hs1)
    clear hs1
    go_wp2_with (go_at_call 12; refine stopc ?_)
    refine Stop.go ?_
    refine (smN15_call _).mono ?_
    rintro e w2 ⟨g, g0, rfl, hg0, hp, hs2⟩
    have HS2 := Lib.hid (HS1.out.trans hs2)
    clear hs2
    have hgw : w.heap.size ≤ g0 := by rw [← hg0]; exact HS1.out.size
    have HP := Lib.hid (show PkW _ g0 g (foldT []) from ⟨fun _ => hp, fun h => absurd rfl h⟩)
    have HGL := Lib.hid hp.lt
    clear hg0 hp
    go_wp2
    go_loopg [5] b.length (fun gf i wr => ∃ (k : Nat), k + gf = b.length ∧ i = .int .i64 k ∧ PkW wr g0 g (foldT (b.take k)) ∧ TkTok (foldT (b.take k)) k ∧ g < wr.heap.size ∧ Stp (fun _ => False) w wr)
    case atStart => exact ⟨0, by omega, rfl, HP.out, ⟨fun _ => TsOk.new, fun _ => rfl, Nat.le_refl _⟩, HGL.out, HS2.out⟩
    case round =>
      obtain ⟨k, hk, rfl, hp, hok, hgl, hs⟩ := hrel
      have HP := Lib.hid hp
      have HOK := Lib.hid hok
      have HS := Lib.hid hs
      have HGL := Lib.hid hgl
      clear hp hok hs hgl
      by_cases hlt : k < b.length
      · obtain ⟨ad, rfl, -, hc⟩ := plain_cell (HB.out.stp0 HS.out) k hlt
        have hnx := foldT_next b k hlt
        obtain ⟨c, hcc⟩ : ∃ c, c = b[k] := ⟨_, rfl⟩
        rw [← hcc] at hnx hc
        simp only [enc8] at hc
        obtain ⟨hc1, hc2⟩ := cut_hi (P := Tryz.prog) L.u8 22 5 Tryz.underlying22 (by kernel_rfl) (some ad) b.length cp (k + 1) hlt hle
        have htk : (b.take (k + 1)).length = k + 1 := by rw [List.length_take]; omega
        have hal := foldT_all (b.take (k + 1))
        have hfe := foldT_few (b.take (k + 1))
        have cT := fun W hp hs => takeW_any g0 g _ k c W hp ⟨w, HM.out, hgw, hs⟩ HOK.out (by omega)
        have hok2 := HOK.out.take c
        rw [← hnx] at cT hok2
        unfold TkW vtV vtC at cT
        obtain ⟨q, hq⟩ : ∃ q, q = foldT (b.take (k + 1)) := ⟨_, rfl⟩
        rw [← hq] at cT hok2 hal hfe
        have HQ := Lib.hid hq
        obtain ⟨ts, ⟨st, rs, ho, ⟨has, nm, al, vs, ec⟩⟩, u⟩ := q
        simp only at cT hfe
        obtain ⟨H, hH⟩ : ∃ H, H = strB ho := ⟨_, rfl⟩
        rw [← hH] at cT
        have HCA : Hid (∀ W, Stp (fun _ => False) w W → Calls Tryz.prog 11 #[.slice (some ad) (k + 1) cp] W fun e w' => ∃ A p B q, e = .returned (.agg #[.int .i64 st, .int .i64 1, .int .i64 (u : Int), .int .i64 rs, .string H, .int .i64 0, .bool has, .string nm, .slice A al.length p, .slice B vs.length q, .bool ec]) ∧ VtR (fun _ => False) w' ⟨st, rs, ho, ⟨has, nm, al, vs, ec⟩⟩ (.slice A al.length p) (.slice B vs.length q) ∧ Stp (fun _ => False) W w') := Lib.hid (fun W hs => rallC_any M (.slice (some ad) (k + 1) cp) (b.take (k + 1)) W (hc2 M W b (HB.out.stp0 hs)) (by omega) hal.symm hH)
        have HHH := Lib.hid hH
        have HNX := Lib.hid hok2
        have HFE := Lib.hid hfe
        have hin : (k : Int) < (b.length : Int) := by omega
        have hw : IntKind.i64.wrap ((k : Int) + 1) = (k : Int) + 1 := IntWalk.i64_in _ (by omega)
        have hk1 : ((k : Int) + 1) ≤ (b.length : Int) := by omega
        have hsl : ∀ (W : World) (kh : IntKind), (Instr.slice 22 (.slice (some ad) b.length cp) none (some (.int kh ((k : Int) + 1))) none).run Tryz.prog W = .ok (.slice (some ad) (k + 1) cp) W := fun W kh => hc1 W kh
        obtain ⟨g', rfl⟩ : ∃ g', gk = g' + 1 := ⟨gk - 1, by omega⟩
        clear hnx hcc hc2 hc1 htk hal hq hH hok2 hfe
        go_wp2_with (go_at_call 13; refine stopc ?_)
        refine Stop.go ?_
        refine (cT _ HP.out HS.out).mono ?_
        rintro e w3 ⟨va, vv, N, rfl, hN1, hN2, ho1, ho2, hop, hkn, hs3⟩
        obtain ⟨A1, p1, rfl, -⟩ := ho1.form
        obtain ⟨A2, p2, rfl, -⟩ := ho2.form
        have hgN : g < N := by have := HGL.out; omega
        have HZ := Lib.hid (And.intro hgN hN2)
        have HWN := Lib.hid (Nat.le_trans HS.out.size hN1)
        have HO1 := Lib.hid ho1
        have HO2 := Lib.hid ho2
        have HPO := Lib.hid hop
        have HPK := Lib.hid hkn
        have HS3 := Lib.hid (HS.out.then_ hs3 (fun j hj h => by have := h.1; omega))
        clear ho1 ho2 hop hkn hs3 hN1 hN2 cT hc hgN
        go_upto_region 9 with fail
        have hA := (Stp.refl (fun _ => False) w3).alloc (.cells #[.int .i64 st, .int .i64 1, .int .i64 (u : Int), .int .i64 rs, .string H, .int .i64 0, .bool has, .string nm, .slice A1 al.length p1, .slice A2 vs.length p2, .bool ec] 31)
        have hb4 := heap_alloc_new w3 (.cells #[.int .i64 st, .int .i64 1, .int .i64 (u : Int), .int .i64 rs, .string H, .int .i64 0, .bool has, .string nm, .slice A1 al.length p1, .slice A2 vs.length p2, .bool ec] 31)
        replace HO1 := Lib.hid (HO1.out.stp0 hA)
        replace HO2 := Lib.hid (HO2.out.stp0 hA)
        replace HPO := Lib.hid (fun h => (HPO.out h).stp0 hA)
        replace HPK := Lib.hid (fun h => (HPK.out h).imp fun _ h => KnN.stp0 h hA)
        have HS4 := Lib.hid (HS3.out.trans hA)
        have HZ4 := Lib.hid (show g < N ∧ N ≤ w3.heap.size from HZ.out)
        generalize w3.alloc (.cells #[.int .i64 st, .int .i64 1, .int .i64 (u : Int), .int .i64 rs, .string H, .int .i64 0, .bool has, .string nm, .slice A1 al.length p1, .slice A2 vs.length p2, .bool ec] 31) = w4 at hA hb4 HO1 HO2 HPO HPK HS4 ⊢
        obtain ⟨gv, hgv⟩ : ∃ n, n = w3.heap.size := ⟨_, rfl⟩
        rw [← hgv] at hb4 HZ4
        simp only [← hgv]
        have HB4 := Lib.hid hb4
        clear hgv hb4 hA HZ HS3
        have hT0 : Stp (fun _ => False) w4 w4.drew := (Stp.refl _ _).drew
        refine wp_region_held_drew (S := (fun W => W.heap[gv]? = some (.cells #[.int .i64 st, .int .i64 1, .int .i64 (u : Int), .int .i64 rs, .string H, .int .i64 0, .bool has, .string nm, .slice A1 al.length p1, .slice A2 vs.length p2, .bool ec] 31 (0, 0)))) (by kernel_rfl) (hT0.blk HB4.out id) (fun hHeld => ?_)
        try (change wpAnyH _ _ _ _ _ _ _ _ (World.drew _))
        generalize w4.drew = W0 at hT0 hHeld ⊢
        have HT := Lib.hid (HS4.out.trans hT0)
        have HBV := Lib.hid (hT0.blk HB4.out id)
        replace HO1 := Lib.hid (HO1.out.stp0 hT0)
        replace HO2 := Lib.hid (HO2.out.stp0 hT0)
        replace HPO := Lib.hid (fun h => (HPO.out h).stp0 hT0)
        replace HPK := Lib.hid (fun h => (HPK.out h).imp fun _ h => KnN.stp0 h hT0)
        have HVU : True := trivial
        have HZW := Lib.hid (show True from trivial)
        clear hT0
        refine rg_take (i := 0) (o := { dst := some 35, op := Op.load 31 (Operand.tmp 6), type := 31, pos := "law.go:63", after := #[], guard := none }) (v := ?rgv1) rfl (by kernel_rfl) (by kernel_rfl) (by kernel_rfl) (fun _ _ _ h => h) (by rfl) (fun w hSw => ?rgy1) hHeld ?_
        case rgy1 => (have hk0 : w.cell? ⟨gv, 0, none⟩ = some (.int .i64 st) := blk_cell (j := 0) hSw; have hk1 : w.cell? ⟨gv, 1, none⟩ = some (.int .i64 1) := blk_cell (j := 1) hSw; have hk2 : w.cell? ⟨gv, 2, none⟩ = some (.int .i64 (u : Int)) := blk_cell (j := 2) hSw; have hk3 : w.cell? ⟨gv, 3, none⟩ = some (.int .i64 rs) := blk_cell (j := 3) hSw; have hk4 : w.cell? ⟨gv, 4, none⟩ = some (.string H) := blk_cell (j := 4) hSw; have hk5 : w.cell? ⟨gv, 5, none⟩ = some (.int .i64 0) := blk_cell (j := 5) hSw; have hk6 : w.cell? ⟨gv, 6, none⟩ = some (.bool has) := blk_cell (j := 6) hSw; have hk7 : w.cell? ⟨gv, 7, none⟩ = some (.string nm) := blk_cell (j := 7) hSw; have hk8 : w.cell? ⟨gv, 8, none⟩ = some (.slice A1 al.length p1) := blk_cell (j := 8) hSw; have hk9 : w.cell? ⟨gv, 9, none⟩ = some (.slice A2 vs.length p2) := blk_cell (j := 9) hSw; have hk10 : w.cell? ⟨gv, 10, none⟩ = some (.bool ec) := blk_cell (j := 10) hSw; have hk11 := blk_lt hSw; go_simp; with_reducible rfl)
        try simp only [Act.put, List.setIfInBounds_toArray, List.set_cons_zero, List.set_cons_succ]
        refine rg_take (i := 1) (o := { dst := some 36, op := Op.move (Operand.tmp 0), type := 22, pos := "law.go:63", after := #[], guard := none }) (v := ?rgv2) rfl (by kernel_rfl) (by kernel_rfl) (by kernel_rfl) (fun _ _ _ h => h) (by rfl) (fun w hSw => ?rgy2) hHeld ?_
        case rgy2 => (try dsimp only at hSw); first | (go_simp; done) | (go_simp; with_reducible rfl)
        try simp only [Act.put, List.setIfInBounds_toArray, List.set_cons_zero, List.set_cons_succ]
        refine rg_take (i := 2) (o := { dst := some 37, op := Op.move (Operand.tmp 5), type := 3, pos := "law.go:63", after := #[], guard := none }) (v := ?rgv3) rfl (by kernel_rfl) (by kernel_rfl) (by kernel_rfl) (fun _ _ _ h => h) (by rfl) (fun w hSw => ?rgy3) hHeld ?_
        case rgy3 => (try dsimp only at hSw); first | (go_simp; done) | (go_simp; with_reducible rfl)
        try simp only [Act.put, List.setIfInBounds_toArray, List.set_cons_zero, List.set_cons_succ]
        refine rg_take (i := 3) (o := { dst := some 38, op := Op.binOp BinOp.add 3 (Operand.tmp 37) (Operand.const (Value.int IntKind.i64 1)) 3, type := 3, pos := "law.go:63", after := #[{ on := 2, ground := Ground.data }], guard := none }) (v := ?rgv4) rfl (by kernel_rfl) (by kernel_rfl) (by kernel_rfl) (fun _ _ _ h => h) (by rfl) (fun w hSw => ?rgy4) hHeld ?_
        case rgy4 => (try dsimp only at hSw); first | (go_simp; done) | (go_simp; with_reducible rfl)
        try simp only [Act.put, List.setIfInBounds_toArray, List.set_cons_zero, List.set_cons_succ]
        refine rg_take (i := 4) (o := { dst := some 39, op := Op.slice 22 (Operand.tmp 36) none (some (Operand.tmp 38)) none, type := 22, pos := "law.go:63", after := #[{ on := 1, ground := Ground.data }, { on := 3, ground := Ground.data }], guard := none }) (v := ?rgv5) rfl (by kernel_rfl) (by kernel_rfl) (by kernel_rfl) (fun _ _ _ h => h) (by rfl) (fun w hSw => ?rgy5) hHeld ?_
        case rgy5 => (try dsimp only at hSw); first | (go_simp; done) | (go_simp; with_reducible rfl)
        try simp only [Act.put, List.setIfInBounds_toArray, List.set_cons_zero, List.set_cons_succ]
        refine wpAnyH_ready (rs := [5]) (by kernel_rfl) (by simp) ?_
        refine (AllReadyH.cons (o := { dst := some 40, op := Op.call { callee := Callee.value (Operand.func 11), args := #[Operand.tmp 39], argTypes := #[22] }, type := 31, pos := "law.go:63", after := #[{ on := 4, ground := Ground.data }], guard := none }) rfl (fun K hK => ?_) AllReadyH.nil)
        go_simp
        refine (HCA.out _ HT.out).mono ?_
        rintro e W1 ⟨A3, p3, A4, p4, rfl, hv, hs1⟩
        replace HT := Lib.hid (HT.out.trans hs1)
        replace HBV := Lib.hid (hs1.blk HBV.out id)
        replace HO1 := Lib.hid (HO1.out.stp0 hs1)
        replace HO2 := Lib.hid (HO2.out.stp0 hs1)
        replace HPO := Lib.hid (fun h => (HPO.out h).stp0 hs1)
        replace HPK := Lib.hid (fun h => (HPK.out h).imp fun _ h => KnN.stp0 h hs1)
        replace HVU := Lib.hid hv
        clear hs1 hv
        show K _ _
        clear hHeld
        refine hK.out _ _ (HBV.out) (fun hHeld => ?_)
        clear hK K
        try simp only [Act.put, List.setIfInBounds_toArray, List.set_cons_zero, List.set_cons_succ]
        refine wpAnyH_ready (rs := [6]) (by kernel_rfl) (by simp) ?_
        refine (AllReadyH.cons (o := { dst := some 41, op := Op.call { callee := Callee.value (Operand.func 9), args := #[Operand.tmp 35, Operand.tmp 40], argTypes := #[31, 31] }, type := 4, pos := "law.go:63", after := #[{ on := 0, ground := Ground.data }, { on := 5, ground := Ground.data }, { on := 5, ground := Ground.chain }], guard := none }) rfl (fun K hK => ?_) AllReadyH.nil)
        go_simp
        refine (sameD_any (fun _ => False) HHH.out ⟨HO1.out.rd (h1 := fun _ => rfl) (fun _ _ => id), HO2.out.rd (h1 := fun _ => rfl) (fun _ _ => id), HFE.out⟩ HVU.out).mono ?_
        rintro e W2 ⟨rfl, hs1⟩
        replace HT := Lib.hid (HT.out.trans hs1)
        replace HBV := Lib.hid (hs1.blk HBV.out id)
        replace HO1 := Lib.hid (HO1.out.stp0 hs1)
        replace HO2 := Lib.hid (HO2.out.stp0 hs1)
        replace HPO := Lib.hid (fun h => (HPO.out h).stp0 hs1)
        replace HPK := Lib.hid (fun h => (HPK.out h).imp fun _ h => KnN.stp0 h hs1)
        clear hs1
        show K _ _
        clear hHeld
        refine hK.out _ _ (HBV.out) (fun hHeld => ?_)
        clear hK K
        try simp only [Act.put, List.setIfInBounds_toArray, List.set_cons_zero, List.set_cons_succ]
        refine rg_take (i := 7) (o := { dst := some 42, op := Op.unOp UnOp.not 4 (Operand.tmp 41), type := 4, pos := "law.go:63", after := #[{ on := 6, ground := Ground.data }], guard := none }) (v := ?rgv6) rfl (by kernel_rfl) (by kernel_rfl) (by kernel_rfl) (fun _ _ _ h => h) (by rfl) (fun w hSw => ?rgy6) hHeld ?_
        case rgy6 => (try dsimp only at hSw); first | (go_simp; done) | (go_simp; with_reducible rfl)
        try simp only [Act.put, List.setIfInBounds_toArray, List.set_cons_zero, List.set_cons_succ]
        clear hHeld
        refine wpAnyH_done (by kernel_rfl) ?_ _
        generalize W2 = w5 at *
        have hnil : st = 0 → al.length = 0 ∧ vs.length = 0 := fun h0 => by
          have h := HNX.out.op h0
          simp only at h
          injection h with _ _ _ h4
          injection h4 with _ _ h5 h6
          exact ⟨by rw [h5]; rfl, by rw [h6]; rfl⟩
        have HNIL := Lib.hid hnil
        have hal := HFE.out.1
        have hvl := HFE.out.2
        simp only at hal hvl
        have c8 : w5.cell? ⟨gv, 8, none⟩ = some (.slice A1 al.length p1) := blk_cell (j := 8) HBV.out
        have lgv := blk_lt HBV.out
        clear hnil HB4 HS4 HS HP HVU HCA HGL
        go_wp2
        clear c8 lgv
        go_loopg [7] al.length (fun gf i wr => ∃ (j : Nat) (xs : List ByteArray), j + gf = al.length ∧ i = .int .i64 j ∧ xs.length = al.length ∧ Own Value.string 9 N wr (.slice A1 al.length p1) xs ∧ Own (Value.int .i64) 3 N wr (.slice A2 vs.length p2) vs ∧ wr.heap[gv]? = some (.cells #[.int .i64 st, .int .i64 1, .int .i64 (u : Int), .int .i64 rs, .string H, .int .i64 0, .bool has, .string nm, .slice A1 al.length p1, .slice A2 vs.length p2, .bool ec] 31 (0, 0)) ∧ (st = 0 → OpT wr g0 g ts u) ∧ (st ≠ 0 → ∃ A, KnN wr g A N ⟨st, rs, ho, ⟨has, nm, al, vs, ec⟩⟩ u) ∧ Stp (fun _ => False) w wr)
        case atStart => exact ⟨0, al, by omega, rfl, rfl, HO1.out, HO2.out, HBV.out, HPO.out, HPK.out, HT.out⟩
        case round =>
          obtain ⟨j, xs, hj, rfl, hxl, ho1, ho2, hbv, hpo, hpk, hst⟩ := hrel
          have HJ := Lib.hid hxl
          clear HO1 HO2 HBV HPO HPK HT
          have HO1 := Lib.hid ho1
          have HO2 := Lib.hid ho2
          have HBV := Lib.hid hbv
          have HPO := Lib.hid hpo
          have HPK := Lib.hid hpk
          have HT := Lib.hid hst
          clear hxl ho1 ho2 hbv hpo hpk hst
          have c8 := blk_cell (j := 8) HBV.out
          simp at c8
          have lgv := blk_lt HBV.out
          by_cases hjl : j < al.length
          · have hst0 : ¬ st = 0 := fun h => by have := (HNIL.out h).1; omega
            have HST0 := Lib.hid hst0
            clear hst0
            obtain ⟨ga, hA1, -, hga, hgal⟩ := HO1.out.at_ (by have := HJ.out; omega)
            subst hA1
            have hadd : (⟨ga, 0, none⟩ : Addr).add j = ⟨ga, j, none⟩ := by rw [Addr.add_mid, Nat.zero_add]
            have hcj := HO1.out.cellAt j (by have := HJ.out; omega)
            have hfj := HO1.out.free j
            have hvg : gv ≠ ga := fun e => own_tyG HO1.out HBV.out (by decide) (by rw [e]; rfl)
            have hig : (Value.slice A2 vs.length p2).ownBlock ≠ some ga := own_typed HO1.out HO2.out (by decide) ga rfl
            have HNE := Lib.hid (And.intro hvg (And.intro hig hga))
            have hw2 : IntKind.i64.wrap ((j : Int) + 1) = (j : Int) + 1 := IntWalk.i64_in _ (by omega)
            have hin2 : (j : Int) < (al.length : Int) := by omega
            obtain ⟨g2, rfl⟩ : ∃ g2, gk = g2 + 1 := ⟨gk - 1, by omega⟩
            clear hvg hig hga
            go_wp2
            go_roundg g2
            case measure => omega
            case rel =>
              have hs5 : Stp (fun k => k = ga) wr (wr.setCell ⟨ga, j, none⟩ (.string ⟨#[115, 112, 111, 105, 108, 116]⟩)) := (Stp.refl _ _).setg j _
              refine ⟨j + 1, xs.set j ⟨#[115, 112, 111, 105, 108, 116]⟩, by omega, by go_num, by rw [List.length_set]; exact HJ.out, HO1.out.set_ j _, HO2.out.step hs5 (fun k hk e => HNE.out.2.1 (by rw [← e]; exact hk)), hs5.blk HBV.out HNE.out.1, fun h => absurd h HST0.out, fun h => (HPK.out h).imp fun _ h => KnN.step h hs5 (fun e => by have := HZ4.out.1; have := HNE.out.2.2; omega) (fun k e => Or.inr (by have := HNE.out.2.2; omega)), ?_⟩
              exact HT.out.then_ hs5 (fun k hk e => by have := HNE.out.2.2; have := HZ4.out; have := HWN.out; omega)
          · clear HJ HO1 c8
            have c9 := blk_cell (j := 9) HBV.out
            simp at c9
            have c8 := blk_cell (j := 8) HBV.out
            simp at c8
            go_wp2
            clear c8 c9 lgv
            go_loopg [8] vs.length (fun gf i wr => ∃ (m : Nat) (ys : List Int), m + gf = vs.length ∧ i = .int .i64 m ∧ ys.length = vs.length ∧ Own (Value.int .i64) 3 N wr (.slice A2 vs.length p2) ys ∧ wr.heap[gv]? = some (.cells #[.int .i64 st, .int .i64 1, .int .i64 (u : Int), .int .i64 rs, .string H, .int .i64 0, .bool has, .string nm, .slice A1 al.length p1, .slice A2 vs.length p2, .bool ec] 31 (0, 0)) ∧ (st = 0 → OpT wr g0 g ts u) ∧ (st ≠ 0 → ∃ A, KnN wr g A N ⟨st, rs, ho, ⟨has, nm, al, vs, ec⟩⟩ u) ∧ Stp (fun _ => False) w wr)
            case atStart => exact ⟨0, vs, by omega, rfl, rfl, HO2.out, HBV.out, HPO.out, HPK.out, HT.out⟩
            case round =>
              obtain ⟨m, ys, hm, rfl, hyl, ho2, hbv, hpo, hpk, hst⟩ := hrel
              clear HO2 HBV HPO HPK HT
              have HJ := Lib.hid hyl
              have HO2 := Lib.hid ho2
              have HBV := Lib.hid hbv
              have HPO := Lib.hid hpo
              have HPK := Lib.hid hpk
              have HT := Lib.hid hst
              clear hyl ho2 hbv hpo hpk hst
              have c9 := blk_cell (j := 9) HBV.out
              simp at c9
              have lgv := blk_lt HBV.out
              by_cases hml : m < vs.length
              · have hst0 : ¬ st = 0 := fun h => by have := (HNIL.out h).2; omega
                have HST0 := Lib.hid hst0
                clear hst0
                obtain ⟨ga, hA2, -, hga, hgal⟩ := HO2.out.at_ (by have := HJ.out; omega)
                subst hA2
                have hadd : (⟨ga, 0, none⟩ : Addr).add m = ⟨ga, m, none⟩ := by rw [Addr.add_mid, Nat.zero_add]
                have hcj := HO2.out.cellAt m (by have := HJ.out; omega)
                have hfj := HO2.out.free m
                have hvg : gv ≠ ga := fun e => own_tyG HO2.out HBV.out (by decide) (by rw [e]; rfl)
                have HNE := Lib.hid (And.intro hvg hga)
                have hw2 : IntKind.i64.wrap ((m : Int) + 1) = (m : Int) + 1 := IntWalk.i64_in _ (by omega)
                have hin2 : (m : Int) < (vs.length : Int) := by omega
                obtain ⟨g2, rfl⟩ : ∃ g2, gk = g2 + 1 := ⟨gk - 1, by omega⟩
                clear hvg hga
                go_wp2
                go_roundg g2
                case measure => omega
                case rel =>
                  have hs5 : Stp (fun k => k = ga) wr (wr.setCell ⟨ga, m, none⟩ (.int .i64 (-1))) := (Stp.refl _ _).setg m _
                  refine ⟨m + 1, ys.set m (-1), by omega, by go_num, by rw [List.length_set]; exact HJ.out, HO2.out.set_ m _, hs5.blk HBV.out HNE.out.1, fun h => absurd h HST0.out, fun h => (HPK.out h).imp fun _ h => KnN.step h hs5 (fun e => by have := HZ4.out.1; have := HNE.out.2; omega) (fun k e => Or.inr (by have := HNE.out.2; omega)), ?_⟩
                  exact HT.out.then_ hs5 (fun k hk e => by have := HNE.out.2; have := HZ4.out; have := HWN.out; omega)
              · have HGT := Lib.hid (show g < wr.heap.size by have := HZ4.out; omega)
                clear HJ HO2 HNIL
                go_wp2
                go_roundg g'
                case measure => omega
                case rel =>
                  have hp9 : PkW wr g0 g (foldT (b.take (k + 1))) := by
                    rw [← HQ.out]
                    exact ⟨HPO.out, fun h => (HPK.out h).imp fun _ h => ⟨N, h⟩⟩
                  have hk9 : TkTok (foldT (b.take (k + 1))) (k + 1) := by
                    rw [← HQ.out]
                    exact HNX.out
                  exact ⟨k + 1, by omega, by go_num, hp9, hk9, HGT.out, HT.out⟩
      · have HS9 := Lib.hid HS.out
        go_wp2
        rw [HR.out]
        exact ⟨rfl, HS9.out⟩
  · have h1 : decide ((400 : Int) < (b.length : Int)) = true := decide_eq_true (by omega)
    clear hbig
    have HS0 := Lib.hid (Stp.refl (fun _ => False) w)
    go_enter Tryz.func4, Tryz.ntmps4
    go_wp2_with (go_at_call 8; refine stopc ?_)
    refine Stop.go ?_
    refine (small15_any _ (HM.out.step HS0.out)).mono ?_
    rintro e w1 ⟨he, hs1⟩
    subst he
    have HS1 := Lib.hid (HS0.out.trans hs1)
    clear hs1
    go_wp2_with (go_at_call 12; refine stopc ?_)
    refine Stop.go ?_
    refine (smN15_call _).mono ?_
    rintro e w2 ⟨g, g0, rfl, hg0, hp, hs2⟩
    have HS2 := Lib.hid (HS1.out.trans hs2)
    clear hs2
    clear hg0 hp
    go_wp2
    rw [HR.out]
    exact ⟨rfl, HS2.out⟩
end Go.Proofs.YtligofmhbbgalaaGreatDoor.L
