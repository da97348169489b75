/- Texts of the proof, joined: Tl Tm. -/
import Derived.Test.YtligofmhbbgalaaGreatDoorG26
import Derived.Test.YtligofmhbbgalaaGreatDoorG07
import Derived.Test.YtligofmhbbgalaaGreatDoorG16
set_option linter.unusedVariables false
set_option linter.unusedSimpArgs false
/- Layer 15: equal verdicts are the same; a hello's bytes. -/
namespace Go.Proofs.YtligofmhbbgalaaGreatDoor.L
open Go.RowKit Go.Proofs

def TrueT (w : World) (e : Ending) (w' : World) : Prop := e = .returned (.bool true) ∧ Stp (fun _ => False) w w'
set_option maxRecDepth 100000 in
set_option maxHeartbeats 8000000 in
theorem same15T_any (M : Nat → Prop) (v : Vt) (u : Nat) (va vv ua uv : Value) (w : World) (h1 : VtR M w v va vv) (h2 : VtR M w v ua uv) : Calls Tryz.prog 9 #[vtV v u va vv, vtV v u ua uv] w (TrueT w) := by
  obtain ⟨R, hR⟩ : ∃ R, R = TrueT w := ⟨_, rfl⟩
  rw [← hR]
  have HR := Lib.hid hR
  have cS := fun W hs => sameSn_any M (.agg #[.bool v.sn.has, .string v.sn.name, va, vv, .bool v.sn.ech]) (.agg #[.bool v.sn.has, .string v.sn.name, ua, uv, .bool v.sn.ech]) v.sn v.sn W ⟨va, vv, rfl, (h1.stp0 hs).1, (h1.stp0 hs).2.1⟩ ⟨ua, uv, rfl, (h2.stp0 hs).1, (h2.stp0 hs).2.1⟩ ⟨by have := h1.2.2.1; omega, by have := h1.2.2.2; omega⟩ ⟨by have := h1.2.2.1; omega, by have := h1.2.2.2; omega⟩ true (by simp)
  obtain ⟨st, rs, ho, ⟨has, nm, al, vs, ec⟩⟩ := v
  obtain ⟨A1, p1, rfl, -⟩ := h1.1.form
  obtain ⟨A2, p2, rfl, -⟩ := h1.2.1.form
  obtain ⟨A3, p3, rfl, -⟩ := h2.1.form
  obtain ⟨A4, p4, rfl, -⟩ := h2.2.1.form
  unfold vtV vtC
  simp only at cS ⊢
  obtain ⟨H, hH⟩ : ∃ H, H = strB ho := ⟨_, rfl⟩
  simp only [← hH]
  clear hH hR h1 h2
  have hss : (H.toList == H.toList) = true := by simp
  have HS0 := Lib.hid (Stp.refl (fun _ => False) w)
  go_enter Tryz.func9, Tryz.ntmps9
  go_wp2_with (go_at_call 19; refine stopc ?_)
  refine Stop.go ?_
  refine (cS _ ((HS0.out.alloc _).alloc _)).mono ?_
  rintro e w1 ⟨he, hs1⟩
  subst he
  have HS1 := Lib.hid (((HS0.out.alloc _).alloc _).trans hs1)
  have HBA := Lib.hid (show w1.heap[w.heap.size]? = some (.cells #[.int .i64 st, .int .i64 1, .int .i64 (u : Int), .int .i64 rs, .string H, .int .i64 0, .bool has, .string nm, .slice A1 al.length p1, .slice A2 vs.length p2, .bool ec] 31 (0, 0)) from hs1.blk (((Stp.refl (fun _ => False) _).alloc _).blk (heap_alloc_new w _) id) id)
  have HBB := Lib.hid (show w1.heap[w.heap.size + 1]? = some (.cells #[.int .i64 st, .int .i64 1, .int .i64 (u : Int), .int .i64 rs, .string H, .int .i64 0, .bool has, .string nm, .slice A3 al.length p3, .slice A4 vs.length p4, .bool ec] 31 (0, 0)) from by have h := hs1.blk (heap_alloc_new (w.alloc (.cells #[.int .i64 st, .int .i64 1, .int .i64 (u : Int), .int .i64 rs, .string H, .int .i64 0, .bool has, .string nm, .slice A1 al.length p1, .slice A2 vs.length p2, .bool ec] 31)) _) id; simpa using h)
  clear hs1
  have kA0 : w1.cell? ⟨w.heap.size, 0, none⟩ = some (.int .i64 st) := blk_cell (j := 0) HBA.out
  have kA1 : w1.cell? ⟨w.heap.size, 1, none⟩ = some (.int .i64 1) := blk_cell (j := 1) HBA.out
  have kA2 : w1.cell? ⟨w.heap.size, 2, none⟩ = some (.int .i64 (u : Int)) := blk_cell (j := 2) HBA.out
  have kA3 : w1.cell? ⟨w.heap.size, 3, none⟩ = some (.int .i64 rs) := blk_cell (j := 3) HBA.out
  have kA4 : w1.cell? ⟨w.heap.size, 4, none⟩ = some (.string H) := blk_cell (j := 4) HBA.out
  have kA5 : w1.cell? ⟨w.heap.size, 5, none⟩ = some (.int .i64 0) := blk_cell (j := 5) HBA.out
  have kA6 : w1.cell? ⟨w.heap.size, 6, none⟩ = some (.bool has) := blk_cell (j := 6) HBA.out
  have kA7 : w1.cell? ⟨w.heap.size, 7, none⟩ = some (.string nm) := blk_cell (j := 7) HBA.out
  have kA8 : w1.cell? ⟨w.heap.size, 8, none⟩ = some (.slice A1 al.length p1) := blk_cell (j := 8) HBA.out
  have kA9 : w1.cell? ⟨w.heap.size, 9, none⟩ = some (.slice A2 vs.length p2) := blk_cell (j := 9) HBA.out
  have kA10 : w1.cell? ⟨w.heap.size, 10, none⟩ = some (.bool ec) := blk_cell (j := 10) HBA.out
  have ltA := blk_lt HBA.out
  have kB0 : w1.cell? ⟨w.heap.size + 1, 0, none⟩ = some (.int .i64 st) := blk_cell (j := 0) HBB.out
  have kB1 : w1.cell? ⟨w.heap.size + 1, 1, none⟩ = some (.int .i64 1) := blk_cell (j := 1) HBB.out
  have kB2 : w1.cell? ⟨w.heap.size + 1, 2, none⟩ = some (.int .i64 (u : Int)) := blk_cell (j := 2) HBB.out
  have kB3 : w1.cell? ⟨w.heap.size + 1, 3, none⟩ = some (.int .i64 rs) := blk_cell (j := 3) HBB.out
  have kB4 : w1.cell? ⟨w.heap.size + 1, 4, none⟩ = some (.string H) := blk_cell (j := 4) HBB.out
  have kB5 : w1.cell? ⟨w.heap.size + 1, 5, none⟩ = some (.int .i64 0) := blk_cell (j := 5) HBB.out
  have kB6 : w1.cell? ⟨w.heap.size + 1, 6, none⟩ = some (.bool has) := blk_cell (j := 6) HBB.out
  have kB7 : w1.cell? ⟨w.heap.size + 1, 7, none⟩ = some (.string nm) := blk_cell (j := 7) HBB.out
  have kB8 : w1.cell? ⟨w.heap.size + 1, 8, none⟩ = some (.slice A3 al.length p3) := blk_cell (j := 8) HBB.out
  have kB9 : w1.cell? ⟨w.heap.size + 1, 9, none⟩ = some (.slice A4 vs.length p4) := blk_cell (j := 9) HBB.out
  have kB10 : w1.cell? ⟨w.heap.size + 1, 10, none⟩ = some (.bool ec) := blk_cell (j := 10) HBB.out
  have ltB := blk_lt HBB.out
  go_wp2
  rw [HR.out]
  exact ⟨rfl, HS1.out⟩

set_option maxRecDepth 100000 in
set_option maxHeartbeats 8000000 in
theorem wrapR_any (M : Nat → Prop) (v : Value) (x : List UInt8) (w : World) (hx : Rd u8 M w v x) (hl : x.length ≤ 16384) : Calls Tryz.prog 35 #[v] w (NewB2 w (wrapW x) true) := by
  obtain ⟨R, hR⟩ : ∃ R, R = NewB2 w (wrapW x) true := ⟨_, rfl⟩
  rw [← hR]
  have HR := Lib.hid hR
  have HX := Lib.hid hx
  obtain ⟨A, c, rfl, -⟩ := hx.form
  obtain ⟨l, hl2⟩ : ∃ l, l = x.length := ⟨_, rfl⟩
  rw [← hl2] at hl HX ⊢
  have HL := Lib.hid hl2
  have e1 : ¬ (16384 : Int) < (l : Int) := by omega
  clear hR hx hl2
  go_enter Tryz.func35, Tryz.ntmps35
  go_wp2_with (with_reducible refine stop (N := 17) rfl ?_)
  refine Stop.go ?_
  have hlit : Own enc8 5 w.heap.size (w.alloc (.cells #[.int .u8 1, .int .u8 0, .int .u8 ((l : Int) / 256), .int .u8 ((l : Int) % 256)] 5)) (.slice (some ⟨w.heap.size, 0, none⟩) 4 4) [1, 0, UInt8.ofNat (l / 256), UInt8.ofNat (l % 256)] :=
    Own.lit (B := w.heap.size) [1, 0, UInt8.ofNat (l / 256), UInt8.ofNat (l % 256)] _ (by
      have k1 := hi_nat l hl
      have k2 := lo_nat l
      simp only [List.map_cons, List.map_nil, enc8, k1, k2]
      rfl) (Nat.le_refl _) (by simp)
  refine wp_appendRd enc8 (h1e := fun _ => rfl) rfl _ _ _ rfl Tryz.underlying22 info_u8 rfl hlit (HX.out.stp0 ((Stp.refl _ _).alloc _)) rfl rfl (by have := HL.out; simp; omega) (by have := HL.out; simp; omega) (by simp) ?_
  intro v1 w1 ho1 hg1
  have HO1 := Lib.hid ho1
  have HS1 := Lib.hid (((Stp.refl (fun _ => False) w).alloc _).grown hg1 (by
        intro k hk hlt
        simp [Value.ownBlock] at hk
        omega))
  clear ho1 hg1 hlit
  go_wp2
  rw [HR.out]
  refine ⟨_, rfl, ?_, HS1.out⟩
  unfold wrapW b2
  rw [← HL.out]
  exact HO1.out

/-! ### records -/
def recN (size : Int) : Nat := if size < 1 then 1 else if 16384 < size then 16384 else size.toNat
theorem recN_le (size : Int) : 1 ≤ recN size ∧ recN size ≤ 16384 := by unfold recN; (repeat' split) <;> omega
theorem frameF_nil (f n : Nat) : frameF f n [] = [] := by cases f <;> rfl
theorem frameF_fuel (n : Nat) (hn : 1 ≤ n) : ∀ (f g : Nat) (y : List UInt8), y.length ≤ f → y.length ≤ g → frameF f n y = frameF g n y := by
  intro f
  induction f with
  | zero =>
    intro g y hy _
    have : y = [] := List.eq_nil_of_length_eq_zero (by omega)
    rw [this, frameF_nil, frameF_nil]
  | succ f ih =>
    intro g y hy hg
    cases y with
    | nil => rw [frameF_nil, frameF_nil]
    | cons c r =>
      simp only [List.length_cons] at hy hg
      obtain ⟨g', rfl⟩ : ∃ g', g = g' + 1 := ⟨g - 1, by omega⟩
      rw [frameF, frameF, if_neg (by simp), if_neg (by simp)]
      congr 1
      have hd : ((c :: r).drop n).length ≤ r.length := by
        rw [List.length_drop]
        simp only [List.length_cons]
        omega
      exact ih _ _ (by omega) (by omega)
theorem frameS_nil (n : Nat) : frameS n [] = [] := rfl
theorem frameS_cons (n : Nat) (hn : 1 ≤ n) (y : List UInt8) (hy : y ≠ []) : frameS n y = recR (y.take n) ++ frameS n (y.drop n) := by
  unfold frameS
  cases y with
  | nil => exact absurd rfl hy
  | cons c r =>
    rw [List.length_cons, frameF, if_neg (by simp)]
    congr 1
    exact frameF_fuel n hn _ _ _ (by
      rw [List.length_drop]
      simp only [List.length_cons]
      omega) (Nat.le_refl _)
set_option maxRecDepth 100000 in
set_option maxHeartbeats 8000000 in
theorem frameR_any (M : Nat → Prop) (v : Value) (x : List UInt8) (size : Int) (w : World) (hx : Rd u8 M w v x) (hl : x.length ≤ 100000) : Calls Tryz.prog 36 #[v, .int .i64 size] w (NewB w (frameS (recN size) x)) := by
  obtain ⟨R, hR⟩ : ∃ R, R = NewB w (frameS (recN size) x) := ⟨_, rfl⟩
  rw [← hR]
  have HR := Lib.hid hR
  have HX := Lib.hid hx
  obtain ⟨A, c, rfl, hle⟩ := hx.form
  clear hR hx
  obtain ⟨n, hn⟩ : ∃ n, n = recN size := ⟨_, rfl⟩
  have hn1 := recN_le size
  rw [← hn] at hn1
  obtain ⟨hn1, hn2⟩ := hn1
  have HN := Lib.hid hn
  clear hn
  have e5 : max 1 (min size 16384) = (n : Int) := by
    rw [HN.out]
    unfold recN
    (repeat' split) <;> omega
  go_enter Tryz.func36, Tryz.ntmps36
  go_wp2
  go_loopg [6, 7] x.length (fun gf o i wr => ∃ (a : Nat) (P : List UInt8), x.length ≤ a + gf ∧ i = .int .i64 (a : Int) ∧ frameS n x = P ++ frameS n (x.drop a) ∧ P.length ≤ 6 * a ∧ a ≤ 200000 ∧ Own enc8 5 w.heap.size wr o P ∧ Stp (fun _ => False) w wr)
  case atStart => exact ⟨0, [], by omega, rfl, rfl, Nat.zero_le _, Nat.zero_le _, Own.nil _ _ _ _, Stp.refl _ _⟩
  case round =>
    obtain ⟨a, P, hk, rfl, hf, hP, ha2, ho, hs⟩ := hrel
    have HF := Lib.hid hf
    have HO := Lib.hid ho
    have HS := Lib.hid hs
    clear hf ho hs
    by_cases hlt : a < x.length
    · obtain ⟨h, hh⟩ : ∃ h, h = min x.length (a + n) := ⟨_, rfl⟩
      have e26 : min (x.length : Int) ((a : Int) + (n : Int)) = (h : Int) := by omega
      have eah : (a : Int) ≤ (h : Int) := by omega
      have ehl : (h : Int) ≤ (x.length : Int) := by omega
      have ew : IntKind.i64.wrap ((a : Int) + (n : Int)) = (a : Int) + (n : Int) := IntWalk.i64_in _ (by omega)
      obtain ⟨A', hcut, hcr⟩ := cut_lh (P := Tryz.prog) L.u8 22 5 Tryz.underlying22 size_u8 A x.length c a h (by omega) (by omega) hle
      have hp : (x.take h).drop a = (x.drop a).take n := by
        rw [List.drop_take]
        apply List.take_eq_take_iff.2
        rw [List.length_drop]
        omega
      have hpl : ((x.drop a).take n).length = h - a := by
        rw [List.length_take, List.length_drop]
        omega
      replace hcr : ∀ (M : Nat → Prop) (W : World), Rd L.u8 M W (.slice A x.length c) x → Rd L.u8 M W (.slice A' (h - a) (c - a)) ((x.drop a).take n) := fun M W hr => by rw [← hp]; exact hcr M W x hr
      have hfr := frameS_cons n hn1 (x.drop a) (fun e => by have := congrArg List.length e; rw [List.length_drop] at this; simp at this; omega)
      rw [List.drop_drop] at hfr
      obtain ⟨p, hpp⟩ : ∃ p, p = (x.drop a).take n := ⟨_, rfl⟩
      rw [← hpp] at hcr hpl hfr
      obtain ⟨l, hl3⟩ : ∃ l, l = h - a := ⟨_, rfl⟩
      rw [← hl3] at hcr hcut hpl
      have HFR := Lib.hid hfr
      have HCR := Lib.hid hcr
      have HPL := Lib.hid hpl
      have hl4 : l ≤ 16384 := by omega
      have hln : l ≤ n := by omega
      obtain ⟨Ao, co, rfl, hleo⟩ := HO.out.form
      clear hfr hcr hp hpl hpp hh hl3
      go_wp2_with (with_reducible refine stop (N := 38) rfl ?_)
      refine Stop.go ?_
      refine wp_appendRd enc8 (h1e := fun _ => rfl) (ys := [22, 3, 1, UInt8.ofNat (l / 256), UInt8.ofNat (l % 256)]) rfl _ _ _ rfl Tryz.underlying22 info_u8 rfl (HO.out.stp0 ((Stp.refl _ _).alloc _)) (Rd.lit (W := wr) (M := fun _ => False) [22, 3, 1, UInt8.ofNat (l / 256), UInt8.ofNat (l % 256)] #[.int .u8 22, .int .u8 3, .int .u8 1, .int .u8 ((l : Int) / 256), .int .u8 ((l : Int) % 256)] (by
        have k1 := hi_nat l hl4
        have k2 := lo_nat l
        simp only [List.map_cons, List.map_nil, enc8, k1, k2]
        rfl) (by simp) id) rfl rfl (by simp; omega) (by simp; omega) (by have := HS.out.size; simp; omega) ?_
      intro v1 w1 ho1 hg1
      obtain ⟨Y, hY⟩ : ∃ Y, Y = P ++ [22, 3, 1, UInt8.ofNat (l / 256), UInt8.ofNat (l % 256)] := ⟨_, rfl⟩
      rw [← hY] at ho1
      have hYl : Y.length = P.length + 5 := by rw [hY]; simp
      have HY := Lib.hid (And.intro hY hYl)
      have hYm : Y.length ≤ 1300000 := by omega
      have HO1 := Lib.hid ho1
      have HS1 := Lib.hid ((HS.out.alloc _).own (HO.out.stp0 ((Stp.refl _ _).alloc _)) hg1)
      obtain ⟨A1, p1, rfl, -⟩ := ho1.form
      clear ho1 hg1 hY hYl
      go_wp2_with (with_reducible refine stop (N := 41) rfl ?_)
      refine Stop.go ?_
      refine wp_appendRd enc8 (h1e := fun _ => rfl) (ys := p) rfl _ _ _ rfl Tryz.underlying22 info_u8 rfl HO1.out (HCR.out _ _ (HX.out.stp0 HS1.out)) rfl rfl (by rw [HPL.out]; simp; omega) (by rw [HPL.out]; omega) HS1.out.size ?_
      intro v2 w2 ho2 hg2
      obtain ⟨Z, hZ⟩ : ∃ Z, Z = Y ++ p := ⟨_, rfl⟩
      rw [← hZ] at ho2
      have HO2 := Lib.hid ho2
      have HS2 := Lib.hid (HS1.out.own HO1.out hg2)
      have HZ : Hid (Z = P ++ recR p ∧ Z.length = P.length + 5 + l) := Lib.hid ⟨by rw [hZ, HY.out.1, recR, b2, HPL.out]; simp, by rw [hZ, List.length_append, HY.out.2, HPL.out]⟩
      obtain ⟨A2, p2, rfl, -⟩ := ho2.form
      clear ho2 hg2 hZ
      obtain ⟨g', rfl⟩ : ∃ g', gk = g' + 1 := ⟨gk - 1, by omega⟩
      go_wp2
      go_roundg g'
      case measure => omega
      case rel => exact ⟨a + n, Z, by omega, by go_num, by rw [HF.out, HFR.out, HZ.out.1, List.append_assoc], by have := HZ.out.2; omega, by omega, HO2.out, HS2.out⟩
    · have hd : x.drop a = [] := List.drop_of_length_le (by omega)
      have HF2 : Hid (frameS n x = P) := Lib.hid (by rw [HF.out, hd, frameS_nil, List.append_nil])
      clear hd
      go_wp2
      rw [HR.out, ← HN.out, HF2.out]
      exact ⟨_, rfl, HO.out, HS.out⟩
end Go.Proofs.YtligofmhbbgalaaGreatDoor.L

/- Layer 15: the bytes of a hello with a name and protocols. -/
namespace Go.Proofs.YtligofmhbbgalaaGreatDoor.L
open Go.RowKit Go.Proofs

def hlB0 (vc vm vx : Value) : Array Value := (hlV (helloX []) (.slice none 0 0) vc vm vx).toArray
theorem hlB0_set (vc vm vx vy : Value) : (hlB0 vc vm vx).setIfInBounds 37 vy = hlB0 vc vm vy := rfl
theorem hlB0_37 (vc vm vx : Value) : (hlB0 vc vm vx)[37]? = some vx := rfl
set_option maxRecDepth 100000 in
set_option maxHeartbeats 16000000 in
theorem bytesT_any (M : Nat → Prop) (s : ByteArray) (vl : Value) (l : List ByteArray) (size : Int) (w : World) (hl : Rd str M w vl l) (hll : l.length ≤ 2000000) (hls : ∀ x ∈ l, x.size ≤ 1000000000) (hs : s.size ≤ 9223372036854775807)
    (h1 : (putNmS s).2 = true) (h2 : (putPrS l).2 = true) (hd : (putNmS s).1.length ≤ 300) (hp : (putPrS l).1.length ≤ 2000) :
    Calls Tryz.prog 16 #[.string s, vl, .int .i64 size] w (NewB w (frameS (recN size) (wrapW (layS (helloE (putNmS s).1 (putPrS l).1))))) := by
  obtain ⟨R, hR⟩ : ∃ R, R = NewB w (frameS (recN size) (wrapW (layS (helloE (putNmS s).1 (putPrS l).1)))) := ⟨_, rfl⟩
  rw [← hR]
  have HR := Lib.hid hR
  have cN := fun W => putNmR_any s W hs
  have cP := fun W hW => putPrR_any M vl l W (hl.stp0 hW) hll hls
  rw [h1] at cN
  rw [h2] at cP
  have hpar := helloE_parse _ _ hd hp
  have hfew : fewN (helloE (putNmS s).1 (putPrS l).1) ≤ 2400 := by
    unfold fewN helloE helloX
    simp
    omega
  have hlen := layS_len (helloE (putNmS s).1 (putPrS l).1) (by unfold helloE helloX; simp)
  have hpr : printS (helloE (putNmS s).1 (putPrS l).1) = (layS (helloE (putNmS s).1 (putPrS l).1), true) := by
    unfold printS
    rw [if_pos hpar]
  obtain ⟨d, hdd⟩ : ∃ d, d = (putNmS s).1 := ⟨_, rfl⟩
  obtain ⟨p, hpp⟩ : ∃ p, p = (putPrS l).1 := ⟨_, rfl⟩
  rw [← hdd] at cN hd hpr hfew hlen HR
  rw [← hpp] at cP hp hpr hfew hlen HR
  have HPR := Lib.hid hpr
  have HLEN := Lib.hid (show (layS (helloE d p)).length ≤ 5000 by omega)
  have HFEW := Lib.hid hfew
  obtain ⟨Al, cl, rfl, -⟩ := hl.form
  clear hR hl hll hls hs h1 h2 hpar hdd hpp hpr hfew hlen
  go_enter Tryz.func16, Tryz.ntmps16
  go_wp2_with (with_reducible refine stop (N := 18) rfl ?_)
  refine Stop.go ?_
  generalize hw0 : (w.alloc (.cells #[.int .i64 4865] 3)).alloc (.cells #[.int .u8 0] 5) = w0 at *
  have hs0 : Stp (fun _ => False) w w0 := by rw [← hw0]; exact ((Stp.refl _ _).alloc _).alloc _
  have h2 : Rd (int .i64) (fun _ => False) w0 (.slice (some ⟨w.heap.size, 0, none⟩) 1 1) [4865] := by
    rw [← hw0]
    exact (Rd.lit (W := w) [4865] #[.int .i64 4865] rfl (by simp) id).stp0 ((Stp.refl _ _).alloc _)
  have h3 : Rd u8 (fun _ => False) w0 (.slice (some ⟨w.heap.size + 1, 0, none⟩) 1 1) [0] := by
    rw [← hw0]
    have : Rd u8 (fun _ => False) ((w.alloc (.cells #[.int .i64 4865] 3)).alloc (.cells #[.int .u8 0] 5)) (.slice (some ⟨(w.alloc (.cells #[.int .i64 4865] 3)).heap.size, 0, none⟩) 1 1) [0] := Rd.lit [0] _ rfl (by simp) id
    simpa using this
  obtain ⟨vc, hvc⟩ : ∃ v, v = Value.slice (some ⟨w.heap.size, 0, none⟩) 1 1 := ⟨_, rfl⟩
  obtain ⟨vm, hvm⟩ : ∃ v, v = Value.slice (some ⟨w.heap.size + 1, 0, none⟩) 1 1 := ⟨_, rfl⟩
  rw [← hvc] at h2
  rw [← hvm] at h3
  refine wpList_val9 (v := .agg (hlB0 vc vm (.slice none 0 0))) rfl (by rw [hvc, hvm]; kernel_rfl) ?_
  obtain ⟨cs0, hcs0⟩ : ∃ cs, cs = hlB0 vc vm (.slice none 0 0) := ⟨_, rfl⟩
  rw [← hcs0]
  have hi0 : IsHl (fun _ => False) w0 cs0 (helloX []) := ⟨_, _, _, _, by rw [hcs0]; rfl, by unfold helloX; simp, Rd.nil _ _ _, h2, h3, Rd.nil _ _ _⟩
  have H2 := Lib.hid (h2.weak (M' := fun k => w0.heap.size ≤ k) (by decide) (fun k hk h => by omega))
  have H3 := Lib.hid (h3.weak (M' := fun k => w0.heap.size ≤ k) (by decide) (fun k hk h => by omega))
  have HS := Lib.hid hs0
  have HCS := Lib.hid hcs0
  clear h2 h3 hs0 hw0 hcs0 hvc hvm
  obtain ⟨hbx, heq, w1, hw, hc, hs⟩ := box_hl w0 cs0 hi0.size
  rw [hlV0] at hbx heq hw
  have HBX := Lib.hid hbx
  have HEQ := Lib.hid heq
  have HW := Lib.hid hw
  have HZ := Lib.hid hi0.info
  have HON := Lib.hid hi0.one
  have HB1 := Lib.hid (show w1.heap[w0.heap.size]? = some (.cells (hlB0 vc vm (.slice none 0 0)) 69 (0, 0)) by rw [← HCS.out]; exact hc)
  have H2 := Lib.hid (H2.out.stp0 hs)
  have H3 := Lib.hid (H3.out.stp0 hs)
  have HS1 := Lib.hid (HS.out.trans hs)
  clear hbx heq hw hc hs hi0
  go_wp2_with (refine wpList_store_row rfl _ _ _ rfl w0.heap.size cs0 rfl rfl _ _ HBX.out HZ.out HEQ.out HON.out ?_; rw [HW.out]; refine stopw9 ?_)
  refine Stop.go ?_
  obtain ⟨gh, hgh⟩ : ∃ g, g = w0.heap.size := ⟨_, rfl⟩
  have hgw : w.heap.size ≤ gh := by rw [hgh]; exact HS.out.size
  rw [← hgh] at HB1 H2 H3 ⊢
  have HGW := Lib.hid hgw
  clear HBX HEQ HW HZ HON HCS HS hgh hgw
  go_wp2_with (go_at_call 32; refine stopc ?_)
  refine Stop.go ?_
  refine (cN _).mono ?_
  rintro e w2 ⟨vd, rfl, hod, hs2⟩
  obtain ⟨A8, c8, rfl, -⟩ := hod.form
  have HL1 := Lib.hid (blk_lt HB1.out)
  have HOD := Lib.hid hod
  have HB2 := Lib.hid (hs2.blk HB1.out id)
  have H2 := Lib.hid (H2.out.stp0 hs2)
  have H3 := Lib.hid (H3.out.stp0 hs2)
  have HS2 := Lib.hid (HS1.out.trans hs2)
  have hlt2 := blk_lt HB2.out
  have c37 : w2.cell? ⟨gh, 37, none⟩ = some (.slice none 0 0) := blk_cell (j := 37) HB2.out
  have f37 := blk_free HB2.out 37
  clear hod hs2 cN
  go_wp2_with (with_reducible refine stop (N := 30) rfl ?_)
  refine Stop.go ?_
  have hA : Stp (fun _ => False) w2 (w2.alloc (.cells #[.int .i64 0, .slice A8 d.length c8] 71)) := (Stp.refl _ _).alloc _
  refine wp_append1K (d := extK) (B := gh + 1) (D := fun _ => False) (D' := fun k => (Value.slice A8 d.length c8).ownBlock = some k) (xs := []) ((0 : Int), d) rfl _ _ _ rfl Tryz.underlying67 info_ext rfl (by decide) ((OwnK.nil extK 71 (gh + 1) w2).stp0 hA) rfl ⟨w2.heap.size, 0, none⟩ 1 [.int .i64 0, .slice A8 d.length c8] rfl (fun j u hu => alloc_at _ _ _ _ _ _ hu) ?_ (fun k h => h.elim) ?_ ?_ ?_ ?_ ?_
  · exact ⟨[_], [_], rfl, rfl, _, rfl, (HOD.out.rd (h1 := fun _ => rfl) (fun k hk hn => hn hk)).stp0 hA⟩
  · intro k hk
    have := HOD.out.lt k hk
    exact ⟨by have := HL1.out; omega, by simp; omega, fun h => by cases h⟩
  · simp
  · simp
  · simp
    omega
  · intro v3 w3 ho3 hg3
    have HO3 := Lib.hid ho3
    have hs3 : Stp (fun _ => False) w2 w3 := hA.grown hg3 (fun k hk hlt => by cases hk)
    have HB3 := Lib.hid (hs3.blk HB2.out id)
    have HOD3 := Lib.hid (HOD.out.stp0 hs3)
    have H2 := Lib.hid (H2.out.stp0 hs3)
    have H3 := Lib.hid (H3.out.stp0 hs3)
    have HS3 := Lib.hid (HS2.out.trans hs3)
    obtain ⟨A3, c3, rfl, -⟩ := ho3.form
    rw [List.nil_append] at HO3 ⊢
    have c37 : w3.cell? ⟨gh, 37, none⟩ = some (.slice none 0 0) := blk_cell (j := 37) HB3.out
    have f37 := blk_free HB3.out 37
    have hlt3 := blk_lt HB3.out
    clear ho3 hg3 hs3 hA f37 c37 hlt2
    have c37 : w3.cell? ⟨gh, 37, none⟩ = some (.slice none 0 0) := blk_cell (j := 37) HB3.out
    have f37 := blk_free HB3.out 37
    go_wp2_with (go_at_call 33; refine stopc ?_)
    refine Stop.go ?_
    have hs4 : Stp (fun k => k = gh) w3 (w3.setCell ⟨gh, 37, none⟩ (.slice A3 1 c3)) := (Stp.refl _ _).setg 37 _
    have hb4 := blk_set HB3.out 37 (.slice A3 1 c3)
    rw [hlB0_set] at hb4
    have HB4 := Lib.hid hb4
    have H2 := Lib.hid (H2.out.step hs4 (fun k hk e => by omega))
    have H3 := Lib.hid (H3.out.step hs4 (fun k hk e => by omega))
    have HO4 := Lib.hid (HO3.out.step hs4 (fun k hk e => ⟨fun hd => by have := (HO3.out.lo k hd).1; omega, fun hv => by have := (HO3.out.lt k hv).1; omega⟩))
    have HS4 := Lib.hid (HS3.out.then_ hs4 (fun k hk e => by have := HGW.out; omega))
    clear hs4 hb4 c37 f37 hlt3
    generalize w3.setCell ⟨gh, 37, none⟩ (.slice A3 1 c3) = w4 at HB4 H2 H3 HO4 HS4 ⊢
    refine (cP _ HS4.out).mono ?_
    rintro e w5 ⟨vp, rfl, hop, hs5⟩
    obtain ⟨A9, c9, rfl, -⟩ := hop.form
    have HOP := Lib.hid hop
    have HL4 := Lib.hid (blk_lt HB4.out)
    have HB5 := Lib.hid (hs5.blk HB4.out id)
    have H2 := Lib.hid (H2.out.stp0 hs5)
    have H3 := Lib.hid (H3.out.stp0 hs5)
    have HO5 := Lib.hid (HO4.out.stp0 hs5)
    have HS5 := Lib.hid (HS4.out.trans hs5)
    have HZ5 := Lib.hid hs5.size
    have hlt5 := blk_lt HB5.out
    have c37 : w5.cell? ⟨gh, 37, none⟩ = some (.slice A3 1 c3) := by rw [blk_cell HB5.out]; exact hlB0_37 _ _ _
    have f37 := blk_free HB5.out 37
    clear hop hs5 cP HB4 HB3 HB2 HB1
    go_wp2_with (with_reducible refine stop (N := 43) rfl ?_)
    refine Stop.go ?_
    have hA : Stp (fun _ => False) w5 (w5.alloc (.cells #[.int .i64 16, .slice A9 p.length c9] 71)) := (Stp.refl _ _).alloc _
    refine wp_append1K (d := extK) (B := gh + 1) (D := fun k => (Value.slice A8 d.length c8).ownBlock = some k) (D' := fun k => (Value.slice A8 d.length c8).ownBlock = some k ∨ (Value.slice A9 p.length c9).ownBlock = some k) (xs := [((0 : Int), d)]) ((16 : Int), p) rfl _ _ _ rfl Tryz.underlying67 info_ext rfl (by decide) (HO5.out.stp0 hA) rfl ⟨w5.heap.size, 0, none⟩ 1 [.int .i64 16, .slice A9 p.length c9] rfl (fun j u hu => alloc_at _ _ _ _ _ _ hu) ?_ (fun k h => Or.inl h) ?_ ?_ ?_ ?_ ?_
    · exact ⟨[_], [_], rfl, rfl, _, rfl, (HOP.out.rd (h1 := fun _ => rfl) (fun k hk hn => hn (Or.inr hk))).stp0 hA⟩
    · intro k hk
      rcases hk with hk | hk
      · have h1 := HO5.out.lo k hk
        exact ⟨h1.1, by simp; omega, fun h => HO5.out.apart k h hk⟩
      · have h1 := HOP.out.lt k hk
        have h2 := HL4.out
        exact ⟨by omega, by simp; omega, fun h => by have := (HO4.out.lt k h).2; omega⟩
    · simp
    · simp
    · simp
      omega
    · intro v6 w6 ho6 hg6
      have hs6 := (hA.to (S := fun k => (Value.slice A3 1 c3).ownBlock = some k)).trans (Stp.of_grown hg6)
      have HO6 := Lib.hid ho6
      have HB6 := Lib.hid (hs6.blk HB5.out (fun h => by have := (HO5.out.lt gh h).1; omega))
      have H2 := Lib.hid (H2.out.step hs6 (fun k hk h => by have := (HO5.out.lt k h).1; omega))
      have H3 := Lib.hid (H3.out.step hs6 (fun k hk h => by have := (HO5.out.lt k h).1; omega))
      have HS6 := Lib.hid (HS5.out.then_ hs6 (fun k hk h => by have := (HO5.out.lt k h).1; have := HGW.out; omega))
      obtain ⟨A6, c6, rfl, -⟩ := ho6.form
      have c37 : w6.cell? ⟨gh, 37, none⟩ = some (.slice A3 1 c3) := by rw [blk_cell HB6.out]; exact hlB0_37 _ _ _
      have f37 := blk_free HB6.out 37
      have hlt6 := blk_lt HB6.out
      clear ho6 hg6 hs6 hA hlt5
      go_wp2_with (with_reducible refine stop (N := 46) rfl ?_)
      refine Stop.go ?_
      have hs7 : Stp (fun k => k = gh) w6 (w6.setCell ⟨gh, 37, none⟩ (.slice A6 2 c6)) := (Stp.refl _ _).setg 37 _
      have hb7 := blk_set HB6.out 37 (.slice A6 2 c6)
      rw [hlB0_set] at hb7
      refine wpList_load_row rfl _ _ rfl gh rfl _ _ (0, 0) _ hb7 Tryz.underlying69 rfl (by kernel_rfl) ?_
      have hi7 : IsHl (fun _ => False) (w6.setCell ⟨gh, 37, none⟩ (.slice A6 2 c6)) (hlB0 vc vm (.slice A6 2 c6)) (helloE d p) := ⟨_, vc, vm, .slice A6 2 c6, rfl, by unfold helloE helloX; simp, Rd.nil _ _ _, (H2.out.step hs7 (fun k hk e => by omega)).weak (by decide) (fun _ _ h => h.elim), (H3.out.step hs7 (fun k hk e => by omega)).weak (by decide) (fun _ _ h => h.elim), (HO6.out.step hs7 (fun k hk e => ⟨fun hd => by have := (HO6.out.lo k hd).1; omega, fun hv => by have := (HO6.out.lt k hv).1; omega⟩)).rd (fun _ _ h => h.elim) (fun _ _ h => h)⟩
      have HI7 := Lib.hid hi7
      have HS7 := Lib.hid (HS6.out.then_ hs7 (fun k hk e => by have := HGW.out; omega))
      clear hs7 hb7 hi7 c37 f37 hlt6 HO6 H2 H3
      generalize w6.setCell ⟨gh, 37, none⟩ (.slice A6 2 c6) = w7 at HI7 HS7 ⊢
      obtain ⟨cs7, hcs7⟩ : ∃ cs, cs = hlB0 vc vm (.slice A6 2 c6) := ⟨_, rfl⟩
      rw [← hcs7] at HI7 ⊢
      clear hcs7
      go_wp2_with (go_at_call 34; refine stopc ?_)
      refine Stop.go ?_
      refine (printR_any (fun _ => False) cs7 (helloE d p) w7 HI7.out (by have := HFEW.out; omega)).mono ?_
      rw [HPR.out]
      rintro e w8 ⟨vb, rfl, hob, hs8⟩
      obtain ⟨x, hx⟩ : ∃ x, x = layS (helloE d p) := ⟨_, rfl⟩
      replace hob : Own enc8 5 w7.heap.size w8 vb x := by rw [hx]; exact hob
      have hxl : x.length ≤ 5000 := by rw [hx]; exact HLEN.out
      have HX := Lib.hid hx
      have HOB := Lib.hid hob
      obtain ⟨Ab, cb, rfl, -⟩ := hob.form
      have HS8 := Lib.hid (HS7.out.trans hs8)
      clear hob hs8 hx HI7
      go_wp2_with (go_at_call 35; refine stopc ?_)
      refine Stop.go ?_
      refine (wrapR_any (fun _ => False) _ x w8 (HOB.out.rd (h1 := fun _ => rfl) (fun _ _ => id)) (by omega)).mono ?_
      rintro e w9 ⟨vw, rfl, how, hs9⟩
      have hwl := wrapW_len x
      obtain ⟨y, hy⟩ : ∃ y, y = wrapW x := ⟨_, rfl⟩
      rw [← hy] at how hwl
      have hyl : y.length ≤ 100000 := by omega
      have HY := Lib.hid hy
      have HOW := Lib.hid how
      obtain ⟨Aw, cw, rfl, -⟩ := how.form
      have HS9 := Lib.hid (HS8.out.trans hs9)
      clear how hs9 hy hwl
      go_wp2_with (go_at_call 36; refine stopc ?_)
      refine Stop.go ?_
      refine (frameR_any (fun _ => False) _ y size w9 (HOW.out.rd (h1 := fun _ => rfl) (fun _ _ => id)) hyl).mono ?_
      rintro e w10 ⟨vf, rfl, hof, hs10⟩
      have HOF := Lib.hid hof
      have HS10 := Lib.hid (HS9.out.trans hs10)
      obtain ⟨Af, cf, rfl, -⟩ := hof.form
      clear hof hs10
      go_wp2
      rw [HR.out]
      refine ⟨_, rfl, ?_, HS10.out⟩
      rw [← HX.out, ← HY.out]
      exact HOF.out.lower HS9.out.size
end Go.Proofs.YtligofmhbbgalaaGreatDoor.L
