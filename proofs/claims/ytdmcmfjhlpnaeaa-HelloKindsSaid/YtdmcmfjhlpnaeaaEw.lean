/- The document's own Versions; rows that are compared. -/
import Derived.Test.YtdmcmfjhlpnaeaaEq
set_option linter.unusedVariables false
set_option linter.unusedSimpArgs false
namespace Go.Proofs.Ytdmcmfjhlpnaeaa.L
open Go.RowKit Go.Proofs

theorem plain_cell2 {α : Type} {enc : α → Value} {h1 : ∀ x, (enc x).oneCell' = true} {M : Nat → Prop} {W : World} {xs : List α} {ad : Addr} {n c : Nat} (h : Rd (.plain enc h1) M W (.slice (some ad) n c) xs) (j : Nat) (hj : j < xs.length) : W.cell? (ad.add j) = some (enc xs[j]) := by
  obtain ⟨ad', h1, _, h2⟩ := plain_cell h j hj
  injection h1 with h1
  rw [h1]
  exact h2
theorem versS_bad (d a : List UInt8) (s1 : RSt) (hv : rvec (d, false) 1 = (a, s1)) (h : ¬ (s1.2 = false ∧ s1.1.length = 0 ∧ a.length ≠ 0 ∧ a.length % 2 = 0)) : versS d = ([], 3) := by
  unfold versS
  rw [hv, if_neg h]
theorem versS_good (d a : List UInt8) (s1 : RSt) (hv : rvec (d, false) 1 = (a, s1)) (h : s1.2 = false ∧ s1.1.length = 0 ∧ a.length ≠ 0 ∧ a.length % 2 = 0) : versS d = (twos a, 0) := by
  unfold versS
  rw [hv, if_pos h]

set_option maxRecDepth 10000 in
set_option maxHeartbeats 4000000 in
theorem versR_any (M : Nat → Prop) (v0 : Value) (d : List UInt8) (w : World) (hd : Rd u8 M w v0 d) (hl : d.length ≤ 1000000000) :
    Calls Try.prog 43 #[v0] w fun e w' => ∃ v, e = .returned (.tuple #[v, .int .i64 (versS d).2]) ∧ Rd (int .i64) (fun k => k < w.heap.size) w' v (versS d).1 ∧ Stp (fun _ => False) w w' := by
  obtain ⟨A0, c0, rfl, hle0⟩ := hd.form
  obtain ⟨a, s1, hv⟩ : ∃ a s1, rvec (d, false) 1 = (a, s1) := ⟨_, _, rfl⟩
  have hal : a.length ≤ d.length := by have := rvec_len1 (d, false) 1; rw [hv] at this; exact this
  have hs1l : s1.1.length ≤ d.length := by have := rvec_len (d, false) 1; rw [hv] at this; exact this
  have HV := Lib.hid hv
  have HD := Lib.hid hd
  clear hv hd
  go_enter Try.func43, Try.ntmps43
  go_wp2_with (go_at_call 32; refine stopc ?_)
  refine Stop.go ?_
  have hr1 := newRf (M := fun k => w.heap.size ≤ k ∧ k ≠ w.heap.size) HD.out (by omega) (by simp) (fun k hk h => absurd h.1 (by omega))
  have HR1 := Lib.hid hr1
  clear hr1
  refine (rvecR_any _ _ _ _ _ HR1.out).mono ?_
  rw [HV.out]
  rintro e w2 ⟨v2, rfl, ho2, hi2, hs2⟩
  dsimp only at ho2 hi2
  obtain ⟨A2, c2, rfl, hle2⟩ := ho2.form
  have HR3 := Lib.hid hi2
  have HO2 := Lib.hid ho2
  have HS3 := Lib.hid (((Stp.refl (fun _ => False) w).alloc _).new hs2 (Nat.le_refl _))
  have hw2 : w.heap.size < w2.heap.size := hi2.lt
  clear hi2 ho2 hs2
  have hoff := HR3.out.off
  by_cases hb : s1.2 = true
  · have HN := Lib.hid (versS_bad d a s1 HV.out (fun h => by rw [hb] at h; cases h.1))
    rw [hb] at hoff
    go_wp2
    go_ret2
    exact ⟨_, by rw [HN.out]; rfl, by rw [HN.out]; exact Rd.nil _ _ _, HS3.out⟩
  have hb' : s1.2 = false := by simpa using hb
  rw [hb'] at hoff
  by_cases hl1 : 0 < s1.1.length
  · have HN := Lib.hid (versS_bad d a s1 HV.out (fun h => absurd h.2.1 (by omega)))
    have hz0 : ¬ s1.1 = [] := fun h => by rw [h] at hl1; cases hl1
    go_wp2_with (go_at_call 34; with_reducible refine (leftR_any _ _ _ _ HR3.out).mono ?_; rintro e w4 ⟨rfl, hs4⟩; have HS4 := Lib.hid (HS3.out.trans hs4); clear hs4)
    go_ret2
    exact ⟨_, by rw [HN.out]; rfl, by rw [HN.out]; exact Rd.nil _ _ _, HS4.out⟩
  have hl0 : s1.1.length = 0 := by omega
  have hz0 : s1.1 = [] := List.eq_nil_of_length_eq_zero hl0
  by_cases hok : a.length ≠ 0 ∧ a.length % 2 = 0
  · have HNG := Lib.hid (versS_good d a s1 HV.out ⟨hb', hl0, hok⟩)
    obtain ⟨hok3, hok4⟩ := hok
    have hz2 : ((a.length : Int) == 0) = false := by simpa using hok3
    have hz3 : ((a.length : Int) % 2 == 1) = false := by
      have : (a.length : Int) % 2 = 0 := by omega
      rw [this]
      rfl
    clear hb hb' hl0
    go_wp2_with (go_at_call 34; with_reducible refine (leftR_any _ _ _ _ HR3.out).mono ?_; rintro e w4 ⟨rfl, hs4⟩; have HS4 := Lib.hid (HS3.out.trans hs4); have HO4 := Lib.hid (HO2.out.stp0 hs4); clear hs4)
    have hsw := HS4.out.size
    clear hoff hz0 HR3 HR1
    go_loopw [6, 7] (fun o i wr => ∃ p xs, p ≤ a.length ∧ p % 2 = 0 ∧ i = .int .i64 (p : Nat) ∧ twos a = xs ++ twos (a.drop p) ∧ xs.length ≤ p ∧ Own (Value.int .i64) 3 w4.heap.size wr o xs ∧ Stp (fun _ => False) w4 wr) (fun _ i _ => a.length - (intOf i).toNat)
    case atStart => exact ⟨0, [], Nat.zero_le _, rfl, rfl, by simp, by simp, Own.nil _ _ _ _, Stp.refl _ _⟩
    case round =>
      obtain ⟨p, xs, hp, hpe, rfl, hm, hxl, ho, hs⟩ := hrel
      have HM := Lib.hid hm
      have HS := Lib.hid hs
      have HO := Lib.hid ho
      have hws := HS.out.size
      clear hm hs ho
      by_cases hlt : p < a.length
      · have hlt2 : p + 1 < a.length := by omega
        have hrd := (HO4.out.rd (h1 := fun _ => rfl) (M := fun _ => False) (fun _ _ => id)).stp0 HS.out
        obtain ⟨ad, rfl, _, hcell1⟩ := plain_cell hrd p hlt
        have hcell2 := plain_cell2 hrd (p + 1) hlt2
        have hadd : ad.add (p + 1) = ⟨ad.block, ad.off + (p + 1), none⟩ := by unfold Addr.add; simp
        rw [hadd] at hcell2
        have HADD := Lib.hid hadd
        clear hadd
        have HRD := Lib.hid hrd
        have hdr : a.drop p = a[p] :: a[p + 1] :: a.drop (p + 2) := by rw [List.drop_eq_getElem_cons hlt, List.drop_eq_getElem_cons hlt2]
        have HDR := Lib.hid hdr
        have hb1 := a[p].toNat_lt
        have hb2 := a[p + 1].toNat_lt
        simp only [enc8] at hcell1 hcell2
        clear hrd hdr
        have e1 : IntKind.i64.wrap ((p : Int) + 1) = (p : Int) + 1 := IntWalk.i64_in _ (by omega)
        have e2 : (0 : Int) ≤ (p : Int) + 1 ∧ (p : Int) + 1 < (a.length : Int) := by omega
        have e3 : ((p : Int) + 1).toNat = p + 1 := by omega
        have e4 : IntKind.i64.wrap (a[p].toNat : Int) = (a[p].toNat : Int) := IntWalk.i64_in _ (by omega)
        have e5 : IntKind.i64.wrap (a[p + 1].toNat : Int) = (a[p + 1].toNat : Int) := IntWalk.i64_in _ (by omega)
        have e6 : IntKind.i64.wrap ((a[p].toNat : Int) * 256) = (a[p].toNat : Int) * 256 := IntWalk.i64_in _ (by omega)
        have e7 : IntKind.i64.wrap ((a[p].toNat : Int) * 256 + (a[p + 1].toNat : Int)) = (a[p].toNat : Int) * 256 + (a[p + 1].toNat : Int) := IntWalk.i64_in _ (by omega)
        obtain ⟨e21, e22⟩ := e2
        go_wp2_with fail
        refine wp_region_held_drew (S := (fun w' => w'.cell? (ad.add p) = some (.int .u8 (a[p].toNat : Int)) ∧ w'.cell? ⟨ad.block, ad.off + (p + 1), none⟩ = some (.int .u8 (a[p + 1].toNat : Int)))) (by kernel_rfl) (⟨hcell1, hcell2⟩) (fun hHeld => ?_)
        try (change wpAnyH _ _ _ _ _ _ _ _ (World.drew _))
        refine rg_take (i := 0) (o := { dst := some 39, op := Op.move (Operand.tmp 6), type := 53, pos := "ref.go:100", after := #[], guard := none }) (v := ?rgv1) rfl (by kernel_rfl) (by kernel_rfl) (by kernel_rfl) (fun _ _ _ h => h) (by rfl) (fun w hSw => ?rgy1) hHeld ?_
        case rgy1 => (try dsimp only at hSw); first | (go_simp; done) | (go_simp; with_reducible rfl)
        try simp only [Act.put, List.setIfInBounds_toArray, List.set_cons_zero, List.set_cons_succ]
        refine rg_take (i := 1) (o := { dst := some 40, op := Op.move (Operand.tmp 5), type := 22, pos := "ref.go:100", after := #[], guard := none }) (v := ?rgv2) rfl (by kernel_rfl) (by kernel_rfl) (by kernel_rfl) (fun _ _ _ h => h) (by rfl) (fun w hSw => ?rgy2) hHeld ?_
        case rgy2 => (try dsimp only at hSw); first | (go_simp; done) | (go_simp; with_reducible rfl)
        try simp only [Act.put, List.setIfInBounds_toArray, List.set_cons_zero, List.set_cons_succ]
        refine rg_take (i := 2) (o := { dst := some 41, op := Op.move (Operand.tmp 7), type := 3, pos := "ref.go:100", after := #[], guard := none }) (v := ?rgv3) rfl (by kernel_rfl) (by kernel_rfl) (by kernel_rfl) (fun _ _ _ h => h) (by rfl) (fun w hSw => ?rgy3) hHeld ?_
        case rgy3 => (try dsimp only at hSw); first | (go_simp; done) | (go_simp; with_reducible rfl)
        try simp only [Act.put, List.setIfInBounds_toArray, List.set_cons_zero, List.set_cons_succ]
        refine rg_take (i := 3) (o := { dst := some 42, op := Op.indexAddr 22 (Operand.tmp 40) (Operand.tmp 41), type := 0, pos := "ref.go:100", after := #[{ on := 1, ground := Ground.data }, { on := 2, ground := Ground.data }], guard := none }) (v := ?rgv4) rfl (by kernel_rfl) (by kernel_rfl) (by kernel_rfl) (fun _ _ _ h => h) (by rfl) (fun w hSw => ?rgy4) hHeld ?_
        case rgy4 => (try dsimp only at hSw); first | (go_simp; done) | (go_simp; with_reducible rfl)
        try simp only [Act.put, List.setIfInBounds_toArray, List.set_cons_zero, List.set_cons_succ]
        refine rg_take (i := 4) (o := { dst := some 43, op := Op.load 5 (Operand.tmp 42), type := 5, pos := "ref.go:100", after := #[{ on := 3, ground := Ground.data }], guard := none }) (v := ?rgv5) rfl (by kernel_rfl) (by kernel_rfl) (by kernel_rfl) (fun _ _ _ h => h) (by rfl) (fun w hSw => ?rgy5) hHeld ?_
        case rgy5 => (try dsimp only at hSw); first | (go_simp; done) | (go_simp; with_reducible rfl)
        try simp only [Act.put, List.setIfInBounds_toArray, List.set_cons_zero, List.set_cons_succ]
        refine rg_take (i := 5) (o := { dst := some 44, op := Op.convert 5 3 (Operand.tmp 43), type := 3, pos := "ref.go:100", after := #[{ on := 4, ground := Ground.data }], guard := none }) (v := ?rgv6) rfl (by kernel_rfl) (by kernel_rfl) (by kernel_rfl) (fun _ _ _ h => h) (by rfl) (fun w hSw => ?rgy6) hHeld ?_
        case rgy6 => (try dsimp only at hSw); first | (go_simp; done) | (go_simp; with_reducible rfl)
        try simp only [Act.put, List.setIfInBounds_toArray, List.set_cons_zero, List.set_cons_succ]
        refine rg_take (i := 6) (o := { dst := some 45, op := Op.binOp BinOp.mul 3 (Operand.tmp 44) (Operand.const (Value.int IntKind.i64 256)) 3, type := 3, pos := "ref.go:100", after := #[{ on := 5, ground := Ground.data }], guard := none }) (v := ?rgv7) rfl (by kernel_rfl) (by kernel_rfl) (by kernel_rfl) (fun _ _ _ h => h) (by rfl) (fun w hSw => ?rgy7) hHeld ?_
        case rgy7 => (try dsimp only at hSw); first | (go_simp; done) | (go_simp; with_reducible rfl)
        try simp only [Act.put, List.setIfInBounds_toArray, List.set_cons_zero, List.set_cons_succ]
        refine rg_take (i := 7) (o := { dst := some 46, op := Op.move (Operand.tmp 5), type := 22, pos := "ref.go:100", after := #[], guard := none }) (v := ?rgv8) rfl (by kernel_rfl) (by kernel_rfl) (by kernel_rfl) (fun _ _ _ h => h) (by rfl) (fun w hSw => ?rgy8) hHeld ?_
        case rgy8 => (try dsimp only at hSw); first | (go_simp; done) | (go_simp; with_reducible rfl)
        try simp only [Act.put, List.setIfInBounds_toArray, List.set_cons_zero, List.set_cons_succ]
        refine rg_take (i := 8) (o := { dst := some 47, op := Op.move (Operand.tmp 7), type := 3, pos := "ref.go:100", after := #[], guard := none }) (v := ?rgv9) rfl (by kernel_rfl) (by kernel_rfl) (by kernel_rfl) (fun _ _ _ h => h) (by rfl) (fun w hSw => ?rgy9) hHeld ?_
        case rgy9 => (try dsimp only at hSw); first | (go_simp; done) | (go_simp; with_reducible rfl)
        try simp only [Act.put, List.setIfInBounds_toArray, List.set_cons_zero, List.set_cons_succ]
        refine rg_take (i := 9) (o := { dst := some 48, op := Op.binOp BinOp.add 3 (Operand.tmp 47) (Operand.const (Value.int IntKind.i64 1)) 3, type := 3, pos := "ref.go:100", after := #[{ on := 8, ground := Ground.data }], guard := none }) (v := ?rgv10) rfl (by kernel_rfl) (by kernel_rfl) (by kernel_rfl) (fun _ _ _ h => h) (by rfl) (fun w hSw => ?rgy10) hHeld ?_
        case rgy10 => (try dsimp only at hSw); first | (go_simp; done) | (go_simp; with_reducible rfl)
        try simp only [Act.put, List.setIfInBounds_toArray, List.set_cons_zero, List.set_cons_succ]
        refine rg_take (i := 10) (o := { dst := some 49, op := Op.indexAddr 22 (Operand.tmp 46) (Operand.tmp 48), type := 0, pos := "ref.go:100", after := #[{ on := 7, ground := Ground.data }, { on := 9, ground := Ground.data }], guard := none }) (v := ?rgv11) rfl (by kernel_rfl) (by kernel_rfl) (by kernel_rfl) (fun _ _ _ h => h) (by rfl) (fun w hSw => ?rgy11) hHeld ?_
        case rgy11 => (try dsimp only at hSw); first | (go_simp; done) | (go_simp; with_reducible rfl)
        try simp only [Act.put, List.setIfInBounds_toArray, List.set_cons_zero, List.set_cons_succ]
        refine rg_take (i := 11) (o := { dst := some 50, op := Op.load 5 (Operand.tmp 49), type := 5, pos := "ref.go:100", after := #[{ on := 10, ground := Ground.data }], guard := none }) (v := ?rgv12) rfl (by kernel_rfl) (by kernel_rfl) (by kernel_rfl) (fun _ _ _ h => h) (by rfl) (fun w hSw => ?rgy12) hHeld ?_
        case rgy12 => (try dsimp only at hSw); first | (go_simp; done) | (go_simp; with_reducible rfl)
        try simp only [Act.put, List.setIfInBounds_toArray, List.set_cons_zero, List.set_cons_succ]
        refine rg_take (i := 12) (o := { dst := some 51, op := Op.convert 5 3 (Operand.tmp 50), type := 3, pos := "ref.go:100", after := #[{ on := 11, ground := Ground.data }], guard := none }) (v := ?rgv13) rfl (by kernel_rfl) (by kernel_rfl) (by kernel_rfl) (fun _ _ _ h => h) (by rfl) (fun w hSw => ?rgy13) hHeld ?_
        case rgy13 => (try dsimp only at hSw); first | (go_simp; done) | (go_simp; with_reducible rfl)
        try simp only [Act.put, List.setIfInBounds_toArray, List.set_cons_zero, List.set_cons_succ]
        refine rg_take (i := 13) (o := { dst := some 52, op := Op.binOp BinOp.add 3 (Operand.tmp 45) (Operand.tmp 51) 3, type := 3, pos := "ref.go:100", after := #[{ on := 6, ground := Ground.data }, { on := 12, ground := Ground.data }], guard := none }) (v := ?rgv14) rfl (by kernel_rfl) (by kernel_rfl) (by kernel_rfl) (fun _ _ _ h => h) (by rfl) (fun w hSw => ?rgy14) hHeld ?_
        case rgy14 => (try dsimp only at hSw); first | (go_simp; done) | (go_simp; with_reducible rfl)
        try simp only [Act.put, List.setIfInBounds_toArray, List.set_cons_zero, List.set_cons_succ]
        refine wpAnyH_ready (rs := [14]) (by kernel_rfl) (by simp) ?_
        refine (AllReadyH.cons (o := { dst := some 53, op := Op.buildSlice 53 1 #[(0, Operand.tmp 52)], type := 53, pos := "ref.go:100", after := #[{ on := 13, ground := Ground.data }], guard := none }) rfl (fun K hK => ?_) AllReadyH.nil)
        go_simp
        show K _ _
        clear hHeld
        refine hK.out _ _ (⟨(((Stp.refl (fun _ => False) wr).drew).alloc _).cell hcell1 id, (((Stp.refl (fun _ => False) wr).drew).alloc _).cell hcell2 id⟩) (fun hHeld => ?_)
        clear hK K
        try simp only [Act.put, List.setIfInBounds_toArray, List.set_cons_zero, List.set_cons_succ]
        refine wpAnyH_ready (rs := [15]) (by kernel_rfl) (by simp) ?_
        refine (AllReadyH.cons (o := { dst := some 54, op := Op.call { callee := Callee.builtin Builtin.append, args := #[Operand.tmp 39, Operand.tmp 53], argTypes := #[53, 53] }, type := 53, pos := "ref.go:100", after := #[{ on := 0, ground := Ground.data }, { on := 14, ground := Ground.data }], guard := none }) rfl (fun K hK => ?_) AllReadyH.nil)
        refine op_appendRd (Value.int .i64) (h1e := fun _ => rfl) (M := fun _ => False) (ys := [(a[p].toNat : Int) * 256 + (a[p + 1].toNat : Int)]) _ _ _ (by rfl) Try.underlying53 info_int (by rfl) ((HO.out.stp0 ((Stp.refl _ _).drew)).stp0 ((Stp.refl _ _).alloc _)) (Rd.lit (W := wr.drew) [(a[p].toNat : Int) * 256 + (a[p + 1].toNat : Int)] #[.int .i64 ((a[p].toNat : Int) * 256 + (a[p + 1].toNat : Int))] rfl (by simp) id) (by rfl) (by rfl) (by simp; omega) (by simp; omega) (by simp; omega) ?_
        intro v9 w9 ho9 hg9
        have HS9 := Lib.hid (((HS.out.drew).alloc _).grown hg9 (fun k hk he => by have := (HO.out.lt k hk).1; omega))
        have HO9 := Lib.hid ho9
        have HR9 := Lib.hid (HO4.out.rd (h1 := fun _ => rfl) (M := fun _ => False) (fun _ _ => id) |>.stp0 HS9.out)
        clear ho9 hg9
        show K _ _
        clear hHeld
        refine hK.out _ _ (⟨plain_cell2 HR9.out p hlt, by rw [← HADD.out]; exact plain_cell2 HR9.out (p + 1) hlt2⟩) (fun hHeld => ?_)
        clear hK K
        try simp only [Act.put, List.setIfInBounds_toArray, List.set_cons_zero, List.set_cons_succ]
        refine rg_take (i := 16) (o := { dst := some 6, op := Op.assign (Operand.tmp 54), type := 53, pos := "ref.go:100", after := #[{ on := 15, ground := Ground.data }, { on := 15, ground := Ground.chain }, { on := 0, ground := Ground.phase }, { on := 1, ground := Ground.phase }, { on := 2, ground := Ground.phase }, { on := 3, ground := Ground.phase }, { on := 4, ground := Ground.phase }, { on := 5, ground := Ground.phase }, { on := 6, ground := Ground.phase }, { on := 7, ground := Ground.phase }, { on := 8, ground := Ground.phase }, { on := 9, ground := Ground.phase }, { on := 10, ground := Ground.phase }, { on := 11, ground := Ground.phase }, { on := 12, ground := Ground.phase }, { on := 13, ground := Ground.phase }, { on := 14, ground := Ground.phase }, { on := 15, ground := Ground.phase }], guard := none }) (v := ?rgv15) rfl (by kernel_rfl) (by kernel_rfl) (by kernel_rfl) (fun _ _ _ h => h) (by rfl) (fun w hSw => ?rgy15) hHeld ?_
        case rgy15 => (try dsimp only at hSw); first | (go_simp; done) | (go_simp; with_reducible rfl)
        try simp only [Act.put, List.setIfInBounds_toArray, List.set_cons_zero, List.set_cons_succ]
        clear hHeld
        refine wpAnyH_done (by kernel_rfl) ?_ _
        go_wp2
        go_roundw
        case rel =>
          refine ⟨p + 2, xs ++ [(a[p].toNat : Int) * 256 + (a[p + 1].toNat : Int)], by omega, by omega, by go_num, ?_, by simp; omega, HO9.out, HS9.out⟩
          rw [HM.out, HDR.out]
          simp [twos]
        case measure => simp [intOf]; omega
      · obtain rfl : p = a.length := by omega
        have hx : xs = twos a := by rw [HM.out]; simp [twos]
        obtain ⟨A8, c8, rfl, hle8⟩ := HO.out.form
        go_wp2
        go_ret2
        refine ⟨_, by rw [HNG.out]; rfl, ?_, HS4.out.trans HS.out⟩
        rw [HNG.out, ← hx]
        exact HO.out.rd (h1 := fun _ => rfl) (fun k hk h => by have := (HO.out.lt k hk).1; omega)
  · have HN := Lib.hid (versS_bad d a s1 HV.out (fun h => hok h.2.2))
    by_cases ha0 : a.length = 0
    · have hz2 : ((a.length : Int) == 0) = true := by simpa using ha0
      clear ha0 hok
      go_wp2_with (go_at_call 34; with_reducible refine (leftR_any _ _ _ _ HR3.out).mono ?_; rintro e w4 ⟨rfl, hs4⟩; have HS4 := Lib.hid (HS3.out.trans hs4); clear hs4)
      go_ret2
      exact ⟨_, by rw [HN.out]; rfl, by rw [HN.out]; exact Rd.nil _ _ _, HS4.out⟩
    · have hz2 : ((a.length : Int) == 0) = false := by simpa using ha0
      have hz3 : ((a.length : Int) % 2 == 1) = true := by
        have h1 : ¬ a.length % 2 = 0 := fun h => hok ⟨ha0, h⟩
        have : (a.length : Int) % 2 = 1 := by omega
        rw [this]
        rfl
      go_wp2_with (go_at_call 34; with_reducible refine (leftR_any _ _ _ _ HR3.out).mono ?_; rintro e w4 ⟨rfl, hs4⟩; have HS4 := Lib.hid (HS3.out.trans hs4); clear hs4)
      go_ret2
      exact ⟨_, by rw [HN.out]; rfl, by rw [HN.out]; exact Rd.nil _ _ _, HS4.out⟩
end Go.Proofs.Ytdmcmfjhlpnaeaa.L
