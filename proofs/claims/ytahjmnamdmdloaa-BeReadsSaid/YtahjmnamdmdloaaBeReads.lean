/- BeReads: the walk. -/
import Derived.Test.YtahjmnamdmdloaaBePuts
import Derived.Test.YtahjmnamdmdloaaOpen
import Derived.Deep.DeepCutAuto
import Derived.Deep.CutRange
import Derived.Deep.CutBlock
set_option linter.unusedVariables false
set_option linter.unusedSimpArgs false
namespace Go.Proofs.Ytahjmnamdmdloaa.L
open Go.RowKit Go.Proofs

theorem rtake_len2 (s : RSt) (n : Int) : (rtake s n).2.1.length ≤ s.1.length := (rtake_len s n).2
theorem rnum_len (s : RSt) (n : Int) : (rnum s n).2.1.length ≤ s.1.length := (rtake_len s _).2
theorem rvec_len (s : RSt) (n : Int) : (rvec s n).2.1.length ≤ s.1.length := by
  unfold rvec
  split
  · exact rnum_len s n
  · exact Nat.le_trans (rtake_len _ _).2 (rnum_len s n)
theorem IsRf.step {M S : Nat → Prop} {W W1 : World} {g : Nat} {s : RSt} (h : IsRf M W g s) (hs : Stp S W W1) (hS : ∀ k, k < W.heap.size → S k → M k) : IsRf M W1 g s := by
  obtain ⟨hM, A, c, n, l, h1, h2, hg, hr, h3⟩ := h
  exact ⟨hM, A, c, n, l, h1, h2, hs.blk hg (fun h => hM (hS g (blk_lt hg) h)), hr.step hs (fun k hk h => .inr (hS k hk h)), h3⟩
theorem IsRf.lt {M : Nat → Prop} {W : World} {g : Nat} {s : RSt} (h : IsRf M W g s) : g < W.heap.size := by
  obtain ⟨_, A, c, n, l, _, _, hg, _⟩ := h
  exact blk_lt hg
theorem IsRf.off {M : Nat → Prop} {W : World} {g : Nat} {s : RSt} (h : IsRf M W g s) : W.cell? ⟨g, 2, none⟩ = some (.bool s.2) := by
  obtain ⟨_, A, c, n, l, _, _, hg, _⟩ := h
  exact blk_cell (j := 2) hg
theorem and_3 (n : Int) (h : -9223372036854775808 ≤ n ∧ n ≤ 9223372036854775807) : bits .and .i64 n 3 = 0 ∨ bits .and .i64 n 3 = 1 ∨ bits .and .i64 n 3 = 2 ∨ bits .and .i64 n 3 = 3 := by
  show IntKind.i64.wrap ((BitVec.ofInt 64 n &&& BitVec.ofInt 64 3).toNat : Int) = 0 ∨ IntKind.i64.wrap ((BitVec.ofInt 64 n &&& BitVec.ofInt 64 3).toNat : Int) = 1 ∨ IntKind.i64.wrap ((BitVec.ofInt 64 n &&& BitVec.ofInt 64 3).toNat : Int) = 2 ∨ IntKind.i64.wrap ((BitVec.ofInt 64 n &&& BitVec.ofInt 64 3).toNat : Int) = 3
  rw [BitVec.toNat_and, show (BitVec.ofInt 64 3).toNat = 3 from rfl]
  have h := Nat.and_le_right (n := (BitVec.ofInt 64 n).toNat) (m := 3)
  generalize (BitVec.ofInt 64 n).toNat &&& 3 = x at h
  rw [IntKind.wrap_i64]
  omega
theorem pair_cell2 {α β : Type} {e1 : α → Value} {e2 : β → Value} {h1 : ∀ x, (e1 x).oneCell' = true} {h2 : ∀ x, (e2 x).oneCell' = true} {M : Nat → Prop} {W : World} {xs : List (α × β)} {ad : Addr} {n c : Nat}
    (h : Rd (pairK (.plain e1 h1) (.plain e2 h2)) M W (.slice (some ad) n c) xs) (j : Nat) (hj : j < xs.length) : W.cell? (ad.add (j * 2)) = some (e1 xs[j].1) ∧ W.cell? ⟨(ad.add (j * 2)).block, (ad.add (j * 2)).off + 1, none⟩ = some (e2 xs[j].2) := by
  obtain ⟨ad', h3, _, h4⟩ := pair_cell h j hj
  injection h3 with h3
  rw [h3]
  exact h4

set_option maxRecDepth 20000 in
set_option maxHeartbeats 8000000 in
theorem beReads_any (v0 v1 : Value) (b : List UInt8) (l : List (Int × Int)) (w : World) (h0 : Rd u8 (newB w) w v0 b) (h1 : Rd (pairK (int .i64) (int .i64)) (newB w) w v1 l)
    (hl : ∀ c ∈ l, (-9223372036854775808 ≤ c.1 ∧ c.1 ≤ 9223372036854775807) ∧ (-9223372036854775808 ≤ c.2 ∧ c.2 ≤ 9223372036854775807)) :
    Calls Try.prog 4 #[v0, v1] w fun e w' => e = .returned (.bool true) ∧ Stp (fun _ => False) w w' := by
  obtain ⟨A0, c0, rfl, hle0⟩ := h0.form
  obtain ⟨A1, c1, rfl, hle1⟩ := h1.form
  have H0 := Lib.hid h0
  have H1 := Lib.hid h1
  have HL := Lib.hid hl
  clear h0 h1 hl
  by_cases hg1 : 2000 < b.length
  · go_enter Try.func4, Try.ntmps4
    go_wp2_with (go_at_call 9; refine (small_any _).mono ?_; rintro e w1 ⟨rfl, hs⟩; have HS := Lib.hid hs; clear hs)
    go_ret
    exact ⟨rfl, HS.out⟩
  by_cases hg2 : 100 < l.length
  · go_enter Try.func4, Try.ntmps4
    go_wp2_with (go_at_call 9; refine (small_any _).mono ?_; rintro e w1 ⟨rfl, hs⟩; have HS := Lib.hid hs; clear hs)
    go_ret
    exact ⟨rfl, HS.out⟩
  go_enter Try.func4, Try.ntmps4
  go_wp2_with (first
    | (go_at_call 9; refine (small_any _).mono ?_; rintro e w1 ⟨rfl, hs⟩; have HS := Lib.hid hs; clear hs)
    | (with_reducible refine stop (N := 23) rfl ?_))
  refine Stop.go ?_
  refine wp_appendRd enc8 (h1e := fun _ => rfl) rfl _ _ _ rfl Try.underlying22 info_u8 rfl (Own.lit (B := w.heap.size) ([] : List UInt8) #[] rfl HS.out.size (by simp)) ((H0.out.stp0 HS.out).stp0 ((Stp.refl _ _).alloc _)) rfl rfl (by simp; omega) (by simp; omega) (by have := HS.out.size; simp; omega) ?_
  intro v2 w2 ho2 hg2
  have HS2 := Lib.hid ((HS.out.alloc _).grown hg2 (by
    intro k hk hlt
    have := HS.out.size
    simp [Value.ownBlock] at hk
    omega))
  rw [List.nil_append] at ho2
  have HO2 := Lib.hid ho2
  clear ho2 hg2 HS
  go_wp2_with (go_at_call 14; refine stopc ?_)
  refine Stop.go ?_
  refine (read_any (fun _ => False) _ b _ (HO2.out.rd (h1 := fun _ => rfl) (fun _ _ => id)) (by omega)).mono ?_
  rintro e w3 ⟨gx, rfl, hx3, hs3⟩
  obtain ⟨Mx, hMx⟩ : ∃ M : Nat → Prop, M = fun k => k < w2.heap.size ∨ w3.heap.size ≤ k := ⟨_, rfl⟩
  have HMX := Lib.hid hMx
  have hgx := hx3.lt
  have hgx2 : w2.heap.size ≤ gx := Nat.not_lt.1 hx3.1
  have HGX := Lib.hid (And.intro hgx2 hgx)
  have hx := hx3.weak (M' := Mx) (by
    rw [hMx]
    intro k hk h
    omega)
  have HS3 := Lib.hid (HS2.out.trans hs3)
  have HO3 := Lib.hid (HO2.out.stp0 hs3)
  have HO2L := Lib.hid HO2.out.lt
  have HX := Lib.hid hx
  clear hMx hgx hgx2 hx hx3 hs3
  obtain ⟨A2, c2, rfl, hle2⟩ := HO2.out.form
  obtain ⟨gy, hgy⟩ : ∃ g, g = w3.heap.size := ⟨_, rfl⟩
  have HGY := Lib.hid hgy
  obtain ⟨My, hMy⟩ : ∃ M : Nat → Prop, M = fun k => w.heap.size ≤ k ∧ k ≠ gy := ⟨_, rfl⟩
  have HMY := Lib.hid hMy
  clear hMy hgy HO2
  go_wp2
  go_loopw [9] (fun i wr => ∃ k : Nat, k ≤ b.length ∧ i = .int .i64 k ∧ Stp (fun _ => False) w wr ∧ IsRd Mx wr gx (b, false) ∧ IsRf My wr gy (b, false) ∧ ∃ qs : List UInt8, qs.length = b.length ∧ Own enc8 5 w.heap.size wr (.slice A2 b.length c2) qs) (fun i _ => b.length - (intOf i).toNat)
  case atStart =>
    refine ⟨0, Nat.zero_le _, rfl, HS3.out.alloc _, HX.out.step ((Stp.refl (fun _ => False) _).alloc _) (fun _ _ h => h.elim), ?_, b, rfl, HO3.out.stp0 ((Stp.refl _ _).alloc _)⟩
    have hsz := HS3.out.size
    have hge := HGY.out
    refine ⟨by rw [HMY.out]; simp, A0, c0, 0, b, by omega, Nat.zero_le _, by rw [HGY.out]; exact heap_alloc_new w3 _, ?_, rfl⟩
    exact ((H0.out.stp0 HS3.out).stp0 ((Stp.refl _ _).alloc _)).weak (by decide) (fun k hk h => by
      rw [HMY.out] at h
      simp only [newB]
      omega)
  case round =>
    obtain ⟨k, hk, rfl, hs, hx, hy, qs, hql, ho⟩ := hrel
    have HS := Lib.hid hs
    have HX := Lib.hid hx
    have HY := Lib.hid hy
    have HO := Lib.hid ho
    have HQ := Lib.hid hql
    clear hs hx hy ho hql
    by_cases hlt : k < b.length
    · obtain ⟨gi, rfl, _, hBg, hgl⟩ := HO.out.at_ (by rw [HQ.out]; omega)
      have hgi := (HO2L.out gi rfl).2
      have HGI := Lib.hid (And.intro hBg hgi)
      have hcell := HO.out.cellAt k (by rw [HQ.out]; omega)
      have hfree := HO.out.free k
      clear hBg hgl hgi
      go_wp2
      go_roundw
      case rel =>
        have h3 := HGI.out
        have h5 := HGX.out
        have h6 := HGY.out
        refine ⟨k + 1, by omega, by go_num, HS.out.setCell (fun h => absurd h (by simp; omega)) _, HX.out.step (S := fun k => k = gi) ((Stp.refl _ _).setg k _) ?_, HY.out.step (S := fun k => k = gi) ((Stp.refl _ _).setg k _) ?_, qs.set k 7, by rw [List.length_set, HQ.out], HO.out.set_ k 7⟩
        · intro j hj he
          rw [HMX.out]
          omega
        · intro j hj he
          rw [HMY.out]
          omega
      case measure => simp [intOf]; omega
    · obtain rfl : k = b.length := by omega
      clear HO HQ
      go_wp2
      go_loopw [10] (fun i wr => ∃ k : Nat, k ≤ l.length ∧ i = .int .i64 k ∧ Stp (fun _ => False) w wr ∧ ∃ s : RSt, s.1.length ≤ 2000 ∧ IsRd Mx wr gx s ∧ IsRf My wr gy s) (fun i _ => l.length - (intOf i).toNat)
      case atStart => exact ⟨0, Nat.zero_le _, rfl, HS.out, (b, false), by simpa using hg1, HX.out, HY.out⟩
      case round =>
        clear HS HX HY
        obtain ⟨k, hk, rfl, hs, s, hsl, hx, hy⟩ := hrel
        have HS := Lib.hid hs
        have HX := Lib.hid hx
        have HY := Lib.hid hy
        have HSL := Lib.hid hsl
        clear hs hx hy hsl
        by_cases hlt : k < l.length
        · obtain ⟨ad, rfl, _, hcell1, hcell2⟩ := pair_cell (H1.out.step HS.out (fun _ _ h => h.elim)) k hlt
          obtain ⟨⟨hn1, hn2⟩, hn3, hn4⟩ := HL.out l[k] (List.getElem_mem hlt)
          have hsw := and_3 l[k].1 ⟨hn1, hn2⟩
          have hG := HGY.out
          subst hG
          clear HGY
          have HG2 := Lib.hid HS3.out.size
          go_upto_block 4 with fail
          go_cut [51] (fun _ wx => Stp (fun _ => False) w wx ∧ ∃ s : RSt, s.1.length ≤ 2000 ∧ IsRd Mx wx gx s ∧ IsRf My wx w3.heap.size s)
          case first =>
            have HLT := Lib.hid (And.intro HX.out.lt HY.out.lt)
            have hne : ((rnum s l[k].2).1 != (rnum s l[k].2).1) = false := by simp
            rcases hsw with hsw | hsw | hsw | hsw
            · skip
              go_wp2_with fail
              have HX := Lib.hid (HX.out.step ((Stp.refl (fun _ => False) _).drew) (fun _ _ h => h.elim))
              have HY := Lib.hid (HY.out.step ((Stp.refl (fun _ => False) _).drew) (fun _ _ h => h.elim))
              have HS := Lib.hid (HS.out.drew)
              refine wp_region_held_drew (S := (fun w' => w'.cell? ⟨(ad.add (k * 2)).block, (ad.add (k * 2)).off + 1, none⟩ = some (.int .i64 l[k].2))) (by kernel_rfl) (hcell2) (fun hHeld => ?_)
              try (change wpAnyH _ _ _ _ _ _ _ _ (World.drew _))
              refine rg_take (i := 0) (o := { dst := some 55, op := Op.move (Operand.tmp 7), type := 29, pos := "law.go:66", after := #[], guard := none }) (v := ?rgv1) rfl (by kernel_rfl) (by kernel_rfl) (by kernel_rfl) (fun _ _ _ h => h) (by rfl) (fun w hSw => ?rgy1) hHeld ?_
              case rgy1 => (try dsimp only at hSw); first | (go_simp; done) | (go_simp; with_reducible rfl)
              try simp only [Act.put, List.setIfInBounds_toArray, List.set_cons_zero, List.set_cons_succ]
              refine rg_take (i := 1) (o := { dst := some 56, op := Op.move (Operand.tmp 1), type := 28, pos := "law.go:66", after := #[], guard := none }) (v := ?rgv2) rfl (by kernel_rfl) (by kernel_rfl) (by kernel_rfl) (fun _ _ _ h => h) (by rfl) (fun w hSw => ?rgy2) hHeld ?_
              case rgy2 => (try dsimp only at hSw); first | (go_simp; done) | (go_simp; with_reducible rfl)
              try simp only [Act.put, List.setIfInBounds_toArray, List.set_cons_zero, List.set_cons_succ]
              refine rg_take (i := 2) (o := { dst := some 57, op := Op.move (Operand.tmp 10), type := 3, pos := "law.go:66", after := #[], guard := none }) (v := ?rgv3) rfl (by kernel_rfl) (by kernel_rfl) (by kernel_rfl) (fun _ _ _ h => h) (by rfl) (fun w hSw => ?rgy3) hHeld ?_
              case rgy3 => (try dsimp only at hSw); first | (go_simp; done) | (go_simp; with_reducible rfl)
              try simp only [Act.put, List.setIfInBounds_toArray, List.set_cons_zero, List.set_cons_succ]
              refine rg_take (i := 3) (o := { dst := some 58, op := Op.indexAddr 28 (Operand.tmp 56) (Operand.tmp 57), type := 0, pos := "law.go:66", after := #[{ on := 1, ground := Ground.data }, { on := 2, ground := Ground.data }], guard := none }) (v := ?rgv4) rfl (by kernel_rfl) (by kernel_rfl) (by kernel_rfl) (fun _ _ _ h => h) (by rfl) (fun w hSw => ?rgy4) hHeld ?_
              case rgy4 => (try dsimp only at hSw); first | (go_simp; done) | (go_simp; with_reducible rfl)
              try simp only [Act.put, List.setIfInBounds_toArray, List.set_cons_zero, List.set_cons_succ]
              refine rg_take (i := 4) (o := { dst := some 59, op := Op.fieldAddr 35 (Operand.tmp 58) 1, type := 0, pos := "law.go:66", after := #[{ on := 3, ground := Ground.data }], guard := none }) (v := ?rgv5) rfl (by kernel_rfl) (by kernel_rfl) (by kernel_rfl) (fun _ _ _ h => h) (by rfl) (fun w hSw => ?rgy5) hHeld ?_
              case rgy5 => (try dsimp only at hSw); first | (go_simp; done) | (go_simp; with_reducible rfl)
              try simp only [Act.put, List.setIfInBounds_toArray, List.set_cons_zero, List.set_cons_succ]
              refine rg_take (i := 5) (o := { dst := some 60, op := Op.load 3 (Operand.tmp 59), type := 3, pos := "law.go:66", after := #[{ on := 4, ground := Ground.data }], guard := none }) (v := ?rgv6) rfl (by kernel_rfl) (by kernel_rfl) (by kernel_rfl) (fun _ _ _ h => h) (by rfl) (fun w hSw => ?rgy6) hHeld ?_
              case rgy6 => (try dsimp only at hSw); first | (go_simp; done) | (go_simp; with_reducible rfl)
              try simp only [Act.put, List.setIfInBounds_toArray, List.set_cons_zero, List.set_cons_succ]
              refine rg_take (i := 7) (o := { dst := some 62, op := Op.move (Operand.tmp 8), type := 31, pos := "law.go:66", after := #[], guard := none }) (v := ?rgv7) rfl (by kernel_rfl) (by kernel_rfl) (by kernel_rfl) (fun _ _ _ h => h) (by rfl) (fun w hSw => ?rgy7) hHeld ?_
              case rgy7 => (try dsimp only at hSw); first | (go_simp; done) | (go_simp; with_reducible rfl)
              try simp only [Act.put, List.setIfInBounds_toArray, List.set_cons_zero, List.set_cons_succ]
              refine rg_take (i := 8) (o := { dst := some 63, op := Op.move (Operand.tmp 1), type := 28, pos := "law.go:66", after := #[], guard := none }) (v := ?rgv8) rfl (by kernel_rfl) (by kernel_rfl) (by kernel_rfl) (fun _ _ _ h => h) (by rfl) (fun w hSw => ?rgy8) hHeld ?_
              case rgy8 => (try dsimp only at hSw); first | (go_simp; done) | (go_simp; with_reducible rfl)
              try simp only [Act.put, List.setIfInBounds_toArray, List.set_cons_zero, List.set_cons_succ]
              refine rg_take (i := 9) (o := { dst := some 64, op := Op.move (Operand.tmp 10), type := 3, pos := "law.go:66", after := #[], guard := none }) (v := ?rgv9) rfl (by kernel_rfl) (by kernel_rfl) (by kernel_rfl) (fun _ _ _ h => h) (by rfl) (fun w hSw => ?rgy9) hHeld ?_
              case rgy9 => (try dsimp only at hSw); first | (go_simp; done) | (go_simp; with_reducible rfl)
              try simp only [Act.put, List.setIfInBounds_toArray, List.set_cons_zero, List.set_cons_succ]
              refine rg_take (i := 10) (o := { dst := some 65, op := Op.indexAddr 28 (Operand.tmp 63) (Operand.tmp 64), type := 0, pos := "law.go:66", after := #[{ on := 8, ground := Ground.data }, { on := 9, ground := Ground.data }], guard := none }) (v := ?rgv10) rfl (by kernel_rfl) (by kernel_rfl) (by kernel_rfl) (fun _ _ _ h => h) (by rfl) (fun w hSw => ?rgy10) hHeld ?_
              case rgy10 => (try dsimp only at hSw); first | (go_simp; done) | (go_simp; with_reducible rfl)
              try simp only [Act.put, List.setIfInBounds_toArray, List.set_cons_zero, List.set_cons_succ]
              refine rg_take (i := 11) (o := { dst := some 66, op := Op.fieldAddr 35 (Operand.tmp 65) 1, type := 0, pos := "law.go:66", after := #[{ on := 10, ground := Ground.data }], guard := none }) (v := ?rgv11) rfl (by kernel_rfl) (by kernel_rfl) (by kernel_rfl) (fun _ _ _ h => h) (by rfl) (fun w hSw => ?rgy11) hHeld ?_
              case rgy11 => (try dsimp only at hSw); first | (go_simp; done) | (go_simp; with_reducible rfl)
              try simp only [Act.put, List.setIfInBounds_toArray, List.set_cons_zero, List.set_cons_succ]
              refine rg_take (i := 12) (o := { dst := some 67, op := Op.load 3 (Operand.tmp 66), type := 3, pos := "law.go:66", after := #[{ on := 11, ground := Ground.data }], guard := none }) (v := ?rgv12) rfl (by kernel_rfl) (by kernel_rfl) (by kernel_rfl) (fun _ _ _ h => h) (by rfl) (fun w hSw => ?rgy12) hHeld ?_
              case rgy12 => (try dsimp only at hSw); first | (go_simp; done) | (go_simp; with_reducible rfl)
              try simp only [Act.put, List.setIfInBounds_toArray, List.set_cons_zero, List.set_cons_succ]
              refine wpAnyH_ready (rs := [6]) (by kernel_rfl) (by simp) ?_
              refine (AllReadyH.cons (o := { dst := some 61, op := Op.call { callee := Callee.value (Operand.func 15), args := #[Operand.tmp 55, Operand.tmp 60], argTypes := #[29, 3] }, type := 3, pos := "law.go:66", after := #[{ on := 0, ground := Ground.data }, { on := 5, ground := Ground.data }], guard := none }) rfl (fun K hK => ?_) AllReadyH.nil)
              go_simp
              have HLT := Lib.hid (And.intro HX.out.lt HY.out.lt)
              refine (num_any Mx gx s _ _ HX.out (by have := HSL.out; omega)).mono ?_
              rintro e w5 ⟨rfl, hn5, hs5⟩
              have HY := Lib.hid (HY.out.step hs5 (fun j hj he => by have h1 := HGX.out; have h0 := HS2.out.size; have h2 := HG2.out; rw [HMY.out]; omega))
              have HX := Lib.hid hn5
              have HS := Lib.hid (HS.out.new hs5 (by have h1 := HGX.out; have h0 := HS2.out.size; have h2 := HG2.out; omega))
              have hc5 := (pair_cell2 (H1.out.step HS.out (fun _ _ h => h.elim)) k hlt).2
              show K _ _
              clear hHeld
              refine hK.out _ _ (hc5) (fun hHeld => ?_)
              clear hK K
              try simp only [Act.put, List.setIfInBounds_toArray, List.set_cons_zero, List.set_cons_succ]
              refine wpAnyH_ready (rs := [13]) (by kernel_rfl) (by simp) ?_
              refine (AllReadyH.cons (o := { dst := some 68, op := Op.call { callee := Callee.value (Operand.func 16), args := #[Operand.tmp 62, Operand.tmp 67], argTypes := #[31, 3] }, type := 3, pos := "law.go:66", after := #[{ on := 7, ground := Ground.data }, { on := 12, ground := Ground.data }, { on := 6, ground := Ground.chain }], guard := none }) rfl (fun K hK => ?_) AllReadyH.nil)
              go_simp
              have HLT := Lib.hid (And.intro HX.out.lt HY.out.lt)
              refine (numR_any My w3.heap.size s _ _ HY.out).mono ?_
              rintro e w5 ⟨rfl, hn5, hs5⟩
              have HX := Lib.hid (HX.out.step hs5 (fun j hj he => by have h1 := HGX.out; have h0 := HS2.out.size; have h2 := HG2.out; rw [HMX.out]; omega))
              have HY := Lib.hid hn5
              have HS := Lib.hid (HS.out.new hs5 (by have h1 := HGX.out; have h0 := HS2.out.size; have h2 := HG2.out; omega))
              have hc5 := (pair_cell2 (H1.out.step HS.out (fun _ _ h => h.elim)) k hlt).2
              show K _ _
              clear hHeld
              refine hK.out _ _ (hc5) (fun hHeld => ?_)
              clear hK K
              try simp only [Act.put, List.setIfInBounds_toArray, List.set_cons_zero, List.set_cons_succ]
              refine rg_take (i := 14) (o := { dst := some 69, op := Op.binOp BinOp.neq 3 (Operand.tmp 61) (Operand.tmp 68) 3, type := 4, pos := "law.go:66", after := #[{ on := 6, ground := Ground.data }, { on := 13, ground := Ground.data }], guard := none }) (v := ?rgv13) rfl (by kernel_rfl) (by kernel_rfl) (by kernel_rfl) (fun _ _ _ h => h) (by rfl) (fun w hSw => ?rgy13) hHeld ?_
              case rgy13 => (try dsimp only at hSw); first | (go_simp; done) | (go_simp; with_reducible rfl)
              try simp only [Act.put, List.setIfInBounds_toArray, List.set_cons_zero, List.set_cons_succ]
              clear hHeld
              refine wpAnyH_done (by kernel_rfl) ?_ _
              go_wp2_with fail
              go_meet
              exact ⟨HS.out, (rnum s l[k].2).2, by have h1 := rnum_len s l[k].2; have h2 := HSL.out; omega, HX.out, HY.out⟩
            · skip
              go_wp2_with fail
              have HX := Lib.hid (HX.out.step ((Stp.refl (fun _ => False) _).drew) (fun _ _ h => h.elim))
              have HY := Lib.hid (HY.out.step ((Stp.refl (fun _ => False) _).drew) (fun _ _ h => h.elim))
              have HS := Lib.hid (HS.out.drew)
              refine wp_region_held_drew (S := (fun w' => w'.cell? ⟨(ad.add (k * 2)).block, (ad.add (k * 2)).off + 1, none⟩ = some (.int .i64 l[k].2))) (by kernel_rfl) (hcell2) (fun hHeld => ?_)
              try (change wpAnyH _ _ _ _ _ _ _ _ (World.drew _))
              refine rg_take (i := 0) (o := { dst := some 72, op := Op.move (Operand.tmp 7), type := 29, pos := "law.go:70", after := #[], guard := none }) (v := ?rgv14) rfl (by kernel_rfl) (by kernel_rfl) (by kernel_rfl) (fun _ _ _ h => h) (by rfl) (fun w hSw => ?rgy14) hHeld ?_
              case rgy14 => (try dsimp only at hSw); first | (go_simp; done) | (go_simp; with_reducible rfl)
              try simp only [Act.put, List.setIfInBounds_toArray, List.set_cons_zero, List.set_cons_succ]
              refine rg_take (i := 1) (o := { dst := some 73, op := Op.move (Operand.tmp 1), type := 28, pos := "law.go:70", after := #[], guard := none }) (v := ?rgv15) rfl (by kernel_rfl) (by kernel_rfl) (by kernel_rfl) (fun _ _ _ h => h) (by rfl) (fun w hSw => ?rgy15) hHeld ?_
              case rgy15 => (try dsimp only at hSw); first | (go_simp; done) | (go_simp; with_reducible rfl)
              try simp only [Act.put, List.setIfInBounds_toArray, List.set_cons_zero, List.set_cons_succ]
              refine rg_take (i := 2) (o := { dst := some 74, op := Op.move (Operand.tmp 10), type := 3, pos := "law.go:70", after := #[], guard := none }) (v := ?rgv16) rfl (by kernel_rfl) (by kernel_rfl) (by kernel_rfl) (fun _ _ _ h => h) (by rfl) (fun w hSw => ?rgy16) hHeld ?_
              case rgy16 => (try dsimp only at hSw); first | (go_simp; done) | (go_simp; with_reducible rfl)
              try simp only [Act.put, List.setIfInBounds_toArray, List.set_cons_zero, List.set_cons_succ]
              refine rg_take (i := 3) (o := { dst := some 75, op := Op.indexAddr 28 (Operand.tmp 73) (Operand.tmp 74), type := 0, pos := "law.go:70", after := #[{ on := 1, ground := Ground.data }, { on := 2, ground := Ground.data }], guard := none }) (v := ?rgv17) rfl (by kernel_rfl) (by kernel_rfl) (by kernel_rfl) (fun _ _ _ h => h) (by rfl) (fun w hSw => ?rgy17) hHeld ?_
              case rgy17 => (try dsimp only at hSw); first | (go_simp; done) | (go_simp; with_reducible rfl)
              try simp only [Act.put, List.setIfInBounds_toArray, List.set_cons_zero, List.set_cons_succ]
              refine rg_take (i := 4) (o := { dst := some 76, op := Op.fieldAddr 35 (Operand.tmp 75) 1, type := 0, pos := "law.go:70", after := #[{ on := 3, ground := Ground.data }], guard := none }) (v := ?rgv18) rfl (by kernel_rfl) (by kernel_rfl) (by kernel_rfl) (fun _ _ _ h => h) (by rfl) (fun w hSw => ?rgy18) hHeld ?_
              case rgy18 => (try dsimp only at hSw); first | (go_simp; done) | (go_simp; with_reducible rfl)
              try simp only [Act.put, List.setIfInBounds_toArray, List.set_cons_zero, List.set_cons_succ]
              refine rg_take (i := 5) (o := { dst := some 77, op := Op.load 3 (Operand.tmp 76), type := 3, pos := "law.go:70", after := #[{ on := 4, ground := Ground.data }], guard := none }) (v := ?rgv19) rfl (by kernel_rfl) (by kernel_rfl) (by kernel_rfl) (fun _ _ _ h => h) (by rfl) (fun w hSw => ?rgy19) hHeld ?_
              case rgy19 => (try dsimp only at hSw); first | (go_simp; done) | (go_simp; with_reducible rfl)
              try simp only [Act.put, List.setIfInBounds_toArray, List.set_cons_zero, List.set_cons_succ]
              refine rg_take (i := 8) (o := { dst := some 80, op := Op.move (Operand.tmp 8), type := 31, pos := "law.go:70", after := #[], guard := none }) (v := ?rgv20) rfl (by kernel_rfl) (by kernel_rfl) (by kernel_rfl) (fun _ _ _ h => h) (by rfl) (fun w hSw => ?rgy20) hHeld ?_
              case rgy20 => (try dsimp only at hSw); first | (go_simp; done) | (go_simp; with_reducible rfl)
              try simp only [Act.put, List.setIfInBounds_toArray, List.set_cons_zero, List.set_cons_succ]
              refine rg_take (i := 9) (o := { dst := some 81, op := Op.move (Operand.tmp 1), type := 28, pos := "law.go:70", after := #[], guard := none }) (v := ?rgv21) rfl (by kernel_rfl) (by kernel_rfl) (by kernel_rfl) (fun _ _ _ h => h) (by rfl) (fun w hSw => ?rgy21) hHeld ?_
              case rgy21 => (try dsimp only at hSw); first | (go_simp; done) | (go_simp; with_reducible rfl)
              try simp only [Act.put, List.setIfInBounds_toArray, List.set_cons_zero, List.set_cons_succ]
              refine rg_take (i := 10) (o := { dst := some 82, op := Op.move (Operand.tmp 10), type := 3, pos := "law.go:70", after := #[], guard := none }) (v := ?rgv22) rfl (by kernel_rfl) (by kernel_rfl) (by kernel_rfl) (fun _ _ _ h => h) (by rfl) (fun w hSw => ?rgy22) hHeld ?_
              case rgy22 => (try dsimp only at hSw); first | (go_simp; done) | (go_simp; with_reducible rfl)
              try simp only [Act.put, List.setIfInBounds_toArray, List.set_cons_zero, List.set_cons_succ]
              refine rg_take (i := 11) (o := { dst := some 83, op := Op.indexAddr 28 (Operand.tmp 81) (Operand.tmp 82), type := 0, pos := "law.go:70", after := #[{ on := 9, ground := Ground.data }, { on := 10, ground := Ground.data }], guard := none }) (v := ?rgv23) rfl (by kernel_rfl) (by kernel_rfl) (by kernel_rfl) (fun _ _ _ h => h) (by rfl) (fun w hSw => ?rgy23) hHeld ?_
              case rgy23 => (try dsimp only at hSw); first | (go_simp; done) | (go_simp; with_reducible rfl)
              try simp only [Act.put, List.setIfInBounds_toArray, List.set_cons_zero, List.set_cons_succ]
              refine rg_take (i := 12) (o := { dst := some 84, op := Op.fieldAddr 35 (Operand.tmp 83) 1, type := 0, pos := "law.go:70", after := #[{ on := 11, ground := Ground.data }], guard := none }) (v := ?rgv24) rfl (by kernel_rfl) (by kernel_rfl) (by kernel_rfl) (fun _ _ _ h => h) (by rfl) (fun w hSw => ?rgy24) hHeld ?_
              case rgy24 => (try dsimp only at hSw); first | (go_simp; done) | (go_simp; with_reducible rfl)
              try simp only [Act.put, List.setIfInBounds_toArray, List.set_cons_zero, List.set_cons_succ]
              refine rg_take (i := 13) (o := { dst := some 85, op := Op.load 3 (Operand.tmp 84), type := 3, pos := "law.go:70", after := #[{ on := 12, ground := Ground.data }], guard := none }) (v := ?rgv25) rfl (by kernel_rfl) (by kernel_rfl) (by kernel_rfl) (fun _ _ _ h => h) (by rfl) (fun w hSw => ?rgy25) hHeld ?_
              case rgy25 => (try dsimp only at hSw); first | (go_simp; done) | (go_simp; with_reducible rfl)
              try simp only [Act.put, List.setIfInBounds_toArray, List.set_cons_zero, List.set_cons_succ]
              refine wpAnyH_ready (rs := [6]) (by kernel_rfl) (by simp) ?_
              refine (AllReadyH.cons (o := { dst := some 78, op := Op.call { callee := Callee.value (Operand.func 17), args := #[Operand.tmp 72, Operand.tmp 77], argTypes := #[29, 3] }, type := 22, pos := "law.go:70", after := #[{ on := 0, ground := Ground.data }, { on := 5, ground := Ground.data }], guard := none }) rfl (fun K hK => ?_) AllReadyH.nil)
              go_simp
              have HLT := Lib.hid (And.intro HX.out.lt HY.out.lt)
              refine (take_any Mx gx s _ _ HX.out (by have := HSL.out; omega)).mono ?_
              rintro e w5 ⟨vx, rfl, ho5, hn5, hs5⟩
              have HY := Lib.hid (HY.out.step hs5 (fun j hj he => by have h1 := HGX.out; have h0 := HS2.out.size; have h2 := HG2.out; rw [HMY.out]; omega))
              have HX := Lib.hid hn5
              have HS := Lib.hid (HS.out.new hs5 (by have h1 := HGX.out; have h0 := HS2.out.size; have h2 := HG2.out; omega))
              have hc5 := (pair_cell2 (H1.out.step HS.out (fun _ _ h => h.elim)) k hlt).2
              have HRx := Lib.hid (ho5.rd (h1 := fun _ => rfl) (M := fun j => j = gx ∨ j = w3.heap.size) (fun j hj he => by have h1 := (ho5.lt j hj).1; have h2 := HX.out.lt; have h3 := HY.out.lt; have h4 := hs5.size; have h5 := HLT.out; omega))
              try have HRy := Lib.hid (HRy.out.step hs5 (fun _ _ h => .inl h))
              show K _ _
              clear hHeld
              refine hK.out _ _ (by first | exact hc5 | exact ⟨hc5, conv_of HRy.out⟩) (fun hHeld => ?_)
              clear hK K
              try simp only [Act.put, List.setIfInBounds_toArray, List.set_cons_zero, List.set_cons_succ]
              refine rg_more (T := (fun w' => convB w' vx (rtake s l[k].2).1)) ?_
              replace hHeld := And.intro hHeld (conv_of HRx.out)
              refine rg_take (i := 7) (o := { dst := some 79, op := Op.convert 22 9 (Operand.tmp 78), type := 9, pos := "law.go:70", after := #[{ on := 6, ground := Ground.data }], guard := none }) (v := ?rgv26) rfl (by kernel_rfl) (by kernel_rfl) (by kernel_rfl) (fun _ _ _ h => h) (by rfl) (fun w hSw => ?rgy26) hHeld ?_
              case rgy26 => (try dsimp only at hSw); first | (go_simp; done) | (go_simp; with_reducible rfl)
              try simp only [Act.put, List.setIfInBounds_toArray, List.set_cons_zero, List.set_cons_succ]
              refine wpAnyH_ready (rs := [14]) (by kernel_rfl) (by simp) ?_
              refine (AllReadyH.cons (o := { dst := some 86, op := Op.call { callee := Callee.value (Operand.func 18), args := #[Operand.tmp 80, Operand.tmp 85], argTypes := #[31, 3] }, type := 22, pos := "law.go:70", after := #[{ on := 8, ground := Ground.data }, { on := 13, ground := Ground.data }, { on := 6, ground := Ground.chain }], guard := none }) rfl (fun K hK => ?_) AllReadyH.nil)
              go_simp
              have HLT := Lib.hid (And.intro HX.out.lt HY.out.lt)
              refine (takeR_any My w3.heap.size s _ _ HY.out).mono ?_
              rintro e w5 ⟨vy, rfl, ho5, hn5, hs5⟩
              have HX := Lib.hid (HX.out.step hs5 (fun j hj he => by have h1 := HGX.out; have h0 := HS2.out.size; have h2 := HG2.out; rw [HMX.out]; omega))
              have HY := Lib.hid hn5
              have HS := Lib.hid (HS.out.new hs5 (by have h1 := HGX.out; have h0 := HS2.out.size; have h2 := HG2.out; omega))
              have hc5 := (pair_cell2 (H1.out.step HS.out (fun _ _ h => h.elim)) k hlt).2
              have HRy := Lib.hid (ho5.rd (h1 := fun _ => rfl) (M := fun j => j = gx ∨ j = w3.heap.size) (fun j hj he => by have h1 := (ho5.lt j hj).1; have h2 := HX.out.lt; have h3 := HY.out.lt; have h4 := hs5.size; have h5 := HLT.out; omega))
              try have HRx := Lib.hid (HRx.out.step hs5 (fun _ _ h => .inr h))
              show K _ _
              clear hHeld
              refine hK.out _ _ (by first | exact hc5 | exact ⟨hc5, conv_of HRx.out⟩) (fun hHeld => ?_)
              clear hK K
              try simp only [Act.put, List.setIfInBounds_toArray, List.set_cons_zero, List.set_cons_succ]
              refine rg_more (T := (fun w' => convB w' vy (rtake s l[k].2).1)) ?_
              replace hHeld := And.intro hHeld (conv_of HRy.out)
              refine rg_take (i := 15) (o := { dst := some 87, op := Op.convert 22 9 (Operand.tmp 86), type := 9, pos := "law.go:70", after := #[{ on := 14, ground := Ground.data }], guard := none }) (v := ?rgv27) rfl (by kernel_rfl) (by kernel_rfl) (by kernel_rfl) (fun _ _ _ h => h) (by rfl) (fun w hSw => ?rgy27) hHeld ?_
              case rgy27 => (try dsimp only at hSw); first | (go_simp; done) | (go_simp; with_reducible rfl)
              try simp only [Act.put, List.setIfInBounds_toArray, List.set_cons_zero, List.set_cons_succ]
              refine rg_take (i := 16) (o := { dst := some 88, op := Op.binOp BinOp.neq 9 (Operand.tmp 79) (Operand.tmp 87) 9, type := 4, pos := "law.go:70", after := #[{ on := 7, ground := Ground.data }, { on := 15, ground := Ground.data }], guard := none }) (v := ?rgv28) rfl (by kernel_rfl) (by kernel_rfl) (by kernel_rfl) (fun _ _ _ h => h) (by rfl) (fun w hSw => ?rgy28) hHeld ?_
              case rgy28 => (try dsimp only at hSw); first | (go_simp; done) | (go_simp; with_reducible rfl)
              try simp only [Act.put, List.setIfInBounds_toArray, List.set_cons_zero, List.set_cons_succ]
              clear hHeld
              refine wpAnyH_done (by kernel_rfl) ?_ _
              go_wp2_with fail
              go_meet
              exact ⟨HS.out, (rtake s l[k].2).2, by have h1 := rtake_len2 s l[k].2; have h2 := HSL.out; omega, HX.out, HY.out⟩
            · skip
              go_wp2_with fail
              have HX := Lib.hid (HX.out.step ((Stp.refl (fun _ => False) _).drew) (fun _ _ h => h.elim))
              have HY := Lib.hid (HY.out.step ((Stp.refl (fun _ => False) _).drew) (fun _ _ h => h.elim))
              have HS := Lib.hid (HS.out.drew)
              refine wp_region_held_drew (S := (fun w' => w'.cell? ⟨(ad.add (k * 2)).block, (ad.add (k * 2)).off + 1, none⟩ = some (.int .i64 l[k].2))) (by kernel_rfl) (hcell2) (fun hHeld => ?_)
              try (change wpAnyH _ _ _ _ _ _ _ _ (World.drew _))
              refine rg_take (i := 0) (o := { dst := some 91, op := Op.move (Operand.tmp 7), type := 29, pos := "law.go:74", after := #[], guard := none }) (v := ?rgv29) rfl (by kernel_rfl) (by kernel_rfl) (by kernel_rfl) (fun _ _ _ h => h) (by rfl) (fun w hSw => ?rgy29) hHeld ?_
              case rgy29 => (try dsimp only at hSw); first | (go_simp; done) | (go_simp; with_reducible rfl)
              try simp only [Act.put, List.setIfInBounds_toArray, List.set_cons_zero, List.set_cons_succ]
              refine rg_take (i := 1) (o := { dst := some 92, op := Op.move (Operand.tmp 1), type := 28, pos := "law.go:74", after := #[], guard := none }) (v := ?rgv30) rfl (by kernel_rfl) (by kernel_rfl) (by kernel_rfl) (fun _ _ _ h => h) (by rfl) (fun w hSw => ?rgy30) hHeld ?_
              case rgy30 => (try dsimp only at hSw); first | (go_simp; done) | (go_simp; with_reducible rfl)
              try simp only [Act.put, List.setIfInBounds_toArray, List.set_cons_zero, List.set_cons_succ]
              refine rg_take (i := 2) (o := { dst := some 93, op := Op.move (Operand.tmp 10), type := 3, pos := "law.go:74", after := #[], guard := none }) (v := ?rgv31) rfl (by kernel_rfl) (by kernel_rfl) (by kernel_rfl) (fun _ _ _ h => h) (by rfl) (fun w hSw => ?rgy31) hHeld ?_
              case rgy31 => (try dsimp only at hSw); first | (go_simp; done) | (go_simp; with_reducible rfl)
              try simp only [Act.put, List.setIfInBounds_toArray, List.set_cons_zero, List.set_cons_succ]
              refine rg_take (i := 3) (o := { dst := some 94, op := Op.indexAddr 28 (Operand.tmp 92) (Operand.tmp 93), type := 0, pos := "law.go:74", after := #[{ on := 1, ground := Ground.data }, { on := 2, ground := Ground.data }], guard := none }) (v := ?rgv32) rfl (by kernel_rfl) (by kernel_rfl) (by kernel_rfl) (fun _ _ _ h => h) (by rfl) (fun w hSw => ?rgy32) hHeld ?_
              case rgy32 => (try dsimp only at hSw); first | (go_simp; done) | (go_simp; with_reducible rfl)
              try simp only [Act.put, List.setIfInBounds_toArray, List.set_cons_zero, List.set_cons_succ]
              refine rg_take (i := 4) (o := { dst := some 95, op := Op.fieldAddr 35 (Operand.tmp 94) 1, type := 0, pos := "law.go:74", after := #[{ on := 3, ground := Ground.data }], guard := none }) (v := ?rgv33) rfl (by kernel_rfl) (by kernel_rfl) (by kernel_rfl) (fun _ _ _ h => h) (by rfl) (fun w hSw => ?rgy33) hHeld ?_
              case rgy33 => (try dsimp only at hSw); first | (go_simp; done) | (go_simp; with_reducible rfl)
              try simp only [Act.put, List.setIfInBounds_toArray, List.set_cons_zero, List.set_cons_succ]
              refine rg_take (i := 5) (o := { dst := some 96, op := Op.load 3 (Operand.tmp 95), type := 3, pos := "law.go:74", after := #[{ on := 4, ground := Ground.data }], guard := none }) (v := ?rgv34) rfl (by kernel_rfl) (by kernel_rfl) (by kernel_rfl) (fun _ _ _ h => h) (by rfl) (fun w hSw => ?rgy34) hHeld ?_
              case rgy34 => (try dsimp only at hSw); first | (go_simp; done) | (go_simp; with_reducible rfl)
              try simp only [Act.put, List.setIfInBounds_toArray, List.set_cons_zero, List.set_cons_succ]
              refine rg_take (i := 8) (o := { dst := some 99, op := Op.move (Operand.tmp 8), type := 31, pos := "law.go:74", after := #[], guard := none }) (v := ?rgv35) rfl (by kernel_rfl) (by kernel_rfl) (by kernel_rfl) (fun _ _ _ h => h) (by rfl) (fun w hSw => ?rgy35) hHeld ?_
              case rgy35 => (try dsimp only at hSw); first | (go_simp; done) | (go_simp; with_reducible rfl)
              try simp only [Act.put, List.setIfInBounds_toArray, List.set_cons_zero, List.set_cons_succ]
              refine rg_take (i := 9) (o := { dst := some 100, op := Op.move (Operand.tmp 1), type := 28, pos := "law.go:74", after := #[], guard := none }) (v := ?rgv36) rfl (by kernel_rfl) (by kernel_rfl) (by kernel_rfl) (fun _ _ _ h => h) (by rfl) (fun w hSw => ?rgy36) hHeld ?_
              case rgy36 => (try dsimp only at hSw); first | (go_simp; done) | (go_simp; with_reducible rfl)
              try simp only [Act.put, List.setIfInBounds_toArray, List.set_cons_zero, List.set_cons_succ]
              refine rg_take (i := 10) (o := { dst := some 101, op := Op.move (Operand.tmp 10), type := 3, pos := "law.go:74", after := #[], guard := none }) (v := ?rgv37) rfl (by kernel_rfl) (by kernel_rfl) (by kernel_rfl) (fun _ _ _ h => h) (by rfl) (fun w hSw => ?rgy37) hHeld ?_
              case rgy37 => (try dsimp only at hSw); first | (go_simp; done) | (go_simp; with_reducible rfl)
              try simp only [Act.put, List.setIfInBounds_toArray, List.set_cons_zero, List.set_cons_succ]
              refine rg_take (i := 11) (o := { dst := some 102, op := Op.indexAddr 28 (Operand.tmp 100) (Operand.tmp 101), type := 0, pos := "law.go:74", after := #[{ on := 9, ground := Ground.data }, { on := 10, ground := Ground.data }], guard := none }) (v := ?rgv38) rfl (by kernel_rfl) (by kernel_rfl) (by kernel_rfl) (fun _ _ _ h => h) (by rfl) (fun w hSw => ?rgy38) hHeld ?_
              case rgy38 => (try dsimp only at hSw); first | (go_simp; done) | (go_simp; with_reducible rfl)
              try simp only [Act.put, List.setIfInBounds_toArray, List.set_cons_zero, List.set_cons_succ]
              refine rg_take (i := 12) (o := { dst := some 103, op := Op.fieldAddr 35 (Operand.tmp 102) 1, type := 0, pos := "law.go:74", after := #[{ on := 11, ground := Ground.data }], guard := none }) (v := ?rgv39) rfl (by kernel_rfl) (by kernel_rfl) (by kernel_rfl) (fun _ _ _ h => h) (by rfl) (fun w hSw => ?rgy39) hHeld ?_
              case rgy39 => (try dsimp only at hSw); first | (go_simp; done) | (go_simp; with_reducible rfl)
              try simp only [Act.put, List.setIfInBounds_toArray, List.set_cons_zero, List.set_cons_succ]
              refine rg_take (i := 13) (o := { dst := some 104, op := Op.load 3 (Operand.tmp 103), type := 3, pos := "law.go:74", after := #[{ on := 12, ground := Ground.data }], guard := none }) (v := ?rgv40) rfl (by kernel_rfl) (by kernel_rfl) (by kernel_rfl) (fun _ _ _ h => h) (by rfl) (fun w hSw => ?rgy40) hHeld ?_
              case rgy40 => (try dsimp only at hSw); first | (go_simp; done) | (go_simp; with_reducible rfl)
              try simp only [Act.put, List.setIfInBounds_toArray, List.set_cons_zero, List.set_cons_succ]
              refine wpAnyH_ready (rs := [6]) (by kernel_rfl) (by simp) ?_
              refine (AllReadyH.cons (o := { dst := some 97, op := Op.call { callee := Callee.value (Operand.func 19), args := #[Operand.tmp 91, Operand.tmp 96], argTypes := #[29, 3] }, type := 22, pos := "law.go:74", after := #[{ on := 0, ground := Ground.data }, { on := 5, ground := Ground.data }], guard := none }) rfl (fun K hK => ?_) AllReadyH.nil)
              go_simp
              have HLT := Lib.hid (And.intro HX.out.lt HY.out.lt)
              refine (rvec_any Mx gx s _ _ HX.out (by have := HSL.out; omega)).mono ?_
              rintro e w5 ⟨vx, rfl, ho5, hn5, hs5⟩
              have HY := Lib.hid (HY.out.step hs5 (fun j hj he => by have h1 := HGX.out; have h0 := HS2.out.size; have h2 := HG2.out; rw [HMY.out]; omega))
              have HX := Lib.hid hn5
              have HS := Lib.hid (HS.out.new hs5 (by have h1 := HGX.out; have h0 := HS2.out.size; have h2 := HG2.out; omega))
              have hc5 := (pair_cell2 (H1.out.step HS.out (fun _ _ h => h.elim)) k hlt).2
              have HRx := Lib.hid (ho5.rd (h1 := fun _ => rfl) (M := fun j => j = gx ∨ j = w3.heap.size) (fun j hj he => by have h1 := (ho5.lt j hj).1; have h2 := HX.out.lt; have h3 := HY.out.lt; have h4 := hs5.size; have h5 := HLT.out; omega))
              try have HRy := Lib.hid (HRy.out.step hs5 (fun _ _ h => .inl h))
              show K _ _
              clear hHeld
              refine hK.out _ _ (by first | exact hc5 | exact ⟨hc5, conv_of HRy.out⟩) (fun hHeld => ?_)
              clear hK K
              try simp only [Act.put, List.setIfInBounds_toArray, List.set_cons_zero, List.set_cons_succ]
              refine rg_more (T := (fun w' => convB w' vx (rvec s l[k].2).1)) ?_
              replace hHeld := And.intro hHeld (conv_of HRx.out)
              refine rg_take (i := 7) (o := { dst := some 98, op := Op.convert 22 9 (Operand.tmp 97), type := 9, pos := "law.go:74", after := #[{ on := 6, ground := Ground.data }], guard := none }) (v := ?rgv41) rfl (by kernel_rfl) (by kernel_rfl) (by kernel_rfl) (fun _ _ _ h => h) (by rfl) (fun w hSw => ?rgy41) hHeld ?_
              case rgy41 => (try dsimp only at hSw); first | (go_simp; done) | (go_simp; with_reducible rfl)
              try simp only [Act.put, List.setIfInBounds_toArray, List.set_cons_zero, List.set_cons_succ]
              refine wpAnyH_ready (rs := [14]) (by kernel_rfl) (by simp) ?_
              refine (AllReadyH.cons (o := { dst := some 105, op := Op.call { callee := Callee.value (Operand.func 20), args := #[Operand.tmp 99, Operand.tmp 104], argTypes := #[31, 3] }, type := 22, pos := "law.go:74", after := #[{ on := 8, ground := Ground.data }, { on := 13, ground := Ground.data }, { on := 6, ground := Ground.chain }], guard := none }) rfl (fun K hK => ?_) AllReadyH.nil)
              go_simp
              have HLT := Lib.hid (And.intro HX.out.lt HY.out.lt)
              refine (rvecR_any My w3.heap.size s _ _ HY.out).mono ?_
              rintro e w5 ⟨vy, rfl, ho5, hn5, hs5⟩
              have HX := Lib.hid (HX.out.step hs5 (fun j hj he => by have h1 := HGX.out; have h0 := HS2.out.size; have h2 := HG2.out; rw [HMX.out]; omega))
              have HY := Lib.hid hn5
              have HS := Lib.hid (HS.out.new hs5 (by have h1 := HGX.out; have h0 := HS2.out.size; have h2 := HG2.out; omega))
              have hc5 := (pair_cell2 (H1.out.step HS.out (fun _ _ h => h.elim)) k hlt).2
              have HRy := Lib.hid (ho5.rd (h1 := fun _ => rfl) (M := fun j => j = gx ∨ j = w3.heap.size) (fun j hj he => by have h1 := (ho5.lt j hj).1; have h2 := HX.out.lt; have h3 := HY.out.lt; have h4 := hs5.size; have h5 := HLT.out; omega))
              try have HRx := Lib.hid (HRx.out.step hs5 (fun _ _ h => .inr h))
              show K _ _
              clear hHeld
              refine hK.out _ _ (by first | exact hc5 | exact ⟨hc5, conv_of HRx.out⟩) (fun hHeld => ?_)
              clear hK K
              try simp only [Act.put, List.setIfInBounds_toArray, List.set_cons_zero, List.set_cons_succ]
              refine rg_more (T := (fun w' => convB w' vy (rvec s l[k].2).1)) ?_
              replace hHeld := And.intro hHeld (conv_of HRy.out)
              refine rg_take (i := 15) (o := { dst := some 106, op := Op.convert 22 9 (Operand.tmp 105), type := 9, pos := "law.go:74", after := #[{ on := 14, ground := Ground.data }], guard := none }) (v := ?rgv42) rfl (by kernel_rfl) (by kernel_rfl) (by kernel_rfl) (fun _ _ _ h => h) (by rfl) (fun w hSw => ?rgy42) hHeld ?_
              case rgy42 => (try dsimp only at hSw); first | (go_simp; done) | (go_simp; with_reducible rfl)
              try simp only [Act.put, List.setIfInBounds_toArray, List.set_cons_zero, List.set_cons_succ]
              refine rg_take (i := 16) (o := { dst := some 107, op := Op.binOp BinOp.neq 9 (Operand.tmp 98) (Operand.tmp 106) 9, type := 4, pos := "law.go:74", after := #[{ on := 7, ground := Ground.data }, { on := 15, ground := Ground.data }], guard := none }) (v := ?rgv43) rfl (by kernel_rfl) (by kernel_rfl) (by kernel_rfl) (fun _ _ _ h => h) (by rfl) (fun w hSw => ?rgy43) hHeld ?_
              case rgy43 => (try dsimp only at hSw); first | (go_simp; done) | (go_simp; with_reducible rfl)
              try simp only [Act.put, List.setIfInBounds_toArray, List.set_cons_zero, List.set_cons_succ]
              clear hHeld
              refine wpAnyH_done (by kernel_rfl) ?_ _
              go_wp2_with fail
              go_meet
              exact ⟨HS.out, (rvec s l[k].2).2, by have h1 := rvec_len s l[k].2; have h2 := HSL.out; omega, HX.out, HY.out⟩
            · skip
              go_wp2_with fail
              have HX := Lib.hid (HX.out.step ((Stp.refl (fun _ => False) _).drew) (fun _ _ h => h.elim))
              have HY := Lib.hid (HY.out.step ((Stp.refl (fun _ => False) _).drew) (fun _ _ h => h.elim))
              have HS := Lib.hid (HS.out.drew)
              refine wp_region_held_drew (S := (fun w' => w'.cell? ⟨(ad.add (k * 2)).block, (ad.add (k * 2)).off + 1, none⟩ = some (.int .i64 l[k].2))) (by kernel_rfl) (hcell2) (fun hHeld => ?_)
              try (change wpAnyH _ _ _ _ _ _ _ _ (World.drew _))
              refine rg_take (i := 0) (o := { dst := some 55, op := Op.move (Operand.tmp 7), type := 29, pos := "law.go:66", after := #[], guard := none }) (v := ?rgv44) rfl (by kernel_rfl) (by kernel_rfl) (by kernel_rfl) (fun _ _ _ h => h) (by rfl) (fun w hSw => ?rgy44) hHeld ?_
              case rgy44 => (try dsimp only at hSw); first | (go_simp; done) | (go_simp; with_reducible rfl)
              try simp only [Act.put, List.setIfInBounds_toArray, List.set_cons_zero, List.set_cons_succ]
              refine rg_take (i := 1) (o := { dst := some 56, op := Op.move (Operand.tmp 1), type := 28, pos := "law.go:66", after := #[], guard := none }) (v := ?rgv45) rfl (by kernel_rfl) (by kernel_rfl) (by kernel_rfl) (fun _ _ _ h => h) (by rfl) (fun w hSw => ?rgy45) hHeld ?_
              case rgy45 => (try dsimp only at hSw); first | (go_simp; done) | (go_simp; with_reducible rfl)
              try simp only [Act.put, List.setIfInBounds_toArray, List.set_cons_zero, List.set_cons_succ]
              refine rg_take (i := 2) (o := { dst := some 57, op := Op.move (Operand.tmp 10), type := 3, pos := "law.go:66", after := #[], guard := none }) (v := ?rgv46) rfl (by kernel_rfl) (by kernel_rfl) (by kernel_rfl) (fun _ _ _ h => h) (by rfl) (fun w hSw => ?rgy46) hHeld ?_
              case rgy46 => (try dsimp only at hSw); first | (go_simp; done) | (go_simp; with_reducible rfl)
              try simp only [Act.put, List.setIfInBounds_toArray, List.set_cons_zero, List.set_cons_succ]
              refine rg_take (i := 3) (o := { dst := some 58, op := Op.indexAddr 28 (Operand.tmp 56) (Operand.tmp 57), type := 0, pos := "law.go:66", after := #[{ on := 1, ground := Ground.data }, { on := 2, ground := Ground.data }], guard := none }) (v := ?rgv47) rfl (by kernel_rfl) (by kernel_rfl) (by kernel_rfl) (fun _ _ _ h => h) (by rfl) (fun w hSw => ?rgy47) hHeld ?_
              case rgy47 => (try dsimp only at hSw); first | (go_simp; done) | (go_simp; with_reducible rfl)
              try simp only [Act.put, List.setIfInBounds_toArray, List.set_cons_zero, List.set_cons_succ]
              refine rg_take (i := 4) (o := { dst := some 59, op := Op.fieldAddr 35 (Operand.tmp 58) 1, type := 0, pos := "law.go:66", after := #[{ on := 3, ground := Ground.data }], guard := none }) (v := ?rgv48) rfl (by kernel_rfl) (by kernel_rfl) (by kernel_rfl) (fun _ _ _ h => h) (by rfl) (fun w hSw => ?rgy48) hHeld ?_
              case rgy48 => (try dsimp only at hSw); first | (go_simp; done) | (go_simp; with_reducible rfl)
              try simp only [Act.put, List.setIfInBounds_toArray, List.set_cons_zero, List.set_cons_succ]
              refine rg_take (i := 5) (o := { dst := some 60, op := Op.load 3 (Operand.tmp 59), type := 3, pos := "law.go:66", after := #[{ on := 4, ground := Ground.data }], guard := none }) (v := ?rgv49) rfl (by kernel_rfl) (by kernel_rfl) (by kernel_rfl) (fun _ _ _ h => h) (by rfl) (fun w hSw => ?rgy49) hHeld ?_
              case rgy49 => (try dsimp only at hSw); first | (go_simp; done) | (go_simp; with_reducible rfl)
              try simp only [Act.put, List.setIfInBounds_toArray, List.set_cons_zero, List.set_cons_succ]
              refine rg_take (i := 7) (o := { dst := some 62, op := Op.move (Operand.tmp 8), type := 31, pos := "law.go:66", after := #[], guard := none }) (v := ?rgv50) rfl (by kernel_rfl) (by kernel_rfl) (by kernel_rfl) (fun _ _ _ h => h) (by rfl) (fun w hSw => ?rgy50) hHeld ?_
              case rgy50 => (try dsimp only at hSw); first | (go_simp; done) | (go_simp; with_reducible rfl)
              try simp only [Act.put, List.setIfInBounds_toArray, List.set_cons_zero, List.set_cons_succ]
              refine rg_take (i := 8) (o := { dst := some 63, op := Op.move (Operand.tmp 1), type := 28, pos := "law.go:66", after := #[], guard := none }) (v := ?rgv51) rfl (by kernel_rfl) (by kernel_rfl) (by kernel_rfl) (fun _ _ _ h => h) (by rfl) (fun w hSw => ?rgy51) hHeld ?_
              case rgy51 => (try dsimp only at hSw); first | (go_simp; done) | (go_simp; with_reducible rfl)
              try simp only [Act.put, List.setIfInBounds_toArray, List.set_cons_zero, List.set_cons_succ]
              refine rg_take (i := 9) (o := { dst := some 64, op := Op.move (Operand.tmp 10), type := 3, pos := "law.go:66", after := #[], guard := none }) (v := ?rgv52) rfl (by kernel_rfl) (by kernel_rfl) (by kernel_rfl) (fun _ _ _ h => h) (by rfl) (fun w hSw => ?rgy52) hHeld ?_
              case rgy52 => (try dsimp only at hSw); first | (go_simp; done) | (go_simp; with_reducible rfl)
              try simp only [Act.put, List.setIfInBounds_toArray, List.set_cons_zero, List.set_cons_succ]
              refine rg_take (i := 10) (o := { dst := some 65, op := Op.indexAddr 28 (Operand.tmp 63) (Operand.tmp 64), type := 0, pos := "law.go:66", after := #[{ on := 8, ground := Ground.data }, { on := 9, ground := Ground.data }], guard := none }) (v := ?rgv53) rfl (by kernel_rfl) (by kernel_rfl) (by kernel_rfl) (fun _ _ _ h => h) (by rfl) (fun w hSw => ?rgy53) hHeld ?_
              case rgy53 => (try dsimp only at hSw); first | (go_simp; done) | (go_simp; with_reducible rfl)
              try simp only [Act.put, List.setIfInBounds_toArray, List.set_cons_zero, List.set_cons_succ]
              refine rg_take (i := 11) (o := { dst := some 66, op := Op.fieldAddr 35 (Operand.tmp 65) 1, type := 0, pos := "law.go:66", after := #[{ on := 10, ground := Ground.data }], guard := none }) (v := ?rgv54) rfl (by kernel_rfl) (by kernel_rfl) (by kernel_rfl) (fun _ _ _ h => h) (by rfl) (fun w hSw => ?rgy54) hHeld ?_
              case rgy54 => (try dsimp only at hSw); first | (go_simp; done) | (go_simp; with_reducible rfl)
              try simp only [Act.put, List.setIfInBounds_toArray, List.set_cons_zero, List.set_cons_succ]
              refine rg_take (i := 12) (o := { dst := some 67, op := Op.load 3 (Operand.tmp 66), type := 3, pos := "law.go:66", after := #[{ on := 11, ground := Ground.data }], guard := none }) (v := ?rgv55) rfl (by kernel_rfl) (by kernel_rfl) (by kernel_rfl) (fun _ _ _ h => h) (by rfl) (fun w hSw => ?rgy55) hHeld ?_
              case rgy55 => (try dsimp only at hSw); first | (go_simp; done) | (go_simp; with_reducible rfl)
              try simp only [Act.put, List.setIfInBounds_toArray, List.set_cons_zero, List.set_cons_succ]
              refine wpAnyH_ready (rs := [6]) (by kernel_rfl) (by simp) ?_
              refine (AllReadyH.cons (o := { dst := some 61, op := Op.call { callee := Callee.value (Operand.func 15), args := #[Operand.tmp 55, Operand.tmp 60], argTypes := #[29, 3] }, type := 3, pos := "law.go:66", after := #[{ on := 0, ground := Ground.data }, { on := 5, ground := Ground.data }], guard := none }) rfl (fun K hK => ?_) AllReadyH.nil)
              go_simp
              have HLT := Lib.hid (And.intro HX.out.lt HY.out.lt)
              refine (num_any Mx gx s _ _ HX.out (by have := HSL.out; omega)).mono ?_
              rintro e w5 ⟨rfl, hn5, hs5⟩
              have HY := Lib.hid (HY.out.step hs5 (fun j hj he => by have h1 := HGX.out; have h0 := HS2.out.size; have h2 := HG2.out; rw [HMY.out]; omega))
              have HX := Lib.hid hn5
              have HS := Lib.hid (HS.out.new hs5 (by have h1 := HGX.out; have h0 := HS2.out.size; have h2 := HG2.out; omega))
              have hc5 := (pair_cell2 (H1.out.step HS.out (fun _ _ h => h.elim)) k hlt).2
              show K _ _
              clear hHeld
              refine hK.out _ _ (hc5) (fun hHeld => ?_)
              clear hK K
              try simp only [Act.put, List.setIfInBounds_toArray, List.set_cons_zero, List.set_cons_succ]
              refine wpAnyH_ready (rs := [13]) (by kernel_rfl) (by simp) ?_
              refine (AllReadyH.cons (o := { dst := some 68, op := Op.call { callee := Callee.value (Operand.func 16), args := #[Operand.tmp 62, Operand.tmp 67], argTypes := #[31, 3] }, type := 3, pos := "law.go:66", after := #[{ on := 7, ground := Ground.data }, { on := 12, ground := Ground.data }, { on := 6, ground := Ground.chain }], guard := none }) rfl (fun K hK => ?_) AllReadyH.nil)
              go_simp
              have HLT := Lib.hid (And.intro HX.out.lt HY.out.lt)
              refine (numR_any My w3.heap.size s _ _ HY.out).mono ?_
              rintro e w5 ⟨rfl, hn5, hs5⟩
              have HX := Lib.hid (HX.out.step hs5 (fun j hj he => by have h1 := HGX.out; have h0 := HS2.out.size; have h2 := HG2.out; rw [HMX.out]; omega))
              have HY := Lib.hid hn5
              have HS := Lib.hid (HS.out.new hs5 (by have h1 := HGX.out; have h0 := HS2.out.size; have h2 := HG2.out; omega))
              have hc5 := (pair_cell2 (H1.out.step HS.out (fun _ _ h => h.elim)) k hlt).2
              show K _ _
              clear hHeld
              refine hK.out _ _ (hc5) (fun hHeld => ?_)
              clear hK K
              try simp only [Act.put, List.setIfInBounds_toArray, List.set_cons_zero, List.set_cons_succ]
              refine rg_take (i := 14) (o := { dst := some 69, op := Op.binOp BinOp.neq 3 (Operand.tmp 61) (Operand.tmp 68) 3, type := 4, pos := "law.go:66", after := #[{ on := 6, ground := Ground.data }, { on := 13, ground := Ground.data }], guard := none }) (v := ?rgv56) rfl (by kernel_rfl) (by kernel_rfl) (by kernel_rfl) (fun _ _ _ h => h) (by rfl) (fun w hSw => ?rgy56) hHeld ?_
              case rgy56 => (try dsimp only at hSw); first | (go_simp; done) | (go_simp; with_reducible rfl)
              try simp only [Act.put, List.setIfInBounds_toArray, List.set_cons_zero, List.set_cons_succ]
              clear hHeld
              refine wpAnyH_done (by kernel_rfl) ?_ _
              go_wp2_with fail
              go_meet
              exact ⟨HS.out, (rnum s l[k].2).2, by have h1 := rnum_len s l[k].2; have h2 := HSL.out; omega, HX.out, HY.out⟩
          case rest =>
            clear HS HX HY HSL
            obtain ⟨hs, s, hsl, hx, hy⟩ := hcut
            have HS := Lib.hid hs
            have HX := Lib.hid hx
            have HY := Lib.hid hy
            have HSL := Lib.hid hsl
            clear hs hx hy hsl
            obtain ⟨s1, bad⟩ := s
            cases bad with
            | true =>
              have hz : (!true) = false := rfl
              go_upto_region 27 with fail
              go_cut [136] (fun c wx => c = .bool false ∧ Stp (fun _ => False) w wx ∧ ∃ s : RSt, s.1.length ≤ 2000 ∧ IsRd Mx wx gx s ∧ IsRf My wx w3.heap.size s)
              case first =>
                go_wp2_with fail
                have HX := Lib.hid (HX.out.step ((Stp.refl (fun _ => False) _).drew) (fun _ _ h => h.elim))
                have HY := Lib.hid (HY.out.step ((Stp.refl (fun _ => False) _).drew) (fun _ _ h => h.elim))
                have HS := Lib.hid (HS.out.drew)
                have hc5 := HY.out.off
                have hne : ((s1.length : Int) != (s1.length : Int)) = false := by simp
                simp only at hc5 hne
                refine wp_region_held_drew (S := (fun w' => w'.cell? ⟨w3.heap.size, 2, none⟩ = some (.bool true))) (by kernel_rfl) (hc5) (fun hHeld => ?_)
                try (change wpAnyH _ _ _ _ _ _ _ _ (World.drew _))
                refine rg_take (i := 0) (o := { dst := some 108, op := Op.move (Operand.tmp 7), type := 29, pos := "law.go:78", after := #[], guard := none }) (v := ?rgv57) rfl (by kernel_rfl) (by kernel_rfl) (by kernel_rfl) (fun _ _ _ h => h) (by rfl) (fun w hSw => ?rgy57) hHeld ?_
                case rgy57 => (try dsimp only at hSw); first | (go_simp; done) | (go_simp; with_reducible rfl)
                try simp only [Act.put, List.setIfInBounds_toArray, List.set_cons_zero, List.set_cons_succ]
                refine rg_take (i := 2) (o := { dst := some 110, op := Op.move (Operand.tmp 8), type := 31, pos := "law.go:78", after := #[], guard := none }) (v := ?rgv58) rfl (by kernel_rfl) (by kernel_rfl) (by kernel_rfl) (fun _ _ _ h => h) (by rfl) (fun w hSw => ?rgy58) hHeld ?_
                case rgy58 => (try dsimp only at hSw); first | (go_simp; done) | (go_simp; with_reducible rfl)
                try simp only [Act.put, List.setIfInBounds_toArray, List.set_cons_zero, List.set_cons_succ]
                refine wpAnyH_ready (rs := [1]) (by kernel_rfl) (by simp) ?_
                refine (AllReadyH.cons (o := { dst := some 109, op := Op.call { callee := Callee.value (Operand.func 21), args := #[Operand.tmp 108], argTypes := #[29] }, type := 3, pos := "law.go:78", after := #[{ on := 0, ground := Ground.data }], guard := none }) rfl (fun K hK => ?_) AllReadyH.nil)
                go_simp
                refine (left_any Mx gx _ _ HX.out (by have := HSL.out; simp only at this ⊢; omega)).mono ?_
                rintro e w5 ⟨rfl, rfl⟩
                show K _ _
                clear hHeld
                refine hK.out _ _ (hc5) (fun hHeld => ?_)
                clear hK K
                try simp only [Act.put, List.setIfInBounds_toArray, List.set_cons_zero, List.set_cons_succ]
                refine wpAnyH_ready (rs := [3]) (by kernel_rfl) (by simp) ?_
                refine (AllReadyH.cons (o := { dst := some 111, op := Op.call { callee := Callee.value (Operand.func 22), args := #[Operand.tmp 110], argTypes := #[31] }, type := 3, pos := "law.go:78", after := #[{ on := 2, ground := Ground.data }, { on := 1, ground := Ground.chain }], guard := none }) rfl (fun K hK => ?_) AllReadyH.nil)
                go_simp
                refine (leftR_any My w3.heap.size _ _ HY.out).mono ?_
                rintro e w5 ⟨rfl, hs5⟩
                have HX := Lib.hid (HX.out.stp0 hs5)
                have HY := Lib.hid (HY.out.step hs5 (fun _ _ h => h.elim))
                have HS := Lib.hid (HS.out.trans hs5)
                have hc5 := HY.out.off
                clear hs5
                simp only at hc5
                show K _ _
                clear hHeld
                refine hK.out _ _ (hc5) (fun hHeld => ?_)
                clear hK K
                try simp only [Act.put, List.setIfInBounds_toArray, List.set_cons_zero, List.set_cons_succ]
                refine rg_take (i := 4) (o := { dst := some 112, op := Op.binOp BinOp.neq 3 (Operand.tmp 109) (Operand.tmp 111) 3, type := 4, pos := "law.go:78", after := #[{ on := 1, ground := Ground.data }, { on := 3, ground := Ground.data }], guard := none }) (v := ?rgv59) rfl (by kernel_rfl) (by kernel_rfl) (by kernel_rfl) (fun _ _ _ h => h) (by rfl) (fun w hSw => ?rgy59) hHeld ?_
                case rgy59 => (try dsimp only at hSw); first | (go_simp; done) | (go_simp; with_reducible rfl)
                try simp only [Act.put, List.setIfInBounds_toArray, List.set_cons_zero, List.set_cons_succ]
                refine rg_take (i := 5) (o := { dst := some 113, op := Op.move (Operand.tmp 112), type := 4, pos := "law.go:78", after := #[{ on := 4, ground := Ground.data }, { on := 3, ground := Ground.chain }], guard := none }) (v := ?rgv60) rfl (by kernel_rfl) (by kernel_rfl) (by kernel_rfl) (fun _ _ _ h => h) (by rfl) (fun w hSw => ?rgy60) hHeld ?_
                case rgy60 => (try dsimp only at hSw); first | (go_simp; done) | (go_simp; with_reducible rfl)
                try simp only [Act.put, List.setIfInBounds_toArray, List.set_cons_zero, List.set_cons_succ]
                refine rg_take (i := 6) (o := { dst := some 114, op := Op.move (Operand.tmp 7), type := 29, pos := "law.go:78", after := #[{ on := 5, ground := Ground.guard }], guard := some (5, false) }) (v := ?rgv61) rfl (by kernel_rfl) (by kernel_rfl) (by kernel_rfl) (fun _ _ _ h => h) (by rfl) (fun w hSw => ?rgy61) hHeld ?_
                case rgy61 => (try dsimp only at hSw); first | (go_simp; done) | (go_simp; with_reducible rfl)
                try simp only [Act.put, List.setIfInBounds_toArray, List.set_cons_zero, List.set_cons_succ]
                refine rg_take (i := 8) (o := { dst := some 116, op := Op.move (Operand.tmp 8), type := 31, pos := "law.go:78", after := #[{ on := 5, ground := Ground.guard }], guard := some (5, false) }) (v := ?rgv62) rfl (by kernel_rfl) (by kernel_rfl) (by kernel_rfl) (fun _ _ _ h => h) (by rfl) (fun w hSw => ?rgy62) hHeld ?_
                case rgy62 => (try dsimp only at hSw); first | (go_simp; done) | (go_simp; with_reducible rfl)
                try simp only [Act.put, List.setIfInBounds_toArray, List.set_cons_zero, List.set_cons_succ]
                refine rg_take (i := 9) (o := { dst := some 117, op := Op.nilCheck (Operand.tmp 116), type := 0, pos := "law.go:78", after := #[{ on := 8, ground := Ground.data }, { on := 5, ground := Ground.guard }], guard := some (5, false) }) (v := ?rgv63) rfl (by kernel_rfl) (by kernel_rfl) (by kernel_rfl) (fun _ _ _ h => h) (by rfl) (fun w hSw => ?rgy63) hHeld ?_
                case rgy63 => (try dsimp only at hSw); first | (go_simp; done) | (go_simp; with_reducible rfl)
                try simp only [Act.put, List.setIfInBounds_toArray, List.set_cons_zero, List.set_cons_succ]
                refine rg_take (i := 10) (o := { dst := some 118, op := Op.fieldAddr 33 (Operand.tmp 117) 2, type := 0, pos := "law.go:78", after := #[{ on := 9, ground := Ground.data }, { on := 5, ground := Ground.guard }], guard := some (5, false) }) (v := ?rgv64) rfl (by kernel_rfl) (by kernel_rfl) (by kernel_rfl) (fun _ _ _ h => h) (by rfl) (fun w hSw => ?rgy64) hHeld ?_
                case rgy64 => (try dsimp only at hSw); first | (go_simp; done) | (go_simp; with_reducible rfl)
                try simp only [Act.put, List.setIfInBounds_toArray, List.set_cons_zero, List.set_cons_succ]
                refine rg_take (i := 11) (o := { dst := some 119, op := Op.load 4 (Operand.tmp 118), type := 4, pos := "law.go:78", after := #[{ on := 10, ground := Ground.data }, { on := 5, ground := Ground.guard }], guard := some (5, false) }) (v := ?rgv65) rfl (by kernel_rfl) (by kernel_rfl) (by kernel_rfl) (fun _ _ _ h => h) (by rfl) (fun w hSw => ?rgy65) hHeld ?_
                case rgy65 => (try dsimp only at hSw); first | (go_simp; done) | (go_simp; with_reducible rfl)
                try simp only [Act.put, List.setIfInBounds_toArray, List.set_cons_zero, List.set_cons_succ]
                refine wpAnyH_ready (rs := [7]) (by kernel_rfl) (by simp) ?_
                refine (AllReadyH.cons (o := { dst := some 115, op := Op.call { callee := Callee.value (Operand.func 23), args := #[Operand.tmp 114], argTypes := #[29] }, type := 4, pos := "law.go:78", after := #[{ on := 6, ground := Ground.data }, { on := 5, ground := Ground.chain }, { on := 5, ground := Ground.guard }], guard := some (5, false) }) rfl (fun K hK => ?_) AllReadyH.nil)
                go_simp
                refine (bad_any Mx gx _ _ HX.out).mono ?_
                rintro e w5 ⟨rfl, rfl⟩
                show K _ _
                clear hHeld
                refine hK.out _ _ (hc5) (fun hHeld => ?_)
                clear hK K
                try simp only [Act.put, List.setIfInBounds_toArray, List.set_cons_zero, List.set_cons_succ]
                refine rg_take (i := 12) (o := { dst := some 120, op := Op.binOp BinOp.neq 4 (Operand.tmp 115) (Operand.tmp 119) 4, type := 4, pos := "law.go:78", after := #[{ on := 7, ground := Ground.data }, { on := 11, ground := Ground.data }, { on := 5, ground := Ground.guard }], guard := some (5, false) }) (v := ?rgv66) rfl (by kernel_rfl) (by kernel_rfl) (by kernel_rfl) (fun _ _ _ h => h) (by rfl) (fun w hSw => ?rgy66) hHeld ?_
                case rgy66 => (try dsimp only at hSw); first | (go_simp; done) | (go_simp; with_reducible rfl)
                try simp only [Act.put, List.setIfInBounds_toArray, List.set_cons_zero, List.set_cons_succ]
                refine rg_take (i := 13) (o := { dst := some 121, op := Op.pick (Operand.tmp 113) (Operand.const (Value.bool true)) (Operand.tmp 120), type := 4, pos := "law.go:78", after := #[{ on := 5, ground := Ground.data }, { on := 12, ground := Ground.data }], guard := none }) (v := ?rgv67) rfl (by kernel_rfl) (by kernel_rfl) (by kernel_rfl) (fun _ _ _ h => h) (by rfl) (fun w hSw => ?rgy67) hHeld ?_
                case rgy67 => (try dsimp only at hSw); first | (go_simp; done) | (go_simp; with_reducible rfl)
                try simp only [Act.put, List.setIfInBounds_toArray, List.set_cons_zero, List.set_cons_succ]
                refine rg_take (i := 14) (o := { dst := some 122, op := Op.move (Operand.tmp 121), type := 4, pos := "law.go:78", after := #[{ on := 13, ground := Ground.data }, { on := 7, ground := Ground.chain }], guard := none }) (v := ?rgv68) rfl (by kernel_rfl) (by kernel_rfl) (by kernel_rfl) (fun _ _ _ h => h) (by rfl) (fun w hSw => ?rgy68) hHeld ?_
                case rgy68 => (try dsimp only at hSw); first | (go_simp; done) | (go_simp; with_reducible rfl)
                try simp only [Act.put, List.setIfInBounds_toArray, List.set_cons_zero, List.set_cons_succ]
                refine rg_take (i := 15) (o := { dst := some 123, op := Op.move (Operand.tmp 7), type := 29, pos := "law.go:78", after := #[{ on := 14, ground := Ground.guard }], guard := some (14, false) }) (v := ?rgv69) rfl (by kernel_rfl) (by kernel_rfl) (by kernel_rfl) (fun _ _ _ h => h) (by rfl) (fun w hSw => ?rgy69) hHeld ?_
                case rgy69 => (try dsimp only at hSw); first | (go_simp; done) | (go_simp; with_reducible rfl)
                try simp only [Act.put, List.setIfInBounds_toArray, List.set_cons_zero, List.set_cons_succ]
                refine rg_take (i := 17) (o := { dst := some 125, op := Op.move (Operand.tmp 8), type := 31, pos := "law.go:78", after := #[{ on := 14, ground := Ground.guard }], guard := some (14, false) }) (v := ?rgv70) rfl (by kernel_rfl) (by kernel_rfl) (by kernel_rfl) (fun _ _ _ h => h) (by rfl) (fun w hSw => ?rgy70) hHeld ?_
                case rgy70 => (try dsimp only at hSw); first | (go_simp; done) | (go_simp; with_reducible rfl)
                try simp only [Act.put, List.setIfInBounds_toArray, List.set_cons_zero, List.set_cons_succ]
                refine rg_take (i := 18) (o := { dst := some 126, op := Op.nilCheck (Operand.tmp 125), type := 0, pos := "law.go:78", after := #[{ on := 17, ground := Ground.data }, { on := 14, ground := Ground.guard }], guard := some (14, false) }) (v := ?rgv71) rfl (by kernel_rfl) (by kernel_rfl) (by kernel_rfl) (fun _ _ _ h => h) (by rfl) (fun w hSw => ?rgy71) hHeld ?_
                case rgy71 => (try dsimp only at hSw); first | (go_simp; done) | (go_simp; with_reducible rfl)
                try simp only [Act.put, List.setIfInBounds_toArray, List.set_cons_zero, List.set_cons_succ]
                refine rg_take (i := 19) (o := { dst := some 127, op := Op.fieldAddr 33 (Operand.tmp 126) 2, type := 0, pos := "law.go:78", after := #[{ on := 18, ground := Ground.data }, { on := 14, ground := Ground.guard }], guard := some (14, false) }) (v := ?rgv72) rfl (by kernel_rfl) (by kernel_rfl) (by kernel_rfl) (fun _ _ _ h => h) (by rfl) (fun w hSw => ?rgy72) hHeld ?_
                case rgy72 => (try dsimp only at hSw); first | (go_simp; done) | (go_simp; with_reducible rfl)
                try simp only [Act.put, List.setIfInBounds_toArray, List.set_cons_zero, List.set_cons_succ]
                refine rg_take (i := 20) (o := { dst := some 128, op := Op.load 4 (Operand.tmp 127), type := 4, pos := "law.go:78", after := #[{ on := 19, ground := Ground.data }, { on := 14, ground := Ground.guard }], guard := some (14, false) }) (v := ?rgv73) rfl (by kernel_rfl) (by kernel_rfl) (by kernel_rfl) (fun _ _ _ h => h) (by rfl) (fun w hSw => ?rgy73) hHeld ?_
                case rgy73 => (try dsimp only at hSw); first | (go_simp; done) | (go_simp; with_reducible rfl)
                try simp only [Act.put, List.setIfInBounds_toArray, List.set_cons_zero, List.set_cons_succ]
                refine rg_take (i := 21) (o := { dst := some 129, op := Op.unOp UnOp.not 4 (Operand.tmp 128), type := 4, pos := "law.go:78", after := #[{ on := 20, ground := Ground.data }, { on := 14, ground := Ground.guard }], guard := some (14, false) }) (v := ?rgv74) rfl (by kernel_rfl) (by kernel_rfl) (by kernel_rfl) (fun _ _ _ h => h) (by rfl) (fun w hSw => ?rgy74) hHeld ?_
                case rgy74 => (try dsimp only at hSw); first | (go_simp; done) | (go_simp; with_reducible rfl)
                try simp only [Act.put, List.setIfInBounds_toArray, List.set_cons_zero, List.set_cons_succ]
                refine wpAnyH_ready (rs := [16]) (by kernel_rfl) (by simp) ?_
                refine (AllReadyH.cons (o := { dst := some 124, op := Op.call { callee := Callee.value (Operand.func 24), args := #[Operand.tmp 123], argTypes := #[29] }, type := 4, pos := "law.go:78", after := #[{ on := 15, ground := Ground.data }, { on := 14, ground := Ground.chain }, { on := 14, ground := Ground.guard }], guard := some (14, false) }) rfl (fun K hK => ?_) AllReadyH.nil)
                go_simp
                refine (done_any Mx gx _ _ HX.out (by have := HSL.out; simp only at this ⊢; omega)).mono ?_
                rintro e w5 ⟨rfl, rfl⟩
                simp only [hz, Bool.not_false, Bool.not_true, Bool.true_and, Bool.false_and]
                show K _ _
                clear hHeld
                refine hK.out _ _ (hc5) (fun hHeld => ?_)
                clear hK K
                try simp only [Act.put, List.setIfInBounds_toArray, List.set_cons_zero, List.set_cons_succ]
                refine rg_take (i := 22) (o := { dst := some 130, op := Op.move (Operand.tmp 129), type := 4, pos := "law.go:78", after := #[{ on := 21, ground := Ground.data }, { on := 16, ground := Ground.chain }, { on := 14, ground := Ground.guard }], guard := some (14, false) }) (v := ?rgv75) rfl (by kernel_rfl) (by kernel_rfl) (by kernel_rfl) (fun _ _ _ h => h) (by rfl) (fun w hSw => ?rgy75) hHeld ?_
                case rgy75 => (try dsimp only at hSw); first | (go_simp; done) | (go_simp; with_reducible rfl)
                try simp only [Act.put, List.setIfInBounds_toArray, List.set_cons_zero, List.set_cons_succ]
                refine rg_off (i := 23) (o := { dst := some 131, op := Op.move (Operand.tmp 8), type := 31, pos := "law.go:78", after := #[{ on := 22, ground := Ground.guard }], guard := some (22, true) }) rfl (by kernel_rfl) (by kernel_rfl) (by kernel_rfl) (fun _ _ _ h => h) (by rfl) hHeld ?_
                try simp only [Act.put, List.setIfInBounds_toArray, List.set_cons_zero, List.set_cons_succ]
                refine rg_off (i := 24) (o := { dst := some 132, op := Op.call { callee := Callee.value (Operand.func 22), args := #[Operand.tmp 131], argTypes := #[31] }, type := 3, pos := "law.go:78", after := #[{ on := 23, ground := Ground.data }, { on := 22, ground := Ground.chain }, { on := 22, ground := Ground.guard }], guard := some (22, true) }) rfl (by kernel_rfl) (by kernel_rfl) (by kernel_rfl) (fun _ _ _ h => h) (by rfl) hHeld ?_
                try simp only [Act.put, List.setIfInBounds_toArray, List.set_cons_zero, List.set_cons_succ]
                refine rg_off (i := 25) (o := { dst := some 133, op := Op.binOp BinOp.eql 3 (Operand.tmp 132) (Operand.const (Value.int IntKind.i64 0)) 3, type := 4, pos := "law.go:78", after := #[{ on := 24, ground := Ground.data }, { on := 22, ground := Ground.guard }], guard := some (22, true) }) rfl (by kernel_rfl) (by kernel_rfl) (by kernel_rfl) (fun _ _ _ h => h) (by rfl) hHeld ?_
                try simp only [Act.put, List.setIfInBounds_toArray, List.set_cons_zero, List.set_cons_succ]
                refine rg_take (i := 26) (o := { dst := some 134, op := Op.pick (Operand.tmp 130) (Operand.tmp 133) (Operand.const (Value.bool false)), type := 4, pos := "law.go:78", after := #[{ on := 22, ground := Ground.data }, { on := 25, ground := Ground.data }, { on := 14, ground := Ground.guard }], guard := some (14, false) }) (v := ?rgv76) rfl (by kernel_rfl) (by kernel_rfl) (by kernel_rfl) (fun _ _ _ h => h) (by rfl) (fun w hSw => ?rgy76) hHeld ?_
                case rgy76 => (try dsimp only at hSw); first | (go_simp; done) | (go_simp; with_reducible rfl)
                try simp only [Act.put, List.setIfInBounds_toArray, List.set_cons_zero, List.set_cons_succ]
                refine rg_take (i := 27) (o := { dst := some 135, op := Op.binOp BinOp.neq 4 (Operand.tmp 124) (Operand.tmp 134) 4, type := 4, pos := "law.go:78", after := #[{ on := 16, ground := Ground.data }, { on := 26, ground := Ground.data }, { on := 14, ground := Ground.guard }], guard := some (14, false) }) (v := ?rgv77) rfl (by kernel_rfl) (by kernel_rfl) (by kernel_rfl) (fun _ _ _ h => h) (by rfl) (fun w hSw => ?rgy77) hHeld ?_
                case rgy77 => (try dsimp only at hSw); first | (go_simp; done) | (go_simp; with_reducible rfl)
                try simp only [Act.put, List.setIfInBounds_toArray, List.set_cons_zero, List.set_cons_succ]
                refine rg_take (i := 28) (o := { dst := some 136, op := Op.pick (Operand.tmp 122) (Operand.const (Value.bool true)) (Operand.tmp 135), type := 4, pos := "law.go:78", after := #[{ on := 14, ground := Ground.data }, { on := 27, ground := Ground.data }], guard := none }) (v := ?rgv78) rfl (by kernel_rfl) (by kernel_rfl) (by kernel_rfl) (fun _ _ _ h => h) (by rfl) (fun w hSw => ?rgy78) hHeld ?_
                case rgy78 => (try dsimp only at hSw); first | (go_simp; done) | (go_simp; with_reducible rfl)
                try simp only [Act.put, List.setIfInBounds_toArray, List.set_cons_zero, List.set_cons_succ]
                clear hHeld
                refine wpAnyH_done (by kernel_rfl) ?_ _
                go_wp2_with fail
                go_meet
                exact ⟨rfl, HS.out, (s1, true), HSL.out, HX.out, HY.out⟩
              case rest =>
                obtain ⟨rfl, hs, s, hsl, hx, hy⟩ := hcut
                have HS := Lib.hid hs
                have HX := Lib.hid hx
                have HY := Lib.hid hy
                have HSL := Lib.hid hsl
                clear hs hx hy hsl
                go_wp2
                go_roundw
                case rel => exact ⟨k + 1, by omega, by go_num, HS.out, s, HSL.out, HX.out, HY.out⟩
                case measure => simp [intOf]; omega
            | false =>
              by_cases h0 : (s1.length : Int) = 0
              · have hz : ((s1.length : Int) == 0) = true := by simpa using h0
                go_upto_region 27 with fail
                go_cut [136] (fun c wx => c = .bool false ∧ Stp (fun _ => False) w wx ∧ ∃ s : RSt, s.1.length ≤ 2000 ∧ IsRd Mx wx gx s ∧ IsRf My wx w3.heap.size s)
                case first =>
                  go_wp2_with fail
                  have HX := Lib.hid (HX.out.step ((Stp.refl (fun _ => False) _).drew) (fun _ _ h => h.elim))
                  have HY := Lib.hid (HY.out.step ((Stp.refl (fun _ => False) _).drew) (fun _ _ h => h.elim))
                  have HS := Lib.hid (HS.out.drew)
                  have hc5 := HY.out.off
                  have hne : ((s1.length : Int) != (s1.length : Int)) = false := by simp
                  simp only at hc5 hne
                  refine wp_region_held_drew (S := (fun w' => w'.cell? ⟨w3.heap.size, 2, none⟩ = some (.bool false))) (by kernel_rfl) (hc5) (fun hHeld => ?_)
                  try (change wpAnyH _ _ _ _ _ _ _ _ (World.drew _))
                  refine rg_take (i := 0) (o := { dst := some 108, op := Op.move (Operand.tmp 7), type := 29, pos := "law.go:78", after := #[], guard := none }) (v := ?rgv79) rfl (by kernel_rfl) (by kernel_rfl) (by kernel_rfl) (fun _ _ _ h => h) (by rfl) (fun w hSw => ?rgy79) hHeld ?_
                  case rgy79 => (try dsimp only at hSw); first | (go_simp; done) | (go_simp; with_reducible rfl)
                  try simp only [Act.put, List.setIfInBounds_toArray, List.set_cons_zero, List.set_cons_succ]
                  refine rg_take (i := 2) (o := { dst := some 110, op := Op.move (Operand.tmp 8), type := 31, pos := "law.go:78", after := #[], guard := none }) (v := ?rgv80) rfl (by kernel_rfl) (by kernel_rfl) (by kernel_rfl) (fun _ _ _ h => h) (by rfl) (fun w hSw => ?rgy80) hHeld ?_
                  case rgy80 => (try dsimp only at hSw); first | (go_simp; done) | (go_simp; with_reducible rfl)
                  try simp only [Act.put, List.setIfInBounds_toArray, List.set_cons_zero, List.set_cons_succ]
                  refine wpAnyH_ready (rs := [1]) (by kernel_rfl) (by simp) ?_
                  refine (AllReadyH.cons (o := { dst := some 109, op := Op.call { callee := Callee.value (Operand.func 21), args := #[Operand.tmp 108], argTypes := #[29] }, type := 3, pos := "law.go:78", after := #[{ on := 0, ground := Ground.data }], guard := none }) rfl (fun K hK => ?_) AllReadyH.nil)
                  go_simp
                  refine (left_any Mx gx _ _ HX.out (by have := HSL.out; simp only at this ⊢; omega)).mono ?_
                  rintro e w5 ⟨rfl, rfl⟩
                  show K _ _
                  clear hHeld
                  refine hK.out _ _ (hc5) (fun hHeld => ?_)
                  clear hK K
                  try simp only [Act.put, List.setIfInBounds_toArray, List.set_cons_zero, List.set_cons_succ]
                  refine wpAnyH_ready (rs := [3]) (by kernel_rfl) (by simp) ?_
                  refine (AllReadyH.cons (o := { dst := some 111, op := Op.call { callee := Callee.value (Operand.func 22), args := #[Operand.tmp 110], argTypes := #[31] }, type := 3, pos := "law.go:78", after := #[{ on := 2, ground := Ground.data }, { on := 1, ground := Ground.chain }], guard := none }) rfl (fun K hK => ?_) AllReadyH.nil)
                  go_simp
                  refine (leftR_any My w3.heap.size _ _ HY.out).mono ?_
                  rintro e w5 ⟨rfl, hs5⟩
                  have HX := Lib.hid (HX.out.stp0 hs5)
                  have HY := Lib.hid (HY.out.step hs5 (fun _ _ h => h.elim))
                  have HS := Lib.hid (HS.out.trans hs5)
                  have hc5 := HY.out.off
                  clear hs5
                  simp only at hc5
                  show K _ _
                  clear hHeld
                  refine hK.out _ _ (hc5) (fun hHeld => ?_)
                  clear hK K
                  try simp only [Act.put, List.setIfInBounds_toArray, List.set_cons_zero, List.set_cons_succ]
                  refine rg_take (i := 4) (o := { dst := some 112, op := Op.binOp BinOp.neq 3 (Operand.tmp 109) (Operand.tmp 111) 3, type := 4, pos := "law.go:78", after := #[{ on := 1, ground := Ground.data }, { on := 3, ground := Ground.data }], guard := none }) (v := ?rgv81) rfl (by kernel_rfl) (by kernel_rfl) (by kernel_rfl) (fun _ _ _ h => h) (by rfl) (fun w hSw => ?rgy81) hHeld ?_
                  case rgy81 => (try dsimp only at hSw); first | (go_simp; done) | (go_simp; with_reducible rfl)
                  try simp only [Act.put, List.setIfInBounds_toArray, List.set_cons_zero, List.set_cons_succ]
                  refine rg_take (i := 5) (o := { dst := some 113, op := Op.move (Operand.tmp 112), type := 4, pos := "law.go:78", after := #[{ on := 4, ground := Ground.data }, { on := 3, ground := Ground.chain }], guard := none }) (v := ?rgv82) rfl (by kernel_rfl) (by kernel_rfl) (by kernel_rfl) (fun _ _ _ h => h) (by rfl) (fun w hSw => ?rgy82) hHeld ?_
                  case rgy82 => (try dsimp only at hSw); first | (go_simp; done) | (go_simp; with_reducible rfl)
                  try simp only [Act.put, List.setIfInBounds_toArray, List.set_cons_zero, List.set_cons_succ]
                  refine rg_take (i := 6) (o := { dst := some 114, op := Op.move (Operand.tmp 7), type := 29, pos := "law.go:78", after := #[{ on := 5, ground := Ground.guard }], guard := some (5, false) }) (v := ?rgv83) rfl (by kernel_rfl) (by kernel_rfl) (by kernel_rfl) (fun _ _ _ h => h) (by rfl) (fun w hSw => ?rgy83) hHeld ?_
                  case rgy83 => (try dsimp only at hSw); first | (go_simp; done) | (go_simp; with_reducible rfl)
                  try simp only [Act.put, List.setIfInBounds_toArray, List.set_cons_zero, List.set_cons_succ]
                  refine rg_take (i := 8) (o := { dst := some 116, op := Op.move (Operand.tmp 8), type := 31, pos := "law.go:78", after := #[{ on := 5, ground := Ground.guard }], guard := some (5, false) }) (v := ?rgv84) rfl (by kernel_rfl) (by kernel_rfl) (by kernel_rfl) (fun _ _ _ h => h) (by rfl) (fun w hSw => ?rgy84) hHeld ?_
                  case rgy84 => (try dsimp only at hSw); first | (go_simp; done) | (go_simp; with_reducible rfl)
                  try simp only [Act.put, List.setIfInBounds_toArray, List.set_cons_zero, List.set_cons_succ]
                  refine rg_take (i := 9) (o := { dst := some 117, op := Op.nilCheck (Operand.tmp 116), type := 0, pos := "law.go:78", after := #[{ on := 8, ground := Ground.data }, { on := 5, ground := Ground.guard }], guard := some (5, false) }) (v := ?rgv85) rfl (by kernel_rfl) (by kernel_rfl) (by kernel_rfl) (fun _ _ _ h => h) (by rfl) (fun w hSw => ?rgy85) hHeld ?_
                  case rgy85 => (try dsimp only at hSw); first | (go_simp; done) | (go_simp; with_reducible rfl)
                  try simp only [Act.put, List.setIfInBounds_toArray, List.set_cons_zero, List.set_cons_succ]
                  refine rg_take (i := 10) (o := { dst := some 118, op := Op.fieldAddr 33 (Operand.tmp 117) 2, type := 0, pos := "law.go:78", after := #[{ on := 9, ground := Ground.data }, { on := 5, ground := Ground.guard }], guard := some (5, false) }) (v := ?rgv86) rfl (by kernel_rfl) (by kernel_rfl) (by kernel_rfl) (fun _ _ _ h => h) (by rfl) (fun w hSw => ?rgy86) hHeld ?_
                  case rgy86 => (try dsimp only at hSw); first | (go_simp; done) | (go_simp; with_reducible rfl)
                  try simp only [Act.put, List.setIfInBounds_toArray, List.set_cons_zero, List.set_cons_succ]
                  refine rg_take (i := 11) (o := { dst := some 119, op := Op.load 4 (Operand.tmp 118), type := 4, pos := "law.go:78", after := #[{ on := 10, ground := Ground.data }, { on := 5, ground := Ground.guard }], guard := some (5, false) }) (v := ?rgv87) rfl (by kernel_rfl) (by kernel_rfl) (by kernel_rfl) (fun _ _ _ h => h) (by rfl) (fun w hSw => ?rgy87) hHeld ?_
                  case rgy87 => (try dsimp only at hSw); first | (go_simp; done) | (go_simp; with_reducible rfl)
                  try simp only [Act.put, List.setIfInBounds_toArray, List.set_cons_zero, List.set_cons_succ]
                  refine wpAnyH_ready (rs := [7]) (by kernel_rfl) (by simp) ?_
                  refine (AllReadyH.cons (o := { dst := some 115, op := Op.call { callee := Callee.value (Operand.func 23), args := #[Operand.tmp 114], argTypes := #[29] }, type := 4, pos := "law.go:78", after := #[{ on := 6, ground := Ground.data }, { on := 5, ground := Ground.chain }, { on := 5, ground := Ground.guard }], guard := some (5, false) }) rfl (fun K hK => ?_) AllReadyH.nil)
                  go_simp
                  refine (bad_any Mx gx _ _ HX.out).mono ?_
                  rintro e w5 ⟨rfl, rfl⟩
                  show K _ _
                  clear hHeld
                  refine hK.out _ _ (hc5) (fun hHeld => ?_)
                  clear hK K
                  try simp only [Act.put, List.setIfInBounds_toArray, List.set_cons_zero, List.set_cons_succ]
                  refine rg_take (i := 12) (o := { dst := some 120, op := Op.binOp BinOp.neq 4 (Operand.tmp 115) (Operand.tmp 119) 4, type := 4, pos := "law.go:78", after := #[{ on := 7, ground := Ground.data }, { on := 11, ground := Ground.data }, { on := 5, ground := Ground.guard }], guard := some (5, false) }) (v := ?rgv88) rfl (by kernel_rfl) (by kernel_rfl) (by kernel_rfl) (fun _ _ _ h => h) (by rfl) (fun w hSw => ?rgy88) hHeld ?_
                  case rgy88 => (try dsimp only at hSw); first | (go_simp; done) | (go_simp; with_reducible rfl)
                  try simp only [Act.put, List.setIfInBounds_toArray, List.set_cons_zero, List.set_cons_succ]
                  refine rg_take (i := 13) (o := { dst := some 121, op := Op.pick (Operand.tmp 113) (Operand.const (Value.bool true)) (Operand.tmp 120), type := 4, pos := "law.go:78", after := #[{ on := 5, ground := Ground.data }, { on := 12, ground := Ground.data }], guard := none }) (v := ?rgv89) rfl (by kernel_rfl) (by kernel_rfl) (by kernel_rfl) (fun _ _ _ h => h) (by rfl) (fun w hSw => ?rgy89) hHeld ?_
                  case rgy89 => (try dsimp only at hSw); first | (go_simp; done) | (go_simp; with_reducible rfl)
                  try simp only [Act.put, List.setIfInBounds_toArray, List.set_cons_zero, List.set_cons_succ]
                  refine rg_take (i := 14) (o := { dst := some 122, op := Op.move (Operand.tmp 121), type := 4, pos := "law.go:78", after := #[{ on := 13, ground := Ground.data }, { on := 7, ground := Ground.chain }], guard := none }) (v := ?rgv90) rfl (by kernel_rfl) (by kernel_rfl) (by kernel_rfl) (fun _ _ _ h => h) (by rfl) (fun w hSw => ?rgy90) hHeld ?_
                  case rgy90 => (try dsimp only at hSw); first | (go_simp; done) | (go_simp; with_reducible rfl)
                  try simp only [Act.put, List.setIfInBounds_toArray, List.set_cons_zero, List.set_cons_succ]
                  refine rg_take (i := 15) (o := { dst := some 123, op := Op.move (Operand.tmp 7), type := 29, pos := "law.go:78", after := #[{ on := 14, ground := Ground.guard }], guard := some (14, false) }) (v := ?rgv91) rfl (by kernel_rfl) (by kernel_rfl) (by kernel_rfl) (fun _ _ _ h => h) (by rfl) (fun w hSw => ?rgy91) hHeld ?_
                  case rgy91 => (try dsimp only at hSw); first | (go_simp; done) | (go_simp; with_reducible rfl)
                  try simp only [Act.put, List.setIfInBounds_toArray, List.set_cons_zero, List.set_cons_succ]
                  refine rg_take (i := 17) (o := { dst := some 125, op := Op.move (Operand.tmp 8), type := 31, pos := "law.go:78", after := #[{ on := 14, ground := Ground.guard }], guard := some (14, false) }) (v := ?rgv92) rfl (by kernel_rfl) (by kernel_rfl) (by kernel_rfl) (fun _ _ _ h => h) (by rfl) (fun w hSw => ?rgy92) hHeld ?_
                  case rgy92 => (try dsimp only at hSw); first | (go_simp; done) | (go_simp; with_reducible rfl)
                  try simp only [Act.put, List.setIfInBounds_toArray, List.set_cons_zero, List.set_cons_succ]
                  refine rg_take (i := 18) (o := { dst := some 126, op := Op.nilCheck (Operand.tmp 125), type := 0, pos := "law.go:78", after := #[{ on := 17, ground := Ground.data }, { on := 14, ground := Ground.guard }], guard := some (14, false) }) (v := ?rgv93) rfl (by kernel_rfl) (by kernel_rfl) (by kernel_rfl) (fun _ _ _ h => h) (by rfl) (fun w hSw => ?rgy93) hHeld ?_
                  case rgy93 => (try dsimp only at hSw); first | (go_simp; done) | (go_simp; with_reducible rfl)
                  try simp only [Act.put, List.setIfInBounds_toArray, List.set_cons_zero, List.set_cons_succ]
                  refine rg_take (i := 19) (o := { dst := some 127, op := Op.fieldAddr 33 (Operand.tmp 126) 2, type := 0, pos := "law.go:78", after := #[{ on := 18, ground := Ground.data }, { on := 14, ground := Ground.guard }], guard := some (14, false) }) (v := ?rgv94) rfl (by kernel_rfl) (by kernel_rfl) (by kernel_rfl) (fun _ _ _ h => h) (by rfl) (fun w hSw => ?rgy94) hHeld ?_
                  case rgy94 => (try dsimp only at hSw); first | (go_simp; done) | (go_simp; with_reducible rfl)
                  try simp only [Act.put, List.setIfInBounds_toArray, List.set_cons_zero, List.set_cons_succ]
                  refine rg_take (i := 20) (o := { dst := some 128, op := Op.load 4 (Operand.tmp 127), type := 4, pos := "law.go:78", after := #[{ on := 19, ground := Ground.data }, { on := 14, ground := Ground.guard }], guard := some (14, false) }) (v := ?rgv95) rfl (by kernel_rfl) (by kernel_rfl) (by kernel_rfl) (fun _ _ _ h => h) (by rfl) (fun w hSw => ?rgy95) hHeld ?_
                  case rgy95 => (try dsimp only at hSw); first | (go_simp; done) | (go_simp; with_reducible rfl)
                  try simp only [Act.put, List.setIfInBounds_toArray, List.set_cons_zero, List.set_cons_succ]
                  refine rg_take (i := 21) (o := { dst := some 129, op := Op.unOp UnOp.not 4 (Operand.tmp 128), type := 4, pos := "law.go:78", after := #[{ on := 20, ground := Ground.data }, { on := 14, ground := Ground.guard }], guard := some (14, false) }) (v := ?rgv96) rfl (by kernel_rfl) (by kernel_rfl) (by kernel_rfl) (fun _ _ _ h => h) (by rfl) (fun w hSw => ?rgy96) hHeld ?_
                  case rgy96 => (try dsimp only at hSw); first | (go_simp; done) | (go_simp; with_reducible rfl)
                  try simp only [Act.put, List.setIfInBounds_toArray, List.set_cons_zero, List.set_cons_succ]
                  refine wpAnyH_ready (rs := [16]) (by kernel_rfl) (by simp) ?_
                  refine (AllReadyH.cons (o := { dst := some 124, op := Op.call { callee := Callee.value (Operand.func 24), args := #[Operand.tmp 123], argTypes := #[29] }, type := 4, pos := "law.go:78", after := #[{ on := 15, ground := Ground.data }, { on := 14, ground := Ground.chain }, { on := 14, ground := Ground.guard }], guard := some (14, false) }) rfl (fun K hK => ?_) AllReadyH.nil)
                  go_simp
                  refine (done_any Mx gx _ _ HX.out (by have := HSL.out; simp only at this ⊢; omega)).mono ?_
                  rintro e w5 ⟨rfl, rfl⟩
                  simp only [hz, Bool.not_false, Bool.not_true, Bool.true_and, Bool.false_and]
                  show K _ _
                  clear hHeld
                  refine hK.out _ _ (hc5) (fun hHeld => ?_)
                  clear hK K
                  try simp only [Act.put, List.setIfInBounds_toArray, List.set_cons_zero, List.set_cons_succ]
                  refine rg_take (i := 22) (o := { dst := some 130, op := Op.move (Operand.tmp 129), type := 4, pos := "law.go:78", after := #[{ on := 21, ground := Ground.data }, { on := 16, ground := Ground.chain }, { on := 14, ground := Ground.guard }], guard := some (14, false) }) (v := ?rgv97) rfl (by kernel_rfl) (by kernel_rfl) (by kernel_rfl) (fun _ _ _ h => h) (by rfl) (fun w hSw => ?rgy97) hHeld ?_
                  case rgy97 => (try dsimp only at hSw); first | (go_simp; done) | (go_simp; with_reducible rfl)
                  try simp only [Act.put, List.setIfInBounds_toArray, List.set_cons_zero, List.set_cons_succ]
                  refine rg_take (i := 23) (o := { dst := some 131, op := Op.move (Operand.tmp 8), type := 31, pos := "law.go:78", after := #[{ on := 22, ground := Ground.guard }], guard := some (22, true) }) (v := ?rgv98) rfl (by kernel_rfl) (by kernel_rfl) (by kernel_rfl) (fun _ _ _ h => h) (by rfl) (fun w hSw => ?rgy98) hHeld ?_
                  case rgy98 => (try dsimp only at hSw); first | (go_simp; done) | (go_simp; with_reducible rfl)
                  try simp only [Act.put, List.setIfInBounds_toArray, List.set_cons_zero, List.set_cons_succ]
                  refine wpAnyH_ready (rs := [24]) (by kernel_rfl) (by simp) ?_
                  refine (AllReadyH.cons (o := { dst := some 132, op := Op.call { callee := Callee.value (Operand.func 22), args := #[Operand.tmp 131], argTypes := #[31] }, type := 3, pos := "law.go:78", after := #[{ on := 23, ground := Ground.data }, { on := 22, ground := Ground.chain }, { on := 22, ground := Ground.guard }], guard := some (22, true) }) rfl (fun K hK => ?_) AllReadyH.nil)
                  go_simp
                  refine (leftR_any My w3.heap.size _ _ HY.out).mono ?_
                  rintro e w5 ⟨rfl, hs5⟩
                  have HX := Lib.hid (HX.out.stp0 hs5)
                  have HY := Lib.hid (HY.out.step hs5 (fun _ _ h => h.elim))
                  have HS := Lib.hid (HS.out.trans hs5)
                  have hc5 := HY.out.off
                  clear hs5
                  simp only at hc5
                  show K _ _
                  clear hHeld
                  refine hK.out _ _ (hc5) (fun hHeld => ?_)
                  clear hK K
                  try simp only [Act.put, List.setIfInBounds_toArray, List.set_cons_zero, List.set_cons_succ]
                  refine rg_take (i := 25) (o := { dst := some 133, op := Op.binOp BinOp.eql 3 (Operand.tmp 132) (Operand.const (Value.int IntKind.i64 0)) 3, type := 4, pos := "law.go:78", after := #[{ on := 24, ground := Ground.data }, { on := 22, ground := Ground.guard }], guard := some (22, true) }) (v := ?rgv99) rfl (by kernel_rfl) (by kernel_rfl) (by kernel_rfl) (fun _ _ _ h => h) (by rfl) (fun w hSw => ?rgy99) hHeld ?_
                  case rgy99 => (try dsimp only at hSw); first | (go_simp; done) | (go_simp; with_reducible rfl)
                  try simp only [Act.put, List.setIfInBounds_toArray, List.set_cons_zero, List.set_cons_succ]
                  refine rg_take (i := 26) (o := { dst := some 134, op := Op.pick (Operand.tmp 130) (Operand.tmp 133) (Operand.const (Value.bool false)), type := 4, pos := "law.go:78", after := #[{ on := 22, ground := Ground.data }, { on := 25, ground := Ground.data }, { on := 14, ground := Ground.guard }], guard := some (14, false) }) (v := ?rgv100) rfl (by kernel_rfl) (by kernel_rfl) (by kernel_rfl) (fun _ _ _ h => h) (by rfl) (fun w hSw => ?rgy100) hHeld ?_
                  case rgy100 => (try dsimp only at hSw); first | (go_simp; done) | (go_simp; with_reducible rfl)
                  try simp only [Act.put, List.setIfInBounds_toArray, List.set_cons_zero, List.set_cons_succ]
                  refine rg_take (i := 27) (o := { dst := some 135, op := Op.binOp BinOp.neq 4 (Operand.tmp 124) (Operand.tmp 134) 4, type := 4, pos := "law.go:78", after := #[{ on := 16, ground := Ground.data }, { on := 26, ground := Ground.data }, { on := 14, ground := Ground.guard }], guard := some (14, false) }) (v := ?rgv101) rfl (by kernel_rfl) (by kernel_rfl) (by kernel_rfl) (fun _ _ _ h => h) (by rfl) (fun w hSw => ?rgy101) hHeld ?_
                  case rgy101 => (try dsimp only at hSw); first | (go_simp; done) | (go_simp; with_reducible rfl)
                  try simp only [Act.put, List.setIfInBounds_toArray, List.set_cons_zero, List.set_cons_succ]
                  refine rg_take (i := 28) (o := { dst := some 136, op := Op.pick (Operand.tmp 122) (Operand.const (Value.bool true)) (Operand.tmp 135), type := 4, pos := "law.go:78", after := #[{ on := 14, ground := Ground.data }, { on := 27, ground := Ground.data }], guard := none }) (v := ?rgv102) rfl (by kernel_rfl) (by kernel_rfl) (by kernel_rfl) (fun _ _ _ h => h) (by rfl) (fun w hSw => ?rgy102) hHeld ?_
                  case rgy102 => (try dsimp only at hSw); first | (go_simp; done) | (go_simp; with_reducible rfl)
                  try simp only [Act.put, List.setIfInBounds_toArray, List.set_cons_zero, List.set_cons_succ]
                  clear hHeld
                  refine wpAnyH_done (by kernel_rfl) ?_ _
                  go_wp2_with fail
                  go_meet
                  exact ⟨rfl, HS.out, (s1, false), HSL.out, HX.out, HY.out⟩
                case rest =>
                  obtain ⟨rfl, hs, s, hsl, hx, hy⟩ := hcut
                  have HS := Lib.hid hs
                  have HX := Lib.hid hx
                  have HY := Lib.hid hy
                  have HSL := Lib.hid hsl
                  clear hs hx hy hsl
                  go_wp2
                  go_roundw
                  case rel => exact ⟨k + 1, by omega, by go_num, HS.out, s, HSL.out, HX.out, HY.out⟩
                  case measure => simp [intOf]; omega
              · have hz : ((s1.length : Int) == 0) = false := by simpa using h0
                go_upto_region 27 with fail
                go_cut [136] (fun c wx => c = .bool false ∧ Stp (fun _ => False) w wx ∧ ∃ s : RSt, s.1.length ≤ 2000 ∧ IsRd Mx wx gx s ∧ IsRf My wx w3.heap.size s)
                case first =>
                  go_wp2_with fail
                  have HX := Lib.hid (HX.out.step ((Stp.refl (fun _ => False) _).drew) (fun _ _ h => h.elim))
                  have HY := Lib.hid (HY.out.step ((Stp.refl (fun _ => False) _).drew) (fun _ _ h => h.elim))
                  have HS := Lib.hid (HS.out.drew)
                  have hc5 := HY.out.off
                  have hne : ((s1.length : Int) != (s1.length : Int)) = false := by simp
                  simp only at hc5 hne
                  refine wp_region_held_drew (S := (fun w' => w'.cell? ⟨w3.heap.size, 2, none⟩ = some (.bool false))) (by kernel_rfl) (hc5) (fun hHeld => ?_)
                  try (change wpAnyH _ _ _ _ _ _ _ _ (World.drew _))
                  refine rg_take (i := 0) (o := { dst := some 108, op := Op.move (Operand.tmp 7), type := 29, pos := "law.go:78", after := #[], guard := none }) (v := ?rgv103) rfl (by kernel_rfl) (by kernel_rfl) (by kernel_rfl) (fun _ _ _ h => h) (by rfl) (fun w hSw => ?rgy103) hHeld ?_
                  case rgy103 => (try dsimp only at hSw); first | (go_simp; done) | (go_simp; with_reducible rfl)
                  try simp only [Act.put, List.setIfInBounds_toArray, List.set_cons_zero, List.set_cons_succ]
                  refine rg_take (i := 2) (o := { dst := some 110, op := Op.move (Operand.tmp 8), type := 31, pos := "law.go:78", after := #[], guard := none }) (v := ?rgv104) rfl (by kernel_rfl) (by kernel_rfl) (by kernel_rfl) (fun _ _ _ h => h) (by rfl) (fun w hSw => ?rgy104) hHeld ?_
                  case rgy104 => (try dsimp only at hSw); first | (go_simp; done) | (go_simp; with_reducible rfl)
                  try simp only [Act.put, List.setIfInBounds_toArray, List.set_cons_zero, List.set_cons_succ]
                  refine wpAnyH_ready (rs := [1]) (by kernel_rfl) (by simp) ?_
                  refine (AllReadyH.cons (o := { dst := some 109, op := Op.call { callee := Callee.value (Operand.func 21), args := #[Operand.tmp 108], argTypes := #[29] }, type := 3, pos := "law.go:78", after := #[{ on := 0, ground := Ground.data }], guard := none }) rfl (fun K hK => ?_) AllReadyH.nil)
                  go_simp
                  refine (left_any Mx gx _ _ HX.out (by have := HSL.out; simp only at this ⊢; omega)).mono ?_
                  rintro e w5 ⟨rfl, rfl⟩
                  show K _ _
                  clear hHeld
                  refine hK.out _ _ (hc5) (fun hHeld => ?_)
                  clear hK K
                  try simp only [Act.put, List.setIfInBounds_toArray, List.set_cons_zero, List.set_cons_succ]
                  refine wpAnyH_ready (rs := [3]) (by kernel_rfl) (by simp) ?_
                  refine (AllReadyH.cons (o := { dst := some 111, op := Op.call { callee := Callee.value (Operand.func 22), args := #[Operand.tmp 110], argTypes := #[31] }, type := 3, pos := "law.go:78", after := #[{ on := 2, ground := Ground.data }, { on := 1, ground := Ground.chain }], guard := none }) rfl (fun K hK => ?_) AllReadyH.nil)
                  go_simp
                  refine (leftR_any My w3.heap.size _ _ HY.out).mono ?_
                  rintro e w5 ⟨rfl, hs5⟩
                  have HX := Lib.hid (HX.out.stp0 hs5)
                  have HY := Lib.hid (HY.out.step hs5 (fun _ _ h => h.elim))
                  have HS := Lib.hid (HS.out.trans hs5)
                  have hc5 := HY.out.off
                  clear hs5
                  simp only at hc5
                  show K _ _
                  clear hHeld
                  refine hK.out _ _ (hc5) (fun hHeld => ?_)
                  clear hK K
                  try simp only [Act.put, List.setIfInBounds_toArray, List.set_cons_zero, List.set_cons_succ]
                  refine rg_take (i := 4) (o := { dst := some 112, op := Op.binOp BinOp.neq 3 (Operand.tmp 109) (Operand.tmp 111) 3, type := 4, pos := "law.go:78", after := #[{ on := 1, ground := Ground.data }, { on := 3, ground := Ground.data }], guard := none }) (v := ?rgv105) rfl (by kernel_rfl) (by kernel_rfl) (by kernel_rfl) (fun _ _ _ h => h) (by rfl) (fun w hSw => ?rgy105) hHeld ?_
                  case rgy105 => (try dsimp only at hSw); first | (go_simp; done) | (go_simp; with_reducible rfl)
                  try simp only [Act.put, List.setIfInBounds_toArray, List.set_cons_zero, List.set_cons_succ]
                  refine rg_take (i := 5) (o := { dst := some 113, op := Op.move (Operand.tmp 112), type := 4, pos := "law.go:78", after := #[{ on := 4, ground := Ground.data }, { on := 3, ground := Ground.chain }], guard := none }) (v := ?rgv106) rfl (by kernel_rfl) (by kernel_rfl) (by kernel_rfl) (fun _ _ _ h => h) (by rfl) (fun w hSw => ?rgy106) hHeld ?_
                  case rgy106 => (try dsimp only at hSw); first | (go_simp; done) | (go_simp; with_reducible rfl)
                  try simp only [Act.put, List.setIfInBounds_toArray, List.set_cons_zero, List.set_cons_succ]
                  refine rg_take (i := 6) (o := { dst := some 114, op := Op.move (Operand.tmp 7), type := 29, pos := "law.go:78", after := #[{ on := 5, ground := Ground.guard }], guard := some (5, false) }) (v := ?rgv107) rfl (by kernel_rfl) (by kernel_rfl) (by kernel_rfl) (fun _ _ _ h => h) (by rfl) (fun w hSw => ?rgy107) hHeld ?_
                  case rgy107 => (try dsimp only at hSw); first | (go_simp; done) | (go_simp; with_reducible rfl)
                  try simp only [Act.put, List.setIfInBounds_toArray, List.set_cons_zero, List.set_cons_succ]
                  refine rg_take (i := 8) (o := { dst := some 116, op := Op.move (Operand.tmp 8), type := 31, pos := "law.go:78", after := #[{ on := 5, ground := Ground.guard }], guard := some (5, false) }) (v := ?rgv108) rfl (by kernel_rfl) (by kernel_rfl) (by kernel_rfl) (fun _ _ _ h => h) (by rfl) (fun w hSw => ?rgy108) hHeld ?_
                  case rgy108 => (try dsimp only at hSw); first | (go_simp; done) | (go_simp; with_reducible rfl)
                  try simp only [Act.put, List.setIfInBounds_toArray, List.set_cons_zero, List.set_cons_succ]
                  refine rg_take (i := 9) (o := { dst := some 117, op := Op.nilCheck (Operand.tmp 116), type := 0, pos := "law.go:78", after := #[{ on := 8, ground := Ground.data }, { on := 5, ground := Ground.guard }], guard := some (5, false) }) (v := ?rgv109) rfl (by kernel_rfl) (by kernel_rfl) (by kernel_rfl) (fun _ _ _ h => h) (by rfl) (fun w hSw => ?rgy109) hHeld ?_
                  case rgy109 => (try dsimp only at hSw); first | (go_simp; done) | (go_simp; with_reducible rfl)
                  try simp only [Act.put, List.setIfInBounds_toArray, List.set_cons_zero, List.set_cons_succ]
                  refine rg_take (i := 10) (o := { dst := some 118, op := Op.fieldAddr 33 (Operand.tmp 117) 2, type := 0, pos := "law.go:78", after := #[{ on := 9, ground := Ground.data }, { on := 5, ground := Ground.guard }], guard := some (5, false) }) (v := ?rgv110) rfl (by kernel_rfl) (by kernel_rfl) (by kernel_rfl) (fun _ _ _ h => h) (by rfl) (fun w hSw => ?rgy110) hHeld ?_
                  case rgy110 => (try dsimp only at hSw); first | (go_simp; done) | (go_simp; with_reducible rfl)
                  try simp only [Act.put, List.setIfInBounds_toArray, List.set_cons_zero, List.set_cons_succ]
                  refine rg_take (i := 11) (o := { dst := some 119, op := Op.load 4 (Operand.tmp 118), type := 4, pos := "law.go:78", after := #[{ on := 10, ground := Ground.data }, { on := 5, ground := Ground.guard }], guard := some (5, false) }) (v := ?rgv111) rfl (by kernel_rfl) (by kernel_rfl) (by kernel_rfl) (fun _ _ _ h => h) (by rfl) (fun w hSw => ?rgy111) hHeld ?_
                  case rgy111 => (try dsimp only at hSw); first | (go_simp; done) | (go_simp; with_reducible rfl)
                  try simp only [Act.put, List.setIfInBounds_toArray, List.set_cons_zero, List.set_cons_succ]
                  refine wpAnyH_ready (rs := [7]) (by kernel_rfl) (by simp) ?_
                  refine (AllReadyH.cons (o := { dst := some 115, op := Op.call { callee := Callee.value (Operand.func 23), args := #[Operand.tmp 114], argTypes := #[29] }, type := 4, pos := "law.go:78", after := #[{ on := 6, ground := Ground.data }, { on := 5, ground := Ground.chain }, { on := 5, ground := Ground.guard }], guard := some (5, false) }) rfl (fun K hK => ?_) AllReadyH.nil)
                  go_simp
                  refine (bad_any Mx gx _ _ HX.out).mono ?_
                  rintro e w5 ⟨rfl, rfl⟩
                  show K _ _
                  clear hHeld
                  refine hK.out _ _ (hc5) (fun hHeld => ?_)
                  clear hK K
                  try simp only [Act.put, List.setIfInBounds_toArray, List.set_cons_zero, List.set_cons_succ]
                  refine rg_take (i := 12) (o := { dst := some 120, op := Op.binOp BinOp.neq 4 (Operand.tmp 115) (Operand.tmp 119) 4, type := 4, pos := "law.go:78", after := #[{ on := 7, ground := Ground.data }, { on := 11, ground := Ground.data }, { on := 5, ground := Ground.guard }], guard := some (5, false) }) (v := ?rgv112) rfl (by kernel_rfl) (by kernel_rfl) (by kernel_rfl) (fun _ _ _ h => h) (by rfl) (fun w hSw => ?rgy112) hHeld ?_
                  case rgy112 => (try dsimp only at hSw); first | (go_simp; done) | (go_simp; with_reducible rfl)
                  try simp only [Act.put, List.setIfInBounds_toArray, List.set_cons_zero, List.set_cons_succ]
                  refine rg_take (i := 13) (o := { dst := some 121, op := Op.pick (Operand.tmp 113) (Operand.const (Value.bool true)) (Operand.tmp 120), type := 4, pos := "law.go:78", after := #[{ on := 5, ground := Ground.data }, { on := 12, ground := Ground.data }], guard := none }) (v := ?rgv113) rfl (by kernel_rfl) (by kernel_rfl) (by kernel_rfl) (fun _ _ _ h => h) (by rfl) (fun w hSw => ?rgy113) hHeld ?_
                  case rgy113 => (try dsimp only at hSw); first | (go_simp; done) | (go_simp; with_reducible rfl)
                  try simp only [Act.put, List.setIfInBounds_toArray, List.set_cons_zero, List.set_cons_succ]
                  refine rg_take (i := 14) (o := { dst := some 122, op := Op.move (Operand.tmp 121), type := 4, pos := "law.go:78", after := #[{ on := 13, ground := Ground.data }, { on := 7, ground := Ground.chain }], guard := none }) (v := ?rgv114) rfl (by kernel_rfl) (by kernel_rfl) (by kernel_rfl) (fun _ _ _ h => h) (by rfl) (fun w hSw => ?rgy114) hHeld ?_
                  case rgy114 => (try dsimp only at hSw); first | (go_simp; done) | (go_simp; with_reducible rfl)
                  try simp only [Act.put, List.setIfInBounds_toArray, List.set_cons_zero, List.set_cons_succ]
                  refine rg_take (i := 15) (o := { dst := some 123, op := Op.move (Operand.tmp 7), type := 29, pos := "law.go:78", after := #[{ on := 14, ground := Ground.guard }], guard := some (14, false) }) (v := ?rgv115) rfl (by kernel_rfl) (by kernel_rfl) (by kernel_rfl) (fun _ _ _ h => h) (by rfl) (fun w hSw => ?rgy115) hHeld ?_
                  case rgy115 => (try dsimp only at hSw); first | (go_simp; done) | (go_simp; with_reducible rfl)
                  try simp only [Act.put, List.setIfInBounds_toArray, List.set_cons_zero, List.set_cons_succ]
                  refine rg_take (i := 17) (o := { dst := some 125, op := Op.move (Operand.tmp 8), type := 31, pos := "law.go:78", after := #[{ on := 14, ground := Ground.guard }], guard := some (14, false) }) (v := ?rgv116) rfl (by kernel_rfl) (by kernel_rfl) (by kernel_rfl) (fun _ _ _ h => h) (by rfl) (fun w hSw => ?rgy116) hHeld ?_
                  case rgy116 => (try dsimp only at hSw); first | (go_simp; done) | (go_simp; with_reducible rfl)
                  try simp only [Act.put, List.setIfInBounds_toArray, List.set_cons_zero, List.set_cons_succ]
                  refine rg_take (i := 18) (o := { dst := some 126, op := Op.nilCheck (Operand.tmp 125), type := 0, pos := "law.go:78", after := #[{ on := 17, ground := Ground.data }, { on := 14, ground := Ground.guard }], guard := some (14, false) }) (v := ?rgv117) rfl (by kernel_rfl) (by kernel_rfl) (by kernel_rfl) (fun _ _ _ h => h) (by rfl) (fun w hSw => ?rgy117) hHeld ?_
                  case rgy117 => (try dsimp only at hSw); first | (go_simp; done) | (go_simp; with_reducible rfl)
                  try simp only [Act.put, List.setIfInBounds_toArray, List.set_cons_zero, List.set_cons_succ]
                  refine rg_take (i := 19) (o := { dst := some 127, op := Op.fieldAddr 33 (Operand.tmp 126) 2, type := 0, pos := "law.go:78", after := #[{ on := 18, ground := Ground.data }, { on := 14, ground := Ground.guard }], guard := some (14, false) }) (v := ?rgv118) rfl (by kernel_rfl) (by kernel_rfl) (by kernel_rfl) (fun _ _ _ h => h) (by rfl) (fun w hSw => ?rgy118) hHeld ?_
                  case rgy118 => (try dsimp only at hSw); first | (go_simp; done) | (go_simp; with_reducible rfl)
                  try simp only [Act.put, List.setIfInBounds_toArray, List.set_cons_zero, List.set_cons_succ]
                  refine rg_take (i := 20) (o := { dst := some 128, op := Op.load 4 (Operand.tmp 127), type := 4, pos := "law.go:78", after := #[{ on := 19, ground := Ground.data }, { on := 14, ground := Ground.guard }], guard := some (14, false) }) (v := ?rgv119) rfl (by kernel_rfl) (by kernel_rfl) (by kernel_rfl) (fun _ _ _ h => h) (by rfl) (fun w hSw => ?rgy119) hHeld ?_
                  case rgy119 => (try dsimp only at hSw); first | (go_simp; done) | (go_simp; with_reducible rfl)
                  try simp only [Act.put, List.setIfInBounds_toArray, List.set_cons_zero, List.set_cons_succ]
                  refine rg_take (i := 21) (o := { dst := some 129, op := Op.unOp UnOp.not 4 (Operand.tmp 128), type := 4, pos := "law.go:78", after := #[{ on := 20, ground := Ground.data }, { on := 14, ground := Ground.guard }], guard := some (14, false) }) (v := ?rgv120) rfl (by kernel_rfl) (by kernel_rfl) (by kernel_rfl) (fun _ _ _ h => h) (by rfl) (fun w hSw => ?rgy120) hHeld ?_
                  case rgy120 => (try dsimp only at hSw); first | (go_simp; done) | (go_simp; with_reducible rfl)
                  try simp only [Act.put, List.setIfInBounds_toArray, List.set_cons_zero, List.set_cons_succ]
                  refine wpAnyH_ready (rs := [16]) (by kernel_rfl) (by simp) ?_
                  refine (AllReadyH.cons (o := { dst := some 124, op := Op.call { callee := Callee.value (Operand.func 24), args := #[Operand.tmp 123], argTypes := #[29] }, type := 4, pos := "law.go:78", after := #[{ on := 15, ground := Ground.data }, { on := 14, ground := Ground.chain }, { on := 14, ground := Ground.guard }], guard := some (14, false) }) rfl (fun K hK => ?_) AllReadyH.nil)
                  go_simp
                  refine (done_any Mx gx _ _ HX.out (by have := HSL.out; simp only at this ⊢; omega)).mono ?_
                  rintro e w5 ⟨rfl, rfl⟩
                  simp only [hz, Bool.not_false, Bool.not_true, Bool.true_and, Bool.false_and]
                  show K _ _
                  clear hHeld
                  refine hK.out _ _ (hc5) (fun hHeld => ?_)
                  clear hK K
                  try simp only [Act.put, List.setIfInBounds_toArray, List.set_cons_zero, List.set_cons_succ]
                  refine rg_take (i := 22) (o := { dst := some 130, op := Op.move (Operand.tmp 129), type := 4, pos := "law.go:78", after := #[{ on := 21, ground := Ground.data }, { on := 16, ground := Ground.chain }, { on := 14, ground := Ground.guard }], guard := some (14, false) }) (v := ?rgv121) rfl (by kernel_rfl) (by kernel_rfl) (by kernel_rfl) (fun _ _ _ h => h) (by rfl) (fun w hSw => ?rgy121) hHeld ?_
                  case rgy121 => (try dsimp only at hSw); first | (go_simp; done) | (go_simp; with_reducible rfl)
                  try simp only [Act.put, List.setIfInBounds_toArray, List.set_cons_zero, List.set_cons_succ]
                  refine rg_take (i := 23) (o := { dst := some 131, op := Op.move (Operand.tmp 8), type := 31, pos := "law.go:78", after := #[{ on := 22, ground := Ground.guard }], guard := some (22, true) }) (v := ?rgv122) rfl (by kernel_rfl) (by kernel_rfl) (by kernel_rfl) (fun _ _ _ h => h) (by rfl) (fun w hSw => ?rgy122) hHeld ?_
                  case rgy122 => (try dsimp only at hSw); first | (go_simp; done) | (go_simp; with_reducible rfl)
                  try simp only [Act.put, List.setIfInBounds_toArray, List.set_cons_zero, List.set_cons_succ]
                  refine wpAnyH_ready (rs := [24]) (by kernel_rfl) (by simp) ?_
                  refine (AllReadyH.cons (o := { dst := some 132, op := Op.call { callee := Callee.value (Operand.func 22), args := #[Operand.tmp 131], argTypes := #[31] }, type := 3, pos := "law.go:78", after := #[{ on := 23, ground := Ground.data }, { on := 22, ground := Ground.chain }, { on := 22, ground := Ground.guard }], guard := some (22, true) }) rfl (fun K hK => ?_) AllReadyH.nil)
                  go_simp
                  refine (leftR_any My w3.heap.size _ _ HY.out).mono ?_
                  rintro e w5 ⟨rfl, hs5⟩
                  have HX := Lib.hid (HX.out.stp0 hs5)
                  have HY := Lib.hid (HY.out.step hs5 (fun _ _ h => h.elim))
                  have HS := Lib.hid (HS.out.trans hs5)
                  have hc5 := HY.out.off
                  clear hs5
                  simp only at hc5
                  show K _ _
                  clear hHeld
                  refine hK.out _ _ (hc5) (fun hHeld => ?_)
                  clear hK K
                  try simp only [Act.put, List.setIfInBounds_toArray, List.set_cons_zero, List.set_cons_succ]
                  refine rg_take (i := 25) (o := { dst := some 133, op := Op.binOp BinOp.eql 3 (Operand.tmp 132) (Operand.const (Value.int IntKind.i64 0)) 3, type := 4, pos := "law.go:78", after := #[{ on := 24, ground := Ground.data }, { on := 22, ground := Ground.guard }], guard := some (22, true) }) (v := ?rgv123) rfl (by kernel_rfl) (by kernel_rfl) (by kernel_rfl) (fun _ _ _ h => h) (by rfl) (fun w hSw => ?rgy123) hHeld ?_
                  case rgy123 => (try dsimp only at hSw); first | (go_simp; done) | (go_simp; with_reducible rfl)
                  try simp only [Act.put, List.setIfInBounds_toArray, List.set_cons_zero, List.set_cons_succ]
                  refine rg_take (i := 26) (o := { dst := some 134, op := Op.pick (Operand.tmp 130) (Operand.tmp 133) (Operand.const (Value.bool false)), type := 4, pos := "law.go:78", after := #[{ on := 22, ground := Ground.data }, { on := 25, ground := Ground.data }, { on := 14, ground := Ground.guard }], guard := some (14, false) }) (v := ?rgv124) rfl (by kernel_rfl) (by kernel_rfl) (by kernel_rfl) (fun _ _ _ h => h) (by rfl) (fun w hSw => ?rgy124) hHeld ?_
                  case rgy124 => (try dsimp only at hSw); first | (go_simp; done) | (go_simp; with_reducible rfl)
                  try simp only [Act.put, List.setIfInBounds_toArray, List.set_cons_zero, List.set_cons_succ]
                  refine rg_take (i := 27) (o := { dst := some 135, op := Op.binOp BinOp.neq 4 (Operand.tmp 124) (Operand.tmp 134) 4, type := 4, pos := "law.go:78", after := #[{ on := 16, ground := Ground.data }, { on := 26, ground := Ground.data }, { on := 14, ground := Ground.guard }], guard := some (14, false) }) (v := ?rgv125) rfl (by kernel_rfl) (by kernel_rfl) (by kernel_rfl) (fun _ _ _ h => h) (by rfl) (fun w hSw => ?rgy125) hHeld ?_
                  case rgy125 => (try dsimp only at hSw); first | (go_simp; done) | (go_simp; with_reducible rfl)
                  try simp only [Act.put, List.setIfInBounds_toArray, List.set_cons_zero, List.set_cons_succ]
                  refine rg_take (i := 28) (o := { dst := some 136, op := Op.pick (Operand.tmp 122) (Operand.const (Value.bool true)) (Operand.tmp 135), type := 4, pos := "law.go:78", after := #[{ on := 14, ground := Ground.data }, { on := 27, ground := Ground.data }], guard := none }) (v := ?rgv126) rfl (by kernel_rfl) (by kernel_rfl) (by kernel_rfl) (fun _ _ _ h => h) (by rfl) (fun w hSw => ?rgy126) hHeld ?_
                  case rgy126 => (try dsimp only at hSw); first | (go_simp; done) | (go_simp; with_reducible rfl)
                  try simp only [Act.put, List.setIfInBounds_toArray, List.set_cons_zero, List.set_cons_succ]
                  clear hHeld
                  refine wpAnyH_done (by kernel_rfl) ?_ _
                  go_wp2_with fail
                  go_meet
                  exact ⟨rfl, HS.out, (s1, false), HSL.out, HX.out, HY.out⟩
                case rest =>
                  obtain ⟨rfl, hs, s, hsl, hx, hy⟩ := hcut
                  have HS := Lib.hid hs
                  have HX := Lib.hid hx
                  have HY := Lib.hid hy
                  have HSL := Lib.hid hsl
                  clear hs hx hy hsl
                  go_wp2
                  go_roundw
                  case rel => exact ⟨k + 1, by omega, by go_num, HS.out, s, HSL.out, HX.out, HY.out⟩
                  case measure => simp [intOf]; omega
        · obtain rfl : k = l.length := by omega
          go_wp2
          go_ret
          exact ⟨rfl, HS.out⟩
end Go.Proofs.Ytahjmnamdmdloaa.L
