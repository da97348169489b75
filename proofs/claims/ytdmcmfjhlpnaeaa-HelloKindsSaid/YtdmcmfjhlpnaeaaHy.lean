/- The law's small case. -/
import Derived.Test.YtdmcmfjhlpnaeaaHx
set_option linter.unusedVariables false
set_option linter.unusedSimpArgs false
namespace Go.Proofs.Ytdmcmfjhlpnaeaa.L
open Go.RowKit Go.Proofs

def hA : Hl := ⟨771, List.replicate 32 0, [], [4865], [0], false, []⟩
def bA : List UInt8 := [3, 3, 0, 0, 0, 0, 0, 0, 0, 0, 0, 0, 0, 0, 0, 0, 0, 0, 0, 0, 0, 0, 0, 0, 0, 0, 0, 0, 0, 0, 0, 0, 0, 0, 0, 0, 2, 19, 1, 1, 0]
def hB : Hl := { hA with has := true, exs := [(7, [97]), (0, [])] }
def bB : List UInt8 := bA ++ [0, 9, 0, 7, 0, 1, 97, 0, 0, 0, 0]
def hD : Hl := { hA with has := true, exs := [(7, [97]), (7, [])] }
theorem print_A : printH hA = (bA, true) := by decide
theorem print_B : printH hB = (bB, true) := by decide
theorem print_D : printH hD = ([], false) := by decide
theorem parse_A : parseS bA = (hA, 0) := by rfl
theorem parse_B : parseS bB = (hB, 0) := by rfl
theorem parse_C : parseS (bA.set 40 1) = (hl0, 8) := by rfl
theorem parse_T : parseS (bA.take 40) = (hl0, 3) := by rfl
theorem find_7 : findS hB.exs 7 = ([97], true) := by decide
theorem find_9 : findS hB.exs 9 = ([], false) := by decide

theorem fit_hA : HlFit hA := ⟨by decide, by decide, by decide, by decide, fun x hx => by simp [hA] at hx, by decide, fun x hx => by simp [hA] at hx⟩
theorem fit_hB : HlFit hB := ⟨by decide, by decide, by decide, by decide, by decide, by decide, by decide⟩
theorem fit_hD : HlFit hD := ⟨by decide, by decide, by decide, by decide, by decide, by decide, by decide⟩
theorem hlb_of {M : Nat → Prop} {W : World} {cs : Array Value} {h : Hl} {g : Nat} (hi : IsHl M W cs h) (hc : W.heap[g]? = some (.cells cs 62 (0, 0))) : ∃ vs vc vm vx, HlB W g h vs vc vm vx ∧ Rd extK M W vx h.exs := by
  obtain ⟨vs, vc, vm, vx, e, hr, _, _, _, hx⟩ := hi
  have e2 : cs = (hlV h vs vc vm vx).toArray := by have := congrArg List.toArray e; rwa [Array.toArray_toList] at this
  exact ⟨vs, vc, vm, vx, ⟨by rw [← e2]; exact hc, hr⟩, hx⟩
theorem find_hl {M : Nat → Prop} {W : World} {cs : Array Value} {h : Hl} (hi : IsHl M W cs h) (kind : Int) (hl : h.exs.length ≤ 1000000000) (hd : ∀ x ∈ h.exs, x.2.length ≤ 1000000000) :
    Calls Try.prog 56 #[.agg cs, .int .i64 kind] W fun e w' => ∃ v, e = .returned (.tuple #[v, .bool (findS h.exs kind).2]) ∧ Rd u8 (fun k => k < W.heap.size) w' v (findS h.exs kind).1 ∧ Stp (fun _ => False) W w' := by
  obtain ⟨vs, vc, vm, vx, e, hr, _, _, _, hx⟩ := hi
  obtain ⟨hs, -, -, -, -, -, h37⟩ := hl_get e hr
  obtain ⟨A, c, rfl, _⟩ := hx.form
  exact find_any M cs A c h.exs kind W hs (fun _ => h37) hx hl hd
theorem ext2 {M : Nat → Prop} {W : World} {bE : Nat} {k1 k2 : Int} {s : Value} {d : List UInt8} (hb : W.heap[bE]? = some (.cells #[.int .i64 k1, s, .int .i64 k2, .slice none 0 0] 70 (0, 0))) (hM : ¬ M bE) (hs : Rd u8 M W s d) :
    Rd extK M W (.slice (some ⟨bE, 0, none⟩) 2 2) [(k1, d), (k2, [])] := by
  refine ⟨_, 2, rfl, Nat.le_refl _, by decide, fun _ => ⟨_, rfl, hM, fun j p hj => ?_⟩⟩
  match j, hj with
  | 0, hj =>
    injection hj with hj
    subst hj
    refine ⟨[.int .i64 k1, s], ⟨[_], [_], rfl, rfl, _, rfl, hs⟩, fun i u hu => ?_⟩
    match i, hu with
    | 0, hu => injection hu with hu; subst hu; exact blk_cell (j := 0) hb
    | 1, hu => injection hu with hu; subst hu; exact blk_cell (j := 1) hb
  | 1, hj =>
    injection hj with hj
    subst hj
    refine ⟨[.int .i64 k2, .slice none 0 0], ⟨[_], [_], rfl, rfl, _, rfl, Rd.nil _ _ _⟩, fun i u hu => ?_⟩
    match i, hu with
    | 0, hu => injection hu with hu; subst hu; exact blk_cell (j := 2) hb
    | 1, hu => injection hu with hu; subst hu; exact blk_cell (j := 3) hb
theorem stopw {P : Program} {ops : Array Oper} {rest : List Oper} {a : Act} {Q : Exit → Act → World → Prop} {W : World} (h : Stop (wpList P ops Q rest a W)) : wpList P ops Q rest a W := by
  unfold Stop at h
  exact h
theorem box_hl (W : World) (cs : Array Value) (hz : cs.size = 38) : (W.alloc (.cells (hlV hl0 (.slice none 0 0) (.slice none 0 0) (.slice none 0 0) (.slice none 0 0)).toArray 62)).heap[W.heap.size]? = some (.cells (hlV hl0 (.slice none 0 0) (.slice none 0 0) (.slice none 0 0) (.slice none 0 0)).toArray 62 (0, 0)) ∧
    (hlV hl0 (.slice none 0 0) (.slice none 0 0) (.slice none 0 0) (.slice none 0 0)).toArray.size = cs.size ∧
    ∃ W', (W.alloc (.cells (hlV hl0 (.slice none 0 0) (.slice none 0 0) (.slice none 0 0) (.slice none 0 0)).toArray 62)).setRow W.heap.size cs = W' ∧ W'.heap[W.heap.size]? = some (.cells cs 62 (0, 0)) ∧ Stp (fun _ => False) W W' := by
  refine ⟨heap_alloc_new W _, by rw [hz]; rfl, _, rfl, hello_row (heap_alloc_new W _) cs, ((Stp.refl _ _).alloc _).setRow (by omega) _⟩

set_option maxRecDepth 100000 in
set_option maxHeartbeats 8000000 in
theorem small9_any (w : World) : Calls Try.prog 50 #[] w fun e w' => e = .returned (.bool true) ∧ Stp (fun _ => False) w w' := by
  have kc := fun (w : World) (C : Array Value) (n c : Nat) => Lib.run_convert_bytes_const (P := Try.prog) w 22 5 C n c Try.underlying22 Try.underlying5
  go_enter Try.func50, Try.ntmps50
  go_wp2_with (with_reducible refine stop (N := 22) rfl ?_)
  refine Stop.go ?_
  generalize hw0 : (w.alloc (.cells #[.int .i64 4865] 3)).alloc (.cells #[.int .u8 0] 5) = w0 at *
  have hz0 : w0.heap.size = w.heap.size + 2 := by rw [← hw0]; simp
  have hs0 : Stp (fun _ => False) w w0 := by rw [← hw0]; exact ((Stp.refl _ _).alloc _).alloc _
  have h2 : Rd (int .i64) (fun _ => False) w0 (.slice (some ⟨w.heap.size, 0, none⟩) 1 1) [4865] := by
    rw [← hw0]
    exact (Rd.lit (W := w) [4865] #[.int .i64 4865] rfl (by simp) id).stp0 ((Stp.refl _ _).alloc _)
  have h3 : Rd u8 (fun _ => False) w0 (.slice (some ⟨w.heap.size + 1, 0, none⟩) 1 1) [0] := by
    rw [← hw0]
    have : Rd u8 (fun _ => False) ((w.alloc (.cells #[.int .i64 4865] 3)).alloc (.cells #[.int .u8 0] 5)) (.slice (some ⟨(w.alloc (.cells #[.int .i64 4865] 3)).heap.size, 0, none⟩) 1 1) [0] := Rd.lit [0] _ rfl (by simp) id
    simpa using this
  have hg : w.heap.size < w0.heap.size := by omega
  obtain ⟨vc, hvc⟩ : ∃ v, v = Value.slice (some ⟨w.heap.size, 0, none⟩) 1 1 := ⟨_, rfl⟩
  obtain ⟨vm, hvm⟩ : ∃ v, v = Value.slice (some ⟨w.heap.size + 1, 0, none⟩) 1 1 := ⟨_, rfl⟩
  rw [← hvc] at h2
  rw [← hvm] at h3
  refine wpList_val (v := .agg (hlV hA (.slice none 0 0) vc vm (.slice none 0 0)).toArray) rfl (by rw [hvc, hvm]; kernel_rfl) ?_
  obtain ⟨cs0, hcs0⟩ : ∃ cs, cs = (hlV hA (.slice none 0 0) vc vm (.slice none 0 0)).toArray := ⟨_, rfl⟩
  rw [← hcs0]
  have hi0 : IsHl (fun _ => False) w0 cs0 hA := ⟨_, _, _, _, by rw [hcs0], rfl, Rd.nil _ _ _, h2, h3, Rd.nil _ _ _⟩
  have H2 := Lib.hid (h2.weak (M' := fun k => w0.heap.size ≤ k) (by decide) (fun k hk h => by omega))
  have H3 := Lib.hid (h3.weak (M' := fun k => w0.heap.size ≤ k) (by decide) (fun k hk h => by omega))
  have HS := Lib.hid hs0
  have HCS := Lib.hid hcs0
  clear h2 h3 hs0 hw0 hcs0 hvc hvm hz0
  obtain ⟨hbx, heq, w1, hw, hc, hs⟩ := box_hl w0 cs0 hi0.size
  rw [hlV0] at hbx heq hw
  have HBX := Lib.hid hbx
  have HEQ := Lib.hid heq
  have HW := Lib.hid hw
  have HZ := Lib.hid hi0.info
  have HON := Lib.hid hi0.one
  have HCw1 := Lib.hid hc
  have HIw1 := Lib.hid (hi0.stp0 hs)
  have hltbw1 := hs.size
  clear hbx heq hw hc
  have H2 := Lib.hid (H2.out.stp0 hs)
  have H3 := Lib.hid (H3.out.stp0 hs)
  have HS := Lib.hid (HS.out.trans hs)
  clear hs hi0
  go_wp2_with (refine wpList_store_row rfl _ _ _ rfl w0.heap.size cs0 rfl rfl _ _ HBX.out HZ.out HEQ.out HON.out ?_; rw [HW.out]; refine stopw ?_)
  refine Stop.go ?_
  clear HBX HEQ HW
  have HB := Lib.hid (show HlB w1 w0.heap.size hA (.slice none 0 0) vc vm (.slice none 0 0) from ⟨by rw [← HCS.out]; exact HCw1.out, rfl⟩)
  have hg1 : w0.heap.size < w1.heap.size := HB.out.lt
  have HG := Lib.hid hg
  generalize w0.heap.size = g1 at *
  clear HCS HCw1 HIw1 HZ HON
  obtain ⟨cs24, hcs⟩ : ∃ cs, cs = (hlV hA (.slice none 0 0) vc vm (.slice none 0 0)).toArray := ⟨_, rfl⟩
  have hcc : w1.heap[g1]? = some (.cells cs24 62 (0, 0)) := by rw [hcs]; exact HB.out.1
  have hii : IsHl (fun _ => False) w1 cs24 hA := ⟨_, _, _, _, by rw [hcs], rfl, Rd.nil _ _ _, H2.out.weak (by decide) (fun _ _ h => h.elim), H3.out.weak (by decide) (fun _ _ h => h.elim), Rd.nil _ _ _⟩
  have HCC := Lib.hid hcc
  have HII := Lib.hid hii
  have HZ := Lib.hid hii.info
  clear hcs hcc hii
  go_wp2_with (with_reducible refine stop (N := 24) rfl ?_)
  refine Stop.go ?_
  refine wpList_load_row rfl _ _ rfl g1 rfl _ cs24 (0, 0) _ HCC.out Try.underlying62 rfl HZ.out ?_
  go_wp2_with (go_at_call 54; refine stopc ?_)
  refine Stop.go ?_
  refine (print_any (fun _ => False) cs24 hA _ HII.out (by decide) fit_hA (fun _ _ h => h)).mono ?_
  rw [print_A]
  rintro e w2 ⟨v2, rfl, ho, hs⟩
  clear HCC HII HZ
  have hltw2 := hs.size
  have H2 := Lib.hid (H2.out.stp0 hs)
  have H3 := Lib.hid (H3.out.stp0 hs)
  have HB := Lib.hid (HB.out.stp0 hs)
  have HS := Lib.hid (HS.out.trans hs)
  have hl2 : bA.length = 41 := rfl
  replace ho : Own enc8 5 w1.heap.size w2 v2 bA := ho
  obtain ⟨A2, c2, rfl, hle2⟩ := ho.form
  rw [hl2] at ho hle2 ⊢
  obtain ⟨g2, rfl⟩ : ∃ g2, A2 = some ⟨g2, 0, none⟩ := by
    rcases ho.2 with ⟨h, _⟩ | ⟨g, cap, cur, h, _⟩
    · injection h with _ h
      cases h
    · injection h with h
      exact ⟨g, h⟩
  have hg2 := (ho.lt g2 rfl).2
  have hg12 : g1 < g2 := by have := (ho.lt g2 rfl).1; omega
  have HO := Lib.hid ho
  clear ho hs
  go_wp2_with (go_at_call 51; refine stopc ?_)
  refine Stop.go ?_
  refine (parseH_any (fun _ => False) _ bA _ (HO.out.rd (h1 := fun _ => rfl) (fun _ _ => id)) (by decide)).mono ?_
  unfold ParseRet
  rw [parse_A]
  rintro e w3 ⟨cs4, rfl, hi, hs⟩
  have hltw3 := hs.size
  have H2 := Lib.hid (H2.out.stp0 hs)
  have H3 := Lib.hid (H3.out.stp0 hs)
  have HB := Lib.hid (HB.out.stp0 hs)
  have HO := Lib.hid (HO.out.stp0 hs)
  have HS := Lib.hid (HS.out.trans hs)
  clear hs
  obtain ⟨hbx, heq, w4, hw, hc, hs⟩ := box_hl w3 cs4 hi.size
  rw [hlV0] at hbx heq hw
  have HBX := Lib.hid hbx
  have HEQ := Lib.hid heq
  have HW := Lib.hid hw
  have HZ := Lib.hid hi.info
  have HON := Lib.hid hi.one
  have HCw4 := Lib.hid hc
  have HIw4 := Lib.hid (hi.stp0 hs)
  have hltbw4 := hs.size
  clear hbx heq hw hc
  have H2 := Lib.hid (H2.out.stp0 hs)
  have H3 := Lib.hid (H3.out.stp0 hs)
  have HB := Lib.hid (HB.out.stp0 hs)
  have HO := Lib.hid (HO.out.stp0 hs)
  have HS := Lib.hid (HS.out.trans hs)
  clear hs hi
  go_wp2_with (refine wpList_store_row rfl _ _ _ rfl w3.heap.size cs4 rfl rfl _ _ HBX.out HZ.out HEQ.out HON.out ?_; rw [HW.out]; refine stopw ?_)
  refine Stop.go ?_
  clear HBX HEQ HW
  obtain ⟨us4, uc4, um4, ux4, hb4, -⟩ := hlb_of HIw4.out HCw4.out
  have hg4 : g2 < w3.heap.size := by omega
  have HB4 := Lib.hid hb4
  generalize w3.heap.size = g4 at *
  clear HIw4 HCw4 HZ HON hb4
  have f36 := HB.out.free 36
  obtain ⟨-, -, -, -, c36, -⟩ := HB.out.cells
  have hs := (Stp.refl (fun k => k = g1) w4).setg 36 (.bool true)
  have hb := HB.out.set36 true
  go_wp2_with (with_reducible refine stop (N := 41) rfl ?_)
  refine Stop.go ?_
  clear c36 f36
  generalize hw : w4.setCell ⟨g1, 36, none⟩ (.bool true) = w5 at *
  clear hw
  have H2 := Lib.hid (H2.out.step hs (fun k hk he => by omega))
  have H3 := Lib.hid (H3.out.step hs (fun k hk he => by omega))
  have HB := Lib.hid hb
  have HO := Lib.hid (HO.out.step hs (fun k hk he => by have := (HO.out.lt k hk).1; omega))
  have HB4 := Lib.hid (HB4.out.step hs (by omega))
  have HS := Lib.hid (HS.out.then_ hs (fun k hk he => by have := HG.out; omega))
  clear hs hb
  go_wp2_with (with_reducible refine stop (N := 46) rfl ?_)
  refine Stop.go ?_
  obtain ⟨b9, hb9⟩ : ∃ k, k = w5.heap.size := ⟨_, rfl⟩
  obtain ⟨bE, hbE⟩ : ∃ k, k = w5.heap.size + 1 := ⟨_, rfl⟩
  have hg9 : g4 < b9 := by have := HB4.out.lt; omega
  rw [← hbE, ← hb9]
  generalize hw6 : w5.alloc (.cells #[.int .u8 97] 5 (1, 2)) = w6 at *
  have hz6 : w6.heap.size = bE := by rw [← hw6, hbE]; simp
  have hs6 : Stp (fun _ => False) w5 w6 := by rw [← hw6]; exact (Stp.refl _ _).alloc _
  have r97 : Rd u8 (fun k => k = g1 ∨ k = bE ∨ k = g2) w6 (.slice (some ⟨b9, 0, none⟩) 1 1) [97] := by
    rw [← hw6, hb9]
    exact Rd.lit [97] _ rfl (by simp) (by omega)
  generalize hw7 : w6.alloc (.cells #[.int .i64 7, .slice (some ⟨b9, 0, none⟩) 1 1, .int .i64 0, .slice none 0 0] 70) = w7 at *
  have hs7 : Stp (fun _ => False) w6 w7 := by rw [← hw7]; exact (Stp.refl _ _).alloc _
  have he7 : w7.heap[bE]? = some (.cells #[.int .i64 7, .slice (some ⟨b9, 0, none⟩) 1 1, .int .i64 0, .slice none 0 0] 70 (0, 0)) := by rw [← hw7, ← hz6]; exact heap_alloc_new w6 _
  have hE9 : b9 < bE := by omega
  have R97 := Lib.hid (r97.stp0 hs7)
  have HE0 := Lib.hid he7
  have hs := hs6.trans hs7
  clear hw6 hz6 hw7 he7 r97 hs6 hs7 hb9 hbE
  have H2 := Lib.hid (H2.out.stp0 hs)
  have H3 := Lib.hid (H3.out.stp0 hs)
  have HB := Lib.hid (HB.out.stp0 hs)
  have HO := Lib.hid (HO.out.stp0 hs)
  have HB4 := Lib.hid (HB4.out.stp0 hs)
  have HS := Lib.hid (HS.out.trans hs)
  have f37 := HB.out.free 37
  obtain ⟨-, -, -, -, -, c37⟩ := HB.out.cells
  clear hs
  have hs := (Stp.refl (fun k => k = g1) w7).setg 37 (.slice (some ⟨bE, 0, none⟩) 2 2)
  have hb := HB.out.set37 (.slice (some ⟨bE, 0, none⟩) 2 2) [(7, [97]), (0, [])]
  go_wp2_with (with_reducible refine stop (N := 48) rfl ?_)
  refine Stop.go ?_
  generalize hw : w7.setCell ⟨g1, 37, none⟩ (.slice (some ⟨bE, 0, none⟩) 2 2) = w8 at *
  clear hw c37 f37
  have H2 := Lib.hid (H2.out.step hs (fun k hk he => by omega))
  have H3 := Lib.hid (H3.out.step hs (fun k hk he => by omega))
  have HB := Lib.hid (show HlB w8 g1 hB (.slice none 0 0) vc vm (.slice (some ⟨bE, 0, none⟩) 2 2) from hb)
  have HO := Lib.hid (HO.out.step hs (fun k hk he => by have := (HO.out.lt k hk).1; omega))
  have HB4 := Lib.hid (HB4.out.step hs (by omega))
  have R97 := Lib.hid (R97.out.step hs (fun k hk he => .inl he))
  have HE0 := Lib.hid (hs.blk HE0.out (by omega))
  have HS := Lib.hid (HS.out.then_ hs (fun k hk he => by have := HG.out; omega))
  clear hs hb
  have HE := Lib.hid (show Rd extK (fun k => k = g1 ∨ k = g2) w8 (.slice (some ⟨bE, 0, none⟩) 2 2) hB.exs from ext2 HE0.out (by omega) (R97.out.weak (by decide) (fun k hk h => by omega)))
  have hE8 : bE < w8.heap.size := blk_lt HE0.out
  obtain ⟨cs48, hcs⟩ : ∃ cs, cs = (hlV hB (.slice none 0 0) vc vm (.slice (some ⟨bE, 0, none⟩) 2 2)).toArray := ⟨_, rfl⟩
  have hcc : w8.heap[g1]? = some (.cells cs48 62 (0, 0)) := by rw [hcs]; exact HB.out.1
  have hii : IsHl (fun _ => False) w8 cs48 hB := ⟨_, _, _, _, by rw [hcs], rfl, Rd.nil _ _ _, H2.out.weak (by decide) (fun _ _ h => h.elim), H3.out.weak (by decide) (fun _ _ h => h.elim), HE.out.weak (by decide) (fun _ _ h => h.elim)⟩
  have HCC := Lib.hid hcc
  have HII := Lib.hid hii
  have HZ := Lib.hid hii.info
  clear hcs hcc hii
  go_wp2_with (with_reducible refine stop (N := 48) rfl ?_)
  refine Stop.go ?_
  refine wpList_load_row rfl _ _ rfl g1 rfl _ cs48 (0, 0) _ HCC.out Try.underlying62 rfl HZ.out ?_
  go_wp2_with (go_at_call 54; refine stopc ?_)
  refine Stop.go ?_
  refine (print_any (fun _ => False) cs48 hB _ HII.out (by decide) fit_hB (fun _ _ h => h)).mono ?_
  rw [print_B]
  rintro e w9 ⟨v6, rfl, ho, hs⟩
  clear HCC HII HZ
  have hltw9 := hs.size
  have H2 := Lib.hid (H2.out.stp0 hs)
  have H3 := Lib.hid (H3.out.stp0 hs)
  have HB := Lib.hid (HB.out.stp0 hs)
  have HO := Lib.hid (HO.out.stp0 hs)
  have HB4 := Lib.hid (HB4.out.stp0 hs)
  have R97 := Lib.hid (R97.out.stp0 hs)
  have HE0 := Lib.hid (hs.blk HE0.out id)
  have HE := Lib.hid (HE.out.stp0 hs)
  have HS := Lib.hid (HS.out.trans hs)
  have hl6 : bB.length = 52 := rfl
  replace ho : Own enc8 5 w8.heap.size w9 v6 bB := ho
  obtain ⟨A6, c6, rfl, hle6⟩ := ho.form
  rw [hl6] at ho hle6 ⊢
  have R6 := Lib.hid (ho.rd (h1 := fun _ => rfl) (M := fun _ => False) (fun _ _ => id))
  clear ho hs
  go_wp2_with (go_at_call 51; refine stopc ?_)
  refine Stop.go ?_
  refine (parseH_any (fun _ => False) _ bB _ R6.out (by decide)).mono ?_
  unfold ParseRet
  rw [parse_B]
  rintro e w10 ⟨cs8, rfl, hi, hs⟩
  have hltw10 := hs.size
  have H2 := Lib.hid (H2.out.stp0 hs)
  have H3 := Lib.hid (H3.out.stp0 hs)
  have HB := Lib.hid (HB.out.stp0 hs)
  have HO := Lib.hid (HO.out.stp0 hs)
  have HB4 := Lib.hid (HB4.out.stp0 hs)
  have R97 := Lib.hid (R97.out.stp0 hs)
  have HE0 := Lib.hid (hs.blk HE0.out id)
  have HE := Lib.hid (HE.out.stp0 hs)
  have HS := Lib.hid (HS.out.trans hs)
  clear hs
  obtain ⟨hbx, heq, w11, hw, hc, hs⟩ := box_hl w10 cs8 hi.size
  rw [hlV0] at hbx heq hw
  have HBX := Lib.hid hbx
  have HEQ := Lib.hid heq
  have HW := Lib.hid hw
  have HZ := Lib.hid hi.info
  have HON := Lib.hid hi.one
  have HCw11 := Lib.hid hc
  have HIw11 := Lib.hid (hi.stp0 hs)
  have hltbw11 := hs.size
  clear hbx heq hw hc
  have H2 := Lib.hid (H2.out.stp0 hs)
  have H3 := Lib.hid (H3.out.stp0 hs)
  have HB := Lib.hid (HB.out.stp0 hs)
  have HO := Lib.hid (HO.out.stp0 hs)
  have HB4 := Lib.hid (HB4.out.stp0 hs)
  have R97 := Lib.hid (R97.out.stp0 hs)
  have HE0 := Lib.hid (hs.blk HE0.out id)
  have HE := Lib.hid (HE.out.stp0 hs)
  have HS := Lib.hid (HS.out.trans hs)
  clear hs hi
  go_wp2_with (refine wpList_store_row rfl _ _ _ rfl w10.heap.size cs8 rfl rfl _ _ HBX.out HZ.out HEQ.out HON.out ?_; rw [HW.out]; refine stopw ?_)
  refine Stop.go ?_
  clear HBX HEQ HW
  obtain ⟨us8, uc8, um8, ux8, hb8, hx8⟩ := hlb_of HIw11.out HCw11.out
  obtain ⟨A8, c8, rfl, hle8⟩ := hx8.form
  have hg8 : bE < w10.heap.size := by omega
  have HB8 := Lib.hid hb8
  have HC8 := Lib.hid HCw11.out
  have HI8 := Lib.hid HIw11.out
  have HZ8 := Lib.hid HZ.out
  generalize w10.heap.size = g8 at *
  clear HIw11 HCw11 HZ HON hb8 hx8
  go_wp2_with (with_reducible refine stop (N := 58) rfl ?_)
  refine Stop.go ?_
  refine wpList_load_row rfl _ _ rfl g8 rfl _ cs8 (0, 0) _ HC8.out Try.underlying62 rfl HZ8.out ?_
  go_wp2_with (go_at_call 56; refine stopc ?_)
  refine Stop.go ?_
  refine (find_hl HI8.out 7 (by decide) (by decide)).mono ?_
  rw [find_7]
  rintro e w12 ⟨v10, rfl, hr, hs⟩
  have hltw12 := hs.size
  replace hr : Rd u8 (fun k => k < w11.heap.size) w12 v10 [97] := hr
  obtain ⟨A58, c58, rfl, hle58⟩ := hr.form
  have H2 := Lib.hid (H2.out.stp0 hs)
  have H3 := Lib.hid (H3.out.stp0 hs)
  have HB := Lib.hid (HB.out.stp0 hs)
  have HO := Lib.hid (HO.out.stp0 hs)
  have HB4 := Lib.hid (HB4.out.stp0 hs)
  have R97 := Lib.hid (R97.out.stp0 hs)
  have HE0 := Lib.hid (hs.blk HE0.out id)
  have HE := Lib.hid (HE.out.stp0 hs)
  have HB8 := Lib.hid (HB8.out.stp0 hs)
  have HC8 := Lib.hid (hs.blk HC8.out id)
  have HI8 := Lib.hid (HI8.out.stp0 hs)
  have HS := Lib.hid (HS.out.trans hs)
  have R10 := Lib.hid hr
  have hE10 : bE < w11.heap.size := by have := HB8.out.lt; omega
  obtain ⟨n10, hn10⟩ : ∃ k, k = w11.heap.size := ⟨_, rfl⟩
  rw [← hn10] at R10 hE10
  clear hs hr
  go_wp2_with (with_reducible refine stop (N := 63) rfl ?_)
  refine Stop.go ?_
  refine wpList_load_row rfl _ _ rfl g8 rfl _ cs8 (0, 0) _ HC8.out Try.underlying62 rfl HZ8.out ?_
  go_wp2_with (go_at_call 56; refine stopc ?_)
  refine Stop.go ?_
  refine (find_hl HI8.out 9 (by decide) (by decide)).mono ?_
  rw [find_9]
  rintro e w13 ⟨v12, rfl, hr, hs⟩
  have hltw13 := hs.size
  replace hr : Rd u8 (fun k => k < w12.heap.size) w13 v12 [] := hr
  obtain ⟨A63, c63, rfl, hle63⟩ := hr.form
  have H2 := Lib.hid (H2.out.stp0 hs)
  have H3 := Lib.hid (H3.out.stp0 hs)
  have HB := Lib.hid (HB.out.stp0 hs)
  have HO := Lib.hid (HO.out.stp0 hs)
  have HB4 := Lib.hid (HB4.out.stp0 hs)
  have R97 := Lib.hid (R97.out.stp0 hs)
  have HE0 := Lib.hid (hs.blk HE0.out id)
  have HE := Lib.hid (HE.out.stp0 hs)
  have HB8 := Lib.hid (HB8.out.stp0 hs)
  have HC8 := Lib.hid (hs.blk HC8.out id)
  have HI8 := Lib.hid (HI8.out.stp0 hs)
  have R10 := Lib.hid (R10.out.stp0 hs)
  have HS := Lib.hid (HS.out.trans hs)
  clear hs hr
  have hl40 : (bA.take 40).length = 40 := rfl
  go_wp2_with (go_at_call 51; refine stopc ?_)
  refine Stop.go ?_
  refine (parseH_any (fun _ => False) _ (bA.take 40) _ ((cut_hi (P := Try.prog) u8 22 5 Try.underlying22 size_u8 (some ⟨g2, 0, none⟩) 41 c2 40 (by omega) hle2).2 _ _ bA (HO.out.rd (h1 := fun _ => rfl) (M := fun _ => False) (fun _ _ => id))) (by decide)).mono ?_
  unfold ParseRet
  rw [parse_T]
  rintro e w14 ⟨cs14, rfl, hi, hs⟩
  have hltw14 := hs.size
  have H2 := Lib.hid (H2.out.stp0 hs)
  have H3 := Lib.hid (H3.out.stp0 hs)
  have HB := Lib.hid (HB.out.stp0 hs)
  have HO := Lib.hid (HO.out.stp0 hs)
  have HB4 := Lib.hid (HB4.out.stp0 hs)
  have R97 := Lib.hid (R97.out.stp0 hs)
  have HE0 := Lib.hid (hs.blk HE0.out id)
  have HE := Lib.hid (HE.out.stp0 hs)
  have HB8 := Lib.hid (HB8.out.stp0 hs)
  have HC8 := Lib.hid (hs.blk HC8.out id)
  have HI8 := Lib.hid (HI8.out.stp0 hs)
  have R10 := Lib.hid (R10.out.stp0 hs)
  have HS := Lib.hid (HS.out.trans hs)
  clear hs
  obtain ⟨hbx, heq, w15, hw, hc, hs⟩ := box_hl w14 cs14 hi.size
  rw [hlV0] at hbx heq hw
  have HBX := Lib.hid hbx
  have HEQ := Lib.hid heq
  have HW := Lib.hid hw
  have HZ := Lib.hid hi.info
  have HON := Lib.hid hi.one
  have HCw15 := Lib.hid hc
  have HIw15 := Lib.hid (hi.stp0 hs)
  have hltbw15 := hs.size
  clear hbx heq hw hc
  have H2 := Lib.hid (H2.out.stp0 hs)
  have H3 := Lib.hid (H3.out.stp0 hs)
  have HB := Lib.hid (HB.out.stp0 hs)
  have HO := Lib.hid (HO.out.stp0 hs)
  have HB4 := Lib.hid (HB4.out.stp0 hs)
  have R97 := Lib.hid (R97.out.stp0 hs)
  have HE0 := Lib.hid (hs.blk HE0.out id)
  have HE := Lib.hid (HE.out.stp0 hs)
  have HB8 := Lib.hid (HB8.out.stp0 hs)
  have HC8 := Lib.hid (hs.blk HC8.out id)
  have HI8 := Lib.hid (HI8.out.stp0 hs)
  have R10 := Lib.hid (R10.out.stp0 hs)
  have HS := Lib.hid (HS.out.trans hs)
  clear hs hi
  go_wp2_with (refine wpList_store_row rfl _ _ _ rfl w14.heap.size cs14 rfl rfl _ _ HBX.out HZ.out HEQ.out HON.out ?_; rw [HW.out]; refine stopw ?_)
  refine Stop.go ?_
  clear HBX HEQ HW
  clear HIw15 HCw15 HZ HON
  have hc40 := HO.out.cellAt 40 (by decide)
  have hf40 := HO.out.free 40
  have hs := (Stp.refl (fun k => k = g2) w15).setg 40 (.int .u8 1)
  have ho : Own enc8 5 w1.heap.size (w15.setCell ⟨g2, 40, none⟩ (.int .u8 1)) (.slice (some ⟨g2, 0, none⟩) 41 c2) (bA.set 40 1) := HO.out.set_ 40 (1 : UInt8)
  go_upto_region 14 with fail
  generalize hw : w15.setCell ⟨g2, 40, none⟩ (.int .u8 1) = w16 at *
  clear hw hc40 hf40
  have H2 := Lib.hid (H2.out.step hs (fun k hk he => by omega))
  have H3 := Lib.hid (H3.out.step hs (fun k hk he => by omega))
  have HB := Lib.hid (HB.out.step hs (by omega))
  have HO := Lib.hid (show Own enc8 5 w1.heap.size w16 (.slice (some ⟨g2, 0, none⟩) 41 c2) (bA.set 40 1) from ho)
  have HB4 := Lib.hid (HB4.out.step hs (by omega))
  have R97 := Lib.hid (R97.out.step hs (fun k hk he => by omega))
  have HE0 := Lib.hid (hs.blk HE0.out (by omega))
  have HE := Lib.hid (HE.out.step hs (fun k hk he => by omega))
  have HB8 := Lib.hid (HB8.out.step hs (by omega))
  have HC8 := Lib.hid (hs.blk HC8.out (by omega))
  have HI8 := Lib.hid (HI8.out.step hs (fun k hk he => by omega))
  have R10 := Lib.hid (R10.out.step hs (fun k hk he => by omega))
  have HS := Lib.hid (HS.out.then_ hs (fun k hk he => by have := HG.out; omega))
  clear hs ho
  go_wp2_with (go_at_call 51; refine stopc ?_)
  refine Stop.go ?_
  refine (parseH_any (fun _ => False) _ (bA.set 40 1) _ (HO.out.rd (h1 := fun _ => rfl) (M := fun _ => False) (fun _ _ => id)) (by decide)).mono ?_
  unfold ParseRet
  rw [parse_C]
  rintro e w17 ⟨cs16, rfl, hi, hs⟩
  have hltw17 := hs.size
  have H2 := Lib.hid (H2.out.stp0 hs)
  have H3 := Lib.hid (H3.out.stp0 hs)
  have HB := Lib.hid (HB.out.stp0 hs)
  have HO := Lib.hid (HO.out.stp0 hs)
  have HB4 := Lib.hid (HB4.out.stp0 hs)
  have R97 := Lib.hid (R97.out.stp0 hs)
  have HE0 := Lib.hid (hs.blk HE0.out id)
  have HE := Lib.hid (HE.out.stp0 hs)
  have HB8 := Lib.hid (HB8.out.stp0 hs)
  have HC8 := Lib.hid (hs.blk HC8.out id)
  have HI8 := Lib.hid (HI8.out.stp0 hs)
  have R10 := Lib.hid (R10.out.stp0 hs)
  have HS := Lib.hid (HS.out.trans hs)
  clear hs
  obtain ⟨hbx, heq, w18, hw, hc, hs⟩ := box_hl w17 cs16 hi.size
  rw [hlV0] at hbx heq hw
  have HBX := Lib.hid hbx
  have HEQ := Lib.hid heq
  have HW := Lib.hid hw
  have HZ := Lib.hid hi.info
  have HON := Lib.hid hi.one
  have HCw18 := Lib.hid hc
  have HIw18 := Lib.hid (hi.stp0 hs)
  have hltbw18 := hs.size
  clear hbx heq hw hc
  have H2 := Lib.hid (H2.out.stp0 hs)
  have H3 := Lib.hid (H3.out.stp0 hs)
  have HB := Lib.hid (HB.out.stp0 hs)
  have HO := Lib.hid (HO.out.stp0 hs)
  have HB4 := Lib.hid (HB4.out.stp0 hs)
  have R97 := Lib.hid (R97.out.stp0 hs)
  have HE0 := Lib.hid (hs.blk HE0.out id)
  have HE := Lib.hid (HE.out.stp0 hs)
  have HB8 := Lib.hid (HB8.out.stp0 hs)
  have HC8 := Lib.hid (hs.blk HC8.out id)
  have HI8 := Lib.hid (HI8.out.stp0 hs)
  have R10 := Lib.hid (R10.out.stp0 hs)
  have HS := Lib.hid (HS.out.trans hs)
  clear hs hi
  go_wp2_with (refine wpList_store_row rfl _ _ _ rfl w17.heap.size cs16 rfl rfl _ _ HBX.out HZ.out HEQ.out HON.out ?_; rw [HW.out]; refine stopw ?_)
  refine Stop.go ?_
  clear HBX HEQ HW
  clear HIw18 HCw18 HZ HON
  obtain ⟨-, -, -, -, -, c37⟩ := HB.out.cells
  have ce0 := blk_cell (j := 2) HE0.out
  have fe0 := blk_free HE0.out 2
  have hs := (Stp.refl (fun k => k = bE) w18).setg 2 (.int .i64 7)
  have he := blk_set HE0.out 2 (.int .i64 7)
  go_upto_region 16 with fail
  generalize hw : w18.setCell ⟨bE, 2, none⟩ (.int .i64 7) = w19 at *
  clear hw c37 ce0 fe0
  have H2 := Lib.hid (H2.out.step hs (fun k hk he => by omega))
  have H3 := Lib.hid (H3.out.step hs (fun k hk he => by omega))
  have HB := Lib.hid (HB.out.step hs (by omega))
  have HO := Lib.hid (HO.out.step hs (fun k hk he => by have h : some g2 = some k := hk; injection h with h; omega))
  have HB4 := Lib.hid (HB4.out.step hs (by omega))
  have R97 := Lib.hid (R97.out.step hs (fun k hk he => by omega))
  have HE0 := Lib.hid he
  have HB8 := Lib.hid (HB8.out.step hs (by omega))
  have HC8 := Lib.hid (hs.blk HC8.out (by omega))
  have HI8 := Lib.hid (HI8.out.step hs (fun k hk he => by omega))
  have R10 := Lib.hid (R10.out.step hs (fun k hk he => by omega))
  have HS := Lib.hid (HS.out.then_ hs (fun k hk he => by have := HG.out; omega))
  clear hs he
  have HE := Lib.hid (show Rd extK (fun k => k = g1 ∨ k = g2) w19 (.slice (some ⟨bE, 0, none⟩) 2 2) hD.exs from ext2 (k2 := 7) HE0.out (by omega) (R97.out.weak (by decide) (fun k hk h => by omega)))
  have HB := Lib.hid (show HlB w19 g1 hD (.slice none 0 0) vc vm (.slice (some ⟨bE, 0, none⟩) 2 2) from HB.out)
  obtain ⟨cs85, hcs⟩ : ∃ cs, cs = (hlV hD (.slice none 0 0) vc vm (.slice (some ⟨bE, 0, none⟩) 2 2)).toArray := ⟨_, rfl⟩
  have hcc : w19.heap[g1]? = some (.cells cs85 62 (0, 0)) := by rw [hcs]; exact HB.out.1
  have hii : IsHl (fun _ => False) w19 cs85 hD := ⟨_, _, _, _, by rw [hcs], rfl, Rd.nil _ _ _, H2.out.weak (by decide) (fun _ _ h => h.elim), H3.out.weak (by decide) (fun _ _ h => h.elim), HE.out.weak (by decide) (fun _ _ h => h.elim)⟩
  have HCC := Lib.hid hcc
  have HII := Lib.hid hii
  have HZ := Lib.hid hii.info
  clear hcs hcc hii
  go_wp2_with (with_reducible refine stop (N := 85) rfl ?_)
  refine Stop.go ?_
  refine wpList_load_row rfl _ _ rfl g1 rfl _ cs85 (0, 0) _ HCC.out Try.underlying62 rfl HZ.out ?_
  go_wp2_with (go_at_call 54; refine stopc ?_)
  refine Stop.go ?_
  refine (print_any (fun _ => False) cs85 hD _ HII.out (by decide) fit_hD (fun _ _ h => h)).mono ?_
  rw [print_D]
  rintro e w20 ⟨v18, rfl, ho, hs⟩
  clear HCC HII HZ
  have hltw20 := hs.size
  have H2 := Lib.hid (H2.out.stp0 hs)
  have H3 := Lib.hid (H3.out.stp0 hs)
  have HB := Lib.hid (HB.out.stp0 hs)
  have HO := Lib.hid (HO.out.stp0 hs)
  have HB4 := Lib.hid (HB4.out.stp0 hs)
  have R97 := Lib.hid (R97.out.stp0 hs)
  have HE0 := Lib.hid (hs.blk HE0.out id)
  have HB8 := Lib.hid (HB8.out.stp0 hs)
  have HC8 := Lib.hid (hs.blk HC8.out id)
  have HI8 := Lib.hid (HI8.out.stp0 hs)
  have R10 := Lib.hid (R10.out.stp0 hs)
  have HE := Lib.hid (HE.out.stp0 hs)
  have HS := Lib.hid (HS.out.trans hs)
  clear ho
  obtain ⟨d0, -, -, -, d36, -⟩ := HB4.out.cells
  obtain ⟨-, -, -, -, -, d37⟩ := HB8.out.cells
  have hcv := conv_of R10.out
  have hst : ((strB [97]).toList == [97]) = true := by rw [ByteArray.toList_eq]; rfl
  replace hcv : (convert 22 9 (.slice A58 1 c58)).run Try.prog w20 = .ok (.string (strB [97])) w20 := hcv
  replace d0 : w20.cell? ⟨g4, 0, none⟩ = some (.int .i64 771) := d0
  replace d36 : w20.cell? ⟨g4, 36, none⟩ = some (.bool false) := d36
  replace d37 : w20.cell? ⟨g8, 37, none⟩ = some (.slice A8 2 c8) := d37
  go_wp2
  go_ret
  exact ⟨rfl, HS.out⟩
end Go.Proofs.Ytdmcmfjhlpnaeaa.L
