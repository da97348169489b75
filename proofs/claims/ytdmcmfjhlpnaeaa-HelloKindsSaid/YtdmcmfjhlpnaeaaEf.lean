/- hello.Find, and the document's own. -/
import Derived.Test.YtdmcmfjhlpnaeaaEc
import Derived.Lib.SliceRun
set_option linter.unusedVariables false
set_option linter.unusedSimpArgs false
namespace Go.Proofs.Ytdmcmfjhlpnaeaa.L
open Go.RowKit Go.Proofs

set_option maxRecDepth 10000 in
set_option maxHeartbeats 1000000 in
theorem clone_any (M : Nat → Prop) (v0 : Value) (l : List UInt8) (w : World) (h : Rd u8 M w v0 l) (hl : l.length ≤ 1000000000) :
    Calls Try.prog 80 #[v0] w fun e w' => ∃ v, e = .returned v ∧ Rd u8 (fun k => k < w.heap.size) w' v l ∧ Stp (fun _ => False) w w' := by
  obtain ⟨A, c, rfl, hle⟩ := h.form
  have H := Lib.hid h
  clear h
  have hnil := fun (w : World) (A : Option Addr) (n c : Nat) => Lib.run_eql_slice_nil (P := Try.prog) w 22 5 A n c 0 0 Try.underlying22
  cases A with
  | none =>
    have h0 : l = [] := by
      obtain ⟨_, _, _, hc⟩ := H.out.at_
      apply List.eq_nil_of_length_eq_zero
      rcases Nat.eq_zero_or_pos l.length with h | h
      · exact h
      · obtain ⟨ad, ha, _⟩ := hc h
        cases ha
    subst h0
    go_enter Try.func80, Try.ntmps80
    go_wp2
    go_ret
    exact ⟨_, rfl, Rd.nil _ _ _, Stp.refl _ _⟩
  | some ad =>
    go_enter Try.func80, Try.ntmps80
    go_wp2_with (with_reducible refine stop (N := 7) rfl ?_)
    refine Stop.go ?_
    refine wp_appendRd enc8 (h1e := fun _ => rfl) rfl _ _ _ rfl Try.underlying22 info_u8 rfl (Own.lit (B := w.heap.size) ([] : List UInt8) #[] rfl (by simp) (by simp)) (H.out.stp0 ((Stp.refl _ _).alloc _)) rfl rfl (by simp; omega) (by simp; omega) (by simp) ?_
    intro v1 w1 ho1 hg1
    rw [List.nil_append] at ho1
    have HO1 := Lib.hid ho1
    have HS1 := Lib.hid (((Stp.refl (fun _ => False) w).alloc _).grown hg1 (by
          intro k hk hlt
          simp [Value.ownBlock] at hk
          omega))
    clear ho1 hg1
    go_wp2
    go_ret
    exact ⟨_, rfl, HO1.out.rd (h1 := fun _ => rfl) (fun k hk h => by have := (HO1.out.lt k hk).1; omega), HS1.out⟩

/-- The data of an extension, if there is one. -/
def findS (xs : List (Int × List UInt8)) (kind : Int) : List UInt8 × Bool :=
  match xs.find? (fun x => x.1 == kind) with
  | some x => (x.2, true)
  | none => ([], false)

theorem findS_hit (xs : List (Int × List UInt8)) (kind : Int) (k : Nat) (hk : k < xs.length) (hall : ∀ j (hj : j < xs.length), j < k → xs[j].1 ≠ kind) (he : xs[k].1 = kind) : findS xs kind = (xs[k].2, true) := by
  have : xs.find? (fun x => x.1 == kind) = some xs[k] := by
    rw [List.find?_eq_some_iff_getElem]
    refine ⟨by simpa using he, k, hk, rfl, fun j hj => ?_⟩
    have := hall j (by omega) hj
    simpa using this
  unfold findS
  rw [this]
theorem findS_miss (xs : List (Int × List UInt8)) (kind : Int) (hall : ∀ j (hj : j < xs.length), xs[j].1 ≠ kind) : findS xs kind = ([], false) := by
  have : xs.find? (fun x => x.1 == kind) = none := by
    rw [List.find?_eq_none]
    intro x hx
    obtain ⟨j, hj, rfl⟩ := List.mem_iff_getElem.1 hx
    simpa using hall j hj
  unfold findS
  rw [this]

set_option maxRecDepth 10000 in
set_option maxHeartbeats 4000000 in
theorem find_any (M : Nat → Prop) (cs : Array Value) (A : Option Addr) (c : Nat) (xs : List (Int × List UInt8)) (kind : Int) (w : World) (hcs : cs.size = 38) (hc : ∀ h : 37 < cs.size, cs[37] = .slice A xs.length c) (h : Rd extK M w (.slice A xs.length c) xs) (hl : xs.length ≤ 1000000000) (hd : ∀ x ∈ xs, x.2.length ≤ 1000000000) :
    Calls Try.prog 56 #[.agg cs, .int .i64 kind] w fun e w' => ∃ v, e = .returned (.tuple #[v, .bool (findS xs kind).2]) ∧ Rd u8 (fun k => k < w.heap.size) w' v (findS xs kind).1 ∧ Stp (fun _ => False) w w' := by
  have H := Lib.hid h
  have HD := Lib.hid hd
  have hc37 := hc (by omega)
  clear h hc hd
  go_enter Try.func56, Try.ntmps56
  go_wp2
  go_loopw [11] (fun i wr => ∃ k : Nat, k ≤ xs.length ∧ i = .int .i64 k ∧ (∀ j (hj : j < xs.length), j < k → xs[j].1 ≠ kind) ∧ Stp (fun _ => False) w wr) (fun i _ => xs.length - (intOf i).toNat)
  case atStart => exact ⟨0, Nat.zero_le _, rfl, fun j _ h => absurd h (by omega), (Stp.refl _ _).alloc _⟩
  case round =>
    obtain ⟨k, hk, rfl, hall, hs⟩ := hrel
    have HALL := Lib.hid hall
    have HS := Lib.hid hs
    clear hall hs
    by_cases hlt : k < xs.length
    · obtain ⟨ad, v, rfl, hnM, hcell1, hcell2, hv⟩ := ext_cell (H.out.stp0 HS.out) k hlt
      obtain ⟨Av, cv, rfl, hlev⟩ := hv.form
      have HV := Lib.hid hv
      clear hv
      by_cases he : xs[k].1 = kind
      · have hb : (xs[k].1 == kind) = true := by simpa using he
        have HF := Lib.hid (findS_hit xs kind k hlt HALL.out he)
        clear he
        go_wp2_with (go_at_call 80; refine stopc ?_)
        refine Stop.go ?_
        refine (clone_any _ _ _ _ (HV.out.stp0 ((Stp.refl _ _).alloc _)) (HD.out _ (List.getElem_mem hlt))).mono ?_
        rintro e w2 ⟨v2, rfl, hr2, hs2⟩
        have HR2 := Lib.hid (hr2.weak (M' := fun k => k < w.heap.size) (by decide) (fun k hk h => by have := HS.out.size; simp; omega))
        have HS2 := Lib.hid ((HS.out.alloc _).trans hs2)
        clear hr2 hs2
        go_wp2
        go_ret2
        exact ⟨_, by rw [HF.out]; rfl, by rw [HF.out]; exact HR2.out, HS2.out⟩
      · have hb : (xs[k].1 == kind) = false := by simpa using he
        go_wp2
        go_roundw
        case rel =>
          refine ⟨k + 1, by omega, by go_num, fun j hj h => ?_, HS.out.alloc _⟩
          by_cases hjk : j = k
          · subst hjk
            exact he
          · exact HALL.out j hj (by omega)
        case measure => simp [intOf]; omega
    · obtain rfl : k = xs.length := by omega
      have HF := Lib.hid (findS_miss xs kind (fun j hj => HALL.out j hj hj))
      go_wp2
      go_ret2
      exact ⟨_, by rw [HF.out]; rfl, by rw [HF.out]; exact Rd.nil _ _ _, HS.out⟩

set_option maxRecDepth 10000 in
set_option maxHeartbeats 4000000 in
theorem findR_any (M : Nat → Prop) (cs : Array Value) (A : Option Addr) (c : Nat) (xs : List (Int × List UInt8)) (kind : Int) (w : World) (hcs : cs.size = 38) (hc : ∀ h : 37 < cs.size, cs[37] = .slice A xs.length c) (h : Rd extK M w (.slice A xs.length c) xs) (hl : xs.length ≤ 1000000000) (hM : M w.heap.size → False) :
    Calls Try.prog 57 #[.agg cs, .int .i64 kind] w fun e w' => ∃ v, e = .returned (.tuple #[v, .bool (findS xs kind).2]) ∧ Rd u8 M w' v (findS xs kind).1 ∧ Stp (fun _ => False) w w' := by
  have H := Lib.hid h
  have hc37 := hc (by omega)
  clear h hc
  go_enter Try.func57, Try.ntmps57
  go_wp2
  go_loop [6] (fun i => ∃ k : Nat, k ≤ xs.length ∧ i = .int .i64 k ∧ (∀ j (hj : j < xs.length), j < k → xs[j].1 ≠ kind)) (fun i => xs.length - (intOf i).toNat)
  case atStart => exact ⟨0, Nat.zero_le _, rfl, fun j _ h => absurd h (by omega)⟩
  case round =>
    obtain ⟨k, hk, rfl, hall⟩ := hrel
    have HALL := Lib.hid hall
    clear hall
    by_cases hlt : k < xs.length
    · obtain ⟨ad, v, rfl, hnM, hcell1, hcell2, hv⟩ := ext_cell (H.out.stp0 ((Stp.refl (fun _ => False) w).alloc (.cells cs 62))) k hlt
      obtain ⟨Av, cv, rfl, hlev⟩ := hv.form
      have HV := Lib.hid hv
      clear hv
      by_cases he : xs[k].1 = kind
      · have hb : (xs[k].1 == kind) = true := by simpa using he
        have HF := Lib.hid (findS_hit xs kind k hlt HALL.out he)
        clear he
        go_wp2
        go_ret2
        exact ⟨_, by rw [HF.out]; rfl, by rw [HF.out]; exact HV.out, (Stp.refl _ _).alloc _⟩
      · have hb : (xs[k].1 == kind) = false := by simpa using he
        go_wp2
        go_round
        case rel =>
          refine ⟨k + 1, by omega, by go_num, fun j hj h => ?_⟩
          by_cases hjk : j = k
          · subst hjk
            exact he
          · exact HALL.out j hj (by omega)
        case measure => simp [intOf]; omega
    · obtain rfl : k = xs.length := by omega
      have HF := Lib.hid (findS_miss xs kind (fun j hj => HALL.out j hj hj))
      go_wp2
      go_ret2
      exact ⟨_, by rw [HF.out]; rfl, by rw [HF.out]; exact Rd.nil _ _ _, (Stp.refl _ _).alloc _⟩
end Go.Proofs.Ytdmcmfjhlpnaeaa.L
