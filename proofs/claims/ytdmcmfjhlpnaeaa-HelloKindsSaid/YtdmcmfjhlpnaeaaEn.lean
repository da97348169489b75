/- exts: Name, Protocols, Versions. -/
import Derived.Test.YtdmcmfjhlpnaeaaEs
set_option linter.unusedVariables false
set_option linter.unusedSimpArgs false
namespace Go.Proofs.Ytdmcmfjhlpnaeaa.L
open Go.RowKit Go.Proofs

theorem ext_cell {M : Nat → Prop} {W : World} {xs : List (Int × List UInt8)} {A : Option Addr} {n c : Nat} (h : Rd extK M W (.slice A n c) xs) (j : Nat) (hj : j < xs.length) :
    ∃ ad v, A = some ad ∧ ¬ M ad.block ∧ W.cell? (ad.add (j * 2)) = some (.int .i64 xs[j].1) ∧ W.cell? ⟨(ad.add (j * 2)).block, (ad.add (j * 2)).off + 1, none⟩ = some v ∧ Rd u8 M W v xs[j].2 := by
  obtain ⟨ad, ha, hcs⟩ := h.at_.2.2.2 (by omega)
  obtain ⟨cs, hK, hc⟩ := hcs.2 j _ (List.getElem?_eq_getElem hj)
  obtain ⟨c1, c2, rfl, hk1, v, rfl, hk2⟩ := hK
  obtain rfl : c1 = [.int .i64 xs[j].1] := hk1
  exact ⟨ad, v, ha, hcs.1, hc 0 _ rfl, by rw [← add_fld _ _ 1 (by decide)]; exact hc 1 _ rfl, hk2⟩

def namesS (xs : List (Int × List UInt8)) : List ByteArray := (xs.filter fun x => x.1 == 0).map fun x => strB x.2
def pickS (ns : List ByteArray) : ByteArray × Int :=
  match ns with
  | [] => (⟨#[]⟩, 8)
  | [x] => if mayB x.data.toList then (x, 0) else (⟨#[]⟩, 9)
  | _ => (⟨#[]⟩, 7)
def nameS (d : List UInt8) : ByteArray × Int := if (walkS oneE d).2 = true then pickS (namesS (walkS oneE d).1) else (⟨#[]⟩, 3)

theorem namesS_snoc (xs : List (Int × List UInt8)) (x : Int × List UInt8) : namesS (xs ++ [x]) = if x.1 = 0 then namesS xs ++ [strB x.2] else namesS xs := by
  unfold namesS
  by_cases h : x.1 = 0 <;> simp [h]
theorem namesS_len (xs : List (Int × List UInt8)) : (namesS xs).length ≤ xs.length := by
  unfold namesS
  rw [List.length_map]
  exact List.length_filter_le _ _

theorem many_len {α : Type} (one : RSt → α × RSt) (n : Nat) (s : RSt) : (many one n s).1.length ≤ n := by
  induction n generalizing s with
  | zero => simp [many]
  | succ n ih =>
    unfold many
    split
    · simp
    · have := ih (one s).2
      simp
      omega
theorem walkS_len {α : Type} (one : RSt → α × RSt) (d : List UInt8) : (walkS one d).1.length ≤ d.length := by
  unfold walkS
  split
  · exact Nat.le_trans (many_len _ _ _) (rvec_len1 (d, false) 2)
  · simp

set_option maxRecDepth 10000 in
set_option maxHeartbeats 4000000 in
theorem name_any (M : Nat → Prop) (v0 : Value) (d : List UInt8) (w : World) (hd : Rd u8 M w v0 d) (hl : d.length ≤ 1000000000) :
    Calls Try.prog 38 #[v0] w fun e w' => e = .returned (.tuple #[.string (nameS d).1, .int .i64 (nameS d).2]) ∧ Stp (fun _ => False) w w' := by
  have HD := Lib.hid hd
  clear hd
  obtain ⟨xs, hxs⟩ : ∃ xs, xs = (walkS oneE d).1 := ⟨_, rfl⟩
  have HXS := Lib.hid hxs
  have hxl : xs.length ≤ 1000000000 := by rw [hxs]; exact Nat.le_trans (walkS_len _ _) hl
  clear hxs
  by_cases hok : (walkS oneE d).2 = true
  · have hn : nameS d = pickS (namesS xs) := by unfold nameS; rw [if_pos hok, HXS.out]
    rw [hn]
    clear hn
    go_enter Try.func38, Try.ntmps38
    go_wp2_with (go_at_call 66; refine stopc ?_)
    refine Stop.go ?_
    refine (walkE_any M _ d _ HD.out hl).mono ?_
    rw [hok, ← HXS.out]
    rintro e w1 ⟨v1, rfl, hx1, hs1⟩
    obtain ⟨A1, c1, rfl, hle1⟩ := hx1.form
    have HX := Lib.hid hx1
    have HS1 := Lib.hid hs1
    clear hx1 hs1
    go_wp2
    go_loopw [6, 18] (fun o i wr => ∃ k : Nat, k ≤ xs.length ∧ i = .int .i64 k ∧ Own Value.string 9 w1.heap.size wr o (namesS (xs.take k)) ∧ Stp (fun _ => False) w1 wr) (fun _ i _ => xs.length - (intOf i).toNat)
    case atStart => exact ⟨0, Nat.zero_le _, rfl, Own.nil _ _ _ _, Stp.refl _ _⟩
    case round =>
      obtain ⟨k, hk, rfl, ho, hs⟩ := hrel
      have HO := Lib.hid ho
      have HS := Lib.hid hs
      clear ho hs
      by_cases hlt : k < xs.length
      · obtain ⟨ad, v, rfl, hnM, hcell1, hcell2, hv⟩ := ext_cell (HX.out.stp0 HS.out) k hlt
        obtain ⟨Av, cv, rfl, hlev⟩ := hv.form
        have HV := Lib.hid hv
        clear hv
        have hcv : ∀ o, (convert 22 9 (.slice Av xs[k].2.length cv)).run Try.prog (wr.alloc o) = .ok (.string (strB xs[k].2)) (wr.alloc o) := fun o => conv_of (HV.out.stp0 ((Stp.refl _ _).alloc o))
        have hsn := namesS_snoc (xs.take k) xs[k]
        rw [← take_snoc _ _ hlt] at hsn
        by_cases hz : xs[k].1 = 0
        · have hb : (xs[k].1 == 0) = true := by simpa using hz
          rw [if_pos hz] at hsn
          have HSN := Lib.hid hsn
          clear hsn
          have hnl := namesS_len (xs.take k)
          rw [List.length_take] at hnl
          go_wp2_with (with_reducible refine stop (N := 30) rfl ?_)
          refine Stop.go ?_
          refine wp_append1 Value.string (strB xs[k].2) rfl rfl _ _ _ rfl Try.underlying41 info_string rfl (HO.out.stp0 (((Stp.refl _ _).alloc _).alloc _)) rfl ⟨wr.heap.size + 1, 0, none⟩ 1 rfl ?_ (by omega) (by omega) (by have := HS.out.size; simp; omega) ?_
          · simp [World.cell?_alloc_mark]
          · intro v3 w3 ho3 hg3
            rw [← HSN.out] at ho3
            have HO3 := Lib.hid ho3
            have HS3 := Lib.hid (((HS.out.alloc _).alloc _).own (HO.out.stp0 (((Stp.refl _ _).alloc _).alloc _)) hg3)
            clear ho3 hg3
            go_wp2
            go_roundw
            case rel => exact ⟨k + 1, by omega, by go_num, HO3.out, HS3.out⟩
            case measure => simp [intOf]; omega
        · have hb : (xs[k].1 == 0) = false := by simpa using hz
          rw [if_neg hz] at hsn
          have HSN := Lib.hid hsn
          clear hsn
          go_wp2
          go_roundw
          case rel => exact ⟨k + 1, by omega, by go_num, by rw [HSN.out]; exact HO.out.stp0 ((Stp.refl _ _).alloc _), HS.out.alloc _⟩
          case measure => simp [intOf]; omega
      · obtain rfl : k = xs.length := by omega
        rw [List.take_length] at HO
        obtain ⟨ns, hns⟩ : ∃ ns, ns = namesS xs := ⟨_, rfl⟩
        rw [← hns] at HO
        have HNS := Lib.hid hns
        clear hns
        obtain ⟨A6, c6, rfl, hle6⟩ := HO.out.form
        match ns, HNS, HO, hle6 with
        | [], HNS, HO, hle6 =>
          go_wp2
          go_ret2
          exact ⟨by rw [← HNS.out]; rfl, HS1.out.trans HS.out⟩
        | [x], HNS, HO, hle6 =>
          obtain ⟨g, rfl, _, _, _⟩ := HO.out.at_ (by simp)
          have hcell := HO.out.cellAt 0 (by simp)
          by_cases hm : mayB x.data.toList = true
          · go_wp2_with (go_at_call 68; refine (may_any _ _).mono ?_; (try simp only [List.getElem_cons_zero]); rw [hm]; rintro e w' ⟨rfl, hs⟩; have HS2 := Lib.hid hs; have hcell := hs.cell hcell id; clear hs)
            go_ret2
            exact ⟨by rw [← HNS.out]; simp [pickS, hm], HS1.out.trans (HS.out.trans HS2.out)⟩
          · have hm' : mayB x.data.toList = false := by simpa using hm
            go_wp2_with (go_at_call 68; refine (may_any _ _).mono ?_; (try simp only [List.getElem_cons_zero]); rw [hm']; rintro e w' ⟨rfl, hs⟩; have HS2 := Lib.hid hs; clear hs)
            go_ret2
            exact ⟨by rw [← HNS.out]; simp [pickS, hm'], HS1.out.trans (HS.out.trans HS2.out)⟩
        | x :: y :: r, HNS, HO, hle6 =>
          go_wp2
          go_ret2
          exact ⟨by rw [← HNS.out]; rfl, HS1.out.trans HS.out⟩
  · have hn : nameS d = (⟨#[]⟩, 3) := by unfold nameS; rw [if_neg hok]
    have hok' : (walkS oneE d).2 = false := by simpa using hok
    rw [hn]
    clear hn
    go_enter Try.func38, Try.ntmps38
    go_wp2_with (go_at_call 66; refine (walkE_any M _ d _ HD.out hl).mono ?_; rw [hok']; rintro e w1 ⟨v1, rfl, hx1, hs1⟩; have HS1 := Lib.hid hs1; clear hx1 hs1)
    go_ret2
    exact ⟨rfl, HS1.out⟩
end Go.Proofs.Ytdmcmfjhlpnaeaa.L
