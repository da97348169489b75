/- Layer 12: a field's line is parsed. -/
import Derived.Test.YtgjmaifgkgejgaaGreatDoorAw
import Derived.Test.YtgjmaifgkgejgaaGreatDoorAp
import Derived.Shelf.Vars
set_option linter.unusedVariables false
set_option linter.unusedSimpArgs false
namespace Go.Proofs.YtgjmaifgkgejgaaGreatDoor.L
open Go.RowKit Go.Proofs

theorem any_skip (p : Nat → Bool) (s : ByteArray) (pos K : Nat) (hle : pos + K ≤ s.size) (hb : ∀ j, pos ≤ j → j < pos + K → ∃ hj : j < s.size, p (s[j]).toNat = false) :
    (s.data.toList.drop pos).any (fun b => p b.toNat) = (s.data.toList.drop (pos + K)).any (fun b => p b.toNat) := by
  induction K with
  | zero => rfl
  | succ K ih =>
    rw [ih (by omega) (fun j h1 h2 => hb j h1 (by omega))]
    obtain ⟨hj, hp⟩ := hb (pos + K) (by omega) (by omega)
    have hl : pos + K < s.data.toList.length := by rw [size_list]; exact hj
    rw [List.drop_eq_getElem_cons hl, List.any_cons]
    have e : s.data.toList[pos + K] = s[pos + K] := rfl
    rw [e, hp, Bool.false_or]
    rfl
theorem idx_any (p : Nat → Bool) (hp : ∀ r, 128 ≤ r → p r = false) (s : ByteArray) (f pos : Nat) (h : s.size ≤ pos + f) :
    decide (0 ≤ Lib.idxFuncFrom p true s f pos) = (s.data.toList.drop pos).any (fun b => p b.toNat) := by
  induction f generalizing pos with
  | zero =>
    rw [List.drop_of_length_le (by rw [size_list]; omega)]
    rfl
  | succ f ih =>
    unfold Lib.idxFuncFrom
    by_cases hlt : pos < s.size
    · rw [if_pos hlt]
      by_cases hlow : (s[pos]).toNat < 128
      · rw [decode_low s pos hlt hlow]
        simp only
        have hl : pos < s.data.toList.length := by rw [size_list]; exact hlt
        rw [List.drop_eq_getElem_cons hl, List.any_cons]
        have e : s.data.toList[pos] = s[pos] := rfl
        rw [e]
        cases hc : p (s[pos]).toNat with
        | true => simp
        | false =>
          rw [if_neg (by decide), ih (pos + 1) (by omega), Bool.false_or]
      · have hh := decode_high s pos hlt hlow
        obtain ⟨hw, hb⟩ := decode_bytes s pos hlt hlow
        rw [hp _ hh, if_neg (by decide)]
        have hw1 := Lib.width_pos s pos
        rw [ih _ (by omega), ← any_skip p s pos _ hw (fun j h1 h2 => by
          obtain ⟨hj, hj2⟩ := hb j h1 h2
          exact ⟨hj, hp _ hj2⟩)]
    · rw [if_neg hlt, List.drop_of_length_le (by rw [size_list]; omega)]
      rfl
theorem idx_anyS (p : Nat → Bool) (hp : ∀ r, 128 ≤ r → p r = false) (s : ByteArray) : decide (0 ≤ Lib.idxFunc p true s) = anyS p s.data.toList := by
  unfold Lib.idxFunc anyS
  rw [idx_any p hp s _ 0 (by omega)]
  rfl

theorem strange_any (x : Nat) (w : World) : Calls Tryz.prog 30 #[.int .i32 (x : Int)] w fun e w' => e = .returned (.bool (strR x)) ∧ w' = w := by
  obtain ⟨b, hb⟩ : ∃ b, b = strR x := ⟨_, rfl⟩
  rw [← hb]
  by_cases h1 : x < 32
  · by_cases h9 : x = 9
    · subst h9
      have HB := Lib.hid hb
      clear hb
      go_enter Tryz.func30, Tryz.ntmps30
      go_wp2
      go_ret
      exact ⟨ret_b (by rw [HB.out] <;> rfl), rfl⟩
    · have HB := Lib.hid (show b = true by rw [hb]; unfold strR; rw [show decide (x < 32) = true by simpa using h1, show decide (x = 9) = false by simpa using h9]; rfl)
      have e9 : ((x : Int) != 9) = true := by simp; omega
      clear hb h9
      go_enter Tryz.func30, Tryz.ntmps30
      go_wp2
      go_ret
      exact ⟨ret_b HB.out.symm, rfl⟩
  · have HB := Lib.hid (show b = decide (x = 127) by rw [hb]; unfold strR; rw [show decide (x < 32) = false by simpa using h1]; rfl)
    clear hb
    by_cases h127 : x = 127
    · subst h127
      go_enter Tryz.func30, Tryz.ntmps30
      go_wp2
      go_ret
      exact ⟨ret_b (by rw [HB.out] <;> rfl), rfl⟩
    · have e127 : ((x : Int) == 127) = false := by simp; omega
      have HB2 := Lib.hid (HB.out.trans (show decide (x = 127) = false by simpa using h127))
      clear h127
      go_enter Tryz.func30, Tryz.ntmps30
      go_wp2
      go_ret
      exact ⟨ret_b HB2.out.symm, rfl⟩
theorem strange_runes (w : World) : PredAtRunes Tryz.prog 30 #[] strR w :=
  fun W x _ _ => (strange_any x W).mono fun e w' ⟨h1, h2⟩ => ⟨h1, 0, h2⟩
theorem anyStrange (s : ByteArray) (w : World) :
    Calls Tryz.prog 29 #[.string s, .func (.func 30) #[] #[]] w fun e w' => e = .returned (.bool (anyS strR s.data.toList)) ∧ Stp (fun _ => False) w w' :=
  (Tryz.strings_ContainsFunc_runes 30 #[] (enters_of Tryz.func30 (by kernel_rfl) rfl) strR s w (strange_runes w)).mono fun e w' ⟨h1, h2⟩ => ⟨by rw [h1, idx_anyS strR strR_high], Stp.of_below h2⟩

theorem sB_data (x : List UInt8) : (strB x).data.toList = x := by simp [strB]
theorem sB_size (l : List UInt8) : (strB l).size = l.length := by simp [strB, ByteArray.size]
theorem cutC_len (c : UInt8) (l : List UInt8) : (cutC c l).1.length ≤ l.length ∧ (cutC c l).2.1.length ≤ l.length := by
  rcases cutC_cases c l with ⟨_, h⟩ | ⟨a, b, rfl, _, h⟩
  · rw [h]
    exact ⟨Nat.le_refl _, Nat.zero_le _⟩
  · rw [h]
    simp
    omega
/-- The library's variable holds some number. -/
def MaxL (w : World) : Prop := ∃ m, w.cell? ⟨1, 0, none⟩ = some (.int .i64 m)
theorem MaxL.step {w w' : World} (h : MaxL w) (hs : Stp (fun _ => False) w w') : MaxL w' := by
  obtain ⟨m, hm⟩ := h
  exact ⟨m, hs.cell hm (fun h => h)⟩
theorem MaxL.of_shape {w : World} (h : w.ShapedOpen Tryz.prog) : MaxL w := cell_of_shapedOpen_int (P := Tryz.prog) (g := 1) (t := 3) (zero := #[.int .i64 0]) h (of_decide_eq_true (by kernel_rfl)) (by kernel_rfl) rfl (by kernel_rfl) (by kernel_rfl) Tryz.underlying3
theorem stp_drewN (w : World) (n : Nat) : Stp (fun _ => False) w (w.drewN n) := (Stp.refl _ _).drewN n

theorem cutB (s : ByteArray) (c : UInt8) (w : World) (hs : s.size < 4294967281) (hm : MaxL w) :
    Calls Tryz.prog 74 #[.string s, .string ⟨#[c]⟩] w fun e w' => e = .returned (.tuple #[.string (strB (cutC c s.data.toList).1), .string (strB (cutC c s.data.toList).2.1), .bool (cutC c s.data.toList).2.2]) ∧ Stp (fun _ => False) w w' := by
  obtain ⟨m, hm⟩ := hm
  refine (Tryz.strings_Cut s ⟨#[c]⟩ m w hs hm).mono fun e w' ⟨h1, n, h2⟩ => ⟨?_, h2 ▸ stp_drewN w n⟩
  rw [h1]
  rw [show (⟨#[c]⟩ : ByteArray).data.toList = [c] from rfl, cut_one]
  rfl

theorem results_row_tmp {P : Program} {fn : Func} {p u : Tmp} {ty : TypeId} (h : fn.results = #[.cell p ty, .tmp u]) (tmps : Array Value) (w : World) (g : Nat) (t : TypeId) (cs : Array Value) (fr : Nat × Nat) (d : TypeDesc)
    (hp : tmps.getD p undef = .pointer (some ⟨g, 0, none⟩)) (hg : w.heap[g]? = some (.cells cs t fr))
    (hu : P.underlying ty = some d) (hd : (match d with | .struct _ | .array _ _ => true | _ => false) = true) (hi : (P.info? ty).map (·.size) = some cs.size) :
    (results fn tmps).run P w = .ok (.tuple #[.agg cs, tmps.getD u undef]) w := by
  rw [results_cell_tmp h, hp]
  simp [asAddr, Result.andThen, run_loadVar_row w g t ty cs fr d hg hu hd hi]


set_option maxRecDepth 100000 in
set_option maxHeartbeats 4000000 in
theorem fparse_any (s : ByteArray) (w : World) (hs : s.size < 4294967281) (hm : MaxL w) :
    Calls Tryz.prog 97 #[.string s] w fun e w' => e = .returned (.tuple #[.agg #[.string (strB (parseF s.data.toList).1), .string (strB (parseF s.data.toList).2.1)], .int .i64 (parseF s.data.toList).2.2]) ∧ Stp (fun _ => False) w w' := by
  have hcut := fun W hW => cutB s 58 W hs hW
  obtain ⟨a, ha⟩ : ∃ a, a = (cutC 58 s.data.toList).1 := ⟨_, rfl⟩
  obtain ⟨b, hb⟩ : ∃ b, b = (cutC 58 s.data.toList).2.1 := ⟨_, rfl⟩
  obtain ⟨q, hq⟩ : ∃ q, q = (cutC 58 s.data.toList).2.2 := ⟨_, rfl⟩
  have hpf : parseF s.data.toList = if q = true ∧ allS tokR a = true then (if anyS strR b = true then ([], [], 3) else (lowS a, trimS b, 0)) else ([], [], 9) := by
    rw [ha, hb, hq]
    rfl
  rw [← ha, ← hb, ← hq] at hcut
  obtain ⟨r1, r2, r3, hr⟩ : ∃ r1 r2 r3, parseF s.data.toList = (r1, r2, r3) := ⟨_, _, _, rfl⟩
  rw [hr] at hpf ⊢
  have HM := Lib.hid hm
  have hla : (strB a).size ≤ 9223372036854775807 := by
    rw [sB_size, ha]
    have := (cutC_len 58 s.data.toList).1
    rw [size_list] at this
    omega
  have hlb : (strB b).size ≤ 9223372036854775807 := by
    rw [sB_size, hb]
    have := (cutC_len 58 s.data.toList).2
    rw [size_list] at this
    omega
  have ct := fun W => token_any (strB a) W hla
  have cl := fun W => lower_any (strB a) W hla
  have cm := fun W => trim_any (strB b) W hlb
  have cs := fun W => anyStrange (strB b) W
  rw [sB_data] at ct cl cm cs
  obtain ⟨A, hA⟩ : ∃ A, A = strB a := ⟨_, rfl⟩
  obtain ⟨B, hB⟩ : ∃ B, B = strB b := ⟨_, rfl⟩
  rw [← hA] at ct cl hcut
  rw [← hB] at cm cs hcut
  clear ha hb hq hr hm hla hlb hA hB
  rcases (by cases q <;> cases h : allS tokR a <;> simp : (q = false) ∨ (q = true ∧ allS tokR a = false) ∨ (q = true ∧ allS tokR a = true)) with rfl | ⟨rfl, htok⟩ | ⟨rfl, htok⟩
  · rw [if_neg (by simp)] at hpf
    obtain ⟨rfl, h2⟩ := Prod.mk.inj hpf
    obtain ⟨rfl, rfl⟩ := Prod.mk.inj h2
    clear hpf h2
    go_enter Tryz.func97, Tryz.ntmps97
    go_wp2_with (go_at_call 74; refine stopc ?_)
    refine Stop.go ?_
    refine (hcut _ (HM.out.step ((Stp.refl _ _).alloc _))).mono ?_
    rintro e w1 ⟨rfl, hs1⟩
    have HS1 := Lib.hid hs1
    clear hs1
    have hb0 := heap_alloc_new w (.cells #[.string ⟨#[]⟩, .string ⟨#[]⟩] 46)
    have hb2 := HS1.out.blk hb0 (fun h => h)
    have hc0 := blk_cell (j := 0) hb2
    have hc1 := blk_cell (j := 1) hb2
    have hf0 := blk_free hb2 0
    have hf1 := blk_free hb2 1
    have HB2 := Lib.hid hb2
    clear hb0 hb2
    go_wp2
    try simp only [Exit.inBlock, Exit.then]
    refine bodyPost_ret (results_row_tmp rfl _ _ w.heap.size _ _ _ _ rfl (blk_set (blk_set HB2.out 0 _) 1 _) Tryz.underlying46 rfl (by kernel_rfl)) rfl ⟨by rfl, ?_⟩
    exact ((Stp.refl (fun _ => False) w).alloc _).new (((HS1.out.to (S := fun k => k = w.heap.size)).setg 0 _).setg 1 _) (Nat.le_refl _)
  · rw [if_neg (by rw [htok]; simp)] at hpf
    rw [htok] at ct
    obtain ⟨rfl, h2⟩ := Prod.mk.inj hpf
    obtain ⟨rfl, rfl⟩ := Prod.mk.inj h2
    clear hpf h2 htok
    go_enter Tryz.func97, Tryz.ntmps97
    go_wp2_with (go_at_call 74; refine stopc ?_)
    refine Stop.go ?_
    refine (hcut _ (HM.out.step ((Stp.refl _ _).alloc _))).mono ?_
    rintro e w1 ⟨rfl, hs1⟩
    have HS1 := Lib.hid hs1
    clear hs1
    go_wp2_with (go_at_call 27; refine stopc ?_)
    refine Stop.go ?_
    refine (ct _).mono ?_
    rintro e w2 ⟨rfl, hs2⟩
    have HS2 := Lib.hid (HS1.out.trans hs2)
    clear hs2
    have hb0 := heap_alloc_new w (.cells #[.string ⟨#[]⟩, .string ⟨#[]⟩] 46)
    have hb2 := HS2.out.blk hb0 (fun h => h)
    have hc0 := blk_cell (j := 0) hb2
    have hc1 := blk_cell (j := 1) hb2
    have hf0 := blk_free hb2 0
    have hf1 := blk_free hb2 1
    have HB2 := Lib.hid hb2
    clear hb0 hb2
    go_wp2
    try simp only [Exit.inBlock, Exit.then]
    refine bodyPost_ret (results_row_tmp rfl _ _ w.heap.size _ _ _ _ rfl (blk_set (blk_set HB2.out 0 _) 1 _) Tryz.underlying46 rfl (by kernel_rfl)) rfl ⟨by rfl, ?_⟩
    exact ((Stp.refl (fun _ => False) w).alloc _).new (((HS2.out.to (S := fun k => k = w.heap.size)).setg 0 _).setg 1 _) (Nat.le_refl _)
  · rw [if_pos ⟨rfl, htok⟩] at hpf
    rw [htok] at ct
    clear htok
    cases hst : anyS strR b with
    | true =>
      rw [hst, if_pos rfl] at hpf
      rw [hst] at cs
      obtain ⟨rfl, h2⟩ := Prod.mk.inj hpf
      obtain ⟨rfl, rfl⟩ := Prod.mk.inj h2
      clear hpf h2 hst
      go_enter Tryz.func97, Tryz.ntmps97
      go_wp2_with (go_at_call 74; refine stopc ?_)
      refine Stop.go ?_
      refine (hcut _ (HM.out.step ((Stp.refl _ _).alloc _))).mono ?_
      rintro e w1 ⟨rfl, hs1⟩
      have HS1 := Lib.hid hs1
      clear hs1
      go_wp2_with (go_at_call 27; refine stopc ?_)
      refine Stop.go ?_
      refine (ct _).mono ?_
      rintro e w2 ⟨rfl, hs2⟩
      have HS2 := Lib.hid (HS1.out.trans hs2)
      clear hs2
      go_wp2_with (go_at_call 29; refine stopc ?_)
      refine Stop.go ?_
      refine (cs _).mono ?_
      rintro e w3 ⟨rfl, hs3⟩
      have HS3 := Lib.hid (HS2.out.trans hs3)
      clear hs3
      have hb0 := heap_alloc_new w (.cells #[.string ⟨#[]⟩, .string ⟨#[]⟩] 46)
      have hb2 := HS3.out.blk hb0 (fun h => h)
      have hc0 := blk_cell (j := 0) hb2
      have hc1 := blk_cell (j := 1) hb2
      have hf0 := blk_free hb2 0
      have hf1 := blk_free hb2 1
      have HB2 := Lib.hid hb2
      clear hb0 hb2
      go_wp2
      try simp only [Exit.inBlock, Exit.then]
      refine bodyPost_ret (results_row_tmp rfl _ _ w.heap.size _ _ _ _ rfl (blk_set (blk_set HB2.out 0 _) 1 _) Tryz.underlying46 rfl (by kernel_rfl)) rfl ⟨by rfl, ?_⟩
      exact ((Stp.refl (fun _ => False) w).alloc _).new (((HS3.out.to (S := fun k => k = w.heap.size)).setg 0 _).setg 1 _) (Nat.le_refl _)
    | false =>
      rw [hst, if_neg (by decide)] at hpf
      rw [hst] at cs
      obtain ⟨rfl, h2⟩ := Prod.mk.inj hpf
      obtain ⟨rfl, rfl⟩ := Prod.mk.inj h2
      clear hpf h2 hst
      go_enter Tryz.func97, Tryz.ntmps97
      go_wp2_with (go_at_call 74; refine stopc ?_)
      refine Stop.go ?_
      refine (hcut _ (HM.out.step ((Stp.refl _ _).alloc _))).mono ?_
      rintro e w1 ⟨rfl, hs1⟩
      have HS1 := Lib.hid hs1
      clear hs1
      go_wp2_with (go_at_call 27; refine stopc ?_)
      refine Stop.go ?_
      refine (ct _).mono ?_
      rintro e w2 ⟨rfl, hs2⟩
      have HS2 := Lib.hid (HS1.out.trans hs2)
      clear hs2
      go_wp2_with (go_at_call 29; refine stopc ?_)
      refine Stop.go ?_
      refine (cs _).mono ?_
      rintro e w3 ⟨rfl, hs3⟩
      have HS3 := Lib.hid (HS2.out.trans hs3)
      clear hs3
      go_wp2_with (go_at_call 28; refine stopc ?_)
      refine Stop.go ?_
      refine (cl _).mono ?_
      rintro e w4 ⟨rfl, hs4⟩
      have HS4 := Lib.hid (HS3.out.trans hs4)
      clear hs4
      go_wp2_with (go_at_call 31; refine stopc ?_)
      refine Stop.go ?_
      refine (cm _).mono ?_
      rintro e w5 ⟨rfl, hs5⟩
      have HS5 := Lib.hid (HS4.out.trans hs5)
      clear hs5
      have hb0 := heap_alloc_new w (.cells #[.string ⟨#[]⟩, .string ⟨#[]⟩] 46)
      have hb2 := HS5.out.blk hb0 (fun h => h)
      have hc0 := blk_cell (j := 0) hb2
      have hc1 := blk_cell (j := 1) hb2
      have hf0 := blk_free hb2 0
      have hf1 := blk_free hb2 1
      have HB2 := Lib.hid hb2
      clear hb0 hb2
      go_wp2
      try simp only [Exit.inBlock, Exit.then]
      refine bodyPost_ret (results_row_tmp rfl _ _ w.heap.size _ _ _ _ rfl (blk_set (blk_set HB2.out 0 _) 1 _) Tryz.underlying46 rfl (by kernel_rfl)) rfl ⟨by rfl, ?_⟩
      exact ((Stp.refl (fun _ => False) w).alloc _).new (((HS5.out.to (S := fun k => k = w.heap.size)).setg 0 _).setg 1 _) (Nat.le_refl _)
end Go.Proofs.YtgjmaifgkgejgaaGreatDoor.L
