/- Layer 12: the reference's parser; what is printed. -/
import Derived.Test.YtgjmaifgkgejgaaGreatDoorAz
import Derived.Test.YtgjmaifgkgejgaaGreatDoorFa
import Derived.IntWalk
set_option linter.unusedVariables false
set_option linter.unusedSimpArgs false
namespace Go.Proofs.YtgjmaifgkgejgaaGreatDoor.L
open Go.RowKit Go.Proofs

theorem anyS_true {p : Nat → Bool} {s : ByteArray} {k : Nat} (hk : k < s.size) (h : p (s[k]).toNat = true) : anyS p s.data.toList = true := by
  unfold anyS
  rw [List.any_eq_true]
  exact ⟨s[k], List.mem_of_getElem? (get_list s k hk), h⟩
theorem anyS_false {p : Nat → Bool} {s : ByteArray} (h : ∀ k (hk : k < s.size), p (s[k]).toNat = false) : anyS p s.data.toList = false := by
  unfold anyS
  rw [List.any_eq_false]
  intro c hc
  obtain ⟨k, hk, rfl⟩ := List.mem_iff_getElem.1 hc
  rw [size_list] at hk
  have h' : p (s.data.toList[k]).toNat = false := h k hk
  exact fun e => by rw [h'] at e; cases e
theorem strR_cases (n : Nat) : (n < 32 ∧ n = 9 ∧ strR n = false) ∨ (n < 32 ∧ ((n : Int) != 9) = true ∧ strR n = true) ∨ (¬ n < 32 ∧ ((n : Int) == 127) = true ∧ strR n = true) ∨ (¬ n < 32 ∧ ((n : Int) == 127) = false ∧ strR n = false) := by
  unfold strR
  by_cases h : n < 32
  · by_cases h9 : n = 9
    · subst h9
      exact .inl ⟨by omega, rfl, rfl⟩
    · exact .inr (.inl ⟨h, by simp; omega, by simp [h, h9]⟩)
  · by_cases h127 : n = 127
    · subst h127
      exact .inr (.inr (.inl ⟨by omega, rfl, rfl⟩))
    · exact .inr (.inr (.inr ⟨h, by simp; omega, by simp [h, h127]⟩))

set_option maxRecDepth 100000 in
set_option maxHeartbeats 4000000 in
theorem textR_any (s : ByteArray) (w : World) (hs : s.size ≤ 9223372036854775807) :
    Calls Tryz.prog 50 #[.string s] w fun e w' => e = .returned (.bool (!anyS strR s.data.toList)) ∧ Stp (fun _ => False) w w' := by
  obtain ⟨b, hb⟩ : ∃ b, b = !anyS strR s.data.toList := ⟨_, rfl⟩
  rw [← hb]
  have HB := Lib.hid hb
  clear hb
  go_enter Tryz.func50, Tryz.ntmps50
  go_wp2
  go_loopg [3] s.size (fun gf i wr => ∃ k : Nat, k + gf = s.size ∧ i = .int .i64 k ∧ (∀ j (hj : j < s.size), j < k → strR (s[j]).toNat = false) ∧ wr = w)
  case atStart => exact ⟨0, by omega, rfl, fun j hj h => absurd h (by omega), rfl⟩
  case round =>
    obtain ⟨k, hk, rfl, hall, rfl⟩ := hrel
    have HALL := Lib.hid hall
    clear hall
    by_cases hlt : k < s.size
    · obtain ⟨g', rfl⟩ : ∃ g', gk = g' + 1 := ⟨gk - 1, by omega⟩
      rcases strR_cases (s[k]).toNat with ⟨h1, h2, h3⟩ | ⟨h1, h2, h3⟩ | ⟨h1, h2, h3⟩ | ⟨h1, h2, h3⟩
      · have HSP := Lib.hid h3
        have e1 : (((s[k]).toNat : Int) != 9) = false := by rw [h2]; rfl
        have e2 : (((s[k]).toNat : Int) == 127) = false := by rw [h2]; rfl
        clear h2 h3
        go_wp2
        go_roundg g'
        case measure => omega
        case rel =>
          refine ⟨k + 1, by omega, by go_num, fun j hj hx => ?_, rfl⟩
          by_cases e : j = k
          · subst e
            exact HSP.out
          · exact HALL.out j hj (by omega)
      · have HSP := Lib.hid (anyS_true (p := strR) hlt h3)
        clear h3
        go_wp2
        go_ret
        exact ⟨ret_b (by rw [HB.out, HSP.out] <;> rfl), Stp.refl _ _⟩
      · have HSP := Lib.hid (anyS_true (p := strR) hlt h3)
        clear h3
        go_wp2
        go_ret
        exact ⟨ret_b (by rw [HB.out, HSP.out] <;> rfl), Stp.refl _ _⟩
      · have HSP := Lib.hid h3
        clear h3
        go_wp2
        go_roundg g'
        case measure => omega
        case rel =>
          refine ⟨k + 1, by omega, by go_num, fun j hj hx => ?_, rfl⟩
          by_cases e : j = k
          · subst e
            exact HSP.out
          · exact HALL.out j hj (by omega)
    · have HSP := Lib.hid (anyS_false (p := strR) (s := s) (fun j hj => HALL.out j hj (by omega)))
      go_wp2
      go_ret
      exact ⟨ret_b (by rw [HB.out, HSP.out] <;> rfl), Stp.refl _ _⟩

/-- A field, and what is wrong: as they are handed back. -/
def FieldV (r : List UInt8 × List UInt8 × Int) : Value := .tuple #[.agg #[.string (strB r.1), .string (strB r.2.1)], .int .i64 r.2.2]
def FBlk (g : Nat) (w : World) : Prop := ∃ a b : Value, w.heap[g]? = some (.cells #[a, b] 46 (0, 0))
theorem FBlk.step {g : Nat} {w w' : World} (h : FBlk g w) (hs : Stp (fun _ => False) w w') : FBlk g w' := by
  obtain ⟨a, b, h⟩ := h
  exact ⟨a, b, hs.blk h id⟩
theorem cut_no (c : UInt8) (s : ByteArray) (h : ∀ j (hj : j < s.size), s[j] ≠ c) : cutC c s.data.toList = (s.data.toList, [], false) :=
  cutC_no c _ fun hm => by
    obtain ⟨k, hk, he⟩ := List.mem_iff_getElem.1 hm
    rw [size_list] at hk
    exact h k hk he
theorem cut_at (c : UInt8) (s : ByteArray) (k : Nat) (hk : k < s.size) (h : ∀ j (hj : j < s.size), j < k → s[j] ≠ c) (hc : s[k] = c) : cutC c s.data.toList = (s.data.toList.take k, s.data.toList.drop (k + 1), true) := by
  have hl : k < s.data.toList.length := by rw [size_list]; exact hk
  have e : s.data.toList = s.data.toList.take k ++ c :: s.data.toList.drop (k + 1) := by
    conv => lhs; rw [← List.take_append_drop k s.data.toList]
    rw [List.drop_eq_getElem_cons hl]
    congr 2
  conv => lhs; rw [e]
  refine cutC_at c _ _ fun hm => ?_
  obtain ⟨j, hj⟩ := List.mem_iff_getElem?.1 hm
  rw [List.getElem?_take] at hj
  split at hj
  · have hjs : j < s.size := by omega
    rw [get_list s j hjs] at hj
    exact h j hjs ‹_› (Option.some.inj hj)
  · cases hj
theorem ext_upto (s : ByteArray) (k : Nat) : s.extract 0 k = strB (s.data.toList.take k) := by
  rw [extract_strB, List.drop_zero]
theorem ext_from (s : ByteArray) (k : Nat) : s.extract k s.size = strB (s.data.toList.drop k) := by
  rw [extract_strB, List.take_of_length_le (by rw [size_list]; exact Nat.le_refl _)]

set_option maxRecDepth 100000 in
set_option maxHeartbeats 8000000 in
theorem fparseR_any (s : ByteArray) (w : World) (hs : s.size < 4294967281) :
    Calls Tryz.prog 22 #[.string s] w fun e w' => e = .returned (FieldV (parseF s.data.toList)) ∧ Stp (fun _ => False) w w' := by
  obtain ⟨r, hr⟩ : ∃ r, r = parseF s.data.toList := ⟨_, rfl⟩
  rw [← hr]
  have HR := Lib.hid hr
  have hb0 := heap_alloc_new w (.cells #[.string ⟨#[]⟩, .string ⟨#[]⟩] 46)
  have HB0 := Lib.hid hb0
  have HS0 := Lib.hid ((Stp.refl (fun _ => False) w).alloc (.cells #[.string ⟨#[]⟩, .string ⟨#[]⟩] 46))
  clear hr hb0
  go_enter Tryz.func22, Tryz.ntmps22
  go_wp2
  generalize hw0 : w.alloc (.cells #[.string ⟨#[]⟩, .string ⟨#[]⟩] 46) = w0 at HB0 HS0 ⊢
  clear hw0
  go_loopg [4] s.size (fun gf i wr => ∃ k : Nat, k + gf = s.size ∧ i = .int .i64 k ∧ (∀ j (hj : j < s.size), j < k → s[j] ≠ 58) ∧ wr = w0)
  case atStart => exact ⟨0, by omega, rfl, fun j hj h => absurd h (by omega), rfl⟩
  case round =>
    obtain ⟨k, hk, rfl, hall, hw⟩ := hrel
    obtain rfl := hw.symm
    have HALL := Lib.hid hall
    clear hall hw
    by_cases hlt : k < s.size
    · have i58 : (((s[k]).toNat : Int) != 58) = !decide (s[k] = 58) := by
        have e58 : (58 : UInt8).toNat = 58 := rfl
        by_cases h : s[k] = 58
        · rw [h]; rfl
        · have : (s[k]).toNat ≠ 58 := fun e => h (UInt8.toNat_inj.1 (by rw [e, e58]))
          simp [h]
          omega
      by_cases h58 : s[k] = 58
      · rw [show decide (s[k] = 58) = true by simpa using h58] at i58
        have hcut := cut_at 58 s k hlt HALL.out h58
        obtain ⟨a, ha⟩ : ∃ a, a = s.data.toList.take k := ⟨_, rfl⟩
        obtain ⟨b, hb⟩ : ∃ b, b = s.data.toList.drop (k + 1) := ⟨_, rfl⟩
        have ha2 : s.extract 0 k = strB a := by rw [ext_upto, ha]
        have hb2 : s.extract (k + 1) s.size = strB b := by rw [ext_from, hb]
        have hla : a.length ≤ s.size := by rw [ha, List.length_take]; omega
        have hlb : b.length ≤ s.size := by rw [hb, List.length_drop, size_list]; omega
        have hr2 : r = if allS tokR a = true then (if anyS strR b = true then ([], [], 3) else (lowS a, trimS b, 0)) else ([], [], 9) := by
          rw [HR.out, parseF, hcut, ← ha, ← hb]
          simp
        have ct := fun W => tokenR_any (strB a) W (by rw [sB_size]; omega)
        have cs := fun W => textR_any (strB b) W (by rw [sB_size]; omega)
        have cl := fun W => lowerR_any (strB a) W (by rw [sB_size]; omega)
        have cm := fun W => trimR_any (strB b) W (by rw [sB_size]; omega)
        rw [sB_data] at ct cs cl cm
        rw [← ha2] at ct cl
        rw [← hb2] at cs cm
        have hne : ((k : Int) == (s.size : Int)) = false := by simp; omega
        clear hcut ha hb ha2 hb2 h58 hla hlb
        cases htok : allS tokR a with
        | false =>
          rw [htok] at ct hr2
          rw [if_neg (by decide)] at hr2
          have HR2 := Lib.hid hr2
          clear hr2 htok
          go_wp2_with (go_at_call 46; refine stopc ?_)
          refine Stop.go ?_
          refine (ct _).mono ?_
          rintro e w1 ⟨rfl, hs1⟩
          have HS1 := Lib.hid hs1
          have hb2 := hs1.blk HB0.out id
          have hc0 := blk_cell (j := 0) hb2
          have hc1 := blk_cell (j := 1) hb2
          have hf0 := blk_free hb2 0
          have hf1 := blk_free hb2 1
          have HB2 := Lib.hid hb2
          clear hb2 hs1
          go_wp2
          try simp only [Exit.inBlock, Exit.then]
          refine bodyPost_ret (results_row_tmp rfl _ _ w.heap.size _ _ _ _ rfl (blk_set (blk_set HB2.out 0 _) 1 _) Tryz.underlying46 rfl (by kernel_rfl)) rfl ⟨by rw [HR2.out]; rfl, ?_⟩
          exact HS0.out.new (((HS1.out.to (S := fun k => k = w.heap.size)).setg 0 _).setg 1 _) (Nat.le_refl _)
        | true =>
          rw [htok] at ct hr2
          rw [if_pos rfl] at hr2
          clear htok
          cases hst : anyS strR b with
          | true =>
            rw [hst] at cs hr2
            rw [if_pos rfl] at hr2
            have HR2 := Lib.hid hr2
            clear hr2 hst
            go_wp2_with (go_at_call 46; refine stopc ?_)
            refine Stop.go ?_
            refine (ct _).mono ?_
            rintro e w1 ⟨rfl, hs1⟩
            have HS1 := Lib.hid hs1
            clear hs1
            go_wp2_with (go_at_call 50; refine stopc ?_)
            refine Stop.go ?_
            refine (cs _).mono ?_
            rintro e w2 ⟨rfl, hs2⟩
            have HS2 := Lib.hid (HS1.out.trans hs2)
            clear hs2
            have hb2 := HS2.out.blk HB0.out id
            have hc0 := blk_cell (j := 0) hb2
            have hc1 := blk_cell (j := 1) hb2
            have hf0 := blk_free hb2 0
            have hf1 := blk_free hb2 1
            have HB2 := Lib.hid hb2
            clear hb2
            go_wp2
            try simp only [Exit.inBlock, Exit.then]
            refine bodyPost_ret (results_row_tmp rfl _ _ w.heap.size _ _ _ _ rfl (blk_set (blk_set HB2.out 0 _) 1 _) Tryz.underlying46 rfl (by kernel_rfl)) rfl ⟨by rw [HR2.out]; rfl, ?_⟩
            exact HS0.out.new (((HS2.out.to (S := fun k => k = w.heap.size)).setg 0 _).setg 1 _) (Nat.le_refl _)
          | false =>
            rw [hst] at cs hr2
            rw [if_neg (by decide)] at hr2
            have HR2 := Lib.hid hr2
            clear hr2 hst
            go_wp2_with (go_at_call 46; refine stopc ?_)
            refine Stop.go ?_
            refine (ct _).mono ?_
            rintro e w1 ⟨rfl, hs1⟩
            have HS1 := Lib.hid hs1
            clear hs1
            go_wp2_with (go_at_call 50; refine stopc ?_)
            refine Stop.go ?_
            refine (cs _).mono ?_
            rintro e w2 ⟨rfl, hs2⟩
            have HS2 := Lib.hid (HS1.out.trans hs2)
            clear hs2
            go_wp2_with fail
            have HT := Lib.hid (HS2.out.drew)
            have hle : k ≤ s.size := by omega
            have hle1 : k + 1 ≤ s.size := by omega
            have hle2 : (k : Int) ≤ (s.size : Int) := by omega
            have hle3 : (k : Int) + 1 ≤ (s.size : Int) := by omega
            have hle4 : (0 : Int) ≤ (k : Int) + 1 := by omega
            have hwr : IntKind.i64.wrap ((k : Int) + 1) = (k : Int) + 1 := IntWalk.i64_in _ (by omega)
            have htn : ((k : Int) + 1).toNat = k + 1 := by omega
            refine wp_region_held_drew (S := FBlk w.heap.size) (by kernel_rfl) (FBlk.step ⟨_, _, HB0.out⟩ HT.out) (fun hHeld => ?_)
            try (change wpAnyH _ _ _ _ _ _ _ _ (World.drew _))
            refine rg_take (i := 0) (o := { dst := some 40, op := Op.move (Operand.tmp 0), type := 9, pos := "ref.go:33", after := #[], guard := none }) (v := ?rgv1) rfl (by kernel_rfl) (by kernel_rfl) (by kernel_rfl) (fun _ _ _ h => h) (by rfl) (fun w hSw => ?rgy1) hHeld ?_
            case rgy1 => (try dsimp only at hSw); first | (go_simp; done) | (go_simp; with_reducible rfl)
            try simp only [Act.put, List.setIfInBounds_toArray, List.set_cons_zero, List.set_cons_succ]
            refine rg_take (i := 1) (o := { dst := some 41, op := Op.move (Operand.tmp 4), type := 3, pos := "ref.go:33", after := #[], guard := none }) (v := ?rgv2) rfl (by kernel_rfl) (by kernel_rfl) (by kernel_rfl) (fun _ _ _ h => h) (by rfl) (fun w hSw => ?rgy2) hHeld ?_
            case rgy2 => (try dsimp only at hSw); first | (go_simp; done) | (go_simp; with_reducible rfl)
            try simp only [Act.put, List.setIfInBounds_toArray, List.set_cons_zero, List.set_cons_succ]
            refine rg_take (i := 2) (o := { dst := some 42, op := Op.slice 9 (Operand.tmp 40) none (some (Operand.tmp 41)) none, type := 9, pos := "ref.go:33", after := #[{ on := 0, ground := Ground.data }, { on := 1, ground := Ground.data }], guard := none }) (v := ?rgv3) rfl (by kernel_rfl) (by kernel_rfl) (by kernel_rfl) (fun _ _ _ h => h) (by rfl) (fun w hSw => ?rgy3) hHeld ?_
            case rgy3 => (try dsimp only at hSw); first | (go_simp; done) | (go_simp; with_reducible rfl)
            try simp only [Act.put, List.setIfInBounds_toArray, List.set_cons_zero, List.set_cons_succ]
            refine rg_take (i := 4) (o := { dst := some 44, op := Op.move (Operand.tmp 0), type := 9, pos := "ref.go:33", after := #[], guard := none }) (v := ?rgv4) rfl (by kernel_rfl) (by kernel_rfl) (by kernel_rfl) (fun _ _ _ h => h) (by rfl) (fun w hSw => ?rgy4) hHeld ?_
            case rgy4 => (try dsimp only at hSw); first | (go_simp; done) | (go_simp; with_reducible rfl)
            try simp only [Act.put, List.setIfInBounds_toArray, List.set_cons_zero, List.set_cons_succ]
            refine rg_take (i := 5) (o := { dst := some 45, op := Op.move (Operand.tmp 4), type := 3, pos := "ref.go:33", after := #[], guard := none }) (v := ?rgv5) rfl (by kernel_rfl) (by kernel_rfl) (by kernel_rfl) (fun _ _ _ h => h) (by rfl) (fun w hSw => ?rgy5) hHeld ?_
            case rgy5 => (try dsimp only at hSw); first | (go_simp; done) | (go_simp; with_reducible rfl)
            try simp only [Act.put, List.setIfInBounds_toArray, List.set_cons_zero, List.set_cons_succ]
            refine rg_take (i := 6) (o := { dst := some 46, op := Op.binOp BinOp.add 3 (Operand.tmp 45) (Operand.const (Value.int IntKind.i64 1)) 3, type := 3, pos := "ref.go:33", after := #[{ on := 5, ground := Ground.data }], guard := none }) (v := ?rgv6) rfl (by kernel_rfl) (by kernel_rfl) (by kernel_rfl) (fun _ _ _ h => h) (by rfl) (fun w hSw => ?rgy6) hHeld ?_
            case rgy6 => (try dsimp only at hSw); first | (go_simp; done) | (go_simp; with_reducible rfl)
            try simp only [Act.put, List.setIfInBounds_toArray, List.set_cons_zero, List.set_cons_succ]
            refine rg_take (i := 7) (o := { dst := some 47, op := Op.slice 9 (Operand.tmp 44) (some (Operand.tmp 46)) none none, type := 9, pos := "ref.go:33", after := #[{ on := 4, ground := Ground.data }, { on := 6, ground := Ground.data }], guard := none }) (v := ?rgv7) rfl (by kernel_rfl) (by kernel_rfl) (by kernel_rfl) (fun _ _ _ h => h) (by rfl) (fun w hSw => ?rgy7) hHeld ?_
            case rgy7 => (try dsimp only at hSw); first | (go_simp; done) | (go_simp; with_reducible rfl)
            try simp only [Act.put, List.setIfInBounds_toArray, List.set_cons_zero, List.set_cons_succ]
            refine wpAnyH_ready (rs := [3]) (by kernel_rfl) (by simp) ?_
            refine (AllReadyH.cons (o := { dst := some 43, op := Op.call { callee := Callee.value (Operand.func 51), args := #[Operand.tmp 42], argTypes := #[9] }, type := 9, pos := "ref.go:33", after := #[{ on := 2, ground := Ground.data }], guard := none }) rfl (fun K hK => ?_) AllReadyH.nil)
            go_simp
            refine (cl _).mono ?_
            rintro e w3 ⟨rfl, hs3⟩
            replace HT := Lib.hid (HT.out.trans hs3)
            clear hs3
            show K _ _
            clear hHeld
            refine hK.out _ _ (FBlk.step ⟨_, _, HB0.out⟩ HT.out) (fun hHeld => ?_)
            clear hK K
            try simp only [Act.put, List.setIfInBounds_toArray, List.set_cons_zero, List.set_cons_succ]
            refine wpAnyH_ready (rs := [8]) (by kernel_rfl) (by simp) ?_
            refine (AllReadyH.cons (o := { dst := some 48, op := Op.call { callee := Callee.value (Operand.func 52), args := #[Operand.tmp 47], argTypes := #[9] }, type := 9, pos := "ref.go:33", after := #[{ on := 7, ground := Ground.data }, { on := 3, ground := Ground.chain }], guard := none }) rfl (fun K hK => ?_) AllReadyH.nil)
            go_simp
            refine (cm _).mono ?_
            rintro e w3 ⟨rfl, hw⟩
            obtain rfl := hw.symm
            clear hw
            show K _ _
            clear hHeld
            refine hK.out _ _ (FBlk.step ⟨_, _, HB0.out⟩ HT.out) (fun hHeld => ?_)
            clear hK K
            try simp only [Act.put, List.setIfInBounds_toArray, List.set_cons_zero, List.set_cons_succ]
            refine rg_take (i := 9) (o := { dst := some 49, op := Op.build 46 #[(0, Operand.tmp 43), (1, Operand.tmp 48)], type := 46, pos := "ref.go:33", after := #[{ on := 3, ground := Ground.data }, { on := 8, ground := Ground.data }], guard := none }) (v := ?rgv8) rfl (by kernel_rfl) (by kernel_rfl) (by kernel_rfl) (fun _ _ _ h => h) (by rfl) (fun w hSw => ?rgy8) hHeld ?_
            case rgy8 => (try dsimp only at hSw); first | (go_simp; done) | (go_simp; with_reducible rfl)
            try simp only [Act.put, List.setIfInBounds_toArray, List.set_cons_zero, List.set_cons_succ]
            refine wpAnyH_ready (rs := [10]) (by kernel_rfl) (by simp) ?_
            refine (AllReadyH.cons (o := { dst := none, op := Op.store 46 (Operand.tmp 2) (Operand.tmp 49), type := 0, pos := "ref.go:33", after := #[{ on := 9, ground := Ground.data }, { on := 8, ground := Ground.chain }, { on := 0, ground := Ground.phase }, { on := 1, ground := Ground.phase }, { on := 2, ground := Ground.phase }, { on := 3, ground := Ground.phase }, { on := 4, ground := Ground.phase }, { on := 5, ground := Ground.phase }, { on := 6, ground := Ground.phase }, { on := 7, ground := Ground.phase }, { on := 8, ground := Ground.phase }, { on := 9, ground := Ground.phase }], guard := none }) rfl (fun K hK => ?_) AllReadyH.nil)
            have hb2 := HT.out.blk HB0.out id
            have hc0 := blk_cell (j := 0) hb2
            have hc1 := blk_cell (j := 1) hb2
            have hf0 := blk_free hb2 0
            have hf1 := blk_free hb2 1
            have HB2 := Lib.hid hb2
            clear hb2
            go_simp
            clear hHeld
            refine hK.out _ _ (⟨_, _, blk_set (blk_set HB2.out 0 _) 1 _⟩) (fun hHeld => ?_)
            clear hK K
            try simp only [Act.put, List.setIfInBounds_toArray, List.set_cons_zero, List.set_cons_succ]
            refine rg_take (i := 11) (o := { dst := some 3, op := Op.assign (Operand.const (Value.int IntKind.i64 0)), type := 25, pos := "ref.go:33", after := #[{ on := 10, ground := Ground.chain }, { on := 0, ground := Ground.phase }, { on := 1, ground := Ground.phase }, { on := 2, ground := Ground.phase }, { on := 3, ground := Ground.phase }, { on := 4, ground := Ground.phase }, { on := 5, ground := Ground.phase }, { on := 6, ground := Ground.phase }, { on := 7, ground := Ground.phase }, { on := 8, ground := Ground.phase }, { on := 9, ground := Ground.phase }, { on := 10, ground := Ground.phase }], guard := none }) (v := ?rgv9) rfl (by kernel_rfl) (by kernel_rfl) (by kernel_rfl) (fun _ _ _ h => h) (by rfl) (fun w hSw => ?rgy9) hHeld ?_
            case rgy9 => (try dsimp only at hSw); first | (go_simp; done) | (go_simp; with_reducible rfl)
            try simp only [Act.put, List.setIfInBounds_toArray, List.set_cons_zero, List.set_cons_succ]
            clear hHeld
            refine wpAnyH_done (by kernel_rfl) ?_ _
            go_wp2
            try simp only [Exit.inBlock, Exit.then]
            refine bodyPost_ret (results_row_tmp rfl _ _ w.heap.size _ _ _ _ rfl (blk_set (blk_set HB2.out 0 _) 1 _) Tryz.underlying46 rfl (by kernel_rfl)) rfl ⟨by rw [HR2.out]; rfl, ?_⟩
            exact HS0.out.new (((HT.out.to (S := fun k => k = w.heap.size)).setg 0 _).setg 1 _) (Nat.le_refl _)
      · rw [show decide (s[k] = 58) = false by simpa using h58] at i58
        obtain ⟨g', rfl⟩ : ∃ g', gk = g' + 1 := ⟨gk - 1, by omega⟩
        have H58 := Lib.hid h58
        clear h58
        go_wp2
        go_roundg g'
        case measure => omega
        case rel =>
          refine ⟨k + 1, by omega, by go_num, fun j hj hx => ?_, rfl⟩
          by_cases e : j = k
          · subst e
            exact H58.out
          · exact HALL.out j hj (by omega)
    · have hcut := cut_no 58 s (fun j hj => HALL.out j hj (by omega))
      have hks : k = s.size := by omega
      have hr2 : r = ([], [], 9) := by
        rw [HR.out, parseF, hcut]
        simp
      have HR2 := Lib.hid hr2
      have ct := fun W => tokenR_any (s.extract 0 k) W (by simp; omega)
      have heq : ((k : Int) == (s.size : Int)) = true := by simp; omega
      clear hcut hr2 hks
      go_wp2_with (go_at_call 46; refine stopc ?_)
      refine Stop.go ?_
      refine (ct _).mono ?_
      rintro e w1 ⟨rfl, hs1⟩
      have HS1 := Lib.hid hs1
      have hb2 := hs1.blk HB0.out id
      have hc0 := blk_cell (j := 0) hb2
      have hc1 := blk_cell (j := 1) hb2
      have hf0 := blk_free hb2 0
      have hf1 := blk_free hb2 1
      have HB2 := Lib.hid hb2
      clear hb2 hs1
      go_wp2
      try simp only [Exit.inBlock, Exit.then]
      refine bodyPost_ret (results_row_tmp rfl _ _ w.heap.size _ _ _ _ rfl (blk_set (blk_set HB2.out 0 _) 1 _) Tryz.underlying46 rfl (by kernel_rfl)) rfl ⟨by rw [HR2.out]; rfl, ?_⟩
      exact HS0.out.new (((HS1.out.to (S := fun k => k = w.heap.size)).setg 0 _).setg 1 _) (Nat.le_refl _)
end Go.Proofs.YtgjmaifgkgejgaaGreatDoor.L
