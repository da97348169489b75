/- Layers 3, 13: the document's small functions. -/
import Derived.Test.YtdamgdmipfoalaaGreatDoorVi
import Derived.Test.YtdamgdmipfoalaaGreatDoorRx
set_option linter.unusedVariables false
set_option linter.unusedSimpArgs false
namespace Go.Proofs.YtdamgdmipfoalaaGreatDoor.L
open Go.RowKit Go.Proofs

theorem mem_of_at (s : ByteArray) (c : UInt8) (k : Nat) (hk : k < s.size) (h : s[k] = c) : c ∈ s.data.toList := by
  have := get_list s k hk
  rw [h] at this
  exact List.mem_of_getElem? this
theorem not_mem_of (s : ByteArray) (c : UInt8) (h : ∀ j (hj : j < s.size), s[j] ≠ c) : c ∉ s.data.toList := fun hm => by
  obtain ⟨j, hj⟩ := List.mem_iff_getElem?.1 hm
  have hjs : j < s.size := by
    have := (List.getElem?_eq_some_iff.1 hj).1
    rw [size_list] at this
    exact this
  rw [get_list s j hjs] at hj
  exact h j hjs (Option.some.inj hj)
theorem until_stop (s : ByteArray) (c : UInt8) (k : Nat) (hk : k ≤ s.size) (hall : ∀ j (hj : j < s.size), j < k → s[j] ≠ c) (he : k = s.size ∨ ∃ h : k < s.size, s[k] = c) : untilC c s.data.toList = (s.data.toList.take k, s.data.toList.drop k) := by
  have hno : c ∉ s.data.toList.take k := fun hm => by
    obtain ⟨j, hj⟩ := List.mem_iff_getElem?.1 hm
    have hjk : j < k := by
      have := (List.getElem?_eq_some_iff.1 hj).1
      rw [List.length_take] at this
      omega
    rw [List.getElem?_take, if_pos hjk, get_list s j (by omega)] at hj
    exact hall j (by omega) hjk (Option.some.inj hj)
  rcases he with rfl | ⟨h, e⟩
  · rw [List.take_of_length_le (by rw [size_list]; exact Nat.le_refl _)] at hno ⊢
    rw [List.drop_eq_nil_of_le (by rw [size_list]; exact Nat.le_refl _)]
    exact untilC_no c _ hno
  · have hd := drop_at s k h
    conv => lhs; rw [← List.take_append_drop k s.data.toList, hd, e]
    rw [untilC_at c _ _ hno, hd, e]

set_option maxRecDepth 100000 in
set_option maxHeartbeats 4000000 in
theorem hasR_any (s : ByteArray) (c : UInt8) (w : World) (hs : s.size ≤ 4294967296) : Calls Tryz.prog 19 #[.string s, .int .u8 (c.toNat : Int)] w fun e w' => e = .returned (.bool (decide (c ∈ s.data.toList))) ∧ w' = w := by
  obtain ⟨R, hR⟩ : ∃ R : Ending → World → Prop, R = fun e w' => e = .returned (.bool (decide (c ∈ s.data.toList))) ∧ w' = w := ⟨_, rfl⟩
  rw [← hR]
  have HR := Lib.hid hR
  clear hR
  go_enter Tryz.func19, Tryz.ntmps19
  go_wp2
  go_loopg [5] s.size (fun gf i wx => ∃ k : Nat, k + gf = s.size ∧ i = .int .i64 k ∧ (∀ j (hj : j < s.size), j < k → s[j] ≠ c) ∧ wx = w)
  case atStart => exact ⟨0, by omega, rfl, fun j hj h => absurd h (by omega), rfl⟩
  case round =>
    obtain ⟨k, hk, rfl, hall, rfl⟩ := hrel
    have HALL := Lib.hid hall
    clear hall
    by_cases hlt : k < s.size
    · by_cases hc : s[k] = c
      · have hb : (((s[k]).toNat : Int) == (c.toNat : Int)) = true := by rw [hc]; simp
        have HD : Hid (decide (c ∈ s.data.toList) = true) := Lib.hid (decide_eq_true (mem_of_at s c k hlt hc))
        clear hc
        go_wp2
        rw [HR.out, HD.out]
        exact ⟨rfl, rfl⟩
      · have hb : (((s[k]).toNat : Int) == (c.toNat : Int)) = false := by
          have : (s[k]).toNat ≠ c.toNat := fun e => hc (UInt8.toNat_inj.1 e)
          simp
          omega
        have HC := Lib.hid hc
        clear hc
        obtain ⟨g', rfl⟩ : ∃ g', gk = g' + 1 := ⟨gk - 1, by omega⟩
        have hw : IntKind.i64.wrap ((k : Int) + 1) = (k : Int) + 1 := IntWalk.i64_in _ (by omega)
        go_wp2
        go_roundg g'
        case measure => omega
        case rel =>
          refine ⟨k + 1, by omega, by go_num, fun j hj h1 => ?_, rfl⟩
          by_cases hjk : j = k
          · subst hjk
            exact HC.out
          · exact HALL.out j hj (by omega)
    · have HD : Hid (decide (c ∈ s.data.toList) = false) := Lib.hid (decide_eq_false (not_mem_of s c fun j hj => HALL.out j hj (by omega)))
      go_wp2
      rw [HR.out, HD.out]
      exact ⟨rfl, rfl⟩

set_option maxRecDepth 100000 in
set_option maxHeartbeats 4000000 in
theorem untilR_any (s : ByteArray) (c : UInt8) (w : World) (hs : s.size ≤ 4294967296) : Calls Tryz.prog 38 #[.string s, .int .u8 (c.toNat : Int)] w fun e w' => e = .returned (.tuple #[.string (strB (untilC c s.data.toList).1), .string (strB (untilC c s.data.toList).2)]) ∧ Stp (fun _ => False) w w' := by
  obtain ⟨R, hR⟩ : ∃ R : Ending → World → Prop, R = fun e w' => e = .returned (.tuple #[.string (strB (untilC c s.data.toList).1), .string (strB (untilC c s.data.toList).2)]) ∧ Stp (fun _ => False) w w' := ⟨_, rfl⟩
  rw [← hR]
  have HR := Lib.hid hR
  clear hR
  go_enter Tryz.func38, Tryz.ntmps38
  go_wp2
  go_loopg [6] s.size (fun gf i wx => ∃ k : Nat, k + gf = s.size ∧ i = .int .i64 k ∧ (∀ j (hj : j < s.size), j < k → s[j] ≠ c) ∧ wx = w)
  case atStart => exact ⟨0, by omega, rfl, fun j hj h => absurd h (by omega), rfl⟩
  case round =>
    obtain ⟨k, hk, rfl, hall, rfl⟩ := hrel
    have HALL := Lib.hid hall
    clear hall
    have hcont : (k < s.size ∧ True ∧ ∃ h : k < s.size, s[k] ≠ c) ∨ ((k = s.size ∨ ∃ h : k < s.size, s[k] = c)) := by
      by_cases h : k < s.size
      · by_cases hc : s[k] = c
        · exact Or.inr (Or.inr ⟨h, hc⟩)
        · exact Or.inl ⟨h, trivial, h, hc⟩
      · exact Or.inr (Or.inl (by omega))
    rcases hcont with ⟨hlt, -, hlt', hc⟩ | hex
    · have hb : (((s[k]).toNat : Int) != (c.toNat : Int)) = true := by
        have : (s[k]).toNat ≠ c.toNat := fun e => hc (UInt8.toNat_inj.1 e)
        simp
        omega
      have HC := Lib.hid hc
      have hd : decide ((k : Int) < (s.size : Int)) = true := decide_eq_true (by omega)
      clear hc
      obtain ⟨g', rfl⟩ : ∃ g', gk = g' + 1 := ⟨gk - 1, by omega⟩
      have hw : IntKind.i64.wrap ((k : Int) + 1) = (k : Int) + 1 := IntWalk.i64_in _ (by omega)
      go_wp2
      go_roundg g'
      case measure => omega
      case rel =>
        refine ⟨k + 1, by omega, by go_num, fun j hj h1 => ?_, rfl⟩
        by_cases hjk : j = k
        · subst hjk
          exact HC.out
        · exact HALL.out j hj (by omega)
    · have HU : Hid (untilC c s.data.toList = (s.data.toList.take k, s.data.toList.drop k)) := Lib.hid (until_stop s c k (by omega) HALL.out hex)
      have x1 : (0 : Int) ≤ (k : Int) := by omega
      have x2 : (k : Int) ≤ (s.size : Int) := by omega
      rcases hex with rfl | ⟨hlt, hc⟩
      · have hd : decide ((s.size : Int) < (s.size : Int)) = false := decide_eq_false (by omega)
        go_wp2
        refine wp_region_held_drew (S := (fun _ => True)) (by kernel_rfl) (trivial) (fun hHeld => ?_)
        try (change wpAnyH _ _ _ _ _ _ _ _ (World.drew _))
        refine rg_take (i := 0) (o := { dst := some 20, op := Op.move (Operand.tmp 0), type := 9, pos := "ref.go:28", after := #[], guard := none }) (v := ?rgv1) rfl (by kernel_rfl) (by kernel_rfl) (by kernel_rfl) (fun _ _ _ h => h) (by rfl) (fun w hSw => ?rgy1) hHeld ?_
        case rgy1 => (try dsimp only at hSw); first | (go_simp; done) | (go_simp; with_reducible rfl)
        try simp only [Act.put, List.setIfInBounds_toArray, List.set_cons_zero, List.set_cons_succ]
        refine rg_take (i := 1) (o := { dst := some 21, op := Op.move (Operand.tmp 6), type := 3, pos := "ref.go:28", after := #[], guard := none }) (v := ?rgv2) rfl (by kernel_rfl) (by kernel_rfl) (by kernel_rfl) (fun _ _ _ h => h) (by rfl) (fun w hSw => ?rgy2) hHeld ?_
        case rgy2 => (try dsimp only at hSw); first | (go_simp; done) | (go_simp; with_reducible rfl)
        try simp only [Act.put, List.setIfInBounds_toArray, List.set_cons_zero, List.set_cons_succ]
        refine rg_take (i := 2) (o := { dst := some 22, op := Op.slice 9 (Operand.tmp 20) none (some (Operand.tmp 21)) none, type := 9, pos := "ref.go:28", after := #[{ on := 0, ground := Ground.data }, { on := 1, ground := Ground.data }], guard := none }) (v := ?rgv3) rfl (by kernel_rfl) (by kernel_rfl) (by kernel_rfl) (fun _ _ _ h => h) (by rfl) (fun w hSw => ?rgy3) hHeld ?_
        case rgy3 => (try dsimp only at hSw); first | (go_simp; done) | (go_simp; with_reducible rfl)
        try simp only [Act.put, List.setIfInBounds_toArray, List.set_cons_zero, List.set_cons_succ]
        refine rg_take (i := 3) (o := { dst := some 23, op := Op.move (Operand.tmp 0), type := 9, pos := "ref.go:28", after := #[], guard := none }) (v := ?rgv4) rfl (by kernel_rfl) (by kernel_rfl) (by kernel_rfl) (fun _ _ _ h => h) (by rfl) (fun w hSw => ?rgy4) hHeld ?_
        case rgy4 => (try dsimp only at hSw); first | (go_simp; done) | (go_simp; with_reducible rfl)
        try simp only [Act.put, List.setIfInBounds_toArray, List.set_cons_zero, List.set_cons_succ]
        refine rg_take (i := 4) (o := { dst := some 24, op := Op.move (Operand.tmp 6), type := 3, pos := "ref.go:28", after := #[], guard := none }) (v := ?rgv5) rfl (by kernel_rfl) (by kernel_rfl) (by kernel_rfl) (fun _ _ _ h => h) (by rfl) (fun w hSw => ?rgy5) hHeld ?_
        case rgy5 => (try dsimp only at hSw); first | (go_simp; done) | (go_simp; with_reducible rfl)
        try simp only [Act.put, List.setIfInBounds_toArray, List.set_cons_zero, List.set_cons_succ]
        refine rg_take (i := 5) (o := { dst := some 25, op := Op.slice 9 (Operand.tmp 23) (some (Operand.tmp 24)) none none, type := 9, pos := "ref.go:28", after := #[{ on := 3, ground := Ground.data }, { on := 4, ground := Ground.data }], guard := none }) (v := ?rgv6) rfl (by kernel_rfl) (by kernel_rfl) (by kernel_rfl) (fun _ _ _ h => h) (by rfl) (fun w hSw => ?rgy6) hHeld ?_
        case rgy6 => (try dsimp only at hSw); first | (go_simp; done) | (go_simp; with_reducible rfl)
        try simp only [Act.put, List.setIfInBounds_toArray, List.set_cons_zero, List.set_cons_succ]
        refine rg_take (i := 6) (o := { dst := some 4, op := Op.assign (Operand.tmp 22), type := 9, pos := "ref.go:28", after := #[{ on := 2, ground := Ground.data }, { on := 0, ground := Ground.phase }, { on := 1, ground := Ground.phase }, { on := 2, ground := Ground.phase }, { on := 3, ground := Ground.textOnly Departure.lateStores }, { on := 4, ground := Ground.textOnly Departure.lateStores }, { on := 5, ground := Ground.textOnly Departure.lateStoresUnsure }], guard := none }) (v := ?rgv7) rfl (by kernel_rfl) (by kernel_rfl) (by kernel_rfl) (fun _ _ _ h => h) (by rfl) (fun w hSw => ?rgy7) hHeld ?_
        case rgy7 => (try dsimp only at hSw); first | (go_simp; done) | (go_simp; with_reducible rfl)
        try simp only [Act.put, List.setIfInBounds_toArray, List.set_cons_zero, List.set_cons_succ]
        refine rg_take (i := 7) (o := { dst := some 5, op := Op.assign (Operand.tmp 25), type := 9, pos := "ref.go:28", after := #[{ on := 5, ground := Ground.data }, { on := 6, ground := Ground.chain }, { on := 0, ground := Ground.phase }, { on := 1, ground := Ground.phase }, { on := 2, ground := Ground.phase }, { on := 3, ground := Ground.phase }, { on := 4, ground := Ground.phase }, { on := 5, ground := Ground.phase }, { on := 6, ground := Ground.phase }], guard := none }) (v := ?rgv8) rfl (by kernel_rfl) (by kernel_rfl) (by kernel_rfl) (fun _ _ _ h => h) (by rfl) (fun w hSw => ?rgy8) hHeld ?_
        case rgy8 => (try dsimp only at hSw); first | (go_simp; done) | (go_simp; with_reducible rfl)
        try simp only [Act.put, List.setIfInBounds_toArray, List.set_cons_zero, List.set_cons_succ]
        clear hHeld
        refine wpAnyH_done (by kernel_rfl) ?_ _
        skip
        go_wp2
        rw [HR.out, HU.out, List.take_of_length_le (by rw [size_list]; exact Nat.le_refl _), List.drop_eq_nil_of_le (by rw [size_list]; exact Nat.le_refl _), sB_self]
        exact ⟨rfl, (Stp.refl _ _).drew⟩
      · have hb : (((s[k]).toNat : Int) != (c.toNat : Int)) = false := by rw [hc]; simp
        have hd : decide ((k : Int) < (s.size : Int)) = true := decide_eq_true (by omega)
        clear hc
        go_wp2
        refine wp_region_held_drew (S := (fun _ => True)) (by kernel_rfl) (trivial) (fun hHeld => ?_)
        try (change wpAnyH _ _ _ _ _ _ _ _ (World.drew _))
        refine rg_take (i := 0) (o := { dst := some 20, op := Op.move (Operand.tmp 0), type := 9, pos := "ref.go:28", after := #[], guard := none }) (v := ?rgv9) rfl (by kernel_rfl) (by kernel_rfl) (by kernel_rfl) (fun _ _ _ h => h) (by rfl) (fun w hSw => ?rgy9) hHeld ?_
        case rgy9 => (try dsimp only at hSw); first | (go_simp; done) | (go_simp; with_reducible rfl)
        try simp only [Act.put, List.setIfInBounds_toArray, List.set_cons_zero, List.set_cons_succ]
        refine rg_take (i := 1) (o := { dst := some 21, op := Op.move (Operand.tmp 6), type := 3, pos := "ref.go:28", after := #[], guard := none }) (v := ?rgv10) rfl (by kernel_rfl) (by kernel_rfl) (by kernel_rfl) (fun _ _ _ h => h) (by rfl) (fun w hSw => ?rgy10) hHeld ?_
        case rgy10 => (try dsimp only at hSw); first | (go_simp; done) | (go_simp; with_reducible rfl)
        try simp only [Act.put, List.setIfInBounds_toArray, List.set_cons_zero, List.set_cons_succ]
        refine rg_take (i := 2) (o := { dst := some 22, op := Op.slice 9 (Operand.tmp 20) none (some (Operand.tmp 21)) none, type := 9, pos := "ref.go:28", after := #[{ on := 0, ground := Ground.data }, { on := 1, ground := Ground.data }], guard := none }) (v := ?rgv11) rfl (by kernel_rfl) (by kernel_rfl) (by kernel_rfl) (fun _ _ _ h => h) (by rfl) (fun w hSw => ?rgy11) hHeld ?_
        case rgy11 => (try dsimp only at hSw); first | (go_simp; done) | (go_simp; with_reducible rfl)
        try simp only [Act.put, List.setIfInBounds_toArray, List.set_cons_zero, List.set_cons_succ]
        refine rg_take (i := 3) (o := { dst := some 23, op := Op.move (Operand.tmp 0), type := 9, pos := "ref.go:28", after := #[], guard := none }) (v := ?rgv12) rfl (by kernel_rfl) (by kernel_rfl) (by kernel_rfl) (fun _ _ _ h => h) (by rfl) (fun w hSw => ?rgy12) hHeld ?_
        case rgy12 => (try dsimp only at hSw); first | (go_simp; done) | (go_simp; with_reducible rfl)
        try simp only [Act.put, List.setIfInBounds_toArray, List.set_cons_zero, List.set_cons_succ]
        refine rg_take (i := 4) (o := { dst := some 24, op := Op.move (Operand.tmp 6), type := 3, pos := "ref.go:28", after := #[], guard := none }) (v := ?rgv13) rfl (by kernel_rfl) (by kernel_rfl) (by kernel_rfl) (fun _ _ _ h => h) (by rfl) (fun w hSw => ?rgy13) hHeld ?_
        case rgy13 => (try dsimp only at hSw); first | (go_simp; done) | (go_simp; with_reducible rfl)
        try simp only [Act.put, List.setIfInBounds_toArray, List.set_cons_zero, List.set_cons_succ]
        refine rg_take (i := 5) (o := { dst := some 25, op := Op.slice 9 (Operand.tmp 23) (some (Operand.tmp 24)) none none, type := 9, pos := "ref.go:28", after := #[{ on := 3, ground := Ground.data }, { on := 4, ground := Ground.data }], guard := none }) (v := ?rgv14) rfl (by kernel_rfl) (by kernel_rfl) (by kernel_rfl) (fun _ _ _ h => h) (by rfl) (fun w hSw => ?rgy14) hHeld ?_
        case rgy14 => (try dsimp only at hSw); first | (go_simp; done) | (go_simp; with_reducible rfl)
        try simp only [Act.put, List.setIfInBounds_toArray, List.set_cons_zero, List.set_cons_succ]
        refine rg_take (i := 6) (o := { dst := some 4, op := Op.assign (Operand.tmp 22), type := 9, pos := "ref.go:28", after := #[{ on := 2, ground := Ground.data }, { on := 0, ground := Ground.phase }, { on := 1, ground := Ground.phase }, { on := 2, ground := Ground.phase }, { on := 3, ground := Ground.textOnly Departure.lateStores }, { on := 4, ground := Ground.textOnly Departure.lateStores }, { on := 5, ground := Ground.textOnly Departure.lateStoresUnsure }], guard := none }) (v := ?rgv15) rfl (by kernel_rfl) (by kernel_rfl) (by kernel_rfl) (fun _ _ _ h => h) (by rfl) (fun w hSw => ?rgy15) hHeld ?_
        case rgy15 => (try dsimp only at hSw); first | (go_simp; done) | (go_simp; with_reducible rfl)
        try simp only [Act.put, List.setIfInBounds_toArray, List.set_cons_zero, List.set_cons_succ]
        refine rg_take (i := 7) (o := { dst := some 5, op := Op.assign (Operand.tmp 25), type := 9, pos := "ref.go:28", after := #[{ on := 5, ground := Ground.data }, { on := 6, ground := Ground.chain }, { on := 0, ground := Ground.phase }, { on := 1, ground := Ground.phase }, { on := 2, ground := Ground.phase }, { on := 3, ground := Ground.phase }, { on := 4, ground := Ground.phase }, { on := 5, ground := Ground.phase }, { on := 6, ground := Ground.phase }], guard := none }) (v := ?rgv16) rfl (by kernel_rfl) (by kernel_rfl) (by kernel_rfl) (fun _ _ _ h => h) (by rfl) (fun w hSw => ?rgy16) hHeld ?_
        case rgy16 => (try dsimp only at hSw); first | (go_simp; done) | (go_simp; with_reducible rfl)
        try simp only [Act.put, List.setIfInBounds_toArray, List.set_cons_zero, List.set_cons_succ]
        clear hHeld
        refine wpAnyH_done (by kernel_rfl) ?_ _
        skip
        go_wp2
        rw [HR.out, HU.out]
        exact ⟨by rw [← ext_upto, ← ext_from]; rfl, (Stp.refl _ _).drew⟩

theorem hex16_all : ∀ d : Fin 16, ((⟨#[48, 49, 50, 51, 52, 53, 54, 55, 56, 57, 97, 98, 99, 100, 101, 102]⟩ : ByteArray).extract d.1 (d.1 + 1)).data.toList = [hxC d.1] := by decide
theorem hex16_at (n : Nat) (h : n < 16) : (⟨#[48, 49, 50, 51, 52, 53, 54, 55, 56, 57, 97, 98, 99, 100, 101, 102]⟩ : ByteArray).extract n (n + 1) = strB [hxC n] := by
  have := hex16_all ⟨n, h⟩
  rw [← sB_self (ByteArray.extract _ _ _), this]

set_option maxRecDepth 100000 in
set_option maxHeartbeats 4000000 in
theorem hexRT_any (n : Nat) (w : World) (h : n < 65536) :
    Calls Tryz.prog 65 #[.int .i64 (n : Int)] w fun e w' => e = .returned (.string (strB (hxT n))) ∧ w' = w := by
  induction n using Nat.strongRecOn generalizing w with
  | ind n ih =>
    obtain ⟨R, hR⟩ : ∃ R : ByteArray, R = strB (hxT n) := ⟨_, rfl⟩
    rw [← hR]
    by_cases h16 : n < 16
    · have HR := Lib.hid (show R = (⟨#[48, 49, 50, 51, 52, 53, 54, 55, 56, 57, 97, 98, 99, 100, 101, 102]⟩ : ByteArray).extract n (n + 1) by rw [hR, hex16_at n h16, hxT, dif_pos h16])
      clear hR ih
      go_enter Tryz.func65, Tryz.ntmps65
      go_wp2
      go_ret
      exact ⟨ret_s HR.out.symm, rfl⟩
    · have i1 := fun W => ih (n / 16) (by omega) W (by omega)
      have i2 := fun W => ih (n % 16) (by omega) W (by omega)
      have HR := Lib.hid (show R = strB (hxT (n / 16)) ++ strB (hxT (n % 16)) by
        rw [hR, strB_append, show hxT (n % 16) = [hxC (n % 16)] by rw [hxT, dif_pos (by omega)]]
        conv => lhs; rw [hxT, dif_neg h16])
      obtain ⟨x, hx⟩ : ∃ x, x = strB (hxT (n / 16)) := ⟨_, rfl⟩
      obtain ⟨y, hy⟩ : ∃ y, y = strB (hxT (n % 16)) := ⟨_, rfl⟩
      rw [← hx] at i1 HR
      rw [← hy] at i2 HR
      have hxs : x.size ≤ 20 := by rw [hx, strB_size]; have := hxT_len (n / 16) 3 (by omega); omega
      have hys : y.size ≤ 20 := by rw [hy, strB_size]; have := hxT_len (n % 16) 3 (by omega); omega
      clear hR ih hx hy
      have e1 : ((n : Int) / 16) = ((n / 16 : Nat) : Int) := by omega
      have e2 : ((n : Int) % 16) = ((n % 16 : Nat) : Int) := by omega
      rw [← e1] at i1
      rw [← e2] at i2
      clear e1 e2
      go_enter Tryz.func65, Tryz.ntmps65
      go_wp2_with (go_at_call 65; refine stopc ?_)
      refine Stop.go ?_
      refine (i1 _).mono ?_
      rintro e w1 ⟨rfl, rfl⟩
      go_wp2_with (go_at_call 65; refine stopc ?_)
      refine Stop.go ?_
      refine (i2 _).mono ?_
      rintro e w2 ⟨rfl, rfl⟩
      go_wp2
      go_ret
      exact ⟨ret_s HR.out.symm, rfl⟩
end Go.Proofs.YtdamgdmipfoalaaGreatDoor.L
