/- Texts of the proof, joined: Vf Vi Eb. -/
import Derived.Test.YtligofmhbbgalaaGreatDoorG12
import Derived.Test.YtligofmhbbgalaaGreatDoorG13
import Derived.Test.YtligofmhbbgalaaGreatDoorG10
import Derived.Test.YtligofmhbbgalaaGreatDoorG09
import Derived.Test.YtligofmhbbgalaaGreatDoorG03
import Derived.Deep.MidRow
set_option linter.unusedVariables false
set_option linter.unusedSimpArgs false
/- Layer 3: an address as a text: the longest row of zeros, groups, joined. -/
namespace Go.Proofs.YtligofmhbbgalaaGreatDoor.L
open Go.RowKit Go.Proofs

/-- A block of numbers. -/
def encN (n : Nat) : Value := .int .u16 (n : Int)
def cellsN (l : List Nat) : Array Value := (l.map encN).toArray
theorem blkN_cell {g : Nat} {ty : TypeId} {l : List Nat} {w : World} (h : w.heap[g]? = some (.cells (cellsN l) ty (0, 0))) (j : Nat) (hj : j < l.length) : w.cell? ⟨g, j, none⟩ = some (encN l[j]) := by
  rw [blk_cell h]
  simp [cellsN, hj]
theorem zrun_drop (l : List Nat) (k : Nat) (hk : k < l.length) : (l[k] = 0 → zrun (l.drop k) = zrun (l.drop (k + 1)) + 1) ∧ (l[k] ≠ 0 → zrun (l.drop k) = 0) := by
  rw [List.drop_eq_getElem_cons hk]
  refine ⟨fun h => by rw [h, zrun], fun h => ?_⟩
  obtain ⟨m, hm⟩ : ∃ m, l[k] = m + 1 := ⟨l[k] - 1, by omega⟩
  rw [hm]
  rfl

set_option maxRecDepth 100000 in
set_option maxHeartbeats 8000000 in
theorem row_any (l : List Nat) (hl : l.length = 8) (w : World) :
    Calls Tryz.prog 74 #[.agg (cellsN l)] w fun e w' => e = .returned (.tuple #[.int .i64 ((rowS l).1 : Int), .int .i64 ((rowS l).2 : Int)]) ∧ Stp (fun _ => False) w w' := by
  obtain ⟨R, hR⟩ : ∃ R : Ending → World → Prop, R = fun e w' => e = .returned (.tuple #[.int .i64 ((rowS l).1 : Int), .int .i64 ((rowS l).2 : Int)]) ∧ Stp (fun _ => False) w w' := ⟨_, rfl⟩
  rw [← hR]
  have HR := Lib.hid hR
  have HL := Lib.hid hl
  clear hR hl
  go_enter Tryz.func74, Tryz.ntmps74
  go_wp2
  refine wp_gen (fun W => W.heap[w.heap.size]? = some (.cells (cellsN l) 118 (0, 0)) ∧ Stp (fun _ => False) w W) ⟨heap_alloc_new _ _, (Stp.refl _ w).alloc _⟩ ?_
  rintro W1 ⟨hb, hs⟩
  have HB := Lib.hid hb
  have HS := Lib.hid hs
  clear hb hs
  go_loopg [4, 5, 6] 8 (fun gf vf vn i wx => ∃ (k f n : Nat), k + gf = 8 ∧ i = .int .i64 k ∧ vf = .int .i64 f ∧ vn = .int .i64 n ∧ rowS l = rowA k f n (l.drop k) ∧ n ≤ 8 ∧ f ≤ 8 ∧ wx = W1)
  case atStart => exact ⟨0, 8, 1, rfl, rfl, rfl, rfl, rfl, by omega, by omega, rfl⟩
  case round =>
    obtain ⟨k, f, n, hk, rfl, rfl, rfl, hr, hn8, hf8, rfl⟩ := hrel
    have HRW := Lib.hid hr
    clear hr
    have w1 : IntKind.i64.wrap ((k : Int) + 1) = (k : Int) + 1 := IntWalk.i64_in _ (by omega)
    by_cases hlt : k < 8
    · obtain ⟨gk', rfl⟩ : ∃ gk', gk = gk' + 1 := ⟨gk - 1, by omega⟩
      have hkk : decide ((k : Int) < 8) = true := decide_eq_true (by omega)
      go_wp2
      go_loopg [7] (8 - k) (fun gf i wx => ∃ (e : Nat), e + gf = 8 ∧ k ≤ e ∧ i = .int .i64 e ∧ zrun (l.drop k) = (e - k) + zrun (l.drop e) ∧ wx = wr)
      case atStart => exact ⟨k, by omega, Nat.le_refl _, rfl, by omega, rfl⟩
      case round =>
        obtain ⟨e, he, hke, rfl, hz, rfl⟩ := hrel
        have HZR := Lib.hid hz
        clear hz
        have hl8 := HL.out
        have hkl : k < l.length := by omega
        have we1 : IntKind.i64.wrap ((e : Int) + 1) = (e : Int) + 1 := IntWalk.i64_in _ (by omega)
        by_cases he8 : e < 8
        · have hel : e < l.length := by omega
          have he1 : decide ((e : Int) < 8) = true := decide_eq_true (by omega)
          have he2 : (e : Int) < 8 := by omega
          have hc : wr.cell? ⟨w.heap.size, e, none⟩ = some (.int .u16 (l[e] : Int)) := blkN_cell HB.out e hel
          have hzd := zrun_drop l e hel
          by_cases h0 : l[e] = 0
          · have h0' : ((l[e] : Int) == 0) = true := by rw [h0]; rfl
            have HN : Hid (zrun (l.drop k) = (e + 1 - k) + zrun (l.drop (e + 1))) := Lib.hid (by rw [HZR.out, hzd.1 h0]; omega)
            clear hzd h0
            obtain ⟨gi, rfl⟩ : ∃ g, gk = g + 1 := ⟨gk - 1, by omega⟩
            go_wp2
            go_roundg gi
            case measure => omega
            case rel => exact ⟨e + 1, by omega, by omega, by go_num, HN.out, rfl⟩
          · have h0' : ((l[e] : Int) == 0) = false := by simp; omega
            have hz : zrun (l.drop k) = e - k := by rw [HZR.out, hzd.2 h0]; omega
            have HZ := Lib.hid hz
            have hsub : IntKind.i64.wrap ((e : Int) - (k : Int)) = (e : Int) - (k : Int) := IntWalk.i64_in _ (by omega)
            have HRA : Hid (rowS l = if n < e - k then rowA (k + 1) k (e - k) (l.drop (k + 1)) else rowA (k + 1) f n (l.drop (k + 1))) := Lib.hid (by
              rw [HRW.out, List.drop_eq_getElem_cons hkl, rowA, ← List.drop_eq_getElem_cons hkl, hz])
            clear hz
            by_cases hnz : n < e - k
            · have hgt : decide ((n : Int) < (e : Int) - (k : Int)) = true := decide_eq_true (by omega)
              go_wp2
              go_roundg gk'
              case measure => omega
              case rel => exact ⟨k + 1, k, e - k, by omega, by go_num, rfl, by go_num, by rw [HRA.out, if_pos hnz], by omega, by omega, rfl⟩
            · have hgt : decide ((n : Int) < (e : Int) - (k : Int)) = false := decide_eq_false (by omega)
              go_wp2
              go_roundg gk'
              case measure => omega
              case rel => exact ⟨k + 1, f, n, by omega, by go_num, rfl, rfl, by rw [HRA.out, if_neg hnz], by omega, by omega, rfl⟩
        · have he1 : decide ((e : Int) < 8) = false := decide_eq_false (by omega)
          have hz : zrun (l.drop k) = e - k := by rw [HZR.out, List.drop_eq_nil_of_le (by omega), show zrun [] = 0 from rfl]; omega
          have HZ := Lib.hid hz
          have hsub : IntKind.i64.wrap ((e : Int) - (k : Int)) = (e : Int) - (k : Int) := IntWalk.i64_in _ (by omega)
          have HRA : Hid (rowS l = if n < e - k then rowA (k + 1) k (e - k) (l.drop (k + 1)) else rowA (k + 1) f n (l.drop (k + 1))) := Lib.hid (by
            rw [HRW.out, List.drop_eq_getElem_cons hkl, rowA, ← List.drop_eq_getElem_cons hkl, hz])
          clear hz
          by_cases hnz : n < e - k
          · have hgt : decide ((n : Int) < (e : Int) - (k : Int)) = true := decide_eq_true (by omega)
            go_wp2
            go_roundg gk'
            case measure => omega
            case rel => exact ⟨k + 1, k, e - k, by omega, by go_num, rfl, by go_num, by rw [HRA.out, if_pos hnz], by omega, by omega, rfl⟩
          · have hgt : decide ((n : Int) < (e : Int) - (k : Int)) = false := decide_eq_false (by omega)
            go_wp2
            go_roundg gk'
            case measure => omega
            case rel => exact ⟨k + 1, f, n, by omega, by go_num, rfl, rfl, by rw [HRA.out, if_neg hnz], by omega, by omega, rfl⟩
    · obtain rfl : k = 8 := by omega
      have hl8 := HL.out
      have HRA : Hid (rowS l = (f, n)) := Lib.hid (by rw [HRW.out, List.drop_eq_nil_of_le (by omega), rowA])
      go_wp2
      rw [HR.out, HRA.out]
      exact ⟨rfl, HS.out⟩
end Go.Proofs.YtligofmhbbgalaaGreatDoor.L

/-! Layer 3: an address as a text. -/
namespace Go.Proofs.YtligofmhbbgalaaGreatDoor.L
open Go.RowKit Go.Proofs

def natK : Kind Nat := .plain encN (fun _ => rfl)
theorem join_own (c : UInt8) (xs : List ByteArray) (B : Nat) (W : World) (v : Value) (h : Own Value.string 9 B W v xs) (hl : xs.length ≤ 1000) (hj : (joinC c (xs.map (·.data.toList))).length ≤ 140737488355328) :
    Calls Tryz.prog 71 #[v, .string ⟨#[c]⟩] W fun e w' => e = .returned (.string (strB (joinC c (xs.map (·.data.toList))))) ∧ Stp (fun _ => False) W w' := by
  obtain ⟨A, cc, rfl, hle⟩ := h.form
  by_cases h0 : xs.length = 0
  · obtain rfl : xs = [] := List.eq_nil_of_length_eq_zero h0
    refine (Tryz.strings_Join_none A cc ⟨#[c]⟩ W).mono ?_
    rintro e w' ⟨rfl, rfl⟩
    exact ⟨rfl, Stp.refl _ _⟩
  · obtain ⟨g, rfl, -, -, hg⟩ := h.at_ (by omega)
    have hjj : Lib.join (xs.map (·.data.toList)) (⟨#[c]⟩ : ByteArray).data.toList = joinC c (xs.map (·.data.toList)) := join_joinC c _
    have hh := Tryz.strings_Join g 0 cc xs ⟨#[c]⟩ W (fun j x hx => by
      obtain ⟨hlt, rfl⟩ := List.getElem?_eq_some_iff.1 hx
      rw [Nat.zero_add]
      exact h.cellAt j hlt) hg (by omega) hle (by rw [hjj]; exact hj)
    rw [hjj] at hh
    exact hh.mono fun e w' ⟨h1, h2⟩ => ⟨h1, Stp.of_below h2⟩
theorem joinC_len (c : UInt8) (xs : List (List UInt8)) (m : Nat) (h : ∀ x ∈ xs, x.length ≤ m) : (joinC c xs).length ≤ xs.length * (m + 1) := by
  induction xs with
  | nil => simp [joinC]
  | cons x r ih =>
    have h1 := h x (by simp)
    have h2 := ih fun y hy => h y (by simp [hy])
    have e : (r.length + 1) * (m + 1) = r.length * (m + 1) + (m + 1) := Nat.succ_mul _ _
    cases r with
    | nil =>
      simp only [joinC, List.length_cons, List.length_nil] at e ⊢
      omega
    | cons y r =>
      simp only [joinC, List.length_append, List.length_cons] at h2 e ⊢
      omega

set_option maxRecDepth 100000 in
set_option maxHeartbeats 8000000 in
theorem text6_any (M : Nat → Prop) (v : Value) (xs : List Nat) (w : World) (hx : Rd natK M w v xs) (hl : xs.length ≤ 8) (hn : ∀ n ∈ xs, n < 65536) (hb : BruP w) :
    Calls Tryz.prog 72 #[v] w fun e w' => e = .returned (.string (strB (joinH xs))) ∧ Stp (fun _ => False) w w' := by
  obtain ⟨R, hR⟩ : ∃ R : Ending → World → Prop, R = fun e w' => e = .returned (.string (strB (joinH xs))) ∧ Stp (fun _ => False) w w' := ⟨_, rfl⟩
  rw [← hR]
  obtain ⟨A, c, rfl, hle⟩ := hx.form
  have HR := Lib.hid hR
  have HX := Lib.hid hx
  have HN := Lib.hid hn
  have HB := Lib.hid hb
  clear hR hx hn hb
  go_enter Tryz.func72, Tryz.ntmps72
  go_wp2
  go_loopg [3, 8] xs.length (fun gf v i wx => ∃ (k : Nat), k + gf = xs.length ∧ i = .int .i64 k ∧ Own Value.string 9 w.heap.size wx v ((xs.take k).map fun n => strB (hxT n)) ∧ Stp (fun _ => False) w wx)
  case atStart => exact ⟨0, by omega, rfl, Own.nil _ _ _ _, Stp.refl _ _⟩
  case round =>
    obtain ⟨k, hk, rfl, ho, hst⟩ := hrel
    have HS := Lib.hid hst
    obtain ⟨ys, hys⟩ : ∃ ys, ys = (xs.take k).map fun n => strB (hxT n) := ⟨_, rfl⟩
    rw [← hys] at ho
    have HO := Lib.hid ho
    have HY := Lib.hid hys
    have HYL : Hid (ys.length = k) := Lib.hid (by rw [hys]; simp; omega)
    obtain ⟨A2, c2, rfl, hle2⟩ := HO.out.form
    clear ho hst hys
    by_cases hlt : k < xs.length
    · obtain ⟨gk', rfl⟩ : ∃ gk', gk = gk' + 1 := ⟨gk - 1, by omega⟩
      obtain ⟨n, hnk⟩ : ∃ n, n = xs[k] := ⟨_, rfl⟩
      have hn := HN.out xs[k] (List.getElem_mem _)
      rw [← hnk] at hn
      obtain ⟨ad, rfl, -, hc⟩ := plain_cell (HX.out.stp0 HS.out) k hlt
      rw [← hnk] at hc
      have hc' : wr.cell? (ad.add k) = some (.int .u16 (n : Int)) := hc
      have hlt2 : (k : Int) < (xs.length : Int) := by omega
      have hw : IntKind.u64.wrap (n : Int) = (n : Int) := by rw [u64_wrap_mod]; omega
      have cf := fun W hW => fmt16_any n hn W hW
      have HNK := Lib.hid hnk
      clear hc hnk
      go_wp2_with (go_at_call 73; refine stopc ?_)
      refine Stop.go ?_
      refine (cf _ (HB.out.step HS.out)).mono ?_
      rintro e w1 ⟨rfl, hs1⟩
      have HS1 := Lib.hid (HS.out.trans hs1)
      have HO1 := Lib.hid (HO.out.stp0 hs1)
      clear hs1
      go_wp2_with (with_reducible refine stop (N := 17) rfl ?_)
      refine Stop.go ?_
      refine wp_append1 Value.string (strB (hxT n)) rfl rfl _ _ _ rfl Tryz.underlying26 info_strA rfl (HO1.out.stp0 ((Stp.refl _ _).alloc _)) rfl ⟨w1.heap.size, 0, none⟩ 1 rfl ?_ (by have := HYL.out; omega) (by have := HYL.out; omega) (by have := HS1.out.size; simp; omega) ?_
      · exact blk_cell (j := 0) (heap_alloc_new _ _)
      · intro v3 w3 ho3 hg3
        have HO3 := Lib.hid ho3
        have HS3 := Lib.hid ((HS1.out.alloc _).own (HO1.out.stp0 ((Stp.refl _ _).alloc _)) hg3)
        clear ho3 hg3
        go_wp2
        go_roundg gk'
        case measure => omega
        case rel =>
          refine ⟨k + 1, by omega, by go_num, ?_, HS3.out⟩
          have e1 : (xs.take (k + 1)).map (fun n => strB (hxT n)) = ys ++ [strB (hxT n)] := by
            rw [take_succ_at xs k hlt, List.map_append, HY.out, HNK.out]
            rfl
          rw [e1]
          exact HO3.out
    · obtain rfl : k = xs.length := by omega
      have hyy : ys.map (·.data.toList) = xs.map hxT := by
        rw [HY.out, List.take_of_length_le (Nat.le_refl _), List.map_map]
        exact List.map_congr_left fun n _ => by simp [strB]
      have cj := join_own 58 ys _ _ _ HO.out (by have := HYL.out; omega) (by
        have hyl := HYL.out
        have := joinC_len 58 (ys.map (·.data.toList)) 4 (by
          rw [hyy]
          intro x hx
          obtain ⟨n, hn, rfl⟩ := List.mem_map.1 hx
          exact hxT_len n 3 (by have := HN.out n hn; omega))
        rw [List.length_map] at this
        omega)
      have hjh : joinC 58 (ys.map (·.data.toList)) = joinH xs := by rw [hyy]; rfl
      rw [hjh] at cj
      clear hyy hjh
      go_wp2_with (go_at_call 71; refine stopc ?_)
      refine Stop.go ?_
      refine cj.mono ?_
      rintro e w1 ⟨rfl, hs1⟩
      have HS1 := Lib.hid (HS.out.trans hs1)
      clear hs1
      go_wp2
      rw [HR.out]
      exact ⟨rfl, HS1.out⟩
end Go.Proofs.YtligofmhbbgalaaGreatDoor.L

/-! Layer 3: an address as a text: addr.Print. -/
namespace Go.Proofs.YtligofmhbbgalaaGreatDoor.L
open Go.RowKit Go.Proofs

def PowP (w : World) : Prop := Lib.TabIs Tryz.prog w "internal/strconv.uint64pow10" .u64 Lib.pow10Tab
theorem gPow : Tryz.prog.globalNamed "internal/strconv.uint64pow10" = some 2 := by kernel_rfl
theorem PowP.step {w w' : World} (h : PowP w) (hs : Stp (fun _ => False) w w') : PowP w' := Joins.tab_stays gPow h hs.below (Nat.le_refl _)
theorem itoa_any (n : Int) (h0 : -9223372036854775808 ≤ n) (h1 : n ≤ 9223372036854775807) (w : World) (ht : PowP w) :
    Calls Tryz.prog 70 #[.int .i64 n] w fun e w' => e = .returned (.string (strB (Lib.itoa n))) ∧ Stp (fun _ => False) w w' := by
  refine (Tryz.strconv_Itoa n h0 h1 w ht).mono ?_
  rintro e w1 ⟨rfl, k, os, hw1⟩
  refine ⟨rfl, ?_⟩
  rw [hw1]
  exact ⟨rfl, rfl, rfl, by simp [Sort.grow], fun k hk _ => by simp [Sort.grow, World.drewN, Array.getElem?_append_left hk]⟩
theorem u16_wrap (n : Int) : IntKind.u16.wrap n = n % 65536 := by simp [IntKind.wrap, IntKind.signed, IntKind.bits]
theorem or_u16 (x y : UInt8) : bits .or .u16 ((x.toNat : Int) * 256) (y.toNat : Int) = ((256 * x.toNat + y.toNat : Nat) : Int) := by
  have hx := UInt8.toNat_lt x
  have hy := UInt8.toNat_lt y
  have h1 : (BitVec.ofInt 16 ((x.toNat : Int) * 256)).toNat = 256 * x.toNat := by
    rw [show (x.toNat : Int) * 256 = ((256 * x.toNat : Nat) : Int) by omega, BitVec.ofInt_natCast, BitVec.toNat_ofNat]
    exact Nat.mod_eq_of_lt (by omega)
  have h2 : (BitVec.ofInt 16 (y.toNat : Int)).toNat = y.toNat := by
    rw [BitVec.ofInt_natCast, BitVec.toNat_ofNat]
    exact Nat.mod_eq_of_lt (by omega)
  have h3 : 256 * x.toNat ||| y.toNat = 256 * x.toNat + y.toNat := (Nat.two_pow_add_eq_or_of_lt (i := 8) (by omega) x.toNat).symm
  show IntKind.u16.wrap ((BitVec.ofInt 16 ((x.toNat : Int) * 256) ||| BitVec.ofInt 16 (y.toNat : Int)).toNat : Int) = _
  rw [BitVec.toNat_or, h1, h2, h3, u16_wrap]
  omega
theorem pairs_at (a : List UInt8) (m k : Nat) (h : a.length = 2 * m) (hk : k < m) : (pairsN a)[k]? = some (256 * (a[2 * k]'(by omega)).toNat + (a[2 * k + 1]'(by omega)).toNat) := by
  induction k generalizing a m with
  | zero =>
    match a, h with
    | x :: y :: r, h => rfl
    | [x], h => simp at h; omega
    | [], h => simp at h; omega
  | succ k ih =>
    match a, h with
    | x :: y :: r, h =>
      rw [pairsN, List.getElem?_cons_succ, ih r (m - 1) (by simp at h; omega) (by omega)]
      have e1 : 2 * (k + 1) = 2 * k + 2 := by omega
      simp only [e1]
      rfl
    | [x], h => simp at h; omega
    | [], h => simp at h; omega
theorem put_num (ls : List Nat) (k : Nat) (hk : k < ls.length) (m : Nat) (hm : 0 < m) : (ls.take k ++ List.replicate m 0).set k ls[k] = ls.take (k + 1) ++ List.replicate (m - 1) 0 := by
  obtain ⟨j, rfl⟩ : ∃ j, m = j + 1 := ⟨m - 1, by omega⟩
  have hl : (ls.take k).length = k := by simp; omega
  rw [List.set_append_right _ _ (by omega), hl, Nat.sub_self, List.replicate_succ, List.set_cons_zero, Nat.add_sub_cancel, take_succ_at ls k hk, List.append_assoc]
  rfl
theorem blkN_rd {g : Nat} {ty : TypeId} {l : List Nat} {w : World} {M : Nat → Prop} (h : w.heap[g]? = some (.cells (cellsN l) ty (0, 0))) (hM : ¬ M g) (off n c : Nat) (hn : off + n ≤ l.length) (hc : n ≤ c) (hm : c ≤ maxLen) :
    Rd natK M w (.slice (some ⟨g, off, none⟩) n c) ((l.drop off).take n) := by
  have hl : ((l.drop off).take n).length = n := by simp; omega
  have := plain_mk (enc := encN) (h1 := fun _ => rfl) (M := M) (W := w) (A := some ⟨g, off, none⟩) (c := c) (xs := (l.drop off).take n) (by omega) hm (fun hp => ⟨⟨g, off, none⟩, rfl, hM, fun j hj => by
    have hj' : off + j < l.length := by omega
    have := blkN_cell h (off + j) hj'
    by_cases h0 : j = 0
    · subst h0
      rw [addr_z]
      simpa using this
    · rw [addr_nz _ _ h0]
      rw [this]
      simp⟩)
  rw [hl] at this
  exact this
theorem setN {g : Nat} {ty : TypeId} {l : List Nat} {w : World} (h : w.heap[g]? = some (.cells (cellsN l) ty (0, 0))) (j : Nat) (n : Nat) : (w.setCell ⟨g, j, none⟩ (encN n)).heap[g]? = some (.cells (cellsN (l.set j n)) ty (0, 0)) := by
  rw [blk_set h]
  congr 2
  unfold cellsN
  apply Array.ext'
  simp
theorem joinH_len (l : List Nat) (h : ∀ n ∈ l, n < 65536) : (joinH l).length ≤ l.length * 5 := by
  have := joinC_len 58 (l.map hxT) 4 (by
    intro x hx
    obtain ⟨n, hn, rfl⟩ := List.mem_map.1 hx
    exact hxT_len n 3 (by have := h n hn; omega))
  rw [List.length_map] at this
  exact this
theorem len_words : Tryz.prog.arrayLen 118 = 8 := by kernel_rfl
theorem elem_words : Tryz.prog.elem 118 = 117 := by kernel_rfl
def offW (m : Nat) : Nat := if m = 8 then 0 else m
theorem slice_upto (g f : Nat) (hf : f ≤ 8) (W : World) : (Instr.sliceAt 118 (.pointer (some ⟨g, 0, none⟩)) none (some (.int .i64 (f : Int))) none).run Tryz.prog W = .ok (.slice (some ⟨g, 0, none⟩) f 8) W := by
  rw [run_sliceAt_array_h W 118 ⟨g, 0, none⟩ (by rw [len_words, elem_words]; exact Tryz.underlying118) .i64 (f : Int) (by omega) (by rw [len_words]; omega), len_words, elem_words, Tryz.sizeOf117 W, Result.andThen_ok]
  unfold slicedAt
  rw [Int.toNat_natCast, if_neg (by omega), Nat.zero_mul, addr_z]
  rfl
theorem slice_on (g m : Nat) (hm : m ≤ 8) (W : World) : (Instr.sliceAt 118 (.pointer (some ⟨g, 0, none⟩)) (some (.int .i64 (m : Int))) none none).run Tryz.prog W = .ok (.slice (some ⟨g, offW m, none⟩) (8 - m) (8 - m)) W := by
  rw [run_sliceAt_array_l W 118 ⟨g, 0, none⟩ (by rw [len_words, elem_words]; exact Tryz.underlying118) .i64 (m : Int) (by omega) (by rw [len_words]; omega), len_words, elem_words, Tryz.sizeOf117 W, Result.andThen_ok]
  unfold slicedAt offW
  rw [Int.toNat_natCast]
  by_cases h : m = 8
  · subst h
    rfl
  · rw [if_neg (by omega), if_neg h, Nat.mul_one]
    by_cases h2 : m = 0
    · rw [h2, addr_z]
    · rw [addr_nz _ _ h2, Nat.zero_add]
theorem size_words : (Tryz.prog.info? 118).map (·.size) = some 8 := by kernel_rfl
/-- All that is asked of a world. -/
def EnvP (w : World) : Prop := MaxL w ∧ AheadP w ∧ BruP w ∧ PowP w
theorem EnvP.step {w w' : World} (h : EnvP w) (hs : Stp (fun _ => False) w w') : EnvP w' := ⟨h.1.step hs, h.2.1.step hs, h.2.2.1.step hs, h.2.2.2.step hs⟩

set_option maxRecDepth 100000 in
set_option maxHeartbeats 8000000 in
theorem aprint_any (a : List UInt8) (ha : a.length = 16) (w : World) (he : EnvP w) :
    Calls Tryz.prog 38 #[.agg (cellsA a)] w fun e w' => e = .returned (.string (strB (printA a))) ∧ Stp (fun _ => False) w w' := by
  obtain ⟨R, hR⟩ : ∃ R : Ending → World → Prop, R = fun e w' => e = .returned (.string (strB (printA a))) ∧ Stp (fun _ => False) w w' := ⟨_, rfl⟩
  rw [← hR]
  have HR := Lib.hid hR
  have HE := Lib.hid he
  have HL := Lib.hid ha
  clear hR he ha
  go_enter Tryz.func38, Tryz.ntmps38
  go_wp2_with (with_reducible refine stop (N := 11) rfl ?_)
  refine Stop.go ?_
  refine wpl_gen (fun W => Arr w.heap.size 76 a W ∧ Stp (fun _ => False) w W) ⟨arr_new _ _ _ _ rfl, (Stp.refl _ w).alloc _⟩ ?_
  rintro W1 ⟨hA, hs⟩
  have HA := Lib.hid hA
  have HS := Lib.hid hs
  clear hA hs
  refine wp_loadA rfl _ _ rfl rfl HA.out Tryz.underlying76 size_addr HL.out ?_
  go_wp2_with (go_at_call 69; refine stopc ?_)
  refine Stop.go ?_
  refine (four_any a HL.out _ (HE.out.2.1.step HS.out)).mono ?_
  rintro e w2 ⟨rfl, hs2⟩
  have HA2 := Lib.hid (HA.out.step hs2 id)
  have HS2 := Lib.hid (HS.out.trans hs2)
  clear hs2 HA HS
  cases hf : fourB a with
  | true =>
    have HP : Hid (printA a = joinC 46 ((a.drop 12).map fun c => Lib.decDigits c.toNat)) := Lib.hid (by unfold printA; rw [if_pos hf]; rfl)
    clear hf
    go_wp2
    go_loopg [3, 15] 4 (fun gf v i wx => ∃ (k : Nat), k + gf = 4 ∧ i = .int .i64 k ∧ Own Value.string 9 w2.heap.size wx v (((a.drop 12).take k).map fun c => strB (Lib.decDigits c.toNat)) ∧ Stp (fun _ => False) w2 wx)
    case atStart => exact ⟨0, by omega, rfl, Own.nil _ _ _ _, Stp.refl _ _⟩
    case round =>
      obtain ⟨k, hk, rfl, ho, hst⟩ := hrel
      have HS := Lib.hid (HS2.out.trans hst)
      have HA3 := Lib.hid (HA2.out.step hst id)
      obtain ⟨ys, hys⟩ : ∃ ys, ys = ((a.drop 12).take k).map fun c => strB (Lib.decDigits c.toNat) := ⟨_, rfl⟩
      rw [← hys] at ho
      have HO := Lib.hid ho
      have HT := Lib.hid hst
      have HY := Lib.hid hys
      have HYL : Hid (ys.length = k) := Lib.hid (by rw [hys]; have := HL.out; simp; omega)
      obtain ⟨A2, c2, rfl, hle2⟩ := HO.out.form
      clear ho hst hys
      by_cases hlt : k < 4
      · obtain ⟨gk', rfl⟩ : ∃ gk', gk = gk' + 1 := ⟨gk - 1, by omega⟩
        have h12 : 12 + k < a.length := by have := HL.out; omega
        obtain ⟨c, hck⟩ : ∃ c, c = a[12 + k] := ⟨_, rfl⟩
        have hc := HA3.out.cell (12 + k) h12
        rw [← hck] at hc
        have hc' : wr.cell? ⟨w.heap.size, 12 + k, none⟩ = some (.int .u8 (c.toNat : Int)) := hc
        have hlt2 : decide ((k : Int) < 4) = true := decide_eq_true (by omega)
        have hlt3 : (k : Int) < 4 := by omega
        have ci := fun W hW => itoa_any (c.toNat : Int) (by omega) (by have := UInt8.toNat_lt c; omega) W hW
        have HCK := Lib.hid hck
        clear hc hck
        have hw64 : wrap64 (c.toNat : Int) = (c.toNat : Int) := by have := UInt8.toNat_lt c; unfold wrap64; omega
        go_wp2_with (go_at_call 70; refine stopc ?_)
        refine Stop.go ?_
        refine (ci _ (HE.out.2.2.2.step HS.out)).mono ?_
        rintro e w3 ⟨rfl, hs3⟩
        have hit : Lib.itoa (c.toNat : Int) = Lib.decDigits c.toNat := Lib.itoa_nonneg _
        rw [hit]
        have HS3 := Lib.hid (HS.out.trans hs3)
        have HT3 := Lib.hid (HT.out.trans hs3)
        have HO3 := Lib.hid (HO.out.stp0 hs3)
        clear hs3 hit
        go_wp2_with (with_reducible refine stop (N := 24) rfl ?_)
        refine Stop.go ?_
        refine wp_append1 Value.string (strB (Lib.decDigits c.toNat)) rfl rfl _ _ _ rfl Tryz.underlying26 info_strA rfl (HO3.out.stp0 ((Stp.refl _ _).alloc _)) rfl ⟨w3.heap.size, 0, none⟩ 1 rfl ?_ (by have := HYL.out; omega) (by have := HYL.out; omega) (by have := HT3.out.size; simp; omega) ?_
        · exact blk_cell (j := 0) (heap_alloc_new _ _)
        · intro v4 w4 ho4 hg4
          have HO4 := Lib.hid ho4
          have HT4 := Lib.hid ((HT3.out.alloc _).own (HO3.out.stp0 ((Stp.refl _ _).alloc _)) hg4)
          clear ho4 hg4
          go_wp2
          go_roundg gk'
          case measure => omega
          case rel =>
            refine ⟨k + 1, by omega, by go_num, ?_, HT4.out⟩
            have e1 : ((a.drop 12).take (k + 1)).map (fun c => strB (Lib.decDigits c.toNat)) = ys ++ [strB (Lib.decDigits c.toNat)] := by
              rw [List.take_add_one, List.map_append, HY.out, List.getElem?_drop, List.getElem?_eq_getElem h12, HCK.out]
              rfl
            rw [e1]
            exact HO4.out
      · obtain rfl : k = 4 := by omega
        have hyy : ys.map (·.data.toList) = (a.drop 12).map (fun c => Lib.decDigits c.toNat) := by
          rw [HY.out, List.take_of_length_le (by have := HL.out; simp; omega), List.map_map]
          exact List.map_congr_left fun n _ => by simp [strB]
        have cj := join_own 46 ys _ _ _ HO.out (by have := HYL.out; omega) (by
          have hyl := HYL.out
          have := joinC_len 46 (ys.map (·.data.toList)) 20 (by
            rw [hyy]
            intro x hx
            obtain ⟨n, hn, rfl⟩ := List.mem_map.1 hx
            rw [Lib.decDigits_length]
            exact Lib.nDigits_le20 _ (by have := UInt8.toNat_lt n; omega))
          rw [List.length_map] at this
          omega)
        rw [hyy, ← HP.out] at cj
        clear hyy
        have hlt2 : decide ((4 : Int) < 4) = false := by decide
        go_wp2_with (go_at_call 71; refine stopc ?_)
        refine Stop.go ?_
        refine cj.mono ?_
        rintro e w3 ⟨rfl, hs3⟩
        have HS3 := Lib.hid (HS.out.trans hs3)
        clear hs3
        go_wp2
        rw [HR.out]
        exact ⟨rfl, HS3.out⟩
  | false =>
    have HP : Hid (printA a = print6 (pairsN a)) := Lib.hid (by unfold printA; rw [hf, if_neg (by decide)])
    clear hf
    obtain ⟨hb1, hb2, hb3⟩ := bytesN_pairsN a 8 HL.out
    obtain ⟨ls, hls⟩ : ∃ ls, ls = pairsN a := ⟨_, rfl⟩
    rw [← hls] at hb1 hb2 hb3 HP
    have HLS := Lib.hid hls
    have HB2 := Lib.hid hb2
    have HB3 := Lib.hid hb3
    clear hls hb1 hb2 hb3
    go_wp2
    go_loopg [28] 8 (fun gf i wx => ∃ (k : Nat), k + gf = 8 ∧ i = .int .i64 k ∧ wx.heap[w2.heap.size]? = some (.cells (cellsN (ls.take k ++ List.replicate (8 - k) 0)) 118 (0, 0)) ∧ Stp (fun _ => False) w2 wx)
    case atStart => exact ⟨0, by omega, rfl, heap_alloc_new w2 _, (Stp.refl _ w2).alloc _⟩
    case round =>
      obtain ⟨k, hk, rfl, hb, hst⟩ := hrel
      have HS := Lib.hid (HS2.out.trans hst)
      have HA3 := Lib.hid (HA2.out.step hst id)
      have HT := Lib.hid hst
      have HB := Lib.hid hb
      clear hst hb
      by_cases hlt : k < 8
      · obtain ⟨gk', rfl⟩ : ∃ gk', gk = gk' + 1 := ⟨gk - 1, by omega⟩
        have h1 : 2 * k < a.length := by have := HL.out; omega
        have h2 : 2 * k + 1 < a.length := by have := HL.out; omega
        obtain ⟨x, hx⟩ : ∃ x, x = a[2 * k] := ⟨_, rfl⟩
        obtain ⟨y, hy⟩ : ∃ y, y = a[2 * k + 1] := ⟨_, rfl⟩
        have HXX : Hid (Arr w.heap.size 76 a wr) := HA3
        have hkk : decide ((k : Int) < 8) = true := decide_eq_true (by omega)
        have hk8 : (k : Int) < 8 := by omega
        have i1 : IntKind.i64.wrap (2 * (k : Int)) = 2 * (k : Int) := IntWalk.i64_in _ (by omega)
        have i2 : IntKind.i64.wrap (2 * (k : Int) + 1) = 2 * (k : Int) + 1 := IntWalk.i64_in _ (by omega)
        have i3 : (0 : Int) ≤ 2 * (k : Int) := by omega
        have i4 : (0 : Int) ≤ 2 * (k : Int) + 1 := by omega
        have i5 : 2 * (k : Int) < 16 := by omega
        have i6 : 2 * (k : Int) + 1 < 16 := by omega
        have i7 : (2 * (k : Int)).toNat = 2 * k := by omega
        have i8 : (2 * (k : Int) + 1).toNat = 2 * k + 1 := by omega
        have HX := Lib.hid hx
        have HY := Lib.hid hy
        have hkl : k < ls.length := by have := HB2.out; omega
        obtain ⟨n, hn⟩ : ∃ n, n = ls[k] := ⟨_, rfl⟩
        have hnv : n = 256 * x.toNat + y.toNat := by
          have := pairs_at a 8 k HL.out hlt
          rw [← HLS.out, List.getElem?_eq_getElem hkl, ← hn, ← hx, ← hy] at this
          injection this
        have hx8 := UInt8.toNat_lt x
        have hy8 := UInt8.toNat_lt y
        have u1 : IntKind.u16.wrap (x.toNat : Int) = (x.toNat : Int) := by rw [u16_wrap]; omega
        have u2 : IntKind.u16.wrap ((x.toNat : Int) * 256) = (x.toNat : Int) * 256 := by rw [u16_wrap]; omega
        have u3 : IntKind.u16.wrap (y.toNat : Int) = (y.toNat : Int) := by rw [u16_wrap]; omega
        have u4 : bits BinOp.or IntKind.u16 ((x.toNat : Int) * 256) (y.toNat : Int) = (n : Int) := by rw [hnv]; exact or_u16 x y
        have hll : k < (ls.take k ++ List.replicate (8 - k) 0).length := by simp; omega
        have hc6 := blkN_cell HB.out k hll
        have hf6 : wr.frozen? ⟨w2.heap.size, k, none⟩ = false := blk_free HB.out k
        have HNV := Lib.hid hn
        clear hx hy hn hnv hx8 hy8
        go_wp2
        refine wp_region_held_drew (S := (fun W => W.cell? ⟨w.heap.size, 2 * k, none⟩ = some (.int .u8 (x.toNat : Int)) ∧ W.cell? ⟨w.heap.size, 2 * k + 1, none⟩ = some (.int .u8 (y.toNat : Int)))) (by kernel_rfl) (⟨by rw [HX.out]; exact HXX.out.drew.cell (2 * k) h1, by rw [HY.out]; exact HXX.out.drew.cell (2 * k + 1) h2⟩) (fun hHeld => ?_)
        try (change wpAnyH _ _ _ _ _ _ _ _ (World.drew _))
        refine rg_take (i := 0) (o := { dst := some 31, op := Op.move (Operand.tmp 7), type := 3, pos := "addr.go:135", after := #[], guard := none }) (v := ?rgv1) rfl (by kernel_rfl) (by kernel_rfl) (by kernel_rfl) (fun _ _ _ h => h) (by rfl) (fun w hSw => ?rgy1) hHeld ?_
        case rgy1 => (try dsimp only at hSw); first | (go_simp; done) | (go_simp; with_reducible rfl)
        try simp only [Act.put, List.setIfInBounds_toArray, List.set_cons_zero, List.set_cons_succ]
        refine rg_take (i := 1) (o := { dst := some 32, op := Op.move (Operand.tmp 7), type := 3, pos := "addr.go:135", after := #[], guard := none }) (v := ?rgv2) rfl (by kernel_rfl) (by kernel_rfl) (by kernel_rfl) (fun _ _ _ h => h) (by rfl) (fun w hSw => ?rgy2) hHeld ?_
        case rgy2 => (try dsimp only at hSw); first | (go_simp; done) | (go_simp; with_reducible rfl)
        try simp only [Act.put, List.setIfInBounds_toArray, List.set_cons_zero, List.set_cons_succ]
        refine rg_take (i := 2) (o := { dst := some 33, op := Op.binOp BinOp.mul 3 (Operand.const (Value.int IntKind.i64 2)) (Operand.tmp 32) 3, type := 3, pos := "addr.go:135", after := #[{ on := 1, ground := Ground.data }], guard := none }) (v := ?rgv3) rfl (by kernel_rfl) (by kernel_rfl) (by kernel_rfl) (fun _ _ _ h => h) (by rfl) (fun w hSw => ?rgy3) hHeld ?_
        case rgy3 => (try dsimp only at hSw); first | (go_simp; done) | (go_simp; with_reducible rfl)
        try simp only [Act.put, List.setIfInBounds_toArray, List.set_cons_zero, List.set_cons_succ]
        refine rg_take (i := 3) (o := { dst := some 34, op := Op.indexAddr 76 (Operand.tmp 1) (Operand.tmp 33), type := 0, pos := "addr.go:135", after := #[{ on := 2, ground := Ground.data }], guard := none }) (v := ?rgv4) rfl (by kernel_rfl) (by kernel_rfl) (by kernel_rfl) (fun _ _ _ h => h) (by rfl) (fun w hSw => ?rgy4) hHeld ?_
        case rgy4 => (try dsimp only at hSw); first | (go_simp; done) | (go_simp; with_reducible rfl)
        try simp only [Act.put, List.setIfInBounds_toArray, List.set_cons_zero, List.set_cons_succ]
        refine rg_take (i := 4) (o := { dst := some 35, op := Op.load 5 (Operand.tmp 34), type := 5, pos := "addr.go:135", after := #[{ on := 3, ground := Ground.data }], guard := none }) (v := ?rgv5) rfl (by kernel_rfl) (by kernel_rfl) (by kernel_rfl) (fun _ _ _ h => h) (by rfl) (fun w hSw => ?rgy5) hHeld ?_
        case rgy5 => (have hk0 := hSw.1; go_simp; with_reducible rfl)
        try simp only [Act.put, List.setIfInBounds_toArray, List.set_cons_zero, List.set_cons_succ]
        refine rg_take (i := 5) (o := { dst := some 36, op := Op.convert 5 117 (Operand.tmp 35), type := 117, pos := "addr.go:135", after := #[{ on := 4, ground := Ground.data }], guard := none }) (v := ?rgv6) rfl (by kernel_rfl) (by kernel_rfl) (by kernel_rfl) (fun _ _ _ h => h) (by rfl) (fun w hSw => ?rgy6) hHeld ?_
        case rgy6 => (try dsimp only at hSw); first | (go_simp; done) | (go_simp; with_reducible rfl)
        try simp only [Act.put, List.setIfInBounds_toArray, List.set_cons_zero, List.set_cons_succ]
        refine rg_take (i := 6) (o := { dst := some 37, op := Op.binOp BinOp.shl 117 (Operand.tmp 36) (Operand.const (Value.int IntKind.u64 8)) 102, type := 117, pos := "addr.go:135", after := #[{ on := 5, ground := Ground.data }], guard := none }) (v := ?rgv7) rfl (by kernel_rfl) (by kernel_rfl) (by kernel_rfl) (fun _ _ _ h => h) (by rfl) (fun w hSw => ?rgy7) hHeld ?_
        case rgy7 => (try dsimp only at hSw); first | (go_simp; done) | (go_simp; with_reducible rfl)
        try simp only [Act.put, List.setIfInBounds_toArray, List.set_cons_zero, List.set_cons_succ]
        refine rg_take (i := 7) (o := { dst := some 38, op := Op.move (Operand.tmp 7), type := 3, pos := "addr.go:135", after := #[], guard := none }) (v := ?rgv8) rfl (by kernel_rfl) (by kernel_rfl) (by kernel_rfl) (fun _ _ _ h => h) (by rfl) (fun w hSw => ?rgy8) hHeld ?_
        case rgy8 => (try dsimp only at hSw); first | (go_simp; done) | (go_simp; with_reducible rfl)
        try simp only [Act.put, List.setIfInBounds_toArray, List.set_cons_zero, List.set_cons_succ]
        refine rg_take (i := 8) (o := { dst := some 39, op := Op.binOp BinOp.mul 3 (Operand.const (Value.int IntKind.i64 2)) (Operand.tmp 38) 3, type := 3, pos := "addr.go:135", after := #[{ on := 7, ground := Ground.data }], guard := none }) (v := ?rgv9) rfl (by kernel_rfl) (by kernel_rfl) (by kernel_rfl) (fun _ _ _ h => h) (by rfl) (fun w hSw => ?rgy9) hHeld ?_
        case rgy9 => (try dsimp only at hSw); first | (go_simp; done) | (go_simp; with_reducible rfl)
        try simp only [Act.put, List.setIfInBounds_toArray, List.set_cons_zero, List.set_cons_succ]
        refine rg_take (i := 9) (o := { dst := some 40, op := Op.binOp BinOp.add 3 (Operand.tmp 39) (Operand.const (Value.int IntKind.i64 1)) 3, type := 3, pos := "addr.go:135", after := #[{ on := 8, ground := Ground.data }], guard := none }) (v := ?rgv10) rfl (by kernel_rfl) (by kernel_rfl) (by kernel_rfl) (fun _ _ _ h => h) (by rfl) (fun w hSw => ?rgy10) hHeld ?_
        case rgy10 => (try dsimp only at hSw); first | (go_simp; done) | (go_simp; with_reducible rfl)
        try simp only [Act.put, List.setIfInBounds_toArray, List.set_cons_zero, List.set_cons_succ]
        refine rg_take (i := 10) (o := { dst := some 41, op := Op.indexAddr 76 (Operand.tmp 1) (Operand.tmp 40), type := 0, pos := "addr.go:135", after := #[{ on := 9, ground := Ground.data }], guard := none }) (v := ?rgv11) rfl (by kernel_rfl) (by kernel_rfl) (by kernel_rfl) (fun _ _ _ h => h) (by rfl) (fun w hSw => ?rgy11) hHeld ?_
        case rgy11 => (try dsimp only at hSw); first | (go_simp; done) | (go_simp; with_reducible rfl)
        try simp only [Act.put, List.setIfInBounds_toArray, List.set_cons_zero, List.set_cons_succ]
        refine rg_take (i := 11) (o := { dst := some 42, op := Op.load 5 (Operand.tmp 41), type := 5, pos := "addr.go:135", after := #[{ on := 10, ground := Ground.data }], guard := none }) (v := ?rgv12) rfl (by kernel_rfl) (by kernel_rfl) (by kernel_rfl) (fun _ _ _ h => h) (by rfl) (fun w hSw => ?rgy12) hHeld ?_
        case rgy12 => (have hk0 := hSw.2; go_simp; with_reducible rfl)
        try simp only [Act.put, List.setIfInBounds_toArray, List.set_cons_zero, List.set_cons_succ]
        refine rg_take (i := 12) (o := { dst := some 43, op := Op.convert 5 117 (Operand.tmp 42), type := 117, pos := "addr.go:135", after := #[{ on := 11, ground := Ground.data }], guard := none }) (v := ?rgv13) rfl (by kernel_rfl) (by kernel_rfl) (by kernel_rfl) (fun _ _ _ h => h) (by rfl) (fun w hSw => ?rgy13) hHeld ?_
        case rgy13 => (try dsimp only at hSw); first | (go_simp; done) | (go_simp; with_reducible rfl)
        try simp only [Act.put, List.setIfInBounds_toArray, List.set_cons_zero, List.set_cons_succ]
        refine rg_take (i := 13) (o := { dst := some 44, op := Op.binOp BinOp.or 117 (Operand.tmp 37) (Operand.tmp 43) 117, type := 117, pos := "addr.go:135", after := #[{ on := 6, ground := Ground.data }, { on := 12, ground := Ground.data }], guard := none }) (v := ?rgv14) rfl (by kernel_rfl) (by kernel_rfl) (by kernel_rfl) (fun _ _ _ h => h) (by rfl) (fun w hSw => ?rgy14) hHeld ?_
        case rgy14 => (try dsimp only at hSw); first | (go_simp; done) | (go_simp; with_reducible rfl)
        try simp only [Act.put, List.setIfInBounds_toArray, List.set_cons_zero, List.set_cons_succ]
        refine rg_take (i := 14) (o := { dst := some 45, op := Op.indexAddr 118 (Operand.tmp 6) (Operand.tmp 31), type := 0, pos := "addr.go:135", after := #[{ on := 0, ground := Ground.data }, { on := 0, ground := Ground.phase }, { on := 1, ground := Ground.phase }, { on := 2, ground := Ground.phase }, { on := 3, ground := Ground.phase }, { on := 4, ground := Ground.phase }, { on := 5, ground := Ground.phase }, { on := 6, ground := Ground.phase }, { on := 7, ground := Ground.phase }, { on := 8, ground := Ground.phase }, { on := 9, ground := Ground.phase }, { on := 10, ground := Ground.phase }, { on := 11, ground := Ground.phase }, { on := 12, ground := Ground.phase }, { on := 13, ground := Ground.phase }], guard := none }) (v := ?rgv15) rfl (by kernel_rfl) (by kernel_rfl) (by kernel_rfl) (fun _ _ _ h => h) (by rfl) (fun w hSw => ?rgy15) hHeld ?_
        case rgy15 => (try dsimp only at hSw); first | (go_simp; done) | (go_simp; with_reducible rfl)
        try simp only [Act.put, List.setIfInBounds_toArray, List.set_cons_zero, List.set_cons_succ]
        refine wpAnyH_ready (rs := [15]) (by kernel_rfl) (by simp) ?_
        refine (AllReadyH.cons (o := { dst := none, op := Op.store 117 (Operand.tmp 45) (Operand.tmp 44), type := 0, pos := "addr.go:135", after := #[{ on := 14, ground := Ground.data }, { on := 13, ground := Ground.data }, { on := 0, ground := Ground.phase }, { on := 1, ground := Ground.phase }, { on := 2, ground := Ground.phase }, { on := 3, ground := Ground.phase }, { on := 4, ground := Ground.phase }, { on := 5, ground := Ground.phase }, { on := 6, ground := Ground.phase }, { on := 7, ground := Ground.phase }, { on := 8, ground := Ground.phase }, { on := 9, ground := Ground.phase }, { on := 10, ground := Ground.phase }, { on := 11, ground := Ground.phase }, { on := 12, ground := Ground.phase }, { on := 13, ground := Ground.phase }], guard := none }) rfl (fun K hK => ?_) AllReadyH.nil)
        go_simp
        show K _ _
        clear hHeld
        refine hK.out _ _ (⟨((Stp.refl (fun j => j = w2.heap.size) wr).setg k _).drew.cell (by rw [HX.out]; exact HXX.out.cell (2 * k) h1) (by have := HA2.out.lt; simp; omega), ((Stp.refl (fun j => j = w2.heap.size) wr).setg k _).drew.cell (by rw [HY.out]; exact HXX.out.cell (2 * k + 1) h2) (by have := HA2.out.lt; simp; omega)⟩) (fun hHeld => ?_)
        clear hK K
        try simp only [Act.put, List.setIfInBounds_toArray, List.set_cons_zero, List.set_cons_succ]
        clear hHeld
        refine wpAnyH_done (by kernel_rfl) ?_ _
        skip
        go_wp2
        go_roundg gk'
        case measure => omega
        case rel =>
          have e1 := setN HB.out k n
          rw [HNV.out, put_num ls k hkl (8 - k) (by omega), show 8 - k - 1 = 8 - (k + 1) by omega] at e1
          exact ⟨k + 1, by omega, by go_num, by rw [← HNV.out] at e1; exact e1, (HT.out.setCell (fun h => absurd h (by simp)) _).drew⟩
      · obtain rfl : k = 8 := by omega
        have hb := HB.out
        rw [List.take_of_length_le (by have := HB2.out; omega), show 8 - 8 = 0 from rfl, List.replicate_zero, List.append_nil] at hb
        have HBB := Lib.hid hb
        clear hb HB
        have h8f : decide (((8 : Nat) : Int) < 8) = false := by decide
        go_wp2_with (with_reducible refine stop (N := 48) rfl ?_)
        refine Stop.go ?_
        refine wpList_load_row rfl _ _ rfl _ rfl _ (cellsN ls) (0, 0) _ HBB.out Tryz.underlying118 rfl (by rw [show (cellsN ls).size = 8 by simp [cellsN, HB2.out]]; exact size_words) ?_
        have hrow := rowS_is ls HB2.out
        have cr := fun W => row_any ls HB2.out W
        obtain ⟨f, hf⟩ : ∃ f, f = (rowS ls).1 := ⟨_, rfl⟩
        obtain ⟨n, hn⟩ : ∃ n, n = (rowS ls).2 := ⟨_, rfl⟩
        rw [← hf, ← hn] at hrow cr
        have HP6 : Hid (printA a = if f = 8 then joinH ls else joinH (ls.take f) ++ [58, 58] ++ joinH (ls.drop (f + n))) := Lib.hid (by rw [HP.out, hf, hn]; rfl)
        have HROW := Lib.hid hrow
        clear hf hn hrow HP
        go_wp2_with (go_at_call 74; refine stopc ?_)
        refine Stop.go ?_
        refine (cr _).mono ?_
        rintro e w3 ⟨rfl, hs3⟩
        have HS3 := Lib.hid (HS.out.trans hs3)
        have HB3w := Lib.hid (hs3.blk HBB.out id)
        clear hs3
        by_cases hf8 : f = 8
        · subst hf8
          have HPJ : Hid (printA a = joinH ls) := Lib.hid (by rw [HP6.out, if_pos rfl])
          clear HP6
          have ct := text6_any (fun _ => False) _ _ w3 (by
            have := blkN_rd (M := fun _ => False) HB3w.out id 0 8 8 (by have := HB2.out; omega) (Nat.le_refl _) (by decide)
            rw [List.drop_zero, List.take_of_length_le (by have := HB2.out; omega)] at this
            exact this) (by have := HB2.out; omega) HB3.out (HE.out.2.2.1.step HS3.out)
          have h88 : (((8 : Nat) : Int) == 8) = true := by decide
          go_wp2_with (go_at_call 72; refine stopc ?_)
          refine Stop.go ?_
          refine ct.mono ?_
          rintro e w4 ⟨rfl, hs4⟩
          have HS4 := Lib.hid (HS3.out.trans hs4)
          clear hs4
          go_wp2
          rw [HR.out, HPJ.out]
          exact ⟨rfl, HS4.out⟩
        · have hrow := HROW.out
          have h88 : ((f : Int) == 8) = false := by simp; omega
          have hr1 : f + n ≤ 8 := by omega
          have hr2 : f < 8 := by omega
          have HPJ : Hid (printA a = joinH (ls.take f) ++ [58, 58] ++ joinH (ls.drop (f + n))) := Lib.hid (by rw [HP6.out, if_neg hf8])
          have sl1 := fun W => slice_upto w2.heap.size f (by omega) W
          have sl2 := fun W => slice_on w2.heap.size (f + n) hr1 W
          have hww : IntKind.i64.wrap ((f : Int) + (n : Int)) = ((f + n : Nat) : Int) := by rw [IntWalk.i64_in _ (by omega)]; omega
          obtain ⟨fn, hfn⟩ : ∃ fn, fn = f + n := ⟨_, rfl⟩
          rw [← hfn] at sl2 hww HPJ
          have HFN := Lib.hid hfn
          have ct1 : ∀ W, Stp (fun _ => False) w3 W → Calls Tryz.prog 72 #[.slice (some ⟨w2.heap.size, 0, none⟩) f 8] W fun e w' => e = .returned (.string (strB (joinH (ls.take f)))) ∧ Stp (fun _ => False) W w' := fun W hW =>
            text6_any (fun _ => False) _ _ W (by
              have := (blkN_rd (M := fun _ => False) HB3w.out id 0 f 8 (by have := HB2.out; omega) (by omega) (by decide)).stp0 hW
              rw [List.drop_zero] at this
              exact this) (by have := HB2.out; simp; omega) (fun m hm => HB3.out m (List.mem_of_mem_take hm)) (HE.out.2.2.1.step (HS3.out.trans hW))
          have ct2 : ∀ W, Stp (fun _ => False) w3 W → Calls Tryz.prog 72 #[.slice (some ⟨w2.heap.size, offW fn, none⟩) (8 - fn) (8 - fn)] W fun e w' => e = .returned (.string (strB (joinH (ls.drop fn)))) ∧ Stp (fun _ => False) W w' := fun W hW =>
            text6_any (fun _ => False) _ _ W (by
              have := (blkN_rd (M := fun _ => False) HB3w.out id (offW fn) (8 - fn) (8 - fn) (by have := HB2.out; unfold offW; split <;> omega) (Nat.le_refl _) (by unfold maxLen; omega)).stp0 hW
              have e : (ls.drop (offW fn)).take (8 - fn) = ls.drop fn := by
                unfold offW
                split
                · rename_i h
                  rw [h, Nat.sub_self, List.take_zero, List.drop_eq_nil_of_le (by have := HB2.out; omega)]
                · rw [List.take_of_length_le (by have := HB2.out; simp; omega)]
              rw [e] at this
              exact this) (by have := HB2.out; simp; omega) (fun m hm => HB3.out m (List.mem_of_mem_drop hm)) (HE.out.2.2.1.step (HS3.out.trans hW))
          obtain ⟨p, hp⟩ : ∃ p, p = strB (joinH (ls.take f)) := ⟨_, rfl⟩
          obtain ⟨q, hq⟩ : ∃ q, q = strB (joinH (ls.drop fn)) := ⟨_, rfl⟩
          have hps : p.size ≤ 40 := by
            have := joinH_len (ls.take f) (fun m hm => HB3.out m (List.mem_of_mem_take hm))
            have := HB2.out
            rw [hp, strB_size]
            simp at *
            omega
          have hqs : q.size ≤ 40 := by
            have := joinH_len (ls.drop fn) (fun m hm => HB3.out m (List.mem_of_mem_drop hm))
            have := HB2.out
            rw [hq, strB_size]
            simp at *
            omega
          have hp2 : ¬ 9223372036854775807 < p.size + 2 := by omega
          have hq2 : ¬ 9223372036854775807 < p.size + 2 + q.size := by omega
          have HPP := Lib.hid hp
          have HQQ := Lib.hid hq
          rw [← hp] at ct1
          rw [← hq] at ct2
          clear hfn HROW HP6 hr1 hrow hp hq hps hqs
          go_wp2
          refine wp_region_held_drew (S := (fun _ => True)) (by kernel_rfl) (trivial) (fun hHeld => ?_)
          try (change wpAnyH _ _ _ _ _ _ _ _ (World.drew _))
          refine rg_take (i := 0) (o := { dst := some 57, op := Op.move (Operand.tmp 8), type := 121, pos := "addr.go:148", after := #[], guard := none }) (v := ?rgv16) rfl (by kernel_rfl) (by kernel_rfl) (by kernel_rfl) (fun _ _ _ h => h) (by rfl) (fun w hSw => ?rgy16) hHeld ?_
          case rgy16 => (try dsimp only at hSw); first | (go_simp; done) | (go_simp; with_reducible rfl)
          try simp only [Act.put, List.setIfInBounds_toArray, List.set_cons_zero, List.set_cons_succ]
          refine rg_take (i := 1) (o := { dst := some 58, op := Op.move (Operand.tmp 9), type := 3, pos := "addr.go:148", after := #[], guard := none }) (v := ?rgv17) rfl (by kernel_rfl) (by kernel_rfl) (by kernel_rfl) (fun _ _ _ h => h) (by rfl) (fun w hSw => ?rgy17) hHeld ?_
          case rgy17 => (try dsimp only at hSw); first | (go_simp; done) | (go_simp; with_reducible rfl)
          try simp only [Act.put, List.setIfInBounds_toArray, List.set_cons_zero, List.set_cons_succ]
          refine rg_take (i := 2) (o := { dst := some 59, op := Op.slice 118 (Operand.tmp 6) none (some (Operand.tmp 58)) none, type := 119, pos := "addr.go:148", after := #[{ on := 1, ground := Ground.data }], guard := none }) (v := ?rgv18) rfl (by kernel_rfl) (by kernel_rfl) (by kernel_rfl) (fun _ _ _ h => h) (by rfl) (fun w hSw => ?rgy18) hHeld ?_
          case rgy18 => (try dsimp only at hSw); first | (go_simp; done) | (go_simp; with_reducible rfl)
          try simp only [Act.put, List.setIfInBounds_toArray, List.set_cons_zero, List.set_cons_succ]
          refine rg_take (i := 5) (o := { dst := some 62, op := Op.move (Operand.tmp 8), type := 121, pos := "addr.go:148", after := #[], guard := none }) (v := ?rgv19) rfl (by kernel_rfl) (by kernel_rfl) (by kernel_rfl) (fun _ _ _ h => h) (by rfl) (fun w hSw => ?rgy19) hHeld ?_
          case rgy19 => (try dsimp only at hSw); first | (go_simp; done) | (go_simp; with_reducible rfl)
          try simp only [Act.put, List.setIfInBounds_toArray, List.set_cons_zero, List.set_cons_succ]
          refine rg_take (i := 6) (o := { dst := some 63, op := Op.move (Operand.tmp 9), type := 3, pos := "addr.go:148", after := #[], guard := none }) (v := ?rgv20) rfl (by kernel_rfl) (by kernel_rfl) (by kernel_rfl) (fun _ _ _ h => h) (by rfl) (fun w hSw => ?rgy20) hHeld ?_
          case rgy20 => (try dsimp only at hSw); first | (go_simp; done) | (go_simp; with_reducible rfl)
          try simp only [Act.put, List.setIfInBounds_toArray, List.set_cons_zero, List.set_cons_succ]
          refine rg_take (i := 7) (o := { dst := some 64, op := Op.move (Operand.tmp 10), type := 3, pos := "addr.go:148", after := #[], guard := none }) (v := ?rgv21) rfl (by kernel_rfl) (by kernel_rfl) (by kernel_rfl) (fun _ _ _ h => h) (by rfl) (fun w hSw => ?rgy21) hHeld ?_
          case rgy21 => (try dsimp only at hSw); first | (go_simp; done) | (go_simp; with_reducible rfl)
          try simp only [Act.put, List.setIfInBounds_toArray, List.set_cons_zero, List.set_cons_succ]
          refine rg_take (i := 8) (o := { dst := some 65, op := Op.binOp BinOp.add 3 (Operand.tmp 63) (Operand.tmp 64) 3, type := 3, pos := "addr.go:148", after := #[{ on := 6, ground := Ground.data }, { on := 7, ground := Ground.data }], guard := none }) (v := ?rgv22) rfl (by kernel_rfl) (by kernel_rfl) (by kernel_rfl) (fun _ _ _ h => h) (by rfl) (fun w hSw => ?rgy22) hHeld ?_
          case rgy22 => (try dsimp only at hSw); first | (go_simp; done) | (go_simp; with_reducible rfl)
          try simp only [Act.put, List.setIfInBounds_toArray, List.set_cons_zero, List.set_cons_succ]
          refine rg_take (i := 9) (o := { dst := some 66, op := Op.slice 118 (Operand.tmp 6) (some (Operand.tmp 65)) none none, type := 119, pos := "addr.go:148", after := #[{ on := 8, ground := Ground.data }], guard := none }) (v := ?rgv23) rfl (by kernel_rfl) (by kernel_rfl) (by kernel_rfl) (fun _ _ _ h => h) (by rfl) (fun w hSw => ?rgy23) hHeld ?_
          case rgy23 => (try dsimp only at hSw); first | (go_simp; done) | (go_simp; with_reducible rfl)
          try simp only [Act.put, List.setIfInBounds_toArray, List.set_cons_zero, List.set_cons_succ]
          refine wpAnyH_ready (rs := [3]) (by kernel_rfl) (by simp) ?_
          refine (AllReadyH.cons (o := { dst := some 60, op := Op.call { callee := Callee.value (Operand.tmp 57), args := #[Operand.tmp 59], argTypes := #[119] }, type := 9, pos := "addr.go:148", after := #[{ on := 0, ground := Ground.data }, { on := 2, ground := Ground.data }], guard := none }) rfl (fun K hK => ?_) AllReadyH.nil)
          go_simp
          refine (ct1 _ ((Stp.refl _ _).drew)).mono ?_
          rintro e w4 ⟨rfl, hs4⟩
          have HT4 := Lib.hid (((Stp.refl (fun _ => False) w3).drew).trans hs4)
          clear hs4
          show K _ _
          clear hHeld
          refine hK.out _ _ (trivial) (fun hHeld => ?_)
          clear hK K
          try simp only [Act.put, List.setIfInBounds_toArray, List.set_cons_zero, List.set_cons_succ]
          refine rg_take (i := 4) (o := { dst := some 61, op := Op.binOp BinOp.add 9 (Operand.tmp 60) (Operand.const (Value.string { data := #[58, 58] })) 9, type := 9, pos := "addr.go:148", after := #[{ on := 3, ground := Ground.data }], guard := none }) (v := ?rgv24) rfl (by kernel_rfl) (by kernel_rfl) (by kernel_rfl) (fun _ _ _ h => h) (by rfl) (fun w hSw => ?rgy24) hHeld ?_
          case rgy24 => (try dsimp only at hSw); first | (go_simp; done) | (go_simp; with_reducible rfl)
          try simp only [Act.put, List.setIfInBounds_toArray, List.set_cons_zero, List.set_cons_succ]
          refine wpAnyH_ready (rs := [10]) (by kernel_rfl) (by simp) ?_
          refine (AllReadyH.cons (o := { dst := some 67, op := Op.call { callee := Callee.value (Operand.tmp 62), args := #[Operand.tmp 66], argTypes := #[119] }, type := 9, pos := "addr.go:148", after := #[{ on := 5, ground := Ground.data }, { on := 9, ground := Ground.data }, { on := 3, ground := Ground.chain }], guard := none }) rfl (fun K hK => ?_) AllReadyH.nil)
          go_simp
          refine (ct2 _ HT4.out).mono ?_
          rintro e w5 ⟨rfl, hs5⟩
          have HT5 := Lib.hid (HT4.out.trans hs5)
          clear hs5
          show K _ _
          clear hHeld
          refine hK.out _ _ (trivial) (fun hHeld => ?_)
          clear hK K
          try simp only [Act.put, List.setIfInBounds_toArray, List.set_cons_zero, List.set_cons_succ]
          refine rg_take (i := 11) (o := { dst := some 68, op := Op.binOp BinOp.add 9 (Operand.tmp 61) (Operand.tmp 67) 9, type := 9, pos := "addr.go:148", after := #[{ on := 4, ground := Ground.data }, { on := 10, ground := Ground.data }], guard := none }) (v := ?rgv25) rfl (by kernel_rfl) (by kernel_rfl) (by kernel_rfl) (fun _ _ _ h => h) (by rfl) (fun w hSw => ?rgy25) hHeld ?_
          case rgy25 => (try dsimp only at hSw); first | (go_simp; done) | (go_simp; with_reducible rfl)
          try simp only [Act.put, List.setIfInBounds_toArray, List.set_cons_zero, List.set_cons_succ]
          refine rg_take (i := 12) (o := { dst := some 2, op := Op.assign (Operand.tmp 68), type := 9, pos := "addr.go:148", after := #[{ on := 11, ground := Ground.data }, { on := 10, ground := Ground.chain }, { on := 0, ground := Ground.phase }, { on := 1, ground := Ground.phase }, { on := 2, ground := Ground.phase }, { on := 3, ground := Ground.phase }, { on := 4, ground := Ground.phase }, { on := 5, ground := Ground.phase }, { on := 6, ground := Ground.phase }, { on := 7, ground := Ground.phase }, { on := 8, ground := Ground.phase }, { on := 9, ground := Ground.phase }, { on := 10, ground := Ground.phase }, { on := 11, ground := Ground.phase }], guard := none }) (v := ?rgv26) rfl (by kernel_rfl) (by kernel_rfl) (by kernel_rfl) (fun _ _ _ h => h) (by rfl) (fun w hSw => ?rgy26) hHeld ?_
          case rgy26 => (try dsimp only at hSw); first | (go_simp; done) | (go_simp; with_reducible rfl)
          try simp only [Act.put, List.setIfInBounds_toArray, List.set_cons_zero, List.set_cons_succ]
          clear hHeld
          refine wpAnyH_done (by kernel_rfl) ?_ _
          skip
          go_wp2
          rw [HR.out, HPJ.out]
          exact ⟨by rw [← strB_append, ← strB_append, ← HPP.out, ← HQQ.out]; rfl, HS3.out.trans HT5.out⟩
end Go.Proofs.YtligofmhbbgalaaGreatDoor.L

/- Layer 13: a host, and what is behind it. -/
namespace Go.Proofs.YtligofmhbbgalaaGreatDoor.L
open Go.RowKit Go.Proofs

theorem hasp_call (s : ByteArray) (c : UInt8) (w : World) : Calls Tryz.prog 80 #[.string s, .string ⟨#[c]⟩] w fun e w' => e = .returned (.bool (decide (s.data.toList[0]? = some c))) ∧ w' = w := by
  rw [← hasPrefix_one]
  exact Tryz.strings_HasPrefix s ⟨#[c]⟩ w
end Go.Proofs.YtligofmhbbgalaaGreatDoor.L

/-! Layer 13: a host and a port: Parse, Print, Of. -/
namespace Go.Proofs.YtligofmhbbgalaaGreatDoor.L
open Go.RowKit Go.Proofs

end Go.Proofs.YtligofmhbbgalaaGreatDoor.L

/-! Layer 13: which host a request is for. -/
namespace Go.Proofs.YtligofmhbbgalaaGreatDoor.L
open Go.RowKit Go.Proofs

end Go.Proofs.YtligofmhbbgalaaGreatDoor.L

/-! Layer 13: how long what is read is. -/
namespace Go.Proofs.YtligofmhbbgalaaGreatDoor.L
open Go.RowKit Go.Proofs

end Go.Proofs.YtligofmhbbgalaaGreatDoor.L

/- Layers 15, 16: what both that look at bytes have in common. -/
namespace Go.Proofs.YtligofmhbbgalaaGreatDoor.L
open Go.RowKit Go.Proofs

theorem own_typed {e e' B B' sz sz' n n' : Nat} {w : World} {v v' : Value} {cs cs' : List Value} (h : w.ownsRow B e sz v n cs) (h' : w.ownsRow B' e' sz' v' n' cs') (he : e ≠ e') : ∀ k, v.ownBlock = some k → v'.ownBlock ≠ some k := by
  intro k hk hk'
  rcases h.2 with ⟨rfl, _⟩ | ⟨b, cap, cur, rfl, _, hb, _⟩
  · cases hk
  · rcases h'.2 with ⟨rfl, _⟩ | ⟨b', cap', cur', rfl, _, hb', _⟩
    · cases hk'
    · injection hk with hk
      injection hk' with hk'
      simp only at hk hk'
      rw [hk] at hb
      rw [hk', hb] at hb'
      injection hb' with hb'
      injection hb' with _ h2 _
      exact he h2
theorem Stp.upto {w w1 : World} {g : Nat} (h : Stp (fun k => k = g) w w1) : Stp (fun k => g ≤ k) w w1 := h.mono fun k _ e => by omega

theorem bp_none {P : Program} {fn : Func} (h : fn.results = #[]) {R : Ending → World → Prop} {t : Array Value} {w : World} (hR : R (.returned (.tuple #[])) w) : bodyPost P fn R .normal { tmps := t, defers := [] } w :=
  ⟨rfl, _, by simp [results, h], hR⟩
theorem bp_noneR {P : Program} {fn : Func} (h : fn.results = #[]) {R : Ending → World → Prop} {t : Array Value} {w : World} (hR : R (.returned (.tuple #[])) w) : bodyPost P fn R .ret { tmps := t, defers := [] } w :=
  ⟨rfl, _, by simp [results, h], hR⟩
/-- The library's variables, whatever becomes of blocks from g on. -/
def EnvB (g : Nat) (w : World) : Prop := ∃ w0, EnvP w0 ∧ w0.heap.size ≤ g ∧ Stp (fun _ => False) w0 w
theorem EnvB.step {g : Nat} {w w1 : World} (h : EnvB g w) (hs : Stp (fun k => g ≤ k) w w1) : EnvB g w1 := by
  obtain ⟨w0, h1, h2, h3⟩ := h
  exact ⟨w0, h1, h2, h3.then_ hs fun k hk h => by omega⟩
theorem EnvB.env {g : Nat} {w : World} (h : EnvB g w) : EnvP w := by
  obtain ⟨w0, h1, h2, h3⟩ := h
  exact h1.step h3
def vd0 : Array Value := #[.int .i64 0, .int .i64 0, .int .i64 0, .int .i64 0, .string ⟨#[]⟩, .int .i64 0, .bool false, .string ⟨#[]⟩, .slice none 0 0, .slice none 0 0, .bool false]
theorem size_vd : (Tryz.prog.info? 31).map (·.size) = some 11 := by kernel_rfl
theorem row_blk {w : World} {g : Nat} {old : Array Value} {ty : TypeId} (h : w.heap[g]? = some (.cells old ty (0, 0))) (cs : Array Value) : (w.setRow g cs).heap[g]? = some (.cells cs ty (0, 0)) := setRow_heap w g _ _ ty _ h
/-- A block that holds a verdict. -/
def VdBlk (w : World) (k : Nat) : Prop := ∃ cs fr, w.heap[k]? = some (.cells cs 31 fr)
/-- What a call of one that looks at g may turn: no verdict. -/
def NoVd (g : Nat) (w : World) (k : Nat) : Prop := g ≤ k ∧ ¬ VdBlk w k
end Go.Proofs.YtligofmhbbgalaaGreatDoor.L
