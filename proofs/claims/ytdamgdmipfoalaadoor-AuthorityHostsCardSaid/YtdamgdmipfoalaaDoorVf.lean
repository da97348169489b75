/- Layer 3: an address as a text: the longest row of zeros, groups, joined. -/
import Derived.Test.YtdamgdmipfoalaaDoorVe
import Derived.Test.YtdamgdmipfoalaaDoorVd
set_option linter.unusedVariables false
set_option linter.unusedSimpArgs false
namespace Go.Proofs.YtdamgdmipfoalaaDoor.L
open Go.RowKit Go.Proofs

/-- A block of numbers. -/
def encN (n : Nat) : Value := .int .u16 (n : Int)
def cellsN (l : List Nat) : Array Value := (l.map encN).toArray
theorem cellsN_one (l : List Nat) : (cellsN l).all (·.oneCell') = true := by
  unfold cellsN
  rw [← Array.all_toList]
  simp [List.all_map, encN, Value.oneCell']
theorem blkN_cell {g : Nat} {ty : TypeId} {l : List Nat} {w : World} (h : w.heap[g]? = some (.cells (cellsN l) ty (0, 0))) (j : Nat) (hj : j < l.length) : w.cell? ⟨g, j, none⟩ = some (encN l[j]) := by
  rw [blk_cell h]
  simp [cellsN, hj]
theorem zrun_drop (l : List Nat) (k : Nat) (hk : k < l.length) : (l[k] = 0 → zrun (l.drop k) = zrun (l.drop (k + 1)) + 1) ∧ (l[k] ≠ 0 → zrun (l.drop k) = 0) := by
  rw [List.drop_eq_getElem_cons hk]
  refine ⟨fun h => by rw [h, zrun], fun h => ?_⟩
  obtain ⟨m, hm⟩ : ∃ m, l[k] = m + 1 := ⟨l[k] - 1, by omega⟩
  rw [hm]
  rfl

set_option maxRecDepth 100000 in
set_option maxHeartbeats 8000000 in
theorem row_any (l : List Nat) (hl : l.length = 8) (w : World) :
    Calls Tryd.prog 54 #[.agg (cellsN l)] w fun e w' => e = .returned (.tuple #[.int .i64 ((rowS l).1 : Int), .int .i64 ((rowS l).2 : Int)]) ∧ Stp (fun _ => False) w w' := by
  obtain ⟨R, hR⟩ : ∃ R : Ending → World → Prop, R = fun e w' => e = .returned (.tuple #[.int .i64 ((rowS l).1 : Int), .int .i64 ((rowS l).2 : Int)]) ∧ Stp (fun _ => False) w w' := ⟨_, rfl⟩
  rw [← hR]
  have HR := Lib.hid hR
  have HL := Lib.hid hl
  clear hR hl
  go_enter Tryd.func54, Tryd.ntmps54
  go_wp2
  refine wp_gen (fun W => W.heap[w.heap.size]? = some (.cells (cellsN l) 85 (0, 0)) ∧ Stp (fun _ => False) w W) ⟨heap_alloc_new _ _, (Stp.refl _ w).alloc _⟩ ?_
  rintro W1 ⟨hb, hs⟩
  have HB := Lib.hid hb
  have HS := Lib.hid hs
  clear hb hs
  go_loopg [4, 5, 6] 8 (fun gf vf vn i wx => ∃ (k f n : Nat), k + gf = 8 ∧ i = .int .i64 k ∧ vf = .int .i64 f ∧ vn = .int .i64 n ∧ rowS l = rowA k f n (l.drop k) ∧ n ≤ 8 ∧ f ≤ 8 ∧ wx = W1)
  case atStart => exact ⟨0, 8, 1, rfl, rfl, rfl, rfl, rfl, by omega, by omega, rfl⟩
  case round =>
    obtain ⟨k, f, n, hk, rfl, rfl, rfl, hr, hn8, hf8, rfl⟩ := hrel
    have HRW := Lib.hid hr
    clear hr
    have w1 : IntKind.i64.wrap ((k : Int) + 1) = (k : Int) + 1 := IntWalk.i64_in _ (by omega)
    by_cases hlt : k < 8
    · obtain ⟨gk', rfl⟩ : ∃ gk', gk = gk' + 1 := ⟨gk - 1, by omega⟩
      have hkk : decide ((k : Int) < 8) = true := decide_eq_true (by omega)
      go_wp2
      go_loopg [7] (8 - k) (fun gf i wx => ∃ (e : Nat), e + gf = 8 ∧ k ≤ e ∧ i = .int .i64 e ∧ zrun (l.drop k) = (e - k) + zrun (l.drop e) ∧ wx = wr)
      case atStart => exact ⟨k, by omega, Nat.le_refl _, rfl, by omega, rfl⟩
      case round =>
        obtain ⟨e, he, hke, rfl, hz, rfl⟩ := hrel
        have HZR := Lib.hid hz
        clear hz
        have hl8 := HL.out
        have hkl : k < l.length := by omega
        have we1 : IntKind.i64.wrap ((e : Int) + 1) = (e : Int) + 1 := IntWalk.i64_in _ (by omega)
        by_cases he8 : e < 8
        · have hel : e < l.length := by omega
          have he1 : decide ((e : Int) < 8) = true := decide_eq_true (by omega)
          have he2 : (e : Int) < 8 := by omega
          have hc : wr.cell? ⟨w.heap.size, e, none⟩ = some (.int .u16 (l[e] : Int)) := blkN_cell HB.out e hel
          have hzd := zrun_drop l e hel
          by_cases h0 : l[e] = 0
          · have h0' : ((l[e] : Int) == 0) = true := by rw [h0]; rfl
            have HN : Hid (zrun (l.drop k) = (e + 1 - k) + zrun (l.drop (e + 1))) := Lib.hid (by rw [HZR.out, hzd.1 h0]; omega)
            clear hzd h0
            obtain ⟨gi, rfl⟩ : ∃ g, gk = g + 1 := ⟨gk - 1, by omega⟩
            go_wp2
            go_roundg gi
            case measure => omega
            case rel => exact ⟨e + 1, by omega, by omega, by go_num, HN.out, rfl⟩
          · have h0' : ((l[e] : Int) == 0) = false := by simp; omega
            have hz : zrun (l.drop k) = e - k := by rw [HZR.out, hzd.2 h0]; omega
            have HZ := Lib.hid hz
            have hsub : IntKind.i64.wrap ((e : Int) - (k : Int)) = (e : Int) - (k : Int) := IntWalk.i64_in _ (by omega)
            have HRA : Hid (rowS l = if n < e - k then rowA (k + 1) k (e - k) (l.drop (k + 1)) else rowA (k + 1) f n (l.drop (k + 1))) := Lib.hid (by
              rw [HRW.out, List.drop_eq_getElem_cons hkl, rowA, ← List.drop_eq_getElem_cons hkl, hz])
            clear hz
            by_cases hnz : n < e - k
            · have hgt : decide ((n : Int) < (e : Int) - (k : Int)) = true := decide_eq_true (by omega)
              go_wp2
              go_roundg gk'
              case measure => omega
              case rel => exact ⟨k + 1, k, e - k, by omega, by go_num, rfl, by go_num, by rw [HRA.out, if_pos hnz], by omega, by omega, rfl⟩
            · have hgt : decide ((n : Int) < (e : Int) - (k : Int)) = false := decide_eq_false (by omega)
              go_wp2
              go_roundg gk'
              case measure => omega
              case rel => exact ⟨k + 1, f, n, by omega, by go_num, rfl, rfl, by rw [HRA.out, if_neg hnz], by omega, by omega, rfl⟩
        · have he1 : decide ((e : Int) < 8) = false := decide_eq_false (by omega)
          have hz : zrun (l.drop k) = e - k := by rw [HZR.out, List.drop_eq_nil_of_le (by omega), show zrun [] = 0 from rfl]; omega
          have HZ := Lib.hid hz
          have hsub : IntKind.i64.wrap ((e : Int) - (k : Int)) = (e : Int) - (k : Int) := IntWalk.i64_in _ (by omega)
          have HRA : Hid (rowS l = if n < e - k then rowA (k + 1) k (e - k) (l.drop (k + 1)) else rowA (k + 1) f n (l.drop (k + 1))) := Lib.hid (by
            rw [HRW.out, List.drop_eq_getElem_cons hkl, rowA, ← List.drop_eq_getElem_cons hkl, hz])
          clear hz
          by_cases hnz : n < e - k
          · have hgt : decide ((n : Int) < (e : Int) - (k : Int)) = true := decide_eq_true (by omega)
            go_wp2
            go_roundg gk'
            case measure => omega
            case rel => exact ⟨k + 1, k, e - k, by omega, by go_num, rfl, by go_num, by rw [HRA.out, if_pos hnz], by omega, by omega, rfl⟩
          · have hgt : decide ((n : Int) < (e : Int) - (k : Int)) = false := decide_eq_false (by omega)
            go_wp2
            go_roundg gk'
            case measure => omega
            case rel => exact ⟨k + 1, f, n, by omega, by go_num, rfl, rfl, by rw [HRA.out, if_neg hnz], by omega, by omega, rfl⟩
    · obtain rfl : k = 8 := by omega
      have hl8 := HL.out
      have HRA : Hid (rowS l = (f, n)) := Lib.hid (by rw [HRW.out, List.drop_eq_nil_of_le (by omega), rowA])
      go_wp2
      rw [HR.out, HRA.out]
      exact ⟨rfl, HS.out⟩
end Go.Proofs.YtdamgdmipfoalaaDoor.L
