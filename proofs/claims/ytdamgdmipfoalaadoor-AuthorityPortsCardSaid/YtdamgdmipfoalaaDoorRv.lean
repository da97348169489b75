/- Layer 11: a request's line is parsed. -/
import Derived.Test.YtdamgdmipfoalaaDoorRu
set_option linter.unusedVariables false
set_option linter.unusedSimpArgs false
namespace Go.Proofs.YtdamgdmipfoalaaDoor.L
open Go.RowKit Go.Proofs

set_option maxRecDepth 100000 in
set_option maxHeartbeats 4000000 in
theorem sidx_any (g : Nat) (x y v : ByteArray) (w : World) (h0 : w.cell? ⟨g, 0, none⟩ = some (.string x)) (h1 : w.cell? ⟨g, 1, none⟩ = some (.string y)) :
    Calls Tryd.prog 25 #[.slice (some ⟨g, 0, none⟩) 2 2, .string v] w fun e w' => e = .returned (.int .i64 (if v.toList == x.toList then 0 else if v.toList == y.toList then 1 else -1)) ∧ w' = w := by
  obtain ⟨q1, hq1⟩ : ∃ q, (v.toList == x.toList) = q := ⟨_, rfl⟩
  obtain ⟨q2, hq2⟩ : ∃ q, (v.toList == y.toList) = q := ⟨_, rfl⟩
  rw [hq1, hq2]
  go_enter Tryd.func25, Tryd.ntmps25
  go_wp2
  go_loopg [5, 8] 2 (fun gf _ i wx => ∃ k : Nat, k + gf = 2 ∧ i = .int .i64 k ∧ (0 < k → q1 = false) ∧ (1 < k → q2 = false) ∧ wx = w)
  case atStart => exact ⟨0, rfl, rfl, fun h => absurd h (by decide), fun h => absurd h (by decide), rfl⟩
  case round =>
    obtain ⟨k, hk, rfl, k1, k2, hw⟩ := hrel
    obtain rfl := hw.symm
    clear hw
    rcases (by omega : k = 0 ∨ k = 1 ∨ k = 2) with rfl | rfl | rfl
    · obtain rfl : gk = 2 := by omega
      clear k1 k2
      cases q1
      · go_wp2
        go_roundg 1
        case measure => omega
        case rel => exact ⟨1, rfl, rfl, fun _ => trivial, fun h => absurd h (by decide), rfl⟩
      · go_wp2
        go_ret
        exact ⟨rfl, rfl⟩
    · obtain rfl : gk = 1 := by omega
      obtain rfl := k1 (by decide)
      clear k1 k2
      cases q2
      · go_wp2
        go_roundg 0
        case measure => omega
        case rel => exact ⟨2, rfl, rfl, fun _ => trivial, fun _ => trivial, rfl⟩
      · go_wp2
        go_ret
        exact ⟨rfl, rfl⟩
    · obtain rfl := k1 (by decide)
      obtain rfl := k2 (by decide)
      clear k1 k2
      go_wp2
      go_ret
      exact ⟨rfl, rfl⟩

theorem split_call (s : ByteArray) (hs : s.size < 4294967281) : ∃ X : List ByteArray, X.map (·.data.toList) = splitC 32 s.data.toList ∧ ∀ w, MaxL w →
    Calls Tryd.prog 23 #[.string s, .string ⟨#[32]⟩] w fun e w' => e = .returned (.slice (some ⟨w.heap.size, 0, none⟩) X.length X.length) ∧ Stp (fun _ => False) w w' ∧ w'.heap[w.heap.size]? = some (.cells (X.map Value.string).toArray 9 (0, 0)) := by
  have h1 : 1 ≤ (⟨#[32]⟩ : ByteArray).size := by decide
  have hlen := Lib.splitB_all ⟨#[32]⟩ h1 0 _ s rfl
  refine ⟨Lib.splitB ⟨#[32]⟩ 0 (Lib.countB s ⟨#[32]⟩) s, ?_, ?_⟩
  · rw [Lib.splitB_data, ← split_one]
    rfl
  · rintro w ⟨m, hm⟩
    refine (Tryd.strings_Split s ⟨#[32]⟩ m w hs hm h1).mono ?_
    rintro e w' ⟨rfl, rfl⟩
    refine ⟨?_, (Stp.refl _ w).alloc _, heap_alloc_new w _⟩
    rw [hlen]
theorem split_le (l : List UInt8) (x : List UInt8) (h : x ∈ splitC 32 l) : x.length ≤ l.length := by
  induction l generalizing x with
  | nil => simp [splitC] at h; simp [h]
  | cons a r ih =>
    rw [splitC] at h
    split at h
    · rcases List.mem_cons.1 h with rfl | h
      · simp
      · have := ih x h
        simp
        omega
    · split at h
      · rename_i y ys hy
        rcases List.mem_cons.1 h with rfl | h
        · have := ih y (by rw [hy]; simp)
          simp
          omega
        · have := ih x (by rw [hy]; simp [h])
          simp
          omega
      · rw [List.mem_singleton] at h
        subst h
        simp
end Go.Proofs.YtdamgdmipfoalaaDoor.L
