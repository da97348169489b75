/- string(b) as an equation of the run; small laws of readers. -/
import Derived.Test.YtdmcmfjhlpnaeaaSa
import Derived.Test.YtdmcmfjhlpnaeaaOpen
set_option linter.unusedVariables false
set_option linter.unusedSimpArgs false
namespace Go.Proofs.Ytdmcmfjhlpnaeaa.L
open Go.RowKit Go.Proofs

abbrev convB (W : World) (v : Value) (l : List UInt8) : Prop := (convert 22 9 v).run Try.prog W = .ok (.string (strB l)) W
theorem conv_of {M : Nat → Prop} {W : World} {v : Value} {l : List UInt8} (h : Rd u8 M W v l) : convB W v l :=
  run_strOf (P := Try.prog) 22 9 5 h Try.underlying22 Try.underlying5 Try.underlying9
theorem conv_own {B e : Nat} {W : World} {v : Value} {l : List UInt8} (h : Own enc8 e B W v l) : convB W v l := conv_of (h.rd (h1 := fun _ => rfl) (M := fun _ => False) (fun _ _ => id))
theorem strB_toList (s : ByteArray) : strB s.data.toList = s := by cases s; simp [strB]

theorem rtake_len2 (s : RSt) (n : Int) : (rtake s n).2.1.length ≤ s.1.length := (rtake_len s n).2
theorem rnum_len (s : RSt) (n : Int) : (rnum s n).2.1.length ≤ s.1.length := (rtake_len s _).2
theorem rvec_len (s : RSt) (n : Int) : (rvec s n).2.1.length ≤ s.1.length := by
  unfold rvec
  split
  · exact rnum_len s n
  · exact Nat.le_trans (rtake_len _ _).2 (rnum_len s n)
theorem rvec_len1 (s : RSt) (n : Int) : (rvec s n).1.length ≤ s.1.length := by
  unfold rvec
  split
  · simp
  · exact Nat.le_trans (rtake_len _ _).1 (rnum_len s n)
theorem rnum_pos (s : RSt) (n : Int) : 0 ≤ (rnum s n).1 := Int.natCast_nonneg _
theorem rnum_le (s : RSt) (n : Int) : (rnum s n).1 ≤ 4294967295 := beNum_le _ (rtake4 s n)
theorem IsRf.step {M S : Nat → Prop} {W W1 : World} {g : Nat} {s : RSt} (h : IsRf M W g s) (hs : Stp S W W1) (hS : ∀ k, k < W.heap.size → S k → M k) : IsRf M W1 g s := by
  obtain ⟨hM, A, c, n, l, h1, h2, hg, hr, h3⟩ := h
  exact ⟨hM, A, c, n, l, h1, h2, hs.blk hg (fun h => hM (hS g (blk_lt hg) h)), hr.step hs (fun k hk h => .inr (hS k hk h)), h3⟩
theorem IsRf.lt {M : Nat → Prop} {W : World} {g : Nat} {s : RSt} (h : IsRf M W g s) : g < W.heap.size := by
  obtain ⟨_, A, c, n, l, _, _, hg, _⟩ := h
  exact blk_lt hg
theorem IsRf.off {M : Nat → Prop} {W : World} {g : Nat} {s : RSt} (h : IsRf M W g s) : W.cell? ⟨g, 2, none⟩ = some (.bool s.2) := by
  obtain ⟨_, A, c, n, l, _, _, hg, _⟩ := h
  exact blk_cell (j := 2) hg
end Go.Proofs.Ytdmcmfjhlpnaeaa.L
