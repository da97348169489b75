/- Layer 12: fields in blocks. -/
import Derived.Test.YtgjmaifgkgejgaaGreatDoorFc
import Derived.Test.YtgjmaifgkgejgaaGreatDoorKe
set_option linter.unusedVariables false
set_option linter.unusedSimpArgs false
namespace Go.Proofs.YtgjmaifgkgejgaaGreatDoor.L
open Go.RowKit Go.Proofs

theorem info_fld : (Tryz.prog.info? 46).map (fun i => (i.zero, i.size, i.bytes)) = some (some (.agg #[.string ⟨#[]⟩, .string ⟨#[]⟩]), 2, 32) := by kernel_rfl
/-- A field that lies in a block. -/
def FAt (g : Nat) (n t : ByteArray) (w : World) : Prop := w.cell? ⟨g, 0, none⟩ = some (.string n) ∧ w.cell? ⟨g, 1, none⟩ = some (.string t)
theorem FAt.step {g : Nat} {n t : ByteArray} {w w' : World} (h : FAt g n t w) (hs : Stp (fun _ => False) w w') : FAt g n t w' := ⟨hs.cell h.1 id, hs.cell h.2 id⟩
theorem FAt.now {g : Nat} {n t : ByteArray} {w : World} (h : FAt g n t w) (M : Nat → Prop) : Now fldK M w (.slice (some ⟨g, 0, none⟩) 1 1) [(n, t)] :=
  ⟨_, 1, rfl, fun _ => ⟨_, rfl, fun j p hj => by
    match j, hj with
    | 0, hj =>
      simp at hj
      subst hj
      refine ⟨[.string n, .string t], ⟨[.string n], [.string t], rfl, rfl, rfl⟩, fun i u hu => ?_⟩
      match i, hu with
      | 0, hu =>
        simp at hu
        subst hu
        exact h.1
      | 1, hu =>
        simp at hu
        subst hu
        exact h.2⟩⟩
theorem FAt.alloc (w : World) (n t : ByteArray) : FAt w.heap.size n t (w.alloc (.cells #[.string n, .string t] 46)) :=
  ⟨blk_cell (j := 0) (heap_alloc_new w _), blk_cell (j := 1) (heap_alloc_new w _)⟩
theorem ne_own {e B : Nat} {M : Nat → Prop} {w : World} {v : Value} {xs : List (ByteArray × ByteArray)} (h : OwnM fldK e B M w v xs) : ∀ k, v.ownBlock = some k → k ≠ w.heap.size := by
  intro k hk e
  have := (h.lt k hk).2
  omega
theorem FAt.grown {g : Nat} {n t : ByteArray} {w w' : World} {row : Option Nat} (h : FAt g n t w) (hg : w.grownBy w' row) (hr : row ≠ some g) : FAt g n t w' := by
  have hb := hg.block g (World.block_lt_of_cell? w _ h.1) (fun e => hr e.symm)
  exact ⟨(World.cell?_of_block hb).trans h.1, (World.cell?_of_block hb).trans h.2⟩
end Go.Proofs.YtgjmaifgkgejgaaGreatDoor.L
