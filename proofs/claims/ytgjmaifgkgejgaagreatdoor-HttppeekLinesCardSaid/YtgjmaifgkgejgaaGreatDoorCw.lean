/- Bytes and strings (for seats without layer 01): XSa as far as its laws go. -/
import Derived.Test.YtgjmaifgkgejgaaGreatDoorBp
import Derived.Laws.BytesString
import Derived.Lib.SlBytesConst
import Derived.Lib.ConvBytes
set_option linter.unusedVariables false
set_option linter.unusedSimpArgs false
namespace Go.Proofs.YtgjmaifgkgejgaaGreatDoor.L
open Go.RowKit Go.Proofs

/-- A literal of plain elements, just made, whatever its marks. -/
theorem Rd.lit {α : Type} {enc : α → Value} {h1 : ∀ x, (enc x).oneCell' = true} {M : Nat → Prop} {e : Nat} {W : World} {fr : Nat × Nat} (xs : List α) (cs : Array Value) (hcs : cs.toList = xs.map enc) (hl : xs.length ≤ 9223372036854775807) (hM : ¬ M W.heap.size) :
    Rd (.plain enc h1) M (W.alloc (.cells cs e fr)) (.slice (some ⟨W.heap.size, 0, none⟩) xs.length xs.length) xs := by
  refine plain_mk (Nat.le_refl _) (by simpa [maxLen] using hl) fun hp => ⟨_, rfl, hM, fun j hj => ?_⟩
  have hadd : (⟨W.heap.size, 0, none⟩ : Addr).add j = ⟨W.heap.size, j, none⟩ := by unfold Addr.add; split <;> simp_all
  rw [hadd, World.cell?_alloc_mark, ← Array.getElem?_toList, hcs]
  simp [hj]

theorem loadCells_of {P : Program} (w : World) (a : Addr) (vs : List Value) (h : ∀ j u, vs[j]? = some u → w.cell? (a.add j) = some u) : (loadCells a vs.length).run P w = .ok vs.toArray w := run_loadCells_list (P := P) w a vs h

theorem foldl_push (l : List UInt8) (s : ByteArray) : (l.map fun c => (c.toNat : Int)).foldl (fun r n => r.push (UInt8.ofNat n.toNat)) s = ⟨(s.data.toList ++ l).toArray⟩ := by
  induction l generalizing s with
  | nil => simp
  | cons c l ih =>
    rw [List.map_cons, List.foldl_cons, ih]
    simp [ByteArray.push]

/-- string(b) -/
theorem run_strOf {P : Program} {M : Nat → Prop} {W : World} {v : Value} {l : List UInt8} (src dst e : TypeId) (h : Rd u8 M W v l)
    (hs : P.underlying src = some (.slice e)) (he : P.underlying e = some (.int .u8)) (hd : P.underlying dst = some .string) :
    (convert src dst v).run P W = .ok (.string (strB l)) W := by
  obtain ⟨A, c, rfl, hl, hm, hc⟩ := h
  rw [run_convert_bytes_string W src dst e A l.length c hs he hd]
  by_cases h0 : 0 < l.length
  · obtain ⟨ad, rfl, hcs⟩ := hc h0
    have := run_bytesToString (P := P) W ad l.length c (l.map fun c => (c.toNat : Int)) (by
      have h1 := loadCells_of (P := P) W ad (l.map enc8) (fun j u hj => by
        simp only [List.getElem?_map, Option.map_eq_some_iff] at hj
        obtain ⟨p, hp, rfl⟩ := hj
        obtain ⟨cs, hK, hcc⟩ := hcs.2 j p hp
        obtain rfl : cs = [enc8 p] := hK
        simpa [Kind.plain, u8] using hcc 0 _ rfl)
      rw [List.length_map] at h1
      rw [h1, List.map_map]
      rfl)
    rw [this, foldl_push]
    rfl
  · obtain rfl : l = [] := List.eq_nil_of_length_eq_zero (by omega)
    cases A with
    | none =>
      simp [Conv.bytesToString, strB]
      rfl
    | some ad =>
      have := run_bytesToString (P := P) W ad 0 c [] (by simpa using run_loadCells_zero ad W)
      exact this

abbrev convB (W : World) (v : Value) (l : List UInt8) : Prop := (convert 22 9 v).run Tryz.prog W = .ok (.string (strB l)) W
theorem conv_of {M : Nat → Prop} {W : World} {v : Value} {l : List UInt8} (h : Rd u8 M W v l) : convB W v l :=
  run_strOf (P := Tryz.prog) 22 9 5 h Tryz.underlying22 Tryz.underlying5 Tryz.underlying9
end Go.Proofs.YtgjmaifgkgejgaaGreatDoor.L
