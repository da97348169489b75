/- Bytes and strings (for seats without layer 01): XSa as far as its laws go. -/
import Derived.Test.YtdamgdmipfoalaaGreatDoorBp
import Derived.Laws.BytesString
import Derived.Lib.SlBytesConst
import Derived.Lib.ConvBytes
set_option linter.unusedVariables false
set_option linter.unusedSimpArgs false
namespace Go.Proofs.YtdamgdmipfoalaaGreatDoor.L
open Go.RowKit Go.Proofs

/-- A literal of plain elements, just made, whatever its marks. -/
theorem Rd.lit {α : Type} {enc : α → Value} {h1 : ∀ x, (enc x).oneCell' = true} {M : Nat → Prop} {e : Nat} {W : World} {fr : Nat × Nat} (xs : List α) (cs : Array Value) (hcs : cs.toList = xs.map enc) (hl : xs.length ≤ 9223372036854775807) (hM : ¬ M W.heap.size) :
    Rd (.plain enc h1) M (W.alloc (.cells cs e fr)) (.slice (some ⟨W.heap.size, 0, none⟩) xs.length xs.length) xs := by
  refine plain_mk (Nat.le_refl _) (by simpa [maxLen] using hl) fun hp => ⟨_, rfl, hM, fun j hj => ?_⟩
  have hadd : (⟨W.heap.size, 0, none⟩ : Addr).add j = ⟨W.heap.size, j, none⟩ := by unfold Addr.add; split <;> simp_all
  rw [hadd, World.cell?_alloc_mark, ← Array.getElem?_toList, hcs]
  simp [hj]

theorem loadCells_of {P : Program} (w : World) (a : Addr) (vs : List Value) (h : ∀ j u, vs[j]? = some u → w.cell? (a.add j) = some u) : (loadCells a vs.length).run P w = .ok vs.toArray w := run_loadCells_list (P := P) w a vs h

theorem foldl_push (l : List UInt8) (s : ByteArray) : (l.map fun c => (c.toNat : Int)).foldl (fun r n => r.push (UInt8.ofNat n.toNat)) s = ⟨(s.data.toList ++ l).toArray⟩ := by
  induction l generalizing s with
  | nil => simp
  | cons c l ih =>
    rw [List.map_cons, List.foldl_cons, ih]
    simp [ByteArray.push]

/-- string(b) -/
theorem run_strOf {P : Program} {M : Nat → Prop} {W : World} {v : Value} {l : List UInt8} (src dst e : TypeId) (h : Rd u8 M W v l)
    (hs : P.underlying src = some (.slice e)) (he : P.underlying e = some (.int .u8)) (hd : P.underlying dst = some .string) :
    (convert src dst v).run P W = .ok (.string (strB l)) W := by
  obtain ⟨A, c, rfl, hl, hm, hc⟩ := h
  rw [run_convert_bytes_string W src dst e A l.length c hs he hd]
  by_cases h0 : 0 < l.length
  · obtain ⟨ad, rfl, hcs⟩ := hc h0
    have := run_bytesToString (P := P) W ad l.length c (l.map fun c => (c.toNat : Int)) (by
      have h1 := loadCells_of (P := P) W ad (l.map enc8) (fun j u hj => by
        simp only [List.getElem?_map, Option.map_eq_some_iff] at hj
        obtain ⟨p, hp, rfl⟩ := hj
        obtain ⟨cs, hK, hcc⟩ := hcs.2 j p hp
        obtain rfl : cs = [enc8 p] := hK
        simpa [Kind.plain, u8] using hcc 0 _ rfl)
      rw [List.length_map] at h1
      rw [h1, List.map_map]
      rfl)
    rw [this, foldl_push]
    rfl
  · obtain rfl : l = [] := List.eq_nil_of_length_eq_zero (by omega)
    cases A with
    | none =>
      simp [Conv.bytesToString, strB]
      rfl
    | some ad =>
      have := run_bytesToString (P := P) W ad 0 c [] (by simpa using run_loadCells_zero ad W)
      exact this

/-- []byte(s) -/
theorem wp_bytesOf {P : Program} {ops : Array Oper} {rest : List Oper} {o : Oper} {a : Act} {Q : Exit → Act → World → Prop} {W : World} (hg : o.guard = none) (src dst e : TypeId) (x : Operand) (hop : o.op = .convert src dst x) {u : TypeDesc}
    (hs : P.underlying src = some u) (hd : P.underlying dst = some (.slice e)) (he : P.underlying e = some (.int .u8)) {s : ByteArray} (hx : a.eval x = .string s) (hl : s.size ≤ 9223372036854775807)
    (h : ∀ v W', Rd u8 (fun k => k < W.heap.size) W' v s.data.toList → Stp (fun _ => False) W W' → W'.heap.size = W.heap.size + 1 → (∃ c, v = .slice (some ⟨W.heap.size, 0, none⟩) s.size c ∧ s.size ≤ c) → (∀ j, j < s.size → W'.frozen? ⟨W.heap.size, j, none⟩ = false) → wpList P ops Q rest (a.put o.dst v) W') :
    wpList P ops Q (o :: rest) a W := by
  refine wpList_plain hg fun K hK => ?_
  have hrun := Lib.run_convert_string_bytes (P := P) W src dst e s hs hd he
  unfold Oper.wp
  simp [execOp, hop, hx, hrun, Result.andThen]
  have hle : s.size ≤ grownCap W s.size 0 e := grownCap_ge _ _ _ _
  have hcs : s.size ≤ (Lib.bytesCells W e s).size := by
    simp only [Lib.bytesCells, Array.size_append, Array.size_map]
    exact Nat.le_add_right _ _
  have hrd := plain_mk (enc := enc8) (h1 := fun _ => rfl) (M := fun k => k < W.heap.size) (W := Lib.bytesWorld W e s) (A := some ⟨W.heap.size, 0, none⟩) (c := grownCap W s.size 0 e) (xs := s.data.toList) (by simpa using hle) (grownCap_le_maxLen _ _ _ _ (by simpa [maxLen] using hl)) (fun hp => ⟨_, rfl, by simp, fun j hj => by
    have hj' : j < s.size := by simpa using hj
    have hadd : (⟨W.heap.size, 0, none⟩ : Addr).add j = ⟨W.heap.size, j, none⟩ := by unfold Addr.add; split <;> simp_all
    rw [hadd, Lib.bytesWorld_cell W e s j hj', List.getD_eq_getElem?_getD, List.getElem?_eq_getElem hj]
    rfl⟩)
  have hsz : s.data.toList.length = s.size := by simp
  rw [hsz] at hrd
  exact hK _ _ (h _ _ hrd ⟨rfl, rfl, rfl, by rw [Lib.bytesWorld_size]; omega, fun k hk _ => Lib.bytesWorld_at_old W e s k hk⟩ (Lib.bytesWorld_size W e s) ⟨_, rfl, hle⟩ (fun j hj => by
    simp only [World.frozen?, Lib.bytesWorld_at_new]
    simp
    omega))

/-- What came in as a row of numbers of a byte. -/
theorem rd_of_row {w : World} {a : Option Addr} {len cap : Nat} {zs : List Int}
    (h : (a = none ∧ len = 0 ∧ cap = 0 ∧ zs = []) ∨ ∃ x, a = some x ∧ len ≤ cap ∧ cap ≤ maxLen ∧ zs.length = cap ∧ (∀ i, i < zs.length → w.cell? (x.add i) = some (.int .u8 (zs.getD i 0))) ∧ ∀ n ∈ zs, (Lit.int .u8 n).wf = true) :
    ∃ l : List UInt8, l.length = len ∧ Rd u8 (fun k => w.heap.size ≤ k) w (.slice a len cap) l := by
  rcases h with ⟨rfl, rfl, rfl, rfl⟩ | ⟨x, rfl, hlc, hcm, hz, hc, hw⟩
  · exact ⟨[], rfl, Rd.nil _ _ _⟩
  · have hl : ((zs.take len).map toU8).length = len := by simp; omega
    refine ⟨(zs.take len).map toU8, hl, ?_⟩
    have hcell : ∀ j, (hj : j < ((zs.take len).map toU8).length) → w.cell? (x.add j) = some (enc8 (((zs.take len).map toU8)[j])) := by
      intro j hj
      have hjz : j < zs.length := by omega
      rw [hc j hjz]
      have h1 := hw zs[j] (List.getElem_mem hjz)
      simp only [Lit.wf, IntKind.min, IntKind.max, IntKind.signed, IntKind.bits, Bool.and_eq_true, decide_eq_true_eq] at h1
      have h2 : zs.getD j 0 = zs[j] := by simp [List.getD_eq_getElem?_getD, hjz]
      rw [h2]
      simp only [List.getElem_map, List.getElem_take, enc8]
      rw [toU8_nat]
      congr 2
      simp at h1
      omega
    have := plain_mk (enc := enc8) (h1 := fun _ => rfl) (M := fun k => w.heap.size ≤ k) (W := w) (A := some x) (c := cap) (xs := (zs.take len).map toU8) (by rw [hl]; exact hlc) hcm (fun hp => ⟨x, rfl, fun h => by
      have h1 := World.block_lt_of_cell? w _ (hcell 0 hp)
      rw [add_block] at h1
      omega, hcell⟩)
    rw [hl] at this
    exact this

theorem wf_i64 {n : Int} (h : (Lit.int .i64 n).wf = true) : -9223372036854775808 ≤ n ∧ n ≤ 9223372036854775807 := by
  simp only [Lit.wf, IntKind.min, IntKind.max, IntKind.signed, IntKind.bits, Bool.and_eq_true, decide_eq_true_eq] at h
  simp at h
  omega
theorem wf_u8 {n : Int} (h : (Lit.int .u8 n).wf = true) : ∃ c : UInt8, n = (c.toNat : Int) := by
  simp only [Lit.wf, IntKind.min, IntKind.max, IntKind.signed, IntKind.bits, Bool.and_eq_true, decide_eq_true_eq] at h
  simp at h
  exact ⟨toU8 n, by rw [toU8_nat]; omega⟩

abbrev convB (W : World) (v : Value) (l : List UInt8) : Prop := (convert 69 9 v).run Tryz.prog W = .ok (.string (strB l)) W
theorem conv_of {M : Nat → Prop} {W : World} {v : Value} {l : List UInt8} (h : Rd u8 M W v l) : convB W v l :=
  run_strOf (P := Tryz.prog) 69 9 5 h Tryz.underlying69 Tryz.underlying5 Tryz.underlying9
theorem strB_inj {x y : List UInt8} (h : strB x = strB y) : x = y := by injection h with h; simpa using congrArg Array.toList h
end Go.Proofs.YtdamgdmipfoalaaGreatDoor.L
