/- Texts of the proof, joined: Va Ti Ve. -/
import Derived.Test.YtligofmhbbgalaaGreatDoorG08
import Derived.Test.YtligofmhbbgalaaGreatDoorG10
import Derived.Test.YtligofmhbbgalaaGreatDoorG11
import Derived.Laws.CopyOwn
import Derived.Lib.SmallJoins
import Derived.Stop.BytesEq
import Derived.Laws.Cover3
import Derived.Deep.QuietTactic
import Derived.BigQuiet
import Derived.Laws.Bits64b
set_option linter.unusedVariables false
set_option linter.unusedSimpArgs false
/- Layer 3: blocks that hold a row of bytes: addresses of four, and of sixteen bytes. -/
namespace Go.Proofs.YtligofmhbbgalaaGreatDoor.L
open Go.RowKit Go.Proofs

theorem info_strA : (Tryz.prog.info? 9).map (fun i => (i.zero, i.size, i.bytes)) = some (some (.string ⟨#[]⟩), 1, 16) := by kernel_rfl
theorem addr_z (a : Addr) : a.add 0 = a := by unfold Addr.add; rw [if_pos rfl]
theorem addr_nz (a : Addr) (n : Nat) (h : n ≠ 0) : a.add n = ⟨a.block, a.off + n, none⟩ := by unfold Addr.add; rw [if_neg h]

/-- An array of bytes, as a value, and in its block. -/
def cellsA (l : List UInt8) : Array Value := (l.map enc8).toArray
def arrV (l : List UInt8) : Value := .agg (cellsA l)
def Arr (g : Nat) (ty : TypeId) (l : List UInt8) (w : World) : Prop := w.heap[g]? = some (.cells (cellsA l) ty (0, 0))
theorem cellsA_size (l : List UInt8) : (cellsA l).size = l.length := by simp [cellsA]
theorem cellsA_one (l : List UInt8) : (cellsA l).all (·.oneCell') = true := by
  unfold cellsA
  rw [← Array.all_toList]
  simp [List.all_map, enc8, Value.oneCell']
theorem Arr.step {g : Nat} {ty : TypeId} {l : List UInt8} {w w' : World} {S : Nat → Prop} (h : Arr g ty l w) (hs : Stp S w w') (hS : ¬ S g) : Arr g ty l w' := hs.blk h hS
theorem Arr.lt {g : Nat} {ty : TypeId} {l : List UInt8} {w : World} (h : Arr g ty l w) : g < w.heap.size := blk_lt h
theorem Arr.cell {g : Nat} {ty : TypeId} {l : List UInt8} {w : World} (h : Arr g ty l w) (j : Nat) (hj : j < l.length) : w.cell? ⟨g, j, none⟩ = some (enc8 l[j]) := by
  rw [blk_cell h]
  simp [cellsA, hj]
theorem Arr.free {g : Nat} {ty : TypeId} {l : List UInt8} {w : World} (h : Arr g ty l w) (j : Nat) : w.frozen? ⟨g, j, none⟩ = false := blk_free h j
theorem Arr.set_ {g : Nat} {ty : TypeId} {l : List UInt8} {w : World} (h : Arr g ty l w) (j : Nat) (b : UInt8) : Arr g ty (l.set j b) (w.setCell ⟨g, j, none⟩ (enc8 b)) := by
  unfold Arr
  rw [blk_set h]
  congr 2
  unfold cellsA
  apply Array.ext'
  simp
theorem Arr.row {g : Nat} {ty : TypeId} {l k : List UInt8} {w : World} (h : Arr g ty l w) : Arr g ty k (w.setRow g (cellsA k)) := by
  unfold Arr
  exact setRow_heap w g _ _ ty _ h
theorem Arr.rd {g : Nat} {ty : TypeId} {l : List UInt8} {w : World} {M : Nat → Prop} (h : Arr g ty l w) (hM : ¬ M g) (off n c : Nat) (hn : off + n ≤ l.length) (hc : n ≤ c) (hm : c ≤ maxLen) :
    Rd u8 M w (.slice (some ⟨g, off, none⟩) n c) ((l.drop off).take n) := by
  have hl : ((l.drop off).take n).length = n := by simp; omega
  have := plain_mk (enc := enc8) (h1 := fun _ => rfl) (M := M) (W := w) (A := some ⟨g, off, none⟩) (c := c) (xs := (l.drop off).take n) (by omega) hm (fun hp => ⟨⟨g, off, none⟩, rfl, hM, fun j hj => by
    have hj' : off + j < l.length := by omega
    have := h.cell (off + j) hj'
    by_cases h0 : j = 0
    · subst h0
      rw [addr_z]
      simpa using this
    · rw [addr_nz _ _ h0]
      rw [this]
      simp⟩)
  rw [hl] at this
  exact this

/-- strings.Split at one byte. -/
theorem splitc_call (c : UInt8) (s : ByteArray) (hs : s.size < 4294967281) : ∃ X : List ByteArray, X.map (·.data.toList) = splitC c s.data.toList ∧ ∀ w, MaxL w →
    Calls Tryz.prog 41 #[.string s, .string ⟨#[c]⟩] w fun e w' => ∃ g, e = .returned (.slice (some ⟨g, 0, none⟩) X.length X.length) ∧ w.heap.size ≤ g ∧ Stp (fun _ => False) w w' ∧ w'.heap[g]? = some (.cells (X.map Value.string).toArray 9 (0, 0)) := by
  have h1 : 1 ≤ (⟨#[c]⟩ : ByteArray).size := Nat.le_refl 1
  have hlen := Lib.splitB_all ⟨#[c]⟩ h1 0 _ s rfl
  refine ⟨Lib.splitB ⟨#[c]⟩ 0 (Lib.countB s ⟨#[c]⟩) s, ?_, ?_⟩
  · rw [Lib.splitB_data, ← split_one]
    rfl
  · rintro w ⟨m, hm⟩
    refine (Tryz.strings_Split s ⟨#[c]⟩ m w hs hm h1).mono ?_
    rintro e w' ⟨rfl, rfl⟩
    refine ⟨w.heap.size, ?_, Nat.le_refl _, (Stp.refl _ w).alloc _, heap_alloc_new w _⟩
    rw [hlen]
theorem splitc_le (c : UInt8) (l : List UInt8) (x : List UInt8) (h : x ∈ splitC c l) : x.length ≤ l.length := by
  induction l generalizing x with
  | nil => simp [splitC] at h; simp [h]
  | cons a r ih =>
    rw [splitC] at h
    split at h
    · rcases List.mem_cons.1 h with rfl | h
      · simp
      · have := ih x h
        simp
        omega
    · split at h
      · rename_i y ys hy
        rcases List.mem_cons.1 h with rfl | h
        · have := ih y (by rw [hy]; simp)
          simp
          omega
        · have := ih x (by rw [hy]; simp [h])
          simp
          omega
      · rename_i hy
        exact absurd hy (splitC_ne c r)
theorem size_four : (Tryz.prog.info? 107).map (·.size) = some 4 := by kernel_rfl
theorem size_addr : (Tryz.prog.info? 76).map (·.size) = some 16 := by kernel_rfl
/-- The package's variables that are read. -/
def aheadZ : List Int := [0, 0, 0, 0, 0, 0, 0, 0, 0, 0, 255, 255]
def AheadP (w : World) : Prop := Lib.TabIs Tryz.prog w "hagioscope/addr.ahead" .u8 aheadZ
theorem gAhead : Tryz.prog.globalNamed "hagioscope/addr.ahead" = some 0 := by kernel_rfl
theorem AheadP.step {w w' : World} (h : AheadP w) (hs : Stp (fun _ => False) w w') : AheadP w' := Joins.tab_stays gAhead h hs.below (Nat.le_refl _)
theorem AheadP.at_ {w : World} (h : AheadP w) (j : Nat) (hj : j < 12) : w.cell? ⟨0, j, none⟩ = some (enc8 (aheadL[j]'hj)) := by
  rw [Lib.TabIs.cell h gAhead j hj]
  match j, hj with
  | 0, _ => rfl
  | 1, _ => rfl
  | 2, _ => rfl
  | 3, _ => rfl
  | 4, _ => rfl
  | 5, _ => rfl
  | 6, _ => rfl
  | 7, _ => rfl
  | 8, _ => rfl
  | 9, _ => rfl
  | 10, _ => rfl
  | 11, _ => rfl
/-- y laid over x from off on. -/
def over (x : List UInt8) (off : Nat) (y : List UInt8) : List UInt8 := x.take off ++ (y ++ x.drop (off + y.length))
theorem over_len (x : List UInt8) (off : Nat) (y : List UInt8) (h : off + y.length ≤ x.length) : (over x off y).length = x.length := by
  unfold over
  simp
  omega
theorem Stp.rowA {S : Nat → Prop} {w w1 : World} (h : Stp S w w1) {g : Nat} (hg : g < w.heap.size → S g) (cs : Array Value) : Stp S w (w1.setRow g cs) :=
  ⟨h.os, h.tape, h.output, by have := h.size; simpa [World.setRow] using this, fun k hk hS => (setRow_other w1 g k cs (fun e => hS (e ▸ hg (e ▸ hk)))).trans (h.block k hk hS)⟩
theorem Arr.over {g : Nat} {ty : TypeId} {x : List UInt8} {W : World} (h : Arr g ty x W) (off : Nat) (y : List UInt8) :
    Arr g ty (over x off y) (W.setRow g ((cellsA x).toList.take off ++ (y.map enc8 ++ (cellsA x).toList.drop (off + y.length))).toArray) := by
  have e : ((cellsA x).toList.take off ++ (y.map enc8 ++ (cellsA x).toList.drop (off + y.length))).toArray = cellsA (L.over x off y) := by
    unfold L.over cellsA
    simp [List.map_take, List.map_drop]
  rw [e]
  exact h.row
/-- copy into a block of bytes, from off on. -/
theorem st_copyA {P : Program} {ops : Array Oper} {o : Oper} {a : Act} {W : World} {K : Act → World → Prop} {Q : Exit → Act → World → Prop} {E : Prop} (hgd : o.guard = none) (d s : Operand) (dT sT : TypeId)
    (ho : o.op = .call { callee := .builtin .copy, args := #[d, s], argTypes := #[dT, sT] }) (e : TypeId) (hu : P.underlying dT = some (.slice e)) (hsz : (P.info? e).map (·.size) = some 1)
    {g off n c : Nat} {ty : TypeId} {x y : List UInt8} {sv : Value} {M : Nat → Prop} (hA : Arr g ty x W) (hrd : Rd u8 M W sv y) (hd : a.eval d = .slice (some ⟨g, off, none⟩) n c) (hs : a.eval s = sv)
    (hfit : off + n ≤ x.length) (hn : y.length ≤ n)
    (h : ∀ W', Arr g ty (over x off y) W' → Stp (fun k => k = g) W W' → K (a.put o.dst (goInt (y.length : Int))) W') :
    if Region.wanted o (yielded ops a.tmps) = true then Oper.wp P o a W K Q else E := by
  have hw : Region.wanted o (yielded ops a.tmps) = true := by simp [Region.wanted, hgd]
  rw [if_pos hw]
  obtain ⟨A, cc, rfl, hl, hm, hc⟩ := hrd
  by_cases h0 : y.length = 0
  · obtain rfl : y = [] := List.eq_nil_of_length_eq_zero h0
    have hrun := run_copy_none (P := P) W dT sT o.type e (some ⟨g, off, none⟩) A n c 0 cc hu hsz (by simp)
    unfold Oper.wp
    simp [execOp, ho, resolve, invoke, builtin, hd, hs, hrun, Result.andThen]
    refine h W ?_ (Stp.refl _ W)
    have : over x off [] = x := by simp [over]
    rw [this]
    exact hA
  · obtain ⟨ad, rfl, hcs⟩ := hc (by omega)
    have hrun := run_copy_row (P := P) W dT sT o.type e g off n c ad y.length cc (cellsA x) ty (y.map enc8) hu hsz hA (by rw [List.length_map]; exact (Nat.min_eq_left hn).symm) (by
      intro j v hj
      simp only [List.getElem?_map, Option.map_eq_some_iff] at hj
      obtain ⟨p, hp, rfl⟩ := hj
      obtain ⟨cs, hK, hcc⟩ := hcs.2 j p hp
      obtain rfl : cs = [enc8 p] := hK
      have := hcc 0 _ rfl
      simpa [u8, Kind.plain] using this) (by rw [cellsA_size]; simp; omega) (by
      intro v hv
      obtain ⟨p, _, rfl⟩ := List.mem_map.1 hv
      rfl)
    unfold Oper.wp
    simp only [execOp, ho, resolve, invoke, builtin]
    simp [hd, hs, hrun, Result.andThen]
    exact h _ (hA.over off y) ((Stp.refl (fun k => k = g) W).rowA (fun _ => rfl) _)
/-- The same, in a row of operations. -/
theorem wp_copyA {P : Program} {ops : Array Oper} {rest : List Oper} {o : Oper} {a : Act} {W : World} {Q : Exit → Act → World → Prop} (hgd : o.guard = none) (d s : Operand) (dT sT : TypeId)
    (ho : o.op = .call { callee := .builtin .copy, args := #[d, s], argTypes := #[dT, sT] }) (e : TypeId) (hu : P.underlying dT = some (.slice e)) (hsz : (P.info? e).map (·.size) = some 1)
    {g off n c : Nat} {ty : TypeId} {x y : List UInt8} {sv : Value} {M : Nat → Prop} (hA : Arr g ty x W) (hrd : Rd u8 M W sv y) (hd : a.eval d = .slice (some ⟨g, off, none⟩) n c) (hs : a.eval s = sv)
    (hfit : off + n ≤ x.length) (hn : y.length ≤ n)
    (h : ∀ W', Arr g ty (over x off y) W' → Stp (fun k => k = g) W W' → wpList P ops Q rest (a.put o.dst (goInt (y.length : Int))) W') : wpList P ops Q (o :: rest) a W :=
  wpList_plain hgd fun K hK => by
    have := st_copyA (P := P) (ops := ops) (o := o) (a := a) (W := W) (K := K) (Q := Q) (E := False) hgd d s dT sT ho e hu hsz hA hrd hd hs hfit hn (fun W' h1 h2 => hK _ _ (h W' h1 h2))
    rw [if_pos (by simp [Region.wanted, hgd])] at this
    exact this
theorem wp_loadA {P : Program} {ops : Array Oper} {rest : List Oper} {o : Oper} {a : Act} {W : World} {Q : Exit → Act → World → Prop} (hgd : o.guard = none) (ty : TypeId) (x : Operand) (ho : o.op = .load ty x)
    {g : Nat} {t : TypeId} {l : List UInt8} (hx : a.eval x = .pointer (some ⟨g, 0, none⟩)) (hA : Arr g t l W) {m : Nat} {e : TypeId} (hu : P.underlying ty = some (.array m e)) {n : Nat} (hi : (P.info? ty).map (·.size) = some n) (hn : l.length = n)
    (h : wpList P ops Q rest (a.put o.dst (.agg (cellsA l))) W) : wpList P ops Q (o :: rest) a W :=
  wpList_load_row hgd ty x ho g hx t (cellsA l) (0, 0) _ hA hu rfl (by rw [cellsA_size, hn]; exact hi) h
theorem wp_storeA {P : Program} {ops : Array Oper} {rest : List Oper} {o : Oper} {a : Act} {W : World} {Q : Exit → Act → World → Prop} (hgd : o.guard = none) (ty : TypeId) (x y : Operand) (ho : o.op = .store ty x y)
    {g : Nat} {t : TypeId} {l k : List UInt8} (hx : a.eval x = .pointer (some ⟨g, 0, none⟩)) (hy : a.eval y = .agg (cellsA l)) (hA : Arr g t k W) {n : Nat} (hi : (P.info? ty).map (·.size) = some n) (hn : l.length = n) (hk : k.length = n)
    (h : ∀ W', Arr g t l W' → Stp (fun j => j = g) W W' → wpList P ops Q rest (a.put o.dst undef) W') : wpList P ops Q (o :: rest) a W :=
  wpList_store_row hgd ty x y ho g (cellsA l) hx hy t (cellsA k) hA (by rw [cellsA_size, hn]; exact hi) (by rw [cellsA_size, cellsA_size, hn, hk]) (cellsA_one l) (h _ hA.row ((Stp.refl (fun j => j = g) W).rowA (fun _ => rfl) _))
theorem stopw {P : Program} {ops : Array Oper} {rest : List Oper} {a : Act} {Q : Exit → Act → World → Prop} {W : World} (h : Stop (wpList P ops Q rest a W)) : wpList P ops Q rest a W := by
  unfold Stop at h
  exact h
/-- A world by what is known of it. -/
theorem wp_gen {P : Program} {c : Code} {a : Act} {Q : Exit → Act → World → Prop} {W0 : World} (T : World → Prop) (h0 : T W0) (h : ∀ W, T W → Code.wp P c Q a W) : Code.wp P c Q a W0 := h W0 h0
theorem wpl_gen {P : Program} {ops : Array Oper} {rest : List Oper} {a : Act} {Q : Exit → Act → World → Prop} {W0 : World} (T : World → Prop) (h0 : T W0) (h : ∀ W, T W → wpList P ops Q rest a W) : wpList P ops Q rest a W0 := h W0 h0
theorem arr_new (W : World) (g : Nat) (ty : TypeId) (l : List UInt8) (hg : g = W.heap.size) : Arr g ty l (W.alloc (.cells (cellsA l) ty)) := by
  rw [hg]
  exact heap_alloc_new W _
theorem Arr.alloc {g : Nat} {ty : TypeId} {l : List UInt8} {W : World} (h : Arr g ty l W) (o : Obj) : Arr g ty l (W.alloc o) := h.step ((Stp.refl (fun _ => False) W).alloc o) id
theorem Arr.all {g : Nat} {ty : TypeId} {l : List UInt8} {w : World} (h : Arr g ty l w) (M : Nat → Prop) (hM : ¬ M g) (n : Nat) (hn : l.length = n) (hm : n ≤ maxLen) : Rd u8 M w (.slice (some ⟨g, 0, none⟩) n n) l := by
  have := h.rd hM 0 n n (by omega) (Nat.le_refl _) hm
  rw [List.drop_zero, List.take_of_length_le (by omega)] at this
  exact this
theorem Arr.drew {g : Nat} {ty : TypeId} {l : List UInt8} {W : World} (h : Arr g ty l W) : Arr g ty l W.drew := h
theorem over_zeros (b : List UInt8) (hb : b.length = 4) : over (over (zerosL 16) 0 aheadL) 12 b = aheadL ++ b := by
  match b, hb with
  | [_, _, _, _], _ => rfl
theorem AheadP.rd {w : World} (h : AheadP w) (M : Nat → Prop) (hM : ¬ M 0) : Rd u8 M w (.slice (some ⟨0, 0, none⟩) 12 12) aheadL :=
  plain_mk (enc := enc8) (h1 := fun _ => rfl) (xs := aheadL) (Nat.le_refl _) (by decide) fun _ => ⟨_, rfl, hM, fun j hj => by
    have := h.at_ j hj
    by_cases h0 : j = 0
    · subst h0
      rw [addr_z]
      exact this
    · rw [addr_nz _ _ h0, Nat.zero_add]
      exact this⟩

set_option maxRecDepth 100000 in
set_option maxHeartbeats 4000000 in
theorem of4_any (b : List UInt8) (hb : b.length = 4) (w : World) (ha : AheadP w) : Calls Tryz.prog 66 #[arrV b] w fun e w' => e = .returned (arrV (aheadL ++ b)) ∧ Stp (fun _ => False) w w' := by
  unfold arrV
  go_enter Tryz.func66, Tryz.ntmps66
  go_wp2
  refine wp_gen (fun W => Arr w.heap.size 107 b W ∧ Arr (w.heap.size + 1) 76 (zerosL 16) W ∧ Arr (w.heap.size + 1 + 1) 76 (zerosL 16) W ∧ Stp (fun _ => False) w W)
    ⟨((arr_new _ _ _ _ rfl).alloc _).alloc _, (arr_new _ _ _ (zerosL 16) (by simp)).alloc _, arr_new _ _ _ (zerosL 16) (by simp), (((Stp.refl _ w).alloc _).alloc _).alloc _⟩ ?_
  rintro W1 ⟨hA, hB, hC, hs⟩
  have HA := Lib.hid hA
  have HB := Lib.hid hB
  have HC := Lib.hid hC
  have HS := Lib.hid hs
  have HH := Lib.hid ha
  clear hA hB hC hs ha
  refine wp_region_held_drew (S := (fun _ => True)) (by kernel_rfl) (trivial) (fun hHeld => ?_)
  try (change wpAnyH _ _ _ _ _ _ _ _ (World.drew _))
  refine rg_take (i := 0) (o := { dst := some 4, op := Op.slice 76 (Operand.tmp 3) none none none, type := 22, pos := "addr.go:27", after := #[], guard := none }) (v := ?rgv1) rfl (by kernel_rfl) (by kernel_rfl) (by kernel_rfl) (fun _ _ _ h => h) (by rfl) (fun w hSw => ?rgy1) hHeld ?_
  case rgy1 => (try dsimp only at hSw); first | (go_simp; done) | (go_simp; with_reducible rfl)
  try simp only [Act.put, List.setIfInBounds_toArray, List.set_cons_zero, List.set_cons_succ]
  refine rg_take (i := 1) (o := { dst := some 5, op := Op.slice 143 (Operand.global 0) none none none, type := 22, pos := "addr.go:27", after := #[], guard := none }) (v := ?rgv2) rfl (by kernel_rfl) (by kernel_rfl) (by kernel_rfl) (fun _ _ _ h => h) (by rfl) (fun w hSw => ?rgy2) hHeld ?_
  case rgy2 => (try dsimp only at hSw); first | (go_simp; done) | (go_simp; with_reducible rfl)
  try simp only [Act.put, List.setIfInBounds_toArray, List.set_cons_zero, List.set_cons_succ]
  refine wpAnyH_ready (rs := [2]) (by kernel_rfl) (by simp) ?_
  refine (AllReadyH.cons (o := { dst := some 6, op := Op.call { callee := Callee.builtin Builtin.copy, args := #[Operand.tmp 4, Operand.tmp 5], argTypes := #[22, 22] }, type := 3, pos := "addr.go:27", after := #[{ on := 0, ground := Ground.data }, { on := 1, ground := Ground.data }], guard := none }) rfl (fun K hK => ?_) AllReadyH.nil)
  refine st_copyA (by rfl) _ _ _ _ (by rfl) 5 Tryz.underlying22 size_u8 HC.out.drew (((HH.out.step HS.out).rd (fun _ => False) id).stp0 (Stp.refl _ _).drew) (by rfl) (by rfl) (by decide) (by decide) ?_
  intro W2 hC2 hs2
  have HC2 := Lib.hid hC2
  have HS2 := Lib.hid hs2
  clear hC2 hs2
  show K _ _
  clear hHeld
  refine hK.out _ _ (trivial) (fun hHeld => ?_)
  clear hK K
  try simp only [Act.put, List.setIfInBounds_toArray, List.set_cons_zero, List.set_cons_succ]
  clear hHeld
  refine wpAnyH_done (by kernel_rfl) ?_ _
  skip
  have HA2 := Lib.hid (HA.out.drew.step HS2.out (by omega))
  have HB2 := Lib.hid (HB.out.drew.step HS2.out (by omega))
  have HS3 := Lib.hid (HS.out.drew.then_ HS2.out (fun k hk h => absurd h (by omega)))
  go_wp2
  refine wp_region_held_drew (S := (fun _ => True)) (by kernel_rfl) (trivial) (fun hHeld => ?_)
  try (change wpAnyH _ _ _ _ _ _ _ _ (World.drew _))
  refine rg_take (i := 0) (o := { dst := some 7, op := Op.slice 76 (Operand.tmp 3) (some (Operand.const (Value.int IntKind.i64 12))) none none, type := 22, pos := "addr.go:28", after := #[], guard := none }) (v := ?rgv3) rfl (by kernel_rfl) (by kernel_rfl) (by kernel_rfl) (fun _ _ _ h => h) (by rfl) (fun w hSw => ?rgy3) hHeld ?_
  case rgy3 => (try dsimp only at hSw); first | (go_simp; done) | (go_simp; with_reducible rfl)
  try simp only [Act.put, List.setIfInBounds_toArray, List.set_cons_zero, List.set_cons_succ]
  refine rg_take (i := 1) (o := { dst := some 8, op := Op.slice 107 (Operand.tmp 1) none none none, type := 22, pos := "addr.go:28", after := #[], guard := none }) (v := ?rgv4) rfl (by kernel_rfl) (by kernel_rfl) (by kernel_rfl) (fun _ _ _ h => h) (by rfl) (fun w hSw => ?rgy4) hHeld ?_
  case rgy4 => (try dsimp only at hSw); first | (go_simp; done) | (go_simp; with_reducible rfl)
  try simp only [Act.put, List.setIfInBounds_toArray, List.set_cons_zero, List.set_cons_succ]
  refine wpAnyH_ready (rs := [2]) (by kernel_rfl) (by simp) ?_
  refine (AllReadyH.cons (o := { dst := some 9, op := Op.call { callee := Callee.builtin Builtin.copy, args := #[Operand.tmp 7, Operand.tmp 8], argTypes := #[22, 22] }, type := 3, pos := "addr.go:28", after := #[{ on := 0, ground := Ground.data }, { on := 1, ground := Ground.data }], guard := none }) rfl (fun K hK => ?_) AllReadyH.nil)
  refine st_copyA (by rfl) _ _ _ _ (by rfl) 5 Tryz.underlying22 size_u8 HC2.out.drew ((HA2.out.all (fun _ => False) id 4 hb (by decide)).stp0 (Stp.refl _ _).drew) (by rfl) (by rfl) (by decide) (by omega) ?_
  intro W3 hC3 hs3
  have HC3 := Lib.hid hC3
  have HS4 := Lib.hid hs3
  clear hC3 hs3
  show K _ _
  clear hHeld
  refine hK.out _ _ (trivial) (fun hHeld => ?_)
  clear hK K
  try simp only [Act.put, List.setIfInBounds_toArray, List.set_cons_zero, List.set_cons_succ]
  clear hHeld
  refine wpAnyH_done (by kernel_rfl) ?_ _
  skip
  have HB3 := Lib.hid (HB2.out.drew.step HS4.out (by omega))
  have HS5 := Lib.hid (HS3.out.drew.then_ HS4.out (fun k hk h => absurd h (by omega)))
  have hC3 := HC3.out
  rw [over_zeros b hb] at hC3
  have HC4 := Lib.hid hC3
  clear hC3
  go_wp2_with (with_reducible refine stop (N := 10) rfl ?_)
  refine Stop.go ?_
  have hl16 : (aheadL ++ b).length = 16 := by simp [hb, aheadL]
  refine wp_loadA rfl _ _ rfl rfl HC4.out Tryz.underlying76 size_addr hl16 ?_
  refine wp_storeA rfl _ _ _ rfl rfl rfl HB3.out size_addr hl16 rfl ?_
  intro W4 hB4 hs4
  have HB4 := Lib.hid hB4
  have HS6 := Lib.hid (HS5.out.then_ hs4 (fun k hk h => absurd h (by omega)))
  clear hB4 hs4
  go_wp2
  refine bodyPost_ret (results_cell_row rfl _ _ (w.heap.size + 1) _ _ _ _ rfl HB4.out Tryz.underlying76 rfl (by rw [cellsA_size, hl16]; exact size_addr)) rfl ⟨rfl, HS6.out⟩

theorem exec_loadC {P : Program} {w : World} {o : Oper} {ev : Operand → Value} (ty : TypeId) (x : Operand) (ho : o.op = .load ty x) {g : Nat} (hx : ev x = .pointer (some ⟨g, 0, none⟩)) (l : List UInt8)
    {m : Nat} {e : TypeId} (hu : P.underlying ty = some (.array m e)) {n : Nat} (hi : (P.info? ty).map (·.size) = some n) (hn : l.length = n) (hc : ∀ j, (hj : j < l.length) → w.cell? ⟨g, j, none⟩ = some (enc8 l[j])) :
    (execOp ev o).run P w = .ok (.value (.agg (cellsA l))) w := by
  have hl : (loadCells ⟨g, 0, none⟩ (l.map enc8).length).run P w = .ok (cellsA l) w :=
    run_loadCells_list (P := P) w ⟨g, 0, none⟩ (l.map enc8) (fun j v hv => by
      simp only [List.getElem?_map, Option.map_eq_some_iff] at hv
      obtain ⟨b, hb, rfl⟩ := hv
      obtain ⟨hj, rfl⟩ := List.getElem?_eq_some_iff.1 hb
      by_cases h0 : j = 0
      · subst h0
        rw [addr_z]
        exact hc 0 hj
      · rw [addr_nz _ _ h0, Nat.zero_add]
        exact hc j hj)
  rw [List.length_map, hn] at hl
  cases hq : P.info? ty with
  | none => simp [hq] at hi
  | some i =>
    have hs : i.size = n := by simpa [hq] using hi
    have hagg : (isAgg ty).run P w = .ok true w := by
      unfold isAgg
      rw [Sem.run_bind, run_underlying hu w]
      simp
    unfold execOp
    simp only [ho, hx, Instr.loadAt, Instr.sureAddr, Sem.run_bind, Sem.run_pure, Result.andThen_ok]
    simp [loadVar, Sem.run_bind, hagg, sizeOf, typeInfo, hq, hs, hl]
theorem size_ahead : (Tryz.prog.info? 143).map (·.size) = some 12 := by kernel_rfl
theorem exec_eqlA {P : Program} {w : World} {o : Oper} {ev : Operand → Value} (t : TypeId) (x y : Operand) (r : TypeId) (ho : o.op = .binOp .eql t x y r) (a b : List UInt8) (hx : ev x = .agg (cellsA a)) (hy : ev y = .agg (cellsA b))
    {e : TypeId} {n : Nat} (ht : P.underlying t = some (.array n e)) (he : P.underlying e = some (.int .u8)) (hsz : ∀ w, (sizeOf e).run P w = .ok 1 w) (hm : P.eqGuardType P.depth t = false) (ha : a.length = n) (hb : b.length = n) :
    (execOp ev o).run P w = .ok (.value (.bool (a == b))) w := by
  have h := run_eql_bytes (P := P) w t e n ht he hsz a b ha hb
  unfold execOp
  simp only [ho, hx, hy, Sem.run_bind, Sem.run_pure]
  have h' : (binOp .eql t (.agg (cellsA a)) (.agg (cellsA b))).run P w = .ok (.bool (a == b)) w := h
  rw [run_eqGuard_agg w .eql t x y _ _ hm, Result.andThen_ok, h']
  rfl

theorem fourB_eq (a : List UInt8) : (a.take 12 == aheadL) = fourB a := by
  unfold fourB
  rw [Bool.eq_iff_iff]
  simp

set_option maxRecDepth 100000 in
set_option maxHeartbeats 4000000 in
theorem four_any (a : List UInt8) (ha : a.length = 16) (w : World) (hh : AheadP w) : Calls Tryz.prog 69 #[arrV a] w fun e w' => e = .returned (.bool (fourB a)) ∧ Stp (fun _ => False) w w' := by
  unfold arrV
  obtain ⟨b, hb⟩ : ∃ b, b = fourB a := ⟨_, rfl⟩
  rw [← hb]
  have HB := Lib.hid hb
  clear hb
  go_enter Tryz.func69, Tryz.ntmps69
  go_wp2
  refine wp_gen (fun W => Arr w.heap.size 76 a W ∧ AheadP W ∧ Stp (fun _ => False) w W) ⟨arr_new _ _ _ _ rfl, hh.step ((Stp.refl _ w).alloc _), (Stp.refl _ w).alloc _⟩ ?_
  rintro W1 ⟨hA, hP, hs⟩
  have HA := Lib.hid hA
  have HS := Lib.hid hs
  have HP := Lib.hid hP
  clear hA hP hs hh
  have hat : ∀ W, (Instr.arrayAt 143 (.slice (some ⟨w.heap.size, 0, none⟩) 12 16)).run Tryz.prog W = .ok (.pointer (some ⟨w.heap.size, 0, none⟩)) W := fun W => run_arrayAt W 143 _ 12 _ 12 16 Tryz.underlying143 (Nat.le_refl _)
  refine wp_region_held_drew (S := (fun W => Arr w.heap.size 76 a W ∧ AheadP W)) (by kernel_rfl) (⟨HA.out.drew, HP.out⟩) (fun hHeld => ?_)
  try (change wpAnyH _ _ _ _ _ _ _ _ (World.drew _))
  refine rg_take (i := 0) (o := { dst := some 3, op := Op.slice 76 (Operand.tmp 1) none (some (Operand.const (Value.int IntKind.i64 12))) none, type := 22, pos := "addr.go:33", after := #[], guard := none }) (v := ?rgv5) rfl (by kernel_rfl) (by kernel_rfl) (by kernel_rfl) (fun _ _ _ h => h) (by rfl) (fun w hSw => ?rgy5) hHeld ?_
  case rgy5 => (try dsimp only at hSw); first | (go_simp; done) | (go_simp; with_reducible rfl)
  try simp only [Act.put, List.setIfInBounds_toArray, List.set_cons_zero, List.set_cons_succ]
  refine rg_take (i := 1) (o := { dst := some 4, op := Op.sliceToArrayPointer 143 (Operand.tmp 3), type := 0, pos := "addr.go:33", after := #[{ on := 0, ground := Ground.data }], guard := none }) (v := ?rgv6) rfl (by kernel_rfl) (by kernel_rfl) (by kernel_rfl) (fun _ _ _ h => h) (by rfl) (fun w hSw => ?rgy6) hHeld ?_
  case rgy6 => (try dsimp only at hSw); first | (go_simp; done) | (go_simp; with_reducible rfl)
  try simp only [Act.put, List.setIfInBounds_toArray, List.set_cons_zero, List.set_cons_succ]
  refine rg_take (i := 2) (o := { dst := some 5, op := Op.load 143 (Operand.tmp 4), type := 143, pos := "addr.go:33", after := #[{ on := 1, ground := Ground.data }], guard := none }) (v := (.agg (cellsA (a.take 12)))) rfl (by kernel_rfl) (by kernel_rfl) (by kernel_rfl) (fun _ _ _ h => h) (by rfl) (fun w hSw => exec_loadC _ _ (by rfl) (by rfl) _ Tryz.underlying143 size_ahead (by simp [ha]) (fun j hj => by rw [hSw.1.cell j (by simp at hj; omega)]; simp)) hHeld ?_
  try simp only [Act.put, List.setIfInBounds_toArray, List.set_cons_zero, List.set_cons_succ]
  refine rg_take (i := 3) (o := { dst := some 6, op := Op.load 143 (Operand.global 0), type := 143, pos := "addr.go:33", after := #[], guard := none }) (v := (.agg (cellsA aheadL))) rfl (by kernel_rfl) (by kernel_rfl) (by kernel_rfl) (fun _ _ _ h => h) (by rfl) (fun w hSw => exec_loadC _ _ (by rfl) (by rfl) _ Tryz.underlying143 size_ahead (by rfl) (fun j hj => hSw.2.at_ j hj)) hHeld ?_
  try simp only [Act.put, List.setIfInBounds_toArray, List.set_cons_zero, List.set_cons_succ]
  refine rg_take (i := 4) (o := { dst := some 7, op := Op.binOp BinOp.eql 143 (Operand.tmp 5) (Operand.tmp 6) 143, type := 4, pos := "addr.go:33", after := #[{ on := 2, ground := Ground.data }, { on := 3, ground := Ground.data }], guard := none }) (v := (.bool (a.take 12 == aheadL))) rfl (by kernel_rfl) (by kernel_rfl) (by kernel_rfl) (fun _ _ _ h => h) (by rfl) (fun w hSw => exec_eqlA _ _ _ _ (by rfl) _ _ (by rfl) (by rfl) Tryz.underlying143 Tryz.underlying5 Tryz.sizeOf5 Tryz.eqGuardType143 (by simp [ha]) (by rfl)) hHeld ?_
  try simp only [Act.put, List.setIfInBounds_toArray, List.set_cons_zero, List.set_cons_succ]
  refine rg_take (i := 5) (o := { dst := some 2, op := Op.assign (Operand.tmp 7), type := 4, pos := "addr.go:33", after := #[{ on := 4, ground := Ground.data }, { on := 0, ground := Ground.phase }, { on := 1, ground := Ground.phase }, { on := 2, ground := Ground.phase }, { on := 3, ground := Ground.phase }, { on := 4, ground := Ground.phase }], guard := none }) (v := ?rgv10) rfl (by kernel_rfl) (by kernel_rfl) (by kernel_rfl) (fun _ _ _ h => h) (by rfl) (fun w hSw => ?rgy10) hHeld ?_
  case rgy10 => (try dsimp only at hSw); first | (go_simp; done) | (go_simp; with_reducible rfl)
  try simp only [Act.put, List.setIfInBounds_toArray, List.set_cons_zero, List.set_cons_succ]
  clear hHeld
  refine wpAnyH_done (by kernel_rfl) ?_ _
  skip
  go_wp2
  go_ret
  exact ⟨by rw [HB.out, ← fourB_eq]; rfl, HS.out.drew⟩
end Go.Proofs.YtligofmhbbgalaaGreatDoor.L

/- Layer 15: the document's way: a message. -/
namespace Go.Proofs.YtligofmhbbgalaaGreatDoor.L
open Go.RowKit Go.Proofs

/-- A size, byte by byte; missing ones are zeros. -/
def rsN (b : List UInt8) : Nat → Nat
  | 0 => 0
  | k + 1 => rsN b k * 256 + (b.getD (k + 1) 0).toNat
theorem rsN_lt (b : List UInt8) (k : Nat) : rsN b k < 256 ^ k := by
  induction k with
  | zero => simp [rsN]
  | succ k ih =>
    have := (b.getD (k + 1) 0).toNat_lt
    rw [rsN, Nat.pow_succ]
    omega
theorem rsN_fsz (b : List UInt8) : rsN b 3 = fsz b := by
  match b with
  | [] => simp [rsN, fsz, msz, beNum]
  | [a] => simp [rsN, fsz, msz, beNum]
  | [a, x] => simp [rsN, fsz, msz, beNum] <;> omega
  | [a, x, y] => simp [rsN, fsz, msz, beNum] <;> omega
  | a :: x :: y :: z :: r => simp [rsN, fsz, msz, beNum]
theorem fsz_lt (b : List UInt8) : fsz b < 16777216 := by
  rw [← rsN_fsz]
  exact rsN_lt b 3
/-- Where the document's message lies. -/
def RmF (w : World) (g : Nat) (b : List UInt8) (v : Value) : Prop := w.heap[g]? = some (.cells #[v, .int .i64 0] 56 (0, 0)) ∧ Own enc8 5 (g + 1) w v b
def RmB (w : World) (g : Nat) (b : List UInt8) : Prop := ∃ v, RmF w g b v
theorem RmF.step {S : Nat → Prop} {w w1 : World} {g : Nat} {b : List UInt8} {v : Value} (h : RmF w g b v) (hs : Stp S w w1) (hS : ¬ S g) (hv : ∀ k, v.ownBlock = some k → ¬ S k) : RmF w1 g b v := ⟨hs.blk h.1 hS, h.2.step hs hv⟩
theorem RmF.stp0 {w w1 : World} {g : Nat} {b : List UInt8} {v : Value} (h : RmF w g b v) (hs : Stp (fun _ => False) w w1) : RmF w1 g b v := h.step hs id fun _ _ => id
def SzP (w : World) (n : Nat) (e : Ending) (w' : World) : Prop := e = .returned (.int .i64 (n : Int)) ∧ w' = w
set_option maxRecDepth 100000 in
set_option maxHeartbeats 8000000 in
theorem rsize_any (M : Nat → Prop) (g cp : Nat) (A : Option Addr) (er : Int) (b : List UInt8) (w : World) (hg : w.heap[g]? = some (.cells #[.slice A b.length cp, .int .i64 er] 56 (0, 0))) (hr : Rd u8 M w (.slice A b.length cp) b) (hl : b.length ≤ 1000000) :
    Calls Tryz.prog 48 #[.pointer (some ⟨g, 0, none⟩)] w (SzP w (fsz b)) := by
  obtain ⟨R, hR⟩ : ∃ R, R = SzP w (fsz b) := ⟨_, rfl⟩
  rw [← hR]
  have HR := Lib.hid hR
  have HX := Lib.hid hr
  have hlt := blk_lt hg
  have c0 : w.cell? ⟨g, 0, none⟩ = some (.slice A b.length cp) := blk_cell (j := 0) hg
  obtain ⟨l, hl2⟩ : ∃ l, l = b.length := ⟨_, rfl⟩
  rw [← hl2] at c0 hl
  have HL := Lib.hid hl2
  clear hR hg hr hl2
  go_enter Tryz.func48, Tryz.ntmps48
  go_wp2
  go_loopg [3, 4] 3 (fun gf n i wr => ∃ (k x : Nat), k + gf = 3 ∧ i = .int .i64 ((k : Int) + 1) ∧ n = .int .i64 (x : Int) ∧ x = rsN b k ∧ wr = w)
  case atStart => exact ⟨0, 0, by omega, rfl, rfl, rfl, rfl⟩
  case round =>
    obtain ⟨k, x, hk, rfl, rfl, hx, hw⟩ := hrel
    obtain rfl := hw.symm
    have hxl := rsN_lt b k
    rw [← hx] at hxl
    have HXX := Lib.hid hx
    clear hx hw
    by_cases hlt3 : k < 3
    · have hp : (256 : Nat) ^ k ≤ 65536 := Nat.le_trans (Nat.pow_le_pow_right (by decide) (show k ≤ 2 by omega)) (by decide)
      have hx16 : x < 65536 := by omega
      have e1 : IntKind.i64.wrap ((x : Int) * 256) = (x : Int) * 256 := IntWalk.i64_in _ (by omega)
      have e2 : IntKind.i64.wrap ((k : Int) + 1 + 1) = (k : Int) + 1 + 1 := IntWalk.i64_in _ (by omega)
      obtain ⟨g', rfl⟩ : ∃ g', gk = g' + 1 := ⟨gk - 1, by omega⟩
      clear hp hxl
      by_cases hkl : k + 1 < b.length
      · obtain ⟨ad, rfl, -, hc⟩ := plain_cell HX.out (k + 1) hkl
        obtain ⟨c, hcc⟩ : ∃ c, c = b[k + 1] := ⟨_, rfl⟩
        rw [← hcc, addr_nz _ _ (by omega)] at hc
        simp only [enc8] at hc
        have hcl := c.toNat_lt
        have e3 : IntKind.i64.wrap ((x : Int) * 256 + (c.toNat : Int)) = (x : Int) * 256 + (c.toNat : Int) := IntWalk.i64_in _ (by omega)
        have e4 : IntKind.i64.wrap (c.toNat : Int) = (c.toNat : Int) := IntWalk.i64_in _ (by omega)
        have hin : (k : Int) + 1 < (l : Int) := by have := HL.out; omega
        have HN : Hid (x * 256 + c.toNat = rsN b (k + 1)) := Lib.hid (by rw [rsN, ← HXX.out, hcc, List.getD_eq_getElem?_getD, List.getElem?_eq_getElem hkl]; rfl)
        clear hcc hcl hkl
        go_wp2
        go_roundg g'
        case measure => omega
        case rel => exact ⟨k + 1, x * 256 + c.toNat, by omega, by go_num, by go_num, HN.out, rfl⟩
      · have hin : ¬ (k : Int) + 1 < (l : Int) := by have := HL.out; omega
        have HN : Hid (x * 256 = rsN b (k + 1)) := Lib.hid (by rw [rsN, ← HXX.out, List.getD_eq_getElem?_getD, List.getElem?_eq_none (by omega)]; rfl)
        clear hkl
        go_wp2
        go_roundg g'
        case measure => omega
        case rel => exact ⟨k + 1, x * 256, by omega, by go_num, by go_num, HN.out, rfl⟩
    · obtain rfl : k = 3 := by omega
      have HN : Hid (x = fsz b) := Lib.hid (by rw [HXX.out, rsN_fsz])
      clear hlt3 hxl
      go_wp2
      rw [HR.out]
      exact ⟨by rw [HN.out]; rfl, rfl⟩
/-- Is all there, by the document? -/
def whR (b : List UInt8) : Bool := decide (4 ≤ b.length ∧ b.length = 4 + fsz b)
set_option maxRecDepth 100000 in
set_option maxHeartbeats 8000000 in
theorem rwhole_any (M : Nat → Prop) (g cp : Nat) (A : Option Addr) (er : Int) (b : List UInt8) (w : World) (hg : w.heap[g]? = some (.cells #[.slice A b.length cp, .int .i64 er] 56 (0, 0))) (hr : Rd u8 M w (.slice A b.length cp) b) (hl : b.length ≤ 1000000) :
    Calls Tryz.prog 47 #[.pointer (some ⟨g, 0, none⟩)] w (WhP w (whR b)) := by
  obtain ⟨R, hR⟩ : ∃ R, R = WhP w (whR b) := ⟨_, rfl⟩
  rw [← hR]
  have HR := Lib.hid hR
  have hlt := blk_lt hg
  have c0 : w.cell? ⟨g, 0, none⟩ = some (.slice A b.length cp) := blk_cell (j := 0) hg
  have cS := fun n => rsize_any M g cp A er b (w.drewN n) (((Stp.refl (fun _ => False) w).drewN n).blk hg id) (hr.stp0 ((Stp.refl _ w).drewN n)) hl
  unfold SzP at cS
  have hfl := fsz_lt b
  have hwr : whR b = decide (4 ≤ b.length ∧ b.length = 4 + fsz b) := rfl
  obtain ⟨z, hz⟩ : ∃ z, z = fsz b := ⟨_, rfl⟩
  obtain ⟨l, hl2⟩ : ∃ l, l = b.length := ⟨_, rfl⟩
  rw [← hz] at cS hfl hwr
  rw [← hl2] at c0 hl hwr
  have HW := Lib.hid hwr
  clear hR hg hr hl2 hz hwr
  by_cases h4 : 4 ≤ l
  · have e1 : (4 : Int) ≤ (l : Int) := by omega
    have e2 : IntKind.i64.wrap (4 + (z : Int)) = 4 + (z : Int) := IntWalk.i64_in _ (by omega)
    obtain ⟨bb, hbb⟩ : ∃ bb : Bool, ((l : Int) == 4 + (z : Int)) = bb := ⟨_, rfl⟩
    have HB : Hid (whR b = bb) := Lib.hid (by rw [HW.out, ← hbb, Bool.eq_iff_iff]; simp; omega)
    go_enter Tryz.func47, Tryz.ntmps47
    go_wp2_with fail
    go_quiet (first | (go_at_call 48; refine Calls.quiet_of_same (cS _)))
    go_wp2
    rw [HR.out, HB.out]
    exact ⟨rfl, (Stp.refl _ _).drewN _⟩
  · have e1 : decide ((4 : Int) ≤ (l : Int)) = false := by simp; omega
    have HB : Hid (whR b = false) := Lib.hid (by rw [HW.out]; simp; omega)
    clear h4
    go_enter Tryz.func47, Tryz.ntmps47
    go_wp2_with fail
    go_quiet (fail)
    go_wp2
    rw [HR.out, HB.out]
    exact ⟨rfl, (Stp.refl _ _).drewN _⟩

/-! ### a byte -/
def refE (b : List UInt8) : Int := if b[0]? ≠ some 1 then 4 else if 16384 < fsz b then 6 else 0
theorem takeM_ref {b : List UInt8} {c : UInt8} (hd : b = [] ∨ b[0]? = some 1) (hz : fsz b ≤ 16384) : takeM b c = (b ++ [c], if refE (b ++ [c]) = 0 then whR (b ++ [c]) else false, refE (b ++ [c])) := by
  unfold takeM
  by_cases h0 : b = []
  · subst h0
    rw [if_pos rfl]
    have hw : whR [c] = false := by simp [whR]
    have hf : fsz [c] = 0 := by unfold fsz; rw [msz_one]; simp
    simp only [List.nil_append]
    unfold refE
    rw [hw, hf]
    by_cases hc : c = 1
    · subst hc
      simp
    · simp [hc]
  · rw [if_neg h0]
    have h1 : (b ++ [c])[0]? = some 1 := by
      rcases hd with h | h
      · exact absurd h h0
      · rw [List.getElem?_append_left (List.length_pos_iff.2 h0)]
        exact h
    have hE : refE (b ++ [c]) = if 16384 < fsz (b ++ [c]) then 6 else 0 := by
      unfold refE
      rw [if_neg (by rw [h1]; simp)]
    by_cases h4 : b.length < 4
    · have hf : fsz (b ++ [c]) = msz (b ++ [c]) * 256 ^ (3 - b.length) := by
        unfold fsz
        rw [show 4 - (b ++ [c]).length = 3 - b.length by rw [List.length_append]; simp only [List.length_cons, List.length_nil]; omega]
      by_cases h5 : 16384 < msz (b ++ [c]) * 256 ^ (3 - b.length)
      · rw [if_pos ⟨h4, h5⟩, hE, hf, if_pos h5]
        rfl
      · rw [if_neg (fun h => h5 h.2), hE, hf, if_neg h5, if_pos rfl]
        congr 2
        unfold whR
        rw [Bool.eq_iff_iff, decide_eq_true_iff, decide_eq_true_iff]
        constructor
        · rintro ⟨k1, k2⟩
          exact ⟨k1, by rw [fsz_four _ k1]; exact k2⟩
        · rintro ⟨k1, k2⟩
          exact ⟨k1, by rw [fsz_four _ k1] at k2; exact k2⟩
    · have hf : fsz (b ++ [c]) = msz b := fsz_more b c (by omega)
      have hle : ¬ 16384 < fsz (b ++ [c]) := by
        rw [hf, ← fsz_four b (by omega)]
        omega
      rw [if_neg (fun h => h4 h.1), hE, if_neg hle, if_pos rfl]
      congr 2
      unfold whR
      rw [Bool.eq_iff_iff, decide_eq_true_iff, decide_eq_true_iff]
      constructor
      · rintro ⟨k1, k2⟩
        exact ⟨k1, by rw [fsz_four _ k1]; exact k2⟩
      · rintro ⟨k1, k2⟩
        exact ⟨k1, by rw [fsz_four _ k1] at k2; exact k2⟩
def RnP (w : World) (g : Nat) (b : List UInt8) (v : Value) (c : UInt8) (e : Ending) (w' : World) : Prop := e = .returned (.tuple #[.bool (takeM b c).2.1, .int .i64 (takeM b c).2.2]) ∧ ((takeM b c).2.2 = 0 → RmB w' g (takeM b c).1) ∧ Stp (MsS g v) w w'
set_option maxRecDepth 100000 in
set_option maxHeartbeats 8000000 in
theorem rtakeM_any (g : Nat) (b : List UInt8) (v : Value) (c : UInt8) (w : World) (h : RmF w g b v) (hd : b = [] ∨ b[0]? = some 1) (hz : fsz b ≤ 16384) (hop : 4 ≤ b.length → b.length < 4 + msz b) (hl : b.length ≤ 100000) :
    Calls Tryz.prog 21 #[.pointer (some ⟨g, 0, none⟩), .int .u8 (c.toNat : Int)] w (RnP w g b v c) := by
  obtain ⟨R, hR⟩ : ∃ R, R = RnP w g b v c := ⟨_, rfl⟩
  rw [← hR]
  have HR := Lib.hid hR
  have hJ := takeM_ref (c := c) hd hz
  have hw0 : whR b = false := by
    unfold whR
    rw [decide_eq_false_iff_not]
    rintro ⟨k1, k2⟩
    have := hop k1
    rw [fsz_four _ k1] at k2
    omega
  have hlen : (b ++ [c]).length ≤ 1000000 := by simp; omega
  have hne : 0 < (b ++ [c]).length := by simp
  obtain ⟨ys, hys⟩ : ∃ ys, ys = b ++ [c] := ⟨_, rfl⟩
  rw [← hys] at hJ hlen hne
  have HJ := Lib.hid hJ
  have HYS := Lib.hid hys
  obtain ⟨hg, ho⟩ := h
  have HO := Lib.hid ho
  obtain ⟨A, cp, rfl, hle⟩ := ho.form
  have HG := Lib.hid hg
  have hlt := blk_lt hg
  have c1 : w.cell? ⟨g, 1, none⟩ = some (.int .i64 0) := blk_cell (j := 1) hg
  have cW := rwhole_any (fun _ => False) g cp A 0 b w hg (ho.rd (h1 := fun _ => rfl) fun _ _ => id) (by omega)
  rw [hw0] at cW
  clear hR hg ho hd hz hop hJ hys hw0
  go_enter Tryz.func21, Tryz.ntmps21
  go_wp2_with (go_at_call 47; refine stopc ?_)
  refine Stop.go ?_
  refine cW.mono ?_
  rintro e w1 ⟨rfl, hs1⟩
  have hg1 := hs1.blk HG.out id
  have HG1 := Lib.hid hg1
  have HS1 := Lib.hid hs1
  have HO1 := Lib.hid (HO.out.stp0 hs1)
  have lt1 := blk_lt hg1
  have d0 : w1.cell? ⟨g, 0, none⟩ = some (.slice A b.length cp) := blk_cell (j := 0) hg1
  clear hg1 hs1 c1 cW
  go_wp2_with (with_reducible refine stop (N := 24) rfl ?_)
  refine Stop.go ?_
  refine wp_append1 enc8 c rfl rfl _ _ _ rfl Tryz.underlying22 info_u8 rfl (HO1.out.stp0 ((Stp.refl _ _).alloc _)) rfl ⟨w1.heap.size, 0, none⟩ 1 rfl ?_ (by omega) (by omega) (by simp; omega) ?_
  · exact blk_cell (j := 0) (heap_alloc_new _ _)
  · intro v2 w2 ho2 hg2
    rw [← HYS.out] at ho2
    obtain ⟨A2, c2, rfl, hle2⟩ := ho2.form
    have hA : Stp (fun _ => False) w1 (w1.alloc (.cells #[enc8 c] 5)) := (Stp.refl _ _).alloc _
    have hoA := HO1.out.stp0 hA
    have hB := Stp.of_grown hg2
    have hgn : ¬ (Value.slice A b.length cp).ownBlock = some g := fun h => by have := (hoA.lt g h).1; omega
    have hg3 := hB.blk (hA.blk HG1.out id) hgn
    have lt2 := blk_lt hg3
    have k0 : w2.cell? ⟨g, 0, none⟩ = some (.slice A b.length cp) := blk_cell (j := 0) hg3
    have k1 : w2.cell? ⟨g, 1, none⟩ = some (.int .i64 0) := blk_cell (j := 1) hg3
    have f0 := blk_free hg3 0
    have f1 := blk_free hg3 1
    have hC : Stp (fun k => k = g) w2 (w2.setCell ⟨g, 0, none⟩ (.slice A2 ys.length c2)) := (Stp.refl _ _).setg 0 _
    have HS3 := Lib.hid ((HS1.out.to.trans (hA.to.trans (hB.mono (T := MsS g (.slice A b.length cp)) fun k _ h => Or.inr h))).trans (hC.mono fun k _ e => Or.inl e))
    have hO3 := ho2.step hC (fun k hk e => by have := (ho2.lt k hk).1; omega)
    have HO3 := Lib.hid hO3
    have hG3 : (w2.setCell ⟨g, 0, none⟩ (.slice A2 ys.length c2)).heap[g]? = some (.cells #[.slice A2 ys.length c2, .int .i64 0] 56 (0, 0)) := blk_set hg3 0 _
    have HG3 := Lib.hid hG3
    have hrd := hO3.rd (h1 := fun _ => rfl) (M := fun _ => False) (fun _ _ => id)
    have HRD := Lib.hid hrd
    obtain ⟨ad, rfl, -, hc0⟩ := plain_cell hrd 0 hne
    rw [addr_z] at hc0
    have h00 : ys[0]? = some ys[0] := List.getElem?_eq_getElem hne
    obtain ⟨x0, hx0⟩ : ∃ x, x = ys[0] := ⟨_, rfl⟩
    rw [← hx0] at hc0 h00
    simp only [enc8] at hc0
    have cS := fun W hg hr => rsize_any (fun _ => False) g c2 (some ad) 0 ys W hg hr hlen
    have cW := fun W hg hr => rwhole_any (fun _ => False) g c2 (some ad) 0 ys W hg hr hlen
    have hE : refE ys = if x0.toNat ≠ 1 then 4 else if 16384 < fsz ys then 6 else 0 := by
      unfold refE
      rw [h00]
      by_cases hx : x0 = 1
      · subst hx
        simp
      · rw [if_pos (by simpa using hx), if_pos (show x0.toNat ≠ 1 from fun e => hx (UInt8.toNat_inj.1 e))]
    have HE := Lib.hid hE
    have hlen1 : (0 : Int) < (ys.length : Int) := by omega
    unfold SzP at cS
    unfold WhP at cW
    have hfl := fsz_lt ys
    obtain ⟨z, hz⟩ : ∃ z, z = fsz ys := ⟨_, rfl⟩
    obtain ⟨wb, hwb⟩ : ∃ wb, wb = whR ys := ⟨_, rfl⟩
    rw [← hz] at HE cS hfl
    rw [← hwb] at cW HJ
    obtain ⟨l, hl2⟩ : ∃ l, l = ys.length := ⟨_, rfl⟩
    rw [← hl2] at HG3 HS3 HO3 hlen1 cS cW HRD hc0 ⊢
    have HL := Lib.hid hl2
    have HC0 := Lib.hid hc0
    clear ho2 hg2 hA hoA hB hgn hg3 d0 hx0 h00 hE hG3 hrd hO3 hC hz hwb hl2 hne hlen hle2 hc0 k1 f1
    go_wp2_with (with_reducible refine stop (N := 30) rfl ?_)
    refine Stop.go ?_
    generalize w2.setCell ⟨g, 0, none⟩ (.slice (some ad) l c2) = W3 at HS3 HO3 HG3 HRD HC0 ⊢
    have hc0 := HC0.out
    have d0 : W3.cell? ⟨g, 0, none⟩ = some (.slice (some ad) l c2) := blk_cell (j := 0) HG3.out
    have d1 : W3.cell? ⟨g, 1, none⟩ = some (.int .i64 0) := blk_cell (j := 1) HG3.out
    have f1 := blk_free HG3.out 1
    have lt3 := blk_lt HG3.out
    clear HC0 k0 f0 lt2
    by_cases hx : x0.toNat = 1
    · have e1 : ((x0.toNat : Int) != 1) = false := by simp; omega
      by_cases hs : 16384 < z
      · have HE2 : Hid (refE ys = 6) := Lib.hid (by rw [HE.out, if_neg (by omega), if_pos hs])
        have HJ2 : Hid (takeM b c = (ys, false, 6)) := Lib.hid (by rw [HJ.out, HE2.out]; rfl)
        have e2 : (16384 : Int) < (z : Int) := by omega
        clear hx hs
        go_wp2_with (go_at_call 48; refine stopc ?_)
        refine Stop.go ?_
        refine (cS _ HG3.out HRD.out).mono ?_
        rintro e w3 ⟨rfl, hw3⟩
        obtain rfl := hw3
        clear cS
        go_wp2_with fail
        go_quiet (fail)
        go_wp2
        rw [HR.out]
        unfold RnP
        rw [HJ2.out]
        exact ⟨rfl, fun h => absurd h (show ¬ (6 : Int) = 0 by decide), (HS3.out.trans (((Stp.refl _ _).setg 1 _).mono fun k _ e => Or.inl e)).drewN _⟩
      · have HE2 : Hid (refE ys = 0) := Lib.hid (by rw [HE.out, if_neg (by omega), if_neg hs])
        have HJ2 : Hid (takeM b c = (ys, wb, 0)) := Lib.hid (by rw [HJ.out, HE2.out, if_pos rfl])
        have e2 : ¬ (16384 : Int) < (z : Int) := by omega
        clear hx hs
        go_wp2_with (go_at_call 48; refine stopc ?_)
        refine Stop.go ?_
        refine (cS _ HG3.out HRD.out).mono ?_
        rintro e w3 ⟨rfl, hw3⟩
        obtain rfl := hw3
        clear cS
        go_wp2_with (go_at_call 47; refine stopc ?_)
        refine Stop.go ?_
        refine (cW _ HG3.out HRD.out).mono ?_
        rintro e w4 ⟨rfl, hs4⟩
        have HG4 := Lib.hid (hs4.blk HG3.out id)
        have HO4 := Lib.hid (HO3.out.stp0 hs4)
        have HS4 := Lib.hid (HS3.out.trans hs4.to)
        clear hs4 cW
        go_wp2
        rw [HR.out]
        unfold RnP
        rw [HJ2.out]
        exact ⟨rfl, fun _ => ⟨.slice (some ad) l c2, HG4.out, HO4.out⟩, HS4.out⟩
    · have e1 : ((x0.toNat : Int) != 1) = true := by simp; omega
      have HE2 : Hid (refE ys = 4) := Lib.hid (by rw [HE.out, if_pos hx])
      have HJ2 : Hid (takeM b c = (ys, false, 4)) := Lib.hid (by rw [HJ.out, HE2.out]; rfl)
      clear hx
      go_wp2_with fail
      go_quiet (fail)
      go_wp2
      rw [HR.out]
      unfold RnP
      rw [HJ2.out]
      exact ⟨rfl, fun h => absurd h (show ¬ (4 : Int) = 0 by decide), (HS3.out.trans (((Stp.refl _ _).setg 1 _).mono fun k _ e => Or.inl e)).drewN _⟩
set_option maxRecDepth 100000 in
set_option maxHeartbeats 8000000 in
theorem rbody_any (M : Nat → Prop) (g : Nat) (b : List UInt8) (v : Value) (w : World) (h : RmF w g b v) (hM : ∀ k, v.ownBlock = some k → ¬ M k) (hw : whR b = true) (hl : b.length ≤ 100000) :
    Calls Tryz.prog 23 #[.pointer (some ⟨g, 0, none⟩)] w fun e w' => ∃ vb, e = .returned vb ∧ Rd u8 M w' vb (b.drop 4) ∧ Stp (fun _ => False) w w' := by
  obtain ⟨R, hR⟩ : ∃ R, R = fun (e : Ending) (w' : World) => ∃ vb, e = .returned vb ∧ Rd u8 M w' vb (b.drop 4) ∧ Stp (fun _ => False) w w' := ⟨_, rfl⟩
  rw [← hR]
  have HR := Lib.hid hR
  obtain ⟨hg, ho⟩ := h
  have hrd := ho.rd (h1 := fun _ => rfl) hM
  have h4 : 4 ≤ b.length := by
    unfold whR at hw
    exact (of_decide_eq_true hw).1
  obtain ⟨A, cp, rfl, hle⟩ := ho.form
  obtain ⟨A', hcut, hcr⟩ := cut_lo (P := Tryz.prog) u8 22 5 Tryz.underlying22 size_u8 A b.length cp 4 h4
  replace hcut : ∀ (W : World) (kl : IntKind), (Instr.slice 22 (.slice A b.length cp) (some (.int kl 4)) none none).run Tryz.prog W = .ok (.slice A' (b.length - 4) (cp - 4)) W := fun W kl => hcut W kl
  have cW := rwhole_any M g cp A 0 b w hg hrd (by omega)
  rw [hw] at cW
  have HG := Lib.hid hg
  have HRD := Lib.hid hrd
  have hlt := blk_lt hg
  have c1 : w.cell? ⟨g, 1, none⟩ = some (.int .i64 0) := blk_cell (j := 1) hg
  have HCR := Lib.hid hcr
  clear hR hg ho hrd hcr hM hw
  go_enter Tryz.func23, Tryz.ntmps23
  go_wp2_with (go_at_call 47; refine stopc ?_)
  refine Stop.go ?_
  refine cW.mono ?_
  rintro e w1 ⟨rfl, hs1⟩
  have hg1 := hs1.blk HG.out id
  have HS1 := Lib.hid hs1
  have lt1 := blk_lt hg1
  have d0 : w1.cell? ⟨g, 0, none⟩ = some (.slice A b.length cp) := blk_cell (j := 0) hg1
  clear hg1 hs1 c1 cW
  go_wp2
  rw [HR.out]
  exact ⟨_, rfl, HCR.out M _ b (HRD.out.stp0 HS1.out), HS1.out⟩
end Go.Proofs.YtligofmhbbgalaaGreatDoor.L

/- A number's text in base 16: strconv.FormatUint. -/
namespace Go.Proofs.YtligofmhbbgalaaGreatDoor.L
open Go.RowKit Go.Proofs

/-- The one cell of a table of math/bits that is read. -/
def BruP (w : World) : Prop := w.cell? ⟨8, 15, none⟩ = some (.int .u8 4)
theorem BruP.step {w w' : World} (h : BruP w) (hs : Stp (fun _ => False) w w') : BruP w' := hs.cell h id
theorem pow2_16 (w : World) : Calls Tryz.prog 183 #[.int .i64 16] w fun e w' => e = .returned (.bool true) ∧ w' = w := by
  go_enter Tryz.func183, Tryz.ntmps183
  go_wp2
  go_ret
  exact ⟨rfl, rfl⟩
theorem tz64_16 (w : World) (hb : BruP w) : Calls Tryz.prog 196 #[.int .u64 16] w fun e w' => e = .returned (.int .i64 4) ∧ w' = w := by
  have hc : w.cell? ⟨8, 15, none⟩ = some (.int .u8 4) := hb
  have k0 : IntKind.u64.wrap (-16) = 18446744073709551600 := by decide
  have k1 : bits BinOp.and IntKind.u64 16 18446744073709551600 = 16 := by kernel_rfl
  have k2 : IntKind.u64.wrap 4573923408821661840 = 4573923408821661840 := by decide
  go_enter Tryz.func196, Tryz.ntmps196
  go_wp2
  go_ret
  exact ⟨rfl, rfl⟩
theorem tz_16 (w : World) (hb : BruP w) : Calls Tryz.prog 184 #[.int .u64 16] w fun e w' => e = .returned (.int .i64 4) ∧ w' = w := by
  go_enter Tryz.func184, Tryz.ntmps184
  go_wp2_with (go_at_call 196; refine stopc ?_)
  refine Stop.go ?_
  refine (tz64_16 _ hb).mono ?_
  rintro e w1 ⟨rfl, rfl⟩
  go_wp2
  go_ret
  exact ⟨rfl, rfl⟩
def digits36 : ByteArray := ⟨#[48, 49, 50, 51, 52, 53, 54, 55, 56, 57, 97, 98, 99, 100, 101, 102, 103, 104, 105, 106, 107, 108, 109, 110, 111, 112, 113, 114, 115, 116, 117, 118, 119, 120, 121, 122]⟩
theorem digit_all : ∀ d : Fin 16, ((digits36[d.1]?).map (·.toNat)) = some (hxC d.1).toNat := by decide
theorem digit_idx (d : Nat) (hd : d < 16) (k : IntKind) (W : World) : (Instr.index 9 (.string digits36) (.int k (d : Int))).run Tryz.prog W = .ok (.int .u8 ((hxC d).toNat : Int)) W := by
  have h36 : digits36.size = 36 := rfl
  rw [run_index_string W 9 digits36 k (d : Int) Tryz.underlying9, dif_pos (by omega)]
  have h := digit_all ⟨d, hd⟩
  rw [ByteArray.getElem?_lt' _ _ (show d < digits36.size by omega)] at h
  simp only [Option.map_some, Option.some.injEq] at h
  simp only [Int.toNat_natCast]
  rw [h]
theorem len_65 : Tryz.prog.arrayLen 198 = 65 := by kernel_rfl
theorem elem_65 : Tryz.prog.elem 198 = 5 := by kernel_rfl
theorem slice_65 (g q : Nat) (hq : q < 65) (W : World) : (Instr.sliceAt 198 (.pointer (some ⟨g, 0, none⟩)) (some (.int .i64 (q : Int))) none none).run Tryz.prog W = .ok (.slice (some ⟨g, q, none⟩) (65 - q) (65 - q)) W := by
  rw [run_sliceAt_array_l W 198 ⟨g, 0, none⟩ (by rw [len_65, elem_65]; exact Tryz.underlying198) .i64 (q : Int) (by omega) (by rw [len_65]; omega), len_65, elem_65, Tryz.sizeOf5 W, Result.andThen_ok]
  unfold slicedAt
  rw [Int.toNat_natCast, if_neg (by omega), Nat.mul_one]
  by_cases h2 : q = 0
  · rw [h2, addr_z]
  · rw [addr_nz _ _ h2, Nat.zero_add]
theorem set_drop (l : List UInt8) (q : Nat) (c : UInt8) (hq : q < l.length) : (l.set q c).drop q = c :: l.drop (q + 1) := by
  rw [List.drop_eq_getElem_cons (by simpa using hq)]
  simp [List.drop_set]
theorem and15 (m : Nat) (hm : m < 65536) : bits BinOp.and IntKind.u64 (m : Int) 15 = ((m % 16 : Nat) : Int) := by
  have h := bits_and_u64_nat m 15 (by omega) (by omega)
  have e : m &&& 15 = m % 16 := Nat.and_two_pow_sub_one_eq_mod m 4
  rw [e] at h
  exact h

set_option maxRecDepth 100000 in
set_option maxHeartbeats 8000000 in
theorem fmtbits_any (n : Nat) (hn : n < 65536) (w : World) (hb : BruP w) :
    Calls Tryz.prog 155 #[.slice none 0 0, .int .u64 (n : Int), .int .i64 16, .bool false, .bool false] w fun e w' => e = .returned (.tuple #[.slice none 0 0, .string (strB (hxT n))]) ∧ Stp (fun _ => False) w w' := by
  obtain ⟨R, hR⟩ : ∃ R : Ending → World → Prop, R = fun e w' => e = .returned (.tuple #[.slice none 0 0, .string (strB (hxT n))]) ∧ Stp (fun _ => False) w w' := ⟨_, rfl⟩
  rw [← hR]
  have HR := Lib.hid hR
  have HB := Lib.hid hb
  have HN := Lib.hid hn
  clear hR hb hn
  go_enter Tryz.func155, Tryz.ntmps155
  go_wp2_with (go_at_call 183; refine stopc ?_)
  refine Stop.go ?_
  refine (pow2_16 _).mono ?_
  rintro e w1 ⟨rfl, hw1⟩
  have HA : Hid (Arr w.heap.size 198 (zerosL 65) w1) := Lib.hid (by rw [hw1]; exact arr_new w _ _ (zerosL 65) rfl)
  have HS : Hid (Stp (fun _ => False) w w1) := Lib.hid (by rw [hw1]; exact (Stp.refl _ w).alloc _)
  clear hw1
  go_wp2_with (go_at_call 184; refine stopc ?_)
  refine Stop.go ?_
  refine (tz_16 _ (HB.out.step HS.out)).mono ?_
  rintro e w2 ⟨rfl, rfl⟩
  go_wp2
  go_loopg [1, 13] 3 (fun gf u i wx => ∃ (m p : Nat) (l : List UInt8), p = gf + 62 ∧ u = .int .u64 m ∧ i = .int .i64 p ∧ m < 16 ^ (gf + 1) ∧ hxT n = hxT m ++ l.drop p ∧ l.length = 65 ∧ gf ≤ 3 ∧ Arr w.heap.size 198 l wx ∧ Stp (fun _ => False) w wx)
  case atStart => exact ⟨n, 65, zerosL 65, rfl, rfl, rfl, HN.out, by rw [List.drop_eq_nil_of_le (by simp [zerosL]), List.append_nil], by simp [zerosL], Nat.le_refl _, HA.out, HS.out⟩
  case round =>
    obtain ⟨m, p, l, hp, rfl, rfl, hm, ht, hl, hgf, ha, hst⟩ := hrel
    have HT := Lib.hid ht
    have HL := Lib.hid hl
    have HA1 := Lib.hid ha
    have HS1 := Lib.hid hst
    obtain ⟨q, hq⟩ : ∃ q, p = q + 1 := ⟨p - 1, by omega⟩
    have hq65 : q < l.length := by omega
    have hw1 : IntKind.i64.wrap ((p : Int) - 1) = (q : Int) := by rw [IntWalk.i64_in _ (by omega)]; omega
    have hq0 : (0 : Int) ≤ (q : Int) := by omega
    have hq1 : (q : Int) < 65 := by omega
    have hc : wr.cell? ⟨w.heap.size, q, none⟩ = some (enc8 l[q]) := HA1.out.cell q hq65
    have hf : wr.frozen? ⟨w.heap.size, q, none⟩ = false := HA1.out.free q
    have hm4 : m < 65536 := Nat.lt_of_lt_of_le hm (by rw [show 65536 = 16 ^ 4 from rfl]; exact Nat.pow_le_pow_right (by decide) (by omega))
    have HMG := Lib.hid hm
    have HPQ := Lib.hid hq
    have HPG := Lib.hid hp
    clear ht hl ha hst HA HS hm hq hp
    by_cases h16 : 16 ≤ m
    · have hge : decide ((16 : Int) ≤ (m : Int)) = true := decide_eq_true (by omega)
      have hg1 : 1 ≤ gk := by
        by_cases h : gk = 0
        · have := HMG.out
          rw [h] at this
          omega
        · omega
      obtain ⟨d, hd⟩ : ∃ d, d = m % 16 := ⟨_, rfl⟩
      have hd16 : d < 16 := by omega
      have hand : bits BinOp.and IntKind.u64 (m : Int) 15 = (d : Int) := by rw [hd]; exact and15 m hm4
      have hix := fun k W => digit_idx d hd16 k W
      unfold digits36 at hix
      have HD := Lib.hid hd
      have hgg := hgf
      clear hd
      obtain ⟨gk', rfl⟩ : ∃ g, gk = g + 1 := ⟨gk - 1, by omega⟩
      go_wp2
      go_roundg gk'
      case measure => omega
      case rel =>
        refine ⟨m / 16, q, l.set q (hxC d), ?_, by simp, rfl, ?_, ?_, by simp [HL.out], by omega, HA1.out.set_ q (hxC d), HS1.out.setCell (fun h => absurd h (by simp)) _⟩
        · have := HPG.out
          have := HPQ.out
          omega
        · have := HMG.out
          rw [Nat.pow_succ] at this
          omega
        · rw [HT.out, set_drop l q _ hq65, HPQ.out]
          rw [hxT, dif_neg (by omega), HD.out]
          simp
    · have hge : decide ((16 : Int) ≤ (m : Int)) = false := decide_eq_false (by omega)
      have hm16 : m < 16 := by omega
      have hix := fun k W => digit_idx m hm16 k W
      unfold digits36 at hix
      have HTT : Hid (hxT n = (l.set q (hxC m)).drop q) := Lib.hid (by
        rw [HT.out, set_drop l q _ hq65, HPQ.out, hxT, dif_pos hm16]
        rfl)
      go_wp2_with (with_reducible refine stop (N := 100) rfl ?_)
      refine Stop.go ?_
      refine wpl_gen (fun W => Arr w.heap.size 198 (l.set q (hxC m)) W ∧ Stp (fun _ => False) w W) ⟨HA1.out.set_ q (hxC m), HS1.out.setCell (fun h => absurd h (by simp)) _⟩ ?_
      rintro W2 ⟨hA2, hs2⟩
      have HS2 := Lib.hid hs2
      have hll : (l.set q (hxC m)).length = 65 := by simp [HL.out]
      have hsl := fun W => slice_65 w.heap.size q (by omega) W
      have hrd := hA2.rd (M := fun _ => False) id q (65 - q) (65 - q) (by omega) (Nat.le_refl _) (by unfold maxLen; omega)
      rw [List.take_of_length_le (by rw [List.length_drop]; omega), ← HTT.out] at hrd
      have hcv := conv_of hrd
      unfold convB at hcv
      clear hA2 hs2 hrd hll hix
      go_wp2
      rw [HR.out]
      exact ⟨rfl, HS2.out⟩

theorem fmt16_in (n : Nat) (hn : n < 65536) (w : World) (hb : BruP w) :
    Calls Tryz.prog 112 #[.int .u64 (n : Int), .int .i64 16] w fun e w' => e = .returned (.string (strB (hxT n))) ∧ Stp (fun _ => False) w w' := by
  go_enter Tryz.func112, Tryz.ntmps112
  go_wp2_with (go_at_call 155; refine stopc ?_)
  refine Stop.go ?_
  refine (fmtbits_any n hn _ hb).mono ?_
  rintro e w1 ⟨rfl, hs⟩
  have HS := Lib.hid hs
  clear hs
  go_wp2
  go_ret
  exact ⟨rfl, HS.out⟩
theorem fmt16_any (n : Nat) (hn : n < 65536) (w : World) (hb : BruP w) :
    Calls Tryz.prog 73 #[.int .u64 (n : Int), .int .i64 16] w fun e w' => e = .returned (.string (strB (hxT n))) ∧ Stp (fun _ => False) w w' := by
  go_enter Tryz.func73, Tryz.ntmps73
  go_wp2_with (go_at_call 112; refine stopc ?_)
  refine Stop.go ?_
  refine (fmt16_in n hn _ hb).mono ?_
  rintro e w1 ⟨rfl, hs⟩
  have HS := Lib.hid hs
  clear hs
  go_wp2
  go_ret
  exact ⟨rfl, HS.out⟩
end Go.Proofs.YtligofmhbbgalaaGreatDoor.L
