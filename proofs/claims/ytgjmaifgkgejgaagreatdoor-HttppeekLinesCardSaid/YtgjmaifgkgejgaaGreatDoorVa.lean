/- Layer 3: blocks that hold a row of bytes: addresses of four, and of sixteen bytes. -/
import Derived.Test.YtgjmaifgkgejgaaGreatDoorAp
import Derived.Test.YtgjmaifgkgejgaaGreatDoorRt
import Derived.Test.YtgjmaifgkgejgaaGreatDoorAn
import Derived.Laws.CopyOwn
import Derived.Lib.SmallJoins
import Derived.Stop.BytesEq
import Derived.Laws.Cover3
set_option linter.unusedVariables false
set_option linter.unusedSimpArgs false
namespace Go.Proofs.YtgjmaifgkgejgaaGreatDoor.L
open Go.RowKit Go.Proofs

theorem info_strA : (Tryz.prog.info? 9).map (fun i => (i.zero, i.size, i.bytes)) = some (some (.string ⟨#[]⟩), 1, 16) := by kernel_rfl
theorem addr_z (a : Addr) : a.add 0 = a := by unfold Addr.add; rw [if_pos rfl]
theorem addr_nz (a : Addr) (n : Nat) (h : n ≠ 0) : a.add n = ⟨a.block, a.off + n, none⟩ := by unfold Addr.add; rw [if_neg h]

/-- An array of bytes, as a value, and in its block. -/
def cellsA (l : List UInt8) : Array Value := (l.map enc8).toArray
def arrV (l : List UInt8) : Value := .agg (cellsA l)
def Arr (g : Nat) (ty : TypeId) (l : List UInt8) (w : World) : Prop := w.heap[g]? = some (.cells (cellsA l) ty (0, 0))
theorem cellsA_size (l : List UInt8) : (cellsA l).size = l.length := by simp [cellsA]
theorem cellsA_one (l : List UInt8) : (cellsA l).all (·.oneCell') = true := by
  unfold cellsA
  rw [← Array.all_toList]
  simp [List.all_map, enc8, Value.oneCell']
theorem Arr.step {g : Nat} {ty : TypeId} {l : List UInt8} {w w' : World} {S : Nat → Prop} (h : Arr g ty l w) (hs : Stp S w w') (hS : ¬ S g) : Arr g ty l w' := hs.blk h hS
theorem Arr.lt {g : Nat} {ty : TypeId} {l : List UInt8} {w : World} (h : Arr g ty l w) : g < w.heap.size := blk_lt h
theorem Arr.cell {g : Nat} {ty : TypeId} {l : List UInt8} {w : World} (h : Arr g ty l w) (j : Nat) (hj : j < l.length) : w.cell? ⟨g, j, none⟩ = some (enc8 l[j]) := by
  rw [blk_cell h]
  simp [cellsA, hj]
theorem Arr.free {g : Nat} {ty : TypeId} {l : List UInt8} {w : World} (h : Arr g ty l w) (j : Nat) : w.frozen? ⟨g, j, none⟩ = false := blk_free h j
theorem Arr.set_ {g : Nat} {ty : TypeId} {l : List UInt8} {w : World} (h : Arr g ty l w) (j : Nat) (b : UInt8) : Arr g ty (l.set j b) (w.setCell ⟨g, j, none⟩ (enc8 b)) := by
  unfold Arr
  rw [blk_set h]
  congr 2
  unfold cellsA
  apply Array.ext'
  simp
theorem Arr.row {g : Nat} {ty : TypeId} {l k : List UInt8} {w : World} (h : Arr g ty l w) : Arr g ty k (w.setRow g (cellsA k)) := by
  unfold Arr
  exact setRow_heap w g _ _ ty _ h
theorem Arr.rd {g : Nat} {ty : TypeId} {l : List UInt8} {w : World} {M : Nat → Prop} (h : Arr g ty l w) (hM : ¬ M g) (off n c : Nat) (hn : off + n ≤ l.length) (hc : n ≤ c) (hm : c ≤ maxLen) :
    Rd u8 M w (.slice (some ⟨g, off, none⟩) n c) ((l.drop off).take n) := by
  have hl : ((l.drop off).take n).length = n := by simp; omega
  have := plain_mk (enc := enc8) (h1 := fun _ => rfl) (M := M) (W := w) (A := some ⟨g, off, none⟩) (c := c) (xs := (l.drop off).take n) (by omega) hm (fun hp => ⟨⟨g, off, none⟩, rfl, hM, fun j hj => by
    have hj' : off + j < l.length := by omega
    have := h.cell (off + j) hj'
    by_cases h0 : j = 0
    · subst h0
      rw [addr_z]
      simpa using this
    · rw [addr_nz _ _ h0]
      rw [this]
      simp⟩)
  rw [hl] at this
  exact this

/-- strings.Split at one byte. -/
theorem splitc_call (c : UInt8) (s : ByteArray) (hs : s.size < 4294967281) : ∃ X : List ByteArray, X.map (·.data.toList) = splitC c s.data.toList ∧ ∀ w, MaxL w →
    Calls Tryz.prog 39 #[.string s, .string ⟨#[c]⟩] w fun e w' => ∃ g, e = .returned (.slice (some ⟨g, 0, none⟩) X.length X.length) ∧ w.heap.size ≤ g ∧ Stp (fun _ => False) w w' ∧ w'.heap[g]? = some (.cells (X.map Value.string).toArray 9 (0, 0)) := by
  have h1 : 1 ≤ (⟨#[c]⟩ : ByteArray).size := Nat.le_refl 1
  have hlen := Lib.splitB_all ⟨#[c]⟩ h1 0 _ s rfl
  refine ⟨Lib.splitB ⟨#[c]⟩ 0 (Lib.countB s ⟨#[c]⟩) s, ?_, ?_⟩
  · rw [Lib.splitB_data, ← split_one]
    rfl
  · rintro w ⟨m, hm⟩
    refine (Tryz.strings_Split s ⟨#[c]⟩ m w hs hm h1).mono ?_
    rintro e w' ⟨rfl, rfl⟩
    refine ⟨w.heap.size, ?_, Nat.le_refl _, (Stp.refl _ w).alloc _, heap_alloc_new w _⟩
    rw [hlen]
theorem splitc_le (c : UInt8) (l : List UInt8) (x : List UInt8) (h : x ∈ splitC c l) : x.length ≤ l.length := by
  induction l generalizing x with
  | nil => simp [splitC] at h; simp [h]
  | cons a r ih =>
    rw [splitC] at h
    split at h
    · rcases List.mem_cons.1 h with rfl | h
      · simp
      · have := ih x h
        simp
        omega
    · split at h
      · rename_i y ys hy
        rcases List.mem_cons.1 h with rfl | h
        · have := ih y (by rw [hy]; simp)
          simp
          omega
        · have := ih x (by rw [hy]; simp [h])
          simp
          omega
      · rename_i hy
        exact absurd hy (splitC_ne c r)
theorem size_four : (Tryz.prog.info? 105).map (·.size) = some 4 := by kernel_rfl
theorem size_addr : (Tryz.prog.info? 76).map (·.size) = some 16 := by kernel_rfl
/-- The package's variables that are read. -/
def aheadZ : List Int := [0, 0, 0, 0, 0, 0, 0, 0, 0, 0, 255, 255]
def AheadP (w : World) : Prop := Lib.TabIs Tryz.prog w "hagioscope/addr.ahead" .u8 aheadZ
theorem gAhead : Tryz.prog.globalNamed "hagioscope/addr.ahead" = some 0 := by kernel_rfl
theorem AheadP.step {w w' : World} (h : AheadP w) (hs : Stp (fun _ => False) w w') : AheadP w' := Joins.tab_stays gAhead h hs.below (Nat.le_refl _)
theorem AheadP.at_ {w : World} (h : AheadP w) (j : Nat) (hj : j < 12) : w.cell? ⟨0, j, none⟩ = some (enc8 (aheadL[j]'hj)) := by
  rw [Lib.TabIs.cell h gAhead j hj]
  match j, hj with
  | 0, _ => rfl
  | 1, _ => rfl
  | 2, _ => rfl
  | 3, _ => rfl
  | 4, _ => rfl
  | 5, _ => rfl
  | 6, _ => rfl
  | 7, _ => rfl
  | 8, _ => rfl
  | 9, _ => rfl
  | 10, _ => rfl
  | 11, _ => rfl
/-- y laid over x from off on. -/
def over (x : List UInt8) (off : Nat) (y : List UInt8) : List UInt8 := x.take off ++ (y ++ x.drop (off + y.length))
theorem over_len (x : List UInt8) (off : Nat) (y : List UInt8) (h : off + y.length ≤ x.length) : (over x off y).length = x.length := by
  unfold over
  simp
  omega
theorem Stp.rowA {S : Nat → Prop} {w w1 : World} (h : Stp S w w1) {g : Nat} (hg : g < w.heap.size → S g) (cs : Array Value) : Stp S w (w1.setRow g cs) :=
  ⟨h.os, h.tape, h.output, by have := h.size; simpa [World.setRow] using this, fun k hk hS => (setRow_other w1 g k cs (fun e => hS (e ▸ hg (e ▸ hk)))).trans (h.block k hk hS)⟩
theorem Arr.over {g : Nat} {ty : TypeId} {x : List UInt8} {W : World} (h : Arr g ty x W) (off : Nat) (y : List UInt8) :
    Arr g ty (over x off y) (W.setRow g ((cellsA x).toList.take off ++ (y.map enc8 ++ (cellsA x).toList.drop (off + y.length))).toArray) := by
  have e : ((cellsA x).toList.take off ++ (y.map enc8 ++ (cellsA x).toList.drop (off + y.length))).toArray = cellsA (L.over x off y) := by
    unfold L.over cellsA
    simp [List.map_take, List.map_drop]
  rw [e]
  exact h.row
/-- copy into a block of bytes, from off on. -/
theorem st_copyA {P : Program} {ops : Array Oper} {o : Oper} {a : Act} {W : World} {K : Act → World → Prop} {Q : Exit → Act → World → Prop} {E : Prop} (hgd : o.guard = none) (d s : Operand) (dT sT : TypeId)
    (ho : o.op = .call { callee := .builtin .copy, args := #[d, s], argTypes := #[dT, sT] }) (e : TypeId) (hu : P.underlying dT = some (.slice e)) (hsz : (P.info? e).map (·.size) = some 1)
    {g off n c : Nat} {ty : TypeId} {x y : List UInt8} {sv : Value} {M : Nat → Prop} (hA : Arr g ty x W) (hrd : Rd u8 M W sv y) (hd : a.eval d = .slice (some ⟨g, off, none⟩) n c) (hs : a.eval s = sv)
    (hfit : off + n ≤ x.length) (hn : y.length ≤ n)
    (h : ∀ W', Arr g ty (over x off y) W' → Stp (fun k => k = g) W W' → K (a.put o.dst (goInt (y.length : Int))) W') :
    if Region.wanted o (yielded ops a.tmps) = true then Oper.wp P o a W K Q else E := by
  have hw : Region.wanted o (yielded ops a.tmps) = true := by simp [Region.wanted, hgd]
  rw [if_pos hw]
  obtain ⟨A, cc, rfl, hl, hm, hc⟩ := hrd
  by_cases h0 : y.length = 0
  · obtain rfl : y = [] := List.eq_nil_of_length_eq_zero h0
    have hrun := run_copy_none (P := P) W dT sT o.type e (some ⟨g, off, none⟩) A n c 0 cc hu hsz (by simp)
    unfold Oper.wp
    simp [execOp, ho, resolve, invoke, builtin, hd, hs, hrun, Result.andThen]
    refine h W ?_ (Stp.refl _ W)
    have : over x off [] = x := by simp [over]
    rw [this]
    exact hA
  · obtain ⟨ad, rfl, hcs⟩ := hc (by omega)
    have hrun := run_copy_row (P := P) W dT sT o.type e g off n c ad y.length cc (cellsA x) ty (y.map enc8) hu hsz hA (by rw [List.length_map]; exact (Nat.min_eq_left hn).symm) (by
      intro j v hj
      simp only [List.getElem?_map, Option.map_eq_some_iff] at hj
      obtain ⟨p, hp, rfl⟩ := hj
      obtain ⟨cs, hK, hcc⟩ := hcs.2 j p hp
      obtain rfl : cs = [enc8 p] := hK
      have := hcc 0 _ rfl
      simpa [u8, Kind.plain] using this) (by rw [cellsA_size]; simp; omega) (by
      intro v hv
      obtain ⟨p, _, rfl⟩ := List.mem_map.1 hv
      rfl)
    unfold Oper.wp
    simp only [execOp, ho, resolve, invoke, builtin]
    simp [hd, hs, hrun, Result.andThen]
    exact h _ (hA.over off y) ((Stp.refl (fun k => k = g) W).rowA (fun _ => rfl) _)
/-- The same, in a row of operations. -/
theorem wp_copyA {P : Program} {ops : Array Oper} {rest : List Oper} {o : Oper} {a : Act} {W : World} {Q : Exit → Act → World → Prop} (hgd : o.guard = none) (d s : Operand) (dT sT : TypeId)
    (ho : o.op = .call { callee := .builtin .copy, args := #[d, s], argTypes := #[dT, sT] }) (e : TypeId) (hu : P.underlying dT = some (.slice e)) (hsz : (P.info? e).map (·.size) = some 1)
    {g off n c : Nat} {ty : TypeId} {x y : List UInt8} {sv : Value} {M : Nat → Prop} (hA : Arr g ty x W) (hrd : Rd u8 M W sv y) (hd : a.eval d = .slice (some ⟨g, off, none⟩) n c) (hs : a.eval s = sv)
    (hfit : off + n ≤ x.length) (hn : y.length ≤ n)
    (h : ∀ W', Arr g ty (over x off y) W' → Stp (fun k => k = g) W W' → wpList P ops Q rest (a.put o.dst (goInt (y.length : Int))) W') : wpList P ops Q (o :: rest) a W :=
  wpList_plain hgd fun K hK => by
    have := st_copyA (P := P) (ops := ops) (o := o) (a := a) (W := W) (K := K) (Q := Q) (E := False) hgd d s dT sT ho e hu hsz hA hrd hd hs hfit hn (fun W' h1 h2 => hK _ _ (h W' h1 h2))
    rw [if_pos (by simp [Region.wanted, hgd])] at this
    exact this
theorem wp_loadA {P : Program} {ops : Array Oper} {rest : List Oper} {o : Oper} {a : Act} {W : World} {Q : Exit → Act → World → Prop} (hgd : o.guard = none) (ty : TypeId) (x : Operand) (ho : o.op = .load ty x)
    {g : Nat} {t : TypeId} {l : List UInt8} (hx : a.eval x = .pointer (some ⟨g, 0, none⟩)) (hA : Arr g t l W) {m : Nat} {e : TypeId} (hu : P.underlying ty = some (.array m e)) {n : Nat} (hi : (P.info? ty).map (·.size) = some n) (hn : l.length = n)
    (h : wpList P ops Q rest (a.put o.dst (.agg (cellsA l))) W) : wpList P ops Q (o :: rest) a W :=
  wpList_load_row hgd ty x ho g hx t (cellsA l) (0, 0) _ hA hu rfl (by rw [cellsA_size, hn]; exact hi) h
theorem wp_storeA {P : Program} {ops : Array Oper} {rest : List Oper} {o : Oper} {a : Act} {W : World} {Q : Exit → Act → World → Prop} (hgd : o.guard = none) (ty : TypeId) (x y : Operand) (ho : o.op = .store ty x y)
    {g : Nat} {t : TypeId} {l k : List UInt8} (hx : a.eval x = .pointer (some ⟨g, 0, none⟩)) (hy : a.eval y = .agg (cellsA l)) (hA : Arr g t k W) {n : Nat} (hi : (P.info? ty).map (·.size) = some n) (hn : l.length = n) (hk : k.length = n)
    (h : ∀ W', Arr g t l W' → Stp (fun j => j = g) W W' → wpList P ops Q rest (a.put o.dst undef) W') : wpList P ops Q (o :: rest) a W :=
  wpList_store_row hgd ty x y ho g (cellsA l) hx hy t (cellsA k) hA (by rw [cellsA_size, hn]; exact hi) (by rw [cellsA_size, cellsA_size, hn, hk]) (cellsA_one l) (h _ hA.row ((Stp.refl (fun j => j = g) W).rowA (fun _ => rfl) _))
theorem stopw {P : Program} {ops : Array Oper} {rest : List Oper} {a : Act} {Q : Exit → Act → World → Prop} {W : World} (h : Stop (wpList P ops Q rest a W)) : wpList P ops Q rest a W := by
  unfold Stop at h
  exact h
/-- A world by what is known of it. -/
theorem wp_gen {P : Program} {c : Code} {a : Act} {Q : Exit → Act → World → Prop} {W0 : World} (T : World → Prop) (h0 : T W0) (h : ∀ W, T W → Code.wp P c Q a W) : Code.wp P c Q a W0 := h W0 h0
theorem wpl_gen {P : Program} {ops : Array Oper} {rest : List Oper} {a : Act} {Q : Exit → Act → World → Prop} {W0 : World} (T : World → Prop) (h0 : T W0) (h : ∀ W, T W → wpList P ops Q rest a W) : wpList P ops Q rest a W0 := h W0 h0
theorem arr_new (W : World) (g : Nat) (ty : TypeId) (l : List UInt8) (hg : g = W.heap.size) : Arr g ty l (W.alloc (.cells (cellsA l) ty)) := by
  rw [hg]
  exact heap_alloc_new W _
theorem Arr.alloc {g : Nat} {ty : TypeId} {l : List UInt8} {W : World} (h : Arr g ty l W) (o : Obj) : Arr g ty l (W.alloc o) := h.step ((Stp.refl (fun _ => False) W).alloc o) id
theorem Arr.all {g : Nat} {ty : TypeId} {l : List UInt8} {w : World} (h : Arr g ty l w) (M : Nat → Prop) (hM : ¬ M g) (n : Nat) (hn : l.length = n) (hm : n ≤ maxLen) : Rd u8 M w (.slice (some ⟨g, 0, none⟩) n n) l := by
  have := h.rd hM 0 n n (by omega) (Nat.le_refl _) hm
  rw [List.drop_zero, List.take_of_length_le (by omega)] at this
  exact this
theorem Arr.drew {g : Nat} {ty : TypeId} {l : List UInt8} {W : World} (h : Arr g ty l W) : Arr g ty l W.drew := h
theorem over_zeros (b : List UInt8) (hb : b.length = 4) : over (over (zerosL 16) 0 aheadL) 12 b = aheadL ++ b := by
  match b, hb with
  | [_, _, _, _], _ => rfl
theorem AheadP.rd {w : World} (h : AheadP w) (M : Nat → Prop) (hM : ¬ M 0) : Rd u8 M w (.slice (some ⟨0, 0, none⟩) 12 12) aheadL :=
  plain_mk (enc := enc8) (h1 := fun _ => rfl) (xs := aheadL) (Nat.le_refl _) (by decide) fun _ => ⟨_, rfl, hM, fun j hj => by
    have := h.at_ j hj
    by_cases h0 : j = 0
    · subst h0
      rw [addr_z]
      exact this
    · rw [addr_nz _ _ h0, Nat.zero_add]
      exact this⟩

set_option maxRecDepth 100000 in
set_option maxHeartbeats 4000000 in
theorem of4_any (b : List UInt8) (hb : b.length = 4) (w : World) (ha : AheadP w) : Calls Tryz.prog 73 #[arrV b] w fun e w' => e = .returned (arrV (aheadL ++ b)) ∧ Stp (fun _ => False) w w' := by
  unfold arrV
  go_enter Tryz.func73, Tryz.ntmps73
  go_wp2
  refine wp_gen (fun W => Arr w.heap.size 105 b W ∧ Arr (w.heap.size + 1) 76 (zerosL 16) W ∧ Arr (w.heap.size + 1 + 1) 76 (zerosL 16) W ∧ Stp (fun _ => False) w W)
    ⟨((arr_new _ _ _ _ rfl).alloc _).alloc _, (arr_new _ _ _ (zerosL 16) (by simp)).alloc _, arr_new _ _ _ (zerosL 16) (by simp), (((Stp.refl _ w).alloc _).alloc _).alloc _⟩ ?_
  rintro W1 ⟨hA, hB, hC, hs⟩
  have HA := Lib.hid hA
  have HB := Lib.hid hB
  have HC := Lib.hid hC
  have HS := Lib.hid hs
  have HH := Lib.hid ha
  clear hA hB hC hs ha
  refine wp_region_held_drew (S := (fun _ => True)) (by kernel_rfl) (trivial) (fun hHeld => ?_)
  try (change wpAnyH _ _ _ _ _ _ _ _ (World.drew _))
  refine rg_take (i := 0) (o := { dst := some 4, op := Op.slice 76 (Operand.tmp 3) none none none, type := 22, pos := "addr.go:27", after := #[], guard := none }) (v := ?rgv1) rfl (by kernel_rfl) (by kernel_rfl) (by kernel_rfl) (fun _ _ _ h => h) (by rfl) (fun w hSw => ?rgy1) hHeld ?_
  case rgy1 => (try dsimp only at hSw); first | (go_simp; done) | (go_simp; with_reducible rfl)
  try simp only [Act.put, List.setIfInBounds_toArray, List.set_cons_zero, List.set_cons_succ]
  refine rg_take (i := 1) (o := { dst := some 5, op := Op.slice 139 (Operand.global 0) none none none, type := 22, pos := "addr.go:27", after := #[], guard := none }) (v := ?rgv2) rfl (by kernel_rfl) (by kernel_rfl) (by kernel_rfl) (fun _ _ _ h => h) (by rfl) (fun w hSw => ?rgy2) hHeld ?_
  case rgy2 => (try dsimp only at hSw); first | (go_simp; done) | (go_simp; with_reducible rfl)
  try simp only [Act.put, List.setIfInBounds_toArray, List.set_cons_zero, List.set_cons_succ]
  refine wpAnyH_ready (rs := [2]) (by kernel_rfl) (by simp) ?_
  refine (AllReadyH.cons (o := { dst := some 6, op := Op.call { callee := Callee.builtin Builtin.copy, args := #[Operand.tmp 4, Operand.tmp 5], argTypes := #[22, 22] }, type := 3, pos := "addr.go:27", after := #[{ on := 0, ground := Ground.data }, { on := 1, ground := Ground.data }], guard := none }) rfl (fun K hK => ?_) AllReadyH.nil)
  refine st_copyA (by rfl) _ _ _ _ (by rfl) 5 Tryz.underlying22 size_u8 HC.out.drew (((HH.out.step HS.out).rd (fun _ => False) id).stp0 (Stp.refl _ _).drew) (by rfl) (by rfl) (by decide) (by decide) ?_
  intro W2 hC2 hs2
  have HC2 := Lib.hid hC2
  have HS2 := Lib.hid hs2
  clear hC2 hs2
  show K _ _
  clear hHeld
  refine hK.out _ _ (trivial) (fun hHeld => ?_)
  clear hK K
  try simp only [Act.put, List.setIfInBounds_toArray, List.set_cons_zero, List.set_cons_succ]
  clear hHeld
  refine wpAnyH_done (by kernel_rfl) ?_ _
  skip
  have HA2 := Lib.hid (HA.out.drew.step HS2.out (by omega))
  have HB2 := Lib.hid (HB.out.drew.step HS2.out (by omega))
  have HS3 := Lib.hid (HS.out.drew.then_ HS2.out (fun k hk h => absurd h (by omega)))
  go_wp2
  refine wp_region_held_drew (S := (fun _ => True)) (by kernel_rfl) (trivial) (fun hHeld => ?_)
  try (change wpAnyH _ _ _ _ _ _ _ _ (World.drew _))
  refine rg_take (i := 0) (o := { dst := some 7, op := Op.slice 76 (Operand.tmp 3) (some (Operand.const (Value.int IntKind.i64 12))) none none, type := 22, pos := "addr.go:28", after := #[], guard := none }) (v := ?rgv3) rfl (by kernel_rfl) (by kernel_rfl) (by kernel_rfl) (fun _ _ _ h => h) (by rfl) (fun w hSw => ?rgy3) hHeld ?_
  case rgy3 => (try dsimp only at hSw); first | (go_simp; done) | (go_simp; with_reducible rfl)
  try simp only [Act.put, List.setIfInBounds_toArray, List.set_cons_zero, List.set_cons_succ]
  refine rg_take (i := 1) (o := { dst := some 8, op := Op.slice 105 (Operand.tmp 1) none none none, type := 22, pos := "addr.go:28", after := #[], guard := none }) (v := ?rgv4) rfl (by kernel_rfl) (by kernel_rfl) (by kernel_rfl) (fun _ _ _ h => h) (by rfl) (fun w hSw => ?rgy4) hHeld ?_
  case rgy4 => (try dsimp only at hSw); first | (go_simp; done) | (go_simp; with_reducible rfl)
  try simp only [Act.put, List.setIfInBounds_toArray, List.set_cons_zero, List.set_cons_succ]
  refine wpAnyH_ready (rs := [2]) (by kernel_rfl) (by simp) ?_
  refine (AllReadyH.cons (o := { dst := some 9, op := Op.call { callee := Callee.builtin Builtin.copy, args := #[Operand.tmp 7, Operand.tmp 8], argTypes := #[22, 22] }, type := 3, pos := "addr.go:28", after := #[{ on := 0, ground := Ground.data }, { on := 1, ground := Ground.data }], guard := none }) rfl (fun K hK => ?_) AllReadyH.nil)
  refine st_copyA (by rfl) _ _ _ _ (by rfl) 5 Tryz.underlying22 size_u8 HC2.out.drew ((HA2.out.all (fun _ => False) id 4 hb (by decide)).stp0 (Stp.refl _ _).drew) (by rfl) (by rfl) (by decide) (by omega) ?_
  intro W3 hC3 hs3
  have HC3 := Lib.hid hC3
  have HS4 := Lib.hid hs3
  clear hC3 hs3
  show K _ _
  clear hHeld
  refine hK.out _ _ (trivial) (fun hHeld => ?_)
  clear hK K
  try simp only [Act.put, List.setIfInBounds_toArray, List.set_cons_zero, List.set_cons_succ]
  clear hHeld
  refine wpAnyH_done (by kernel_rfl) ?_ _
  skip
  have HB3 := Lib.hid (HB2.out.drew.step HS4.out (by omega))
  have HS5 := Lib.hid (HS3.out.drew.then_ HS4.out (fun k hk h => absurd h (by omega)))
  have hC3 := HC3.out
  rw [over_zeros b hb] at hC3
  have HC4 := Lib.hid hC3
  clear hC3
  go_wp2_with (with_reducible refine stop (N := 10) rfl ?_)
  refine Stop.go ?_
  have hl16 : (aheadL ++ b).length = 16 := by simp [hb, aheadL]
  refine wp_loadA rfl _ _ rfl rfl HC4.out Tryz.underlying76 size_addr hl16 ?_
  refine wp_storeA rfl _ _ _ rfl rfl rfl HB3.out size_addr hl16 rfl ?_
  intro W4 hB4 hs4
  have HB4 := Lib.hid hB4
  have HS6 := Lib.hid (HS5.out.then_ hs4 (fun k hk h => absurd h (by omega)))
  clear hB4 hs4
  go_wp2
  refine bodyPost_ret (results_cell_row rfl _ _ (w.heap.size + 1) _ _ _ _ rfl HB4.out Tryz.underlying76 rfl (by rw [cellsA_size, hl16]; exact size_addr)) rfl ⟨rfl, HS6.out⟩

theorem exec_loadC {P : Program} {w : World} {o : Oper} {ev : Operand → Value} (ty : TypeId) (x : Operand) (ho : o.op = .load ty x) {g : Nat} (hx : ev x = .pointer (some ⟨g, 0, none⟩)) (l : List UInt8)
    {m : Nat} {e : TypeId} (hu : P.underlying ty = some (.array m e)) {n : Nat} (hi : (P.info? ty).map (·.size) = some n) (hn : l.length = n) (hc : ∀ j, (hj : j < l.length) → w.cell? ⟨g, j, none⟩ = some (enc8 l[j])) :
    (execOp ev o).run P w = .ok (.value (.agg (cellsA l))) w := by
  have hl : (loadCells ⟨g, 0, none⟩ (l.map enc8).length).run P w = .ok (cellsA l) w :=
    run_loadCells_list (P := P) w ⟨g, 0, none⟩ (l.map enc8) (fun j v hv => by
      simp only [List.getElem?_map, Option.map_eq_some_iff] at hv
      obtain ⟨b, hb, rfl⟩ := hv
      obtain ⟨hj, rfl⟩ := List.getElem?_eq_some_iff.1 hb
      by_cases h0 : j = 0
      · subst h0
        rw [addr_z]
        exact hc 0 hj
      · rw [addr_nz _ _ h0, Nat.zero_add]
        exact hc j hj)
  rw [List.length_map, hn] at hl
  cases hq : P.info? ty with
  | none => simp [hq] at hi
  | some i =>
    have hs : i.size = n := by simpa [hq] using hi
    have hagg : (isAgg ty).run P w = .ok true w := by
      unfold isAgg
      rw [Sem.run_bind, run_underlying hu w]
      simp
    unfold execOp
    simp only [ho, hx, Instr.loadAt, Instr.sureAddr, Sem.run_bind, Sem.run_pure, Result.andThen_ok]
    simp [loadVar, Sem.run_bind, hagg, sizeOf, typeInfo, hq, hs, hl]
theorem size_ahead : (Tryz.prog.info? 139).map (·.size) = some 12 := by kernel_rfl
theorem exec_eqlA {P : Program} {w : World} {o : Oper} {ev : Operand → Value} (t : TypeId) (x y : Operand) (r : TypeId) (ho : o.op = .binOp .eql t x y r) (a b : List UInt8) (hx : ev x = .agg (cellsA a)) (hy : ev y = .agg (cellsA b))
    {e : TypeId} {n : Nat} (ht : P.underlying t = some (.array n e)) (he : P.underlying e = some (.int .u8)) (hsz : ∀ w, (sizeOf e).run P w = .ok 1 w) (hm : P.eqGuardType P.depth t = false) (ha : a.length = n) (hb : b.length = n) :
    (execOp ev o).run P w = .ok (.value (.bool (a == b))) w := by
  have h := run_eql_bytes (P := P) w t e n ht he hsz a b ha hb
  unfold execOp
  simp only [ho, hx, hy, Sem.run_bind, Sem.run_pure]
  have h' : (binOp .eql t (.agg (cellsA a)) (.agg (cellsA b))).run P w = .ok (.bool (a == b)) w := h
  rw [run_eqGuard_agg w .eql t x y _ _ hm, Result.andThen_ok, h']
  rfl

theorem fourB_eq (a : List UInt8) : (a.take 12 == aheadL) = fourB a := by
  unfold fourB
  rw [Bool.eq_iff_iff]
  simp

set_option maxRecDepth 100000 in
set_option maxHeartbeats 4000000 in
theorem four_any (a : List UInt8) (ha : a.length = 16) (w : World) (hh : AheadP w) : Calls Tryz.prog 76 #[arrV a] w fun e w' => e = .returned (.bool (fourB a)) ∧ Stp (fun _ => False) w w' := by
  unfold arrV
  obtain ⟨b, hb⟩ : ∃ b, b = fourB a := ⟨_, rfl⟩
  rw [← hb]
  have HB := Lib.hid hb
  clear hb
  go_enter Tryz.func76, Tryz.ntmps76
  go_wp2
  refine wp_gen (fun W => Arr w.heap.size 76 a W ∧ AheadP W ∧ Stp (fun _ => False) w W) ⟨arr_new _ _ _ _ rfl, hh.step ((Stp.refl _ w).alloc _), (Stp.refl _ w).alloc _⟩ ?_
  rintro W1 ⟨hA, hP, hs⟩
  have HA := Lib.hid hA
  have HS := Lib.hid hs
  have HP := Lib.hid hP
  clear hA hP hs hh
  have hat : ∀ W, (Instr.arrayAt 139 (.slice (some ⟨w.heap.size, 0, none⟩) 12 16)).run Tryz.prog W = .ok (.pointer (some ⟨w.heap.size, 0, none⟩)) W := fun W => run_arrayAt W 139 _ 12 _ 12 16 Tryz.underlying139 (Nat.le_refl _)
  refine wp_region_held_drew (S := (fun W => Arr w.heap.size 76 a W ∧ AheadP W)) (by kernel_rfl) (⟨HA.out.drew, HP.out⟩) (fun hHeld => ?_)
  try (change wpAnyH _ _ _ _ _ _ _ _ (World.drew _))
  refine rg_take (i := 0) (o := { dst := some 3, op := Op.slice 76 (Operand.tmp 1) none (some (Operand.const (Value.int IntKind.i64 12))) none, type := 22, pos := "addr.go:33", after := #[], guard := none }) (v := ?rgv5) rfl (by kernel_rfl) (by kernel_rfl) (by kernel_rfl) (fun _ _ _ h => h) (by rfl) (fun w hSw => ?rgy5) hHeld ?_
  case rgy5 => (try dsimp only at hSw); first | (go_simp; done) | (go_simp; with_reducible rfl)
  try simp only [Act.put, List.setIfInBounds_toArray, List.set_cons_zero, List.set_cons_succ]
  refine rg_take (i := 1) (o := { dst := some 4, op := Op.sliceToArrayPointer 139 (Operand.tmp 3), type := 0, pos := "addr.go:33", after := #[{ on := 0, ground := Ground.data }], guard := none }) (v := ?rgv6) rfl (by kernel_rfl) (by kernel_rfl) (by kernel_rfl) (fun _ _ _ h => h) (by rfl) (fun w hSw => ?rgy6) hHeld ?_
  case rgy6 => (try dsimp only at hSw); first | (go_simp; done) | (go_simp; with_reducible rfl)
  try simp only [Act.put, List.setIfInBounds_toArray, List.set_cons_zero, List.set_cons_succ]
  refine rg_take (i := 2) (o := { dst := some 5, op := Op.load 139 (Operand.tmp 4), type := 139, pos := "addr.go:33", after := #[{ on := 1, ground := Ground.data }], guard := none }) (v := (.agg (cellsA (a.take 12)))) rfl (by kernel_rfl) (by kernel_rfl) (by kernel_rfl) (fun _ _ _ h => h) (by rfl) (fun w hSw => exec_loadC _ _ (by rfl) (by rfl) _ Tryz.underlying139 size_ahead (by simp [ha]) (fun j hj => by rw [hSw.1.cell j (by simp at hj; omega)]; simp)) hHeld ?_
  try simp only [Act.put, List.setIfInBounds_toArray, List.set_cons_zero, List.set_cons_succ]
  refine rg_take (i := 3) (o := { dst := some 6, op := Op.load 139 (Operand.global 0), type := 139, pos := "addr.go:33", after := #[], guard := none }) (v := (.agg (cellsA aheadL))) rfl (by kernel_rfl) (by kernel_rfl) (by kernel_rfl) (fun _ _ _ h => h) (by rfl) (fun w hSw => exec_loadC _ _ (by rfl) (by rfl) _ Tryz.underlying139 size_ahead (by rfl) (fun j hj => hSw.2.at_ j hj)) hHeld ?_
  try simp only [Act.put, List.setIfInBounds_toArray, List.set_cons_zero, List.set_cons_succ]
  refine rg_take (i := 4) (o := { dst := some 7, op := Op.binOp BinOp.eql 139 (Operand.tmp 5) (Operand.tmp 6) 139, type := 4, pos := "addr.go:33", after := #[{ on := 2, ground := Ground.data }, { on := 3, ground := Ground.data }], guard := none }) (v := (.bool (a.take 12 == aheadL))) rfl (by kernel_rfl) (by kernel_rfl) (by kernel_rfl) (fun _ _ _ h => h) (by rfl) (fun w hSw => exec_eqlA _ _ _ _ (by rfl) _ _ (by rfl) (by rfl) Tryz.underlying139 Tryz.underlying5 Tryz.sizeOf5 Tryz.eqGuardType139 (by simp [ha]) (by rfl)) hHeld ?_
  try simp only [Act.put, List.setIfInBounds_toArray, List.set_cons_zero, List.set_cons_succ]
  refine rg_take (i := 5) (o := { dst := some 2, op := Op.assign (Operand.tmp 7), type := 4, pos := "addr.go:33", after := #[{ on := 4, ground := Ground.data }, { on := 0, ground := Ground.phase }, { on := 1, ground := Ground.phase }, { on := 2, ground := Ground.phase }, { on := 3, ground := Ground.phase }, { on := 4, ground := Ground.phase }], guard := none }) (v := ?rgv10) rfl (by kernel_rfl) (by kernel_rfl) (by kernel_rfl) (fun _ _ _ h => h) (by rfl) (fun w hSw => ?rgy10) hHeld ?_
  case rgy10 => (try dsimp only at hSw); first | (go_simp; done) | (go_simp; with_reducible rfl)
  try simp only [Act.put, List.setIfInBounds_toArray, List.set_cons_zero, List.set_cons_succ]
  clear hHeld
  refine wpAnyH_done (by kernel_rfl) ?_ _
  skip
  go_wp2
  go_ret
  exact ⟨by rw [HB.out, ← fourB_eq]; rfl, HS.out.drew⟩
end Go.Proofs.YtgjmaifgkgejgaaGreatDoor.L
