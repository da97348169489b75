/- A hello that is being made, in a block; what bytes are laid out as. -/
import Derived.Test.YtdmcmfjhlpnaeaaPl
set_option linter.unusedVariables false
set_option linter.unusedSimpArgs false
namespace Go.Proofs.Ytdmcmfjhlpnaeaa.L
open Go.RowKit Go.Proofs

/-- A hello in a block: its fields, as values. -/
def HlB (W : World) (g : Nat) (h : Hl) (vs vc vm vx : Value) : Prop := W.heap[g]? = some (.cells (hlV h vs vc vm vx).toArray 62 (0, 0)) ∧ h.rnd.length = 32
def hl0 : Hl := ⟨0, List.replicate 32 0, [], [], [], false, []⟩
theorem hlV0 : (hlV hl0 (.slice none 0 0) (.slice none 0 0) (.slice none 0 0) (.slice none 0 0)).toArray = #[.int .i64 0, .int .u8 0, .int .u8 0, .int .u8 0, .int .u8 0, .int .u8 0, .int .u8 0, .int .u8 0, .int .u8 0, .int .u8 0, .int .u8 0, .int .u8 0, .int .u8 0, .int .u8 0, .int .u8 0, .int .u8 0, .int .u8 0, .int .u8 0, .int .u8 0, .int .u8 0, .int .u8 0, .int .u8 0, .int .u8 0, .int .u8 0, .int .u8 0, .int .u8 0, .int .u8 0, .int .u8 0, .int .u8 0, .int .u8 0, .int .u8 0, .int .u8 0, .int .u8 0, .slice none 0 0, .slice none 0 0, .slice none 0 0, .bool false, .slice none 0 0] := by rfl
section
variable {W W1 : World} {g : Nat} {h : Hl} {vs vc vm vx : Value}
theorem HlB.step {S : Nat → Prop} (hb : HlB W g h vs vc vm vx) (hs : Stp S W W1) (hS : ¬ S g) : HlB W1 g h vs vc vm vx := ⟨hs.blk hb.1 hS, hb.2⟩
theorem HlB.stp0 (hb : HlB W g h vs vc vm vx) (hs : Stp (fun _ => False) W W1) : HlB W1 g h vs vc vm vx := hb.step hs id
theorem HlB.lt (hb : HlB W g h vs vc vm vx) : g < W.heap.size := blk_lt hb.1
theorem hlV_at (hr : h.rnd.length = 32) : (hlV h vs vc vm vx).length = 38 ∧ (hlV h vs vc vm vx)[0]? = some (.int .i64 h.ver) ∧ (hlV h vs vc vm vx)[33]? = some vs ∧ (hlV h vs vc vm vx)[34]? = some vc ∧ (hlV h vs vc vm vx)[35]? = some vm ∧ (hlV h vs vc vm vx)[36]? = some (.bool h.has) ∧ (hlV h vs vc vm vx)[37]? = some vx := by
  refine ⟨by simp [hlV, hr], ?_, ?_, ?_, ?_, ?_, ?_⟩ <;> simp [hlV, List.getElem?_append, hr]
theorem HlB.cells (hb : HlB W g h vs vc vm vx) : W.cell? ⟨g, 0, none⟩ = some (.int .i64 h.ver) ∧ W.cell? ⟨g, 33, none⟩ = some vs ∧ W.cell? ⟨g, 34, none⟩ = some vc ∧ W.cell? ⟨g, 35, none⟩ = some vm ∧ W.cell? ⟨g, 36, none⟩ = some (.bool h.has) ∧ W.cell? ⟨g, 37, none⟩ = some vx := by
  obtain ⟨h1, h2⟩ := hb
  obtain ⟨-, a0, a1, a2, a3, a4, a5⟩ := hlV_at (h := h) (vs := vs) (vc := vc) (vm := vm) (vx := vx) h2
  refine ⟨?_, ?_, ?_, ?_, ?_, ?_⟩ <;> (rw [blk_cell h1, List.getElem?_toArray]; assumption)
theorem HlB.free (hb : HlB W g h vs vc vm vx) (j : Nat) : W.frozen? ⟨g, j, none⟩ = false := blk_free hb.1 j
theorem HlB.set0 (hb : HlB W g h vs vc vm vx) (n : Int) : HlB (W.setCell ⟨g, 0, none⟩ (.int .i64 n)) g { h with ver := n } vs vc vm vx := by
  refine ⟨?_, hb.2⟩
  have := blk_set hb.1 0 (.int .i64 n)
  rw [this]
  simp [hlV]
theorem HlB.set33 (hb : HlB W g h vs vc vm vx) (v : Value) (l : List UInt8) : HlB (W.setCell ⟨g, 33, none⟩ v) g { h with ses := l } v vc vm vx := by
  refine ⟨?_, hb.2⟩
  have := blk_set hb.1 33 v
  rw [this]
  simp [hlV, List.set_append, hb.2]
theorem HlB.set34 (hb : HlB W g h vs vc vm vx) (v : Value) (l : List Int) : HlB (W.setCell ⟨g, 34, none⟩ v) g { h with cip := l } vs v vm vx := by
  refine ⟨?_, hb.2⟩
  have := blk_set hb.1 34 v
  rw [this]
  simp [hlV, List.set_append, hb.2]
theorem HlB.set35 (hb : HlB W g h vs vc vm vx) (v : Value) (l : List UInt8) : HlB (W.setCell ⟨g, 35, none⟩ v) g { h with met := l } vs vc v vx := by
  refine ⟨?_, hb.2⟩
  have := blk_set hb.1 35 v
  rw [this]
  simp [hlV, List.set_append, hb.2]
theorem HlB.set36 (hb : HlB W g h vs vc vm vx) (b : Bool) : HlB (W.setCell ⟨g, 36, none⟩ (.bool b)) g { h with has := b } vs vc vm vx := by
  refine ⟨?_, hb.2⟩
  have := blk_set hb.1 36 (.bool b)
  rw [this]
  simp [hlV, List.set_append, hb.2]
theorem HlB.set37 (hb : HlB W g h vs vc vm vx) (v : Value) (l : List (Int × List UInt8)) : HlB (W.setCell ⟨g, 37, none⟩ v) g { h with exs := l } vs vc vm v := by
  refine ⟨?_, hb.2⟩
  have := blk_set hb.1 37 v
  rw [this]
  simp [hlV, List.set_append, hb.2]

theorem laid_u8 {M : Nat → Prop} {x : List UInt8} {cs : List Value} (h : Laid u8 M W x cs) : cs = x.map enc8 := by
  induction x generalizing cs with
  | nil => exact h
  | cons y ys ih =>
    obtain ⟨c1, r, rfl, hk, hr⟩ := h
    obtain rfl : c1 = [enc8 y] := hk
    rw [ih hr]
    rfl
/-- copy(h.Random[:], x) -/
def rndS (old x : List UInt8) : List UInt8 := if x.length = 32 then x else old
theorem op_copyRnd {P : Program} {o : Oper} {a : Act} {Q : Exit → Act → World → Prop} (hb : HlB W g h vs vc vm vx) (d s : Operand) (dT sT : TypeId)
    (ho : o.op = .call { callee := .builtin .copy, args := #[d, s], argTypes := #[dT, sT] }) (elem : TypeId) (hu : P.underlying dT = some (.slice elem)) (hsz : (P.info? elem).map (·.size) = some 1)
    {M : Nat → Prop} {sv : Value} {x : List UInt8} (hx : Rd u8 M W sv x) (hxl : x.length = 32 ∨ x = []) (hd : a.eval d = .slice (some ⟨g, 1, none⟩) 32 32) (hs : a.eval s = sv) {K : Act → World → Prop}
    (hK : ∀ W', HlB W' g { h with rnd := rndS h.rnd x } vs vc vm vx → Stp (fun k => k = g) W W' → K (a.put o.dst (goInt (x.length : Nat))) W') : Oper.wp P o a W K Q := by
  obtain ⟨A, c, rfl, hl, hm, hc⟩ := hx
  rcases hxl with h32 | rfl
  · obtain ⟨ad, rfl, hcs⟩ := hc (by omega)
    obtain ⟨cs, hla, hcc⟩ := cells_flat x ad hcs.2
    have hcsl := hla.len
    obtain rfl := laid_u8 hla
    have hrun := run_copy_row (P := P) W dT sT o.type elem g 1 32 32 ad x.length c (hlV h vs vc vm vx).toArray 62 (x.map enc8) hu hsz hb.1 (by simp [h32]) hcc (by have := (hlV_at (h := h) (vs := vs) (vc := vc) (vm := vm) (vx := vx) hb.2).1; simp [h32, this]) (by
      intro v hv
      obtain ⟨p, _, rfl⟩ := List.mem_map.1 hv
      rfl)
    unfold Oper.wp
    simp [execOp, ho, resolve, invoke, builtin, hd, hs, hrun, Result.andThen]
    have hk := hK (W.setRow g (hlV { h with rnd := rndS h.rnd x } vs vc vm vx).toArray) ⟨setRow_heap W g _ _ 62 _ hb.1, by simp [rndS, h32]⟩ ⟨rfl, rfl, rfl, by simp, fun k _ hk => setRow_other W g k _ hk⟩
    have e : (hlV { h with rnd := rndS h.rnd x } vs vc vm vx).toArray = ((hlV h vs vc vm vx).take 1 ++ (x.map enc8 ++ (hlV h vs vc vm vx).drop (1 + x.length))).toArray := by
      have h1 : rndS h.rnd x = x := by simp [rndS, h32]
      rw [h1]
      have h2 : (h.rnd.map enc8).length = 32 := by rw [List.length_map, hb.2]
      simp only [hlV, List.take_succ_cons, List.take_zero]
      rw [h32, show 1 + 32 = 32 + 1 from rfl, List.drop_succ_cons, List.drop_append, h2, List.drop_of_length_le (by omega)]
      simp
    rw [e] at hk
    exact hk
  · have hrun := run_copy_none (P := P) W dT sT o.type elem (some ⟨g, 1, none⟩) A 32 32 0 c hu hsz (by simp)
    unfold Oper.wp
    simp [execOp, ho, resolve, invoke, builtin, hd, hs, hrun, Result.andThen]
    exact hK W (by simpa [rndS] using hb) (Stp.refl _ _)
end

/-! ### what bytes are laid out as -/
def rd1 (b : List UInt8) : Int × RSt := rnum (b, false) 2
def rd2 (b : List UInt8) : List UInt8 × RSt := rtake (rd1 b).2 32
def rd3 (b : List UInt8) : List UInt8 × RSt := rvec (rd2 b).2 1
def rd4 (b : List UInt8) : List UInt8 × RSt := rvec (rd3 b).2 2
def rd5 (b : List UInt8) : List UInt8 × RSt := rvec (rd4 b).2 1
def rd6 (b : List UInt8) : List UInt8 × RSt := rvec (rd5 b).2 2
def hlF (b : List UInt8) : Hl := ⟨(rd1 b).1, rndS (List.replicate 32 0) (rd2 b).1, (rd3 b).1, twos (rd4 b).1, (rd5 b).1, false, []⟩
/-- Whether the parts up to the methods are right. -/
def okF (b : List UInt8) : Prop := (rd5 b).2.2 = false ∧ (rd4 b).1.length ≠ 0 ∧ (rd4 b).1.length % 2 = 0 ∧ (rd5 b).1.length ≠ 0
instance (b : List UInt8) : Decidable (okF b) := by unfold okF; infer_instance
def okX (b : List UInt8) : Prop := (rd6 b).2.2 = false ∧ (rd6 b).2.1.length = 0 ∧ (extS (rd6 b).1).2 = true
instance (b : List UInt8) : Decidable (okX b) := by unfold okX; infer_instance
def laidS (b : List UInt8) : Option Hl :=
  if okF b then (if (rd5 b).2.1.length = 0 then some (hlF b) else if okX b then some { hlF b with has := true, exs := (extS (rd6 b).1).1 } else none) else none
def parseS (b : List UInt8) : Hl × Int :=
  match laidS b with
  | none => (hl0, 3)
  | some h => if wrongS h = 0 then (h, 0) else (hl0, wrongS h)
theorem rd2_len (b : List UInt8) : (rd2 b).1.length = 32 ∨ (rd2 b).1 = [] := by
  unfold rd2 rtake
  split
  · exact .inr rfl
  · left
    simp
    omega
end Go.Proofs.Ytdmcmfjhlpnaeaa.L
