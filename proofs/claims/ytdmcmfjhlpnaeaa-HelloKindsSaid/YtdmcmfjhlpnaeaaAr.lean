/- Two arrays of bytes are compared. -/
import Derived.Test.YtdmcmfjhlpnaeaaHs
import Derived.ChangeKeysEq
set_option linter.unusedVariables false
set_option linter.unusedSimpArgs false
namespace Go.Proofs.Ytdmcmfjhlpnaeaa.L
open Go.RowKit Go.Proofs

theorem run_equalIn_arr8 (P : Program) (w : World) (d : Nat) (t e len : Nat) (xs ys : List UInt8) (hx : xs.length = len) (hy : ys.length = len) (ht : P.underlying t = some (.array len e)) (he : P.underlying e = some (.int .u8)) (hs : (P.info? e).map (·.size) = some 1) :
    (Op.equalIn (d + 2) t (.agg (xs.map enc8).toArray) (.agg (ys.map enc8).toArray)).run P w = .ok (decide (xs = ys)) w := by
  have hsz : (sizeOf e).run P w = .ok 1 w := by
    cases h : P.info? e with
    | none => rw [h] at hs; cases hs
    | some i =>
      rw [h] at hs
      simp only [Option.map_some, Option.some.injEq] at hs
      rw [run_sizeOf w h]
      simp [Program.cellsOf, h, hs]
  have hp : P.plainKey e = true := by unfold Program.plainKey; rw [he]
  rw [Op.equalIn]
  simp only [Sem.run_bind, run_underlying ht, Result.andThen_ok, hsz, Std.Legacy.Range.forIn_eq_forIn_range', Std.Legacy.Range.size, Nat.mul_one]
  have e1 : (len - 0 + 1 - 1) / 1 = len := by simp
  rw [e1]
  have key : ∀ n i, i + n = len →
      ((Sem.run P
          (forIn (List.range' i n) ((none : Option Bool), ()) fun i __s => do
            let __do_lift ← part e (List.map enc8 xs).toArray i
            let __do_lift_1 ← part e (List.map enc8 ys).toArray i
            let __do_lift ← Op.equalIn (d + 1) e __do_lift __do_lift_1
            if (!__do_lift) = true then pure (ForInStep.done (some false, ())) else pure (ForInStep.yield (none, ())))
          w).andThen
      fun a w' =>
      Sem.run P
        (match a.fst with
        | some r => pure r
        | none => pure true)
        w') = Result.ok (decide (xs.drop i = ys.drop i)) w := by
    intro n
    induction n with
    | zero =>
      intro i hi
      have h1 : xs.drop i = [] := List.drop_of_length_le (by omega)
      have h2 : ys.drop i = [] := List.drop_of_length_le (by omega)
      simp [h1, h2, Result.andThen]
    | succ n ih =>
      intro i hi
      have hxi : i < xs.length := by omega
      have hyi : i < ys.length := by omega
      rw [List.range'_succ, List.forIn_cons]
      have px := run_part_plain (w := w) hp (xs := (List.map enc8 xs).toArray) (off := i) (v := enc8 xs[i]) (by simp [hxi])
      have py := run_part_plain (w := w) hp (xs := (List.map enc8 ys).toArray) (off := i) (v := enc8 ys[i]) (by simp [hyi])
      have pe : (Op.equalIn (d + 1) e (enc8 xs[i]) (enc8 ys[i])).run P w = .ok ((xs[i].toNat : Int) == (ys[i].toNat : Int)) w := run_equalIn_int w d e .u8 .u8 _ _ he
      simp only [Sem.run_bind, px, py, pe, Result.andThen_ok]
      have hdc : (xs.drop i = ys.drop i) ↔ (xs[i] = ys[i] ∧ xs.drop (i + 1) = ys.drop (i + 1)) := by
        rw [List.drop_eq_getElem_cons hxi, List.drop_eq_getElem_cons hyi]
        exact ⟨fun h => ⟨(List.cons.inj h).1, (List.cons.inj h).2⟩, fun h => by rw [h.1, h.2]⟩
      by_cases h : xs[i] = ys[i]
      · have hb : ((xs[i].toNat : Int) == (ys[i].toNat : Int)) = true := by rw [h]; simp
        rw [hb]
        simp only [Bool.not_true, Bool.false_eq_true, if_false, Sem.run_pure, Result.andThen_ok]
        rw [ih (i + 1) (by omega)]
        congr 1
        exact decide_eq_decide.2 ⟨fun h2 => hdc.2 ⟨h, h2⟩, fun h2 => (hdc.1 h2).2⟩
      · have hb : ((xs[i].toNat : Int) == (ys[i].toNat : Int)) = false := by
          rw [beq_eq_false_iff_ne]
          intro h2
          exact h (UInt8.toNat_inj.1 (by omega))
        rw [hb]
        have hno : decide (xs.drop i = ys.drop i) = false := decide_eq_false (fun h2 => h (hdc.1 h2).1)
        rw [hno]
        simp [Result.andThen]
  have := key len 0 (by omega)
  rw [List.drop_zero, List.drop_zero] at this
  refine Eq.trans (congrArg (Result.andThen _) (funext fun a => funext fun w' => ?_)) this
  obtain ⟨_ | _, _⟩ := a <;> rfl

/-- An operation that is wanted (its guard holds). -/
theorem wpList_wanted {P : Program} {ops : Array Oper} {rest : List Oper} {o : Oper} {a : Act} {w : World} {Q : Exit → Act → World → Prop} (hw : Region.wanted o (yielded ops a.tmps) = true)
    (h : o.wp P a w (wpList P ops Q rest) Q) : wpList P ops Q (o :: rest) a w := by
  unfold wpList
  rw [if_pos hw]
  exact .inl h
end Go.Proofs.Ytdmcmfjhlpnaeaa.L
