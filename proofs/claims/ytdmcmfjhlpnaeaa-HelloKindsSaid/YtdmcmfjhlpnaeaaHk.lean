/- Arrays; a struct that came in by value; a hello. No function of the program. -/
import Derived.Test.YtdmcmfjhlpnaeaaEz
set_option linter.unusedVariables false
set_option linter.unusedSimpArgs false
namespace Go.Proofs.Ytdmcmfjhlpnaeaa.L
open Go.RowKit Go.ChangeShapes Go.WideShapes Go.Deep

section
variable {P : Program} {α β : Type}
/-- An array of plain elements, as so many cells. -/
def arrK (enc : α → Value) (h1 : ∀ x, (enc x).oneCell' = true) (n : Nat) : Kind (List α) where
  sz := n
  K := fun _ _ xs cs => xs.length = n ∧ cs = xs.map enc
  len := by
    rintro M w x cs ⟨h, rfl⟩
    rw [List.length_map, h]
  one := by
    rintro M w x cs ⟨h, rfl⟩ u hu
    obtain ⟨p, _, rfl⟩ := List.mem_map.1 hu
    exact h1 p
  step := fun _ h => h
  weak := fun _ h => h
abbrev arr8 (n : Nat) : Kind (List UInt8) := arrK enc8 (fun _ => rfl) n

theorem fit_arr8 {t e : TypeId} {n : Nat} (ht : P.underlying t = some (.array n e)) (he : P.underlying e = some (.int .u8)) (hc : P.cellsOf e = 1) (hn : P.cellsOf t = n) : Fit P t (arr8 n) (fun _ => True) := by
  intro H enc W base sp held fuel cs x h
  obtain ⟨xs, m, rfl, rfl, hl, hxl, hx⟩ := DataW.trod_array ht h
  have each : ∀ i : Fin n, ∃ c : UInt8, cs[i.1]? = some (enc8 c) := by
    rintro ⟨i, hi⟩
    have h1 := hx i hi
    rw [hc, Nat.mul_one, List.getElem?_eq_getElem (by omega)] at h1
    obtain ⟨a, ha, _⟩ := fit_u8 he enc W base sp held m _ _ h1
    have ha : (cs.drop i).take 1 = [enc8 a] := ha
    refine ⟨a, ?_⟩
    have : ((cs.drop i).take 1)[0]? = some (enc8 a) := by rw [ha]; rfl
    simpa using this
  refine ⟨List.ofFn fun i => Classical.choose (each i), ⟨by simp, ?_⟩, trivial⟩
  apply List.ext_getElem?
  intro i
  by_cases hi : i < n
  · have h1 := Classical.choose_spec (each ⟨i, hi⟩)
    simp only at h1
    rw [h1]
    simp [hi]
  · rw [List.getElem?_eq_none (by omega), List.getElem?_eq_none (by simp; omega)]

/-- A struct that came in by value. -/
theorem arg_struct {H : Type} {enc : TypeId × Value → H} {W : World} {base b0 : Nat} {r : Reach} {sp : Nat → Bool} {held : Bool} {dd : DataW H} {ps : List MemPlace} {t : TypeId} {fs : Array Field} {d : Kind α} {ok : α → Prop} {v : Value}
    (ht : P.underlying t = some (.struct fs)) (hf : Fit P t d ok) (hv : Value.okWide P W r b0 t v) (h : DataW.Trod enc P W base sp held t v dd ps) :
    ∃ cs a, v = .agg cs ∧ d.K (newB W) W a cs.toList ∧ ok a := by
  unfold Value.okWide at hv
  rw [ht] at hv
  obtain ⟨cs, rfl, hs, _⟩ := hv
  obtain ⟨fuel, h⟩ := h
  obtain ⟨a, h1, h2⟩ := hf enc W base sp held fuel cs.toList _ h
  exact ⟨cs, a, rfl, h1, h2⟩
end

/-- A hello. -/
structure Hl where
  ver : Int
  rnd : List UInt8
  ses : List UInt8
  cip : List Int
  met : List UInt8
  has : Bool
  exs : List (Int × List UInt8)

/-- A hello's cells. -/
def hlV (h : Hl) (vs vc vm vx : Value) : List Value := .int .i64 h.ver :: (h.rnd.map enc8 ++ [vs, vc, vm, .bool h.has, vx])
/-- Its cells, and what they lead to. -/
def IsHl (M : Nat → Prop) (W : World) (cs : Array Value) (h : Hl) : Prop :=
  ∃ vs vc vm vx, cs.toList = hlV h vs vc vm vx ∧ h.rnd.length = 32 ∧ Rd u8 M W vs h.ses ∧ Rd (int .i64) M W vc h.cip ∧ Rd u8 M W vm h.met ∧ Rd extK M W vx h.exs

theorem IsHl.step {M S : Nat → Prop} {W W1 : World} {cs : Array Value} {h : Hl} (hh : IsHl M W cs h) (hs : Stp S W W1) (hS : ∀ k, k < W.heap.size → S k → M k) : IsHl M W1 cs h := by
  obtain ⟨vs, vc, vm, vx, e, hr, h1, h2, h3, h4⟩ := hh
  exact ⟨vs, vc, vm, vx, e, hr, h1.step hs hS, h2.step hs hS, h3.step hs hS, h4.step hs hS⟩
theorem IsHl.stp0 {M : Nat → Prop} {W W1 : World} {cs : Array Value} {h : Hl} (hh : IsHl M W cs h) (hs : Stp (fun _ => False) W W1) : IsHl M W1 cs h := hh.step hs (fun _ _ h => h.elim)
theorem IsHl.weak {M M' : Nat → Prop} {W : World} {cs : Array Value} {h : Hl} (hh : IsHl M W cs h) (hM : ∀ k, k < W.heap.size → M' k → M k) : IsHl M' W cs h := by
  obtain ⟨vs, vc, vm, vx, e, hr, h1, h2, h3, h4⟩ := hh
  exact ⟨vs, vc, vm, vx, e, hr, h1.weak (by decide) hM, h2.weak (by decide) hM, h3.weak (by decide) hM, h4.weak (by decide) hM⟩
theorem IsHl.size {M : Nat → Prop} {W : World} {cs : Array Value} {h : Hl} (hh : IsHl M W cs h) : cs.size = 38 := by
  obtain ⟨vs, vc, vm, vx, e, hr, _⟩ := hh
  rw [← Array.length_toList, e]
  simp [hlV, hr]

abbrev hlK : Kind (Int × List UInt8 × List UInt8 × List Int × List UInt8 × Bool × List (Int × List UInt8)) :=
  pairK (int .i64) (pairK (arr8 32) (pairK bytK (pairK (slK (int .i64) (by decide)) (pairK bytK (pairK boolK (slK extK (by decide)))))))
theorem isHl_of {M : Nat → Prop} {W : World} {cs : Array Value} {x : Int × List UInt8 × List UInt8 × List Int × List UInt8 × Bool × List (Int × List UInt8)} (h : hlK.K M W x cs.toList) :
    IsHl M W cs ⟨x.1, x.2.1, x.2.2.1, x.2.2.2.1, x.2.2.2.2.1, x.2.2.2.2.2.1, x.2.2.2.2.2.2⟩ := by
  obtain ⟨c1, r1, e1, k1, c2, r2, e2, k2, c3, r3, e3, k3, c4, r4, e4, k4, c5, r5, e5, k5, c6, c7, e6, k6, k7⟩ := h
  obtain rfl : c1 = [.int .i64 x.1] := k1
  obtain ⟨hl, rfl⟩ := k2
  obtain ⟨vs, rfl, hs⟩ := k3
  obtain ⟨vc, rfl, hc⟩ := k4
  obtain ⟨vm, rfl, hm⟩ := k5
  obtain rfl : c6 = [.bool x.2.2.2.2.2.1] := k6
  obtain ⟨vx, rfl, hx⟩ := k7
  exact ⟨vs, vc, vm, vx, by rw [e1, e2, e3, e4, e5, e6]; rfl, hl, hs, hc, hm, hx⟩
end Go.Proofs.Ytdmcmfjhlpnaeaa.L
