/- Layer 2: Token, Lower, Trim. -/
import Derived.Test.YtdamgdmipfoalaaGreatDoorAw
import Derived.Test.YtdamgdmipfoalaaGreatDoorCw
import Derived.Shelf.Strings.SlTrimAscii
set_option linter.unusedVariables false
set_option linter.unusedSimpArgs false
namespace Go.Proofs.YtdamgdmipfoalaaGreatDoor.L
open Go.RowKit Go.Proofs

theorem ret_s {a b : ByteArray} (h : a = b) : Ending.returned (.string a) = .returned (.string b) := by rw [h]

/-- A block of bytes, whatever its marks behind them. -/
def BlkB (W : World) (g n : Nat) (l : List UInt8) : Prop := l.length = n ∧ ∃ (cs : Array Value) (fr : Nat × Nat), W.heap[g]? = some (.cells cs 5 fr) ∧ n ≤ cs.size ∧ n ≤ fr.1 ∧ ∀ (j : Nat) (c : UInt8), l[j]? = some c → cs[j]? = some (enc8 c)
theorem BlkB.cell {W : World} {g n : Nat} {l : List UInt8} (h : BlkB W g n l) {j : Nat} {c : UInt8} (hj : l[j]? = some c) : W.cell? ⟨g, j, none⟩ = some (enc8 c) := by
  obtain ⟨_, cs, fr, hb, hn, _, hc⟩ := h
  simp [World.cell?, hb]
  exact hc j c hj
theorem BlkB.free {W : World} {g n : Nat} {l : List UInt8} (h : BlkB W g n l) {j : Nat} (hj : j < n) : W.frozen? ⟨g, j, none⟩ = false := by
  obtain ⟨_, cs, fr, hb, hn, hf, hc⟩ := h
  simp only [World.frozen?, hb]
  simp
  omega
theorem BlkB.set {W : World} {g n : Nat} {l : List UInt8} (h : BlkB W g n l) (j : Nat) (c : UInt8) : BlkB (W.setCell ⟨g, j, none⟩ (enc8 c)) g n (l.set j c) := by
  obtain ⟨hl, cs, fr, hb, hn, hf, hc⟩ := h
  refine ⟨by rw [List.length_set]; exact hl, _, fr, blk_set hb j (enc8 c), by simpa using hn, hf, fun i d hi => ?_⟩
  rw [Array.getElem?_setIfInBounds]
  by_cases e : j = i
  · subst e
    obtain ⟨hlt, he⟩ := List.getElem?_eq_some_iff.1 hi
    rw [List.getElem_set_self] at he
    rw [List.length_set] at hlt
    rw [if_pos rfl, if_pos (by omega), he]
  · rw [if_neg e]
    rw [List.getElem?_set_ne e] at hi
    exact hc i d hi
theorem BlkB.stp {W W' : World} {g n : Nat} {l : List UInt8} {S : Nat → Prop} (h : BlkB W g n l) (hs : Stp S W W') (hS : ¬ S g) : BlkB W' g n l := by
  obtain ⟨hl, cs, fr, hb, rest⟩ := h
  exact ⟨hl, cs, fr, hs.blk hb hS, rest⟩
theorem BlkB.rd {W : World} {g n c : Nat} {l : List UInt8} (h : BlkB W g n l) (hc : n ≤ c) (hm : c ≤ maxLen) (M : Nat → Prop) (hM : ¬ M g) : Rd u8 M W (.slice (some ⟨g, 0, none⟩) n c) l := by
  obtain rfl := h.1
  refine plain_mk hc hm fun hp => ⟨_, rfl, hM, fun j hj => ?_⟩
  have hadd : (⟨g, 0, none⟩ : Addr).add j = ⟨g, j, none⟩ := by unfold Addr.add; split <;> simp_all
  rw [hadd]
  exact h.cell (List.getElem?_eq_getElem hj)
/-- []byte(s): its block. -/
theorem wp_bytesBlk {P : Program} {ops : Array Oper} {rest : List Oper} {o : Oper} {a : Act} {Q : Exit → Act → World → Prop} {W : World} (hg : o.guard = none) (src dst : TypeId) (x : Operand) (hop : o.op = .convert src dst x) {u : TypeDesc}
    (hs : P.underlying src = some u) (hd : P.underlying dst = some (.slice 5)) (he : P.underlying 5 = some (.int .u8)) {s : ByteArray} (hx : a.eval x = .string s) (hl : s.size ≤ 9223372036854775807)
    (h : ∀ W' c, BlkB W' W.heap.size s.size s.data.toList → s.size ≤ c → c ≤ maxLen → Stp (fun _ => False) W W' → W'.heap.size = W.heap.size + 1 → wpList P ops Q rest (a.put o.dst (.slice (some ⟨W.heap.size, 0, none⟩) s.size c)) W') :
    wpList P ops Q (o :: rest) a W := by
  refine wpList_plain hg fun K hK => ?_
  have hrun := Lib.run_convert_string_bytes (P := P) W src dst 5 s hs hd he
  unfold Oper.wp
  simp [execOp, hop, hx, hrun, Result.andThen]
  refine hK _ _ (h _ _ ⟨by simp, _, _, Lib.bytesWorld_at_new W 5 s, ?_, ?_, fun j c hj => ?_⟩ (grownCap_ge _ _ _ _) (grownCap_le_maxLen _ _ _ _ (by simpa [maxLen] using hl)) ⟨rfl, rfl, rfl, by rw [Lib.bytesWorld_size]; omega, fun k hk _ => Lib.bytesWorld_at_old W 5 s k hk⟩ (Lib.bytesWorld_size W 5 s))
  · simp [Lib.bytesCells]
  · simp [Lib.bytesCells]
  · obtain ⟨hlt, rfl⟩ := List.getElem?_eq_some_iff.1 hj
    have : j < s.data.size := by simpa using hlt
    simp [Lib.bytesCells, Array.getElem?_append, this, enc8]
    rw [if_pos (show j < s.size from this), Array.getElem?_eq_getElem this]
    rfl

set_option maxRecDepth 100000 in
set_option maxHeartbeats 4000000 in
theorem lower_any (s : ByteArray) (w : World) (hs : s.size ≤ 9223372036854775807) :
    Calls Tryz.prog 42 #[.string s] w fun e w' => e = .returned (.string (strB (lowS s.data.toList))) ∧ Stp (fun _ => False) w w' := by
  obtain ⟨R, hR⟩ : ∃ R : ByteArray, R = strB (lowS s.data.toList) := ⟨_, rfl⟩
  rw [← hR]
  have HR := Lib.hid hR
  clear hR
  go_enter Tryz.func42, Tryz.ntmps42
  go_wp2_with (with_reducible refine stop (N := 7) rfl ?_)
  refine Stop.go ?_
  refine wp_bytesBlk rfl _ _ _ rfl Tryz.underlying9 Tryz.underlying69 Tryz.underlying5 rfl hs ?_
  intro w1 c hb hc hm hs1 hz
  have HB := Lib.hid hb
  have HS := Lib.hid hs1
  have HZ := Lib.hid hz
  clear hb hs1 hz
  go_wp2
  go_loopg [10] s.size (fun gf i wr => ∃ k : Nat, k + gf = s.size ∧ i = .int .i64 k ∧ BlkB wr w.heap.size s.size (lowS (s.data.toList.take k) ++ s.data.toList.drop k) ∧ Stp (fun k => k = w.heap.size) w1 wr)
  case atStart => exact ⟨0, by omega, rfl, by simpa [lowS] using HB.out, Stp.refl _ _⟩
  case round =>
    obtain ⟨k, hk, rfl, hb, hst⟩ := hrel
    have HB2 := Lib.hid hb
    have HST := Lib.hid hst
    clear hb hst
    by_cases hlt : k < s.size
    · obtain ⟨g', rfl⟩ : ∃ g', gk = g' + 1 := ⟨gk - 1, by omega⟩
      obtain ⟨d, hd⟩ : ∃ d, d = s[k] := ⟨_, rfl⟩
      have hlen : (lowS (s.data.toList.take k)).length = k := by rw [lowS_len, List.length_take, size_list]; omega
      have hat : (lowS (s.data.toList.take k) ++ s.data.toList.drop k)[k]? = some d := by
        rw [List.getElem?_append_right (by omega), hlen, List.getElem?_drop, hd]
        simpa using get_list s k hlt
      have hcell : wr.cell? ⟨w.heap.size, k, none⟩ = some (.int .u8 (d.toNat : Int)) := HB2.out.cell hat
      have hfree : wr.frozen? ⟨w.heap.size, k, none⟩ = false := HB2.out.free hlt
      have HD := Lib.hid hd
      have HL := Lib.hid hlen
      clear hd hlen hat
      go_wp2_with (go_at_call 67; refine (small_any _ _).mono ?_; rintro e w' ⟨rfl, rfl⟩)
      go_roundg g'
      case measure => omega
      case rel =>
        refine ⟨k + 1, by omega, by go_num, ?_, HST.out.setCell (fun _ => rfl) _⟩
        have := HB2.out.set k (lowB d)
        have e : (lowS (s.data.toList.take k) ++ s.data.toList.drop k).set k (lowB d) = lowS (s.data.toList.take (k + 1)) ++ s.data.toList.drop (k + 1) := by
          have hk2 : k < s.data.toList.length := by rw [size_list]; exact hlt
          rw [List.set_append_right _ _ (by rw [HL.out]; exact Nat.le_refl _), HL.out, Nat.sub_self, List.drop_eq_getElem_cons hk2, List.set_cons_zero, List.take_succ_eq_append_getElem hk2, lowS_append, List.append_assoc]
          rw [HD.out]
          rfl
        rw [e] at this
        exact this
    · have hcv : convB wr (.slice (some ⟨w.heap.size, 0, none⟩) s.size c) (lowS s.data.toList) := by
        have := HB2.out.rd hc hm (fun _ => False) (fun h => h)
        rw [List.take_of_length_le (by rw [size_list]; omega), List.drop_of_length_le (by rw [size_list]; omega), List.append_nil] at this
        exact conv_of this
      have hcv' : (convert 69 9 (.slice (some ⟨w.heap.size, 0, none⟩) s.size c)).run Tryz.prog wr = .ok (.string R) wr := by rw [HR.out]; exact hcv
      clear hcv
      go_wp2
      go_ret
      exact ⟨rfl, HS.out.new HST.out (Nat.le_refl _)⟩
end Go.Proofs.YtdamgdmipfoalaaGreatDoor.L
