/- hello: what is wrong of one that is laid out. -/
import Derived.Test.YtdmcmfjhlpnaeaaEo
import Derived.Maps.OwnOps
import Derived.Maps.Views
import Derived.Maps.OwnSet
set_option linter.unusedVariables false
set_option linter.unusedSimpArgs false
namespace Go.Proofs.Ytdmcmfjhlpnaeaa.L
open Go.RowKit Go.Proofs Go.Maps

theorem indexB_any (M : Nat → Prop) (v0 : Value) (x : UInt8) (ss : List UInt8) (w : World) (hd : Rd u8 M w v0 ss) (hl : ss.length ≤ 140737488355328) :
    Calls Try.prog 89 #[v0, .int .u8 x.toNat] w fun e w' => (∃ r : Int, e = .returned (.int .i64 r) ∧ (0 ≤ r ↔ x ∈ ss)) ∧ w = w' := by
  obtain ⟨A0, c0, rfl, hle0⟩ := hd.form
  have HD := Lib.hid hd
  clear hd
  go_enter Try.func89, Try.ntmps89
  go_wp2
  go_loop [5, 8] (fun _ i => ∃ k : Nat, k ≤ ss.length ∧ i = .int .i64 k ∧ ∀ j (hj : j < ss.length), j < k → ss[j] ≠ x) (fun _ i => ss.length - (intOf i).toNat)
  case atStart => exact ⟨0, Nat.zero_le _, rfl, fun j _ h => absurd h (by omega)⟩
  case round =>
    obtain ⟨k, hk, rfl, hall⟩ := hrel
    have HALL := Lib.hid hall
    clear hall
    by_cases hlt : k < ss.length
    · obtain ⟨ad, rfl, _, hcell⟩ := plain_cell HD.out k hlt
      simp only [enc8] at hcell
      by_cases he : ss[k] = x
      · have hb : ((x.toNat : Int) == (ss[k].toNat : Int)) = true := by rw [he]; simp
        go_wp2
        go_ret
        refine ⟨⟨_, rfl, ?_⟩, rfl⟩
        have : x ∈ ss := by rw [← he]; exact List.getElem_mem hlt
        simp [this]
      · have hb : ((x.toNat : Int) == (ss[k].toNat : Int)) = false := by
          rw [beq_eq_false_iff_ne]
          intro h
          exact he (UInt8.toNat_inj.1 (by omega))
        go_wp2
        go_round
        case rel =>
          refine ⟨k + 1, by omega, by go_num, fun j hj h => ?_⟩
          by_cases hjk : j = k
          · subst hjk
            exact he
          · exact HALL.out j hj (by omega)
        case measure => simp [intOf]; omega
    · obtain rfl : k = ss.length := by omega
      have hn : ¬ x ∈ ss := fun h => by
        obtain ⟨j, hj, rfl⟩ := List.mem_iff_getElem.1 h
        exact HALL.out j hj hj rfl
      have HN := Lib.hid hn
      clear hn
      go_wp2
      go_ret
      exact ⟨⟨_, rfl, by simp [HN.out]⟩, rfl⟩

theorem containsB_any (M : Nat → Prop) (v0 : Value) (x : UInt8) (ss : List UInt8) (w : World) (hd : Rd u8 M w v0 ss) (hl : ss.length ≤ 140737488355328) (b : Bool) (hb : b = true ↔ x ∈ ss) :
    Calls Try.prog 84 #[v0, .int .u8 x.toNat] w fun e w' => e = .returned (.bool b) ∧ w = w' := by
  obtain ⟨A0, c0, rfl, hle0⟩ := hd.form
  have HD := Lib.hid hd
  have HB := Lib.hid hb
  clear hd hb
  go_enter Try.func84, Try.ntmps84
  go_wp2_with (go_at_call 89; refine stopc ?_)
  refine Stop.go ?_
  refine (indexB_any M _ x ss _ HD.out hl).mono ?_
  rintro e w' ⟨⟨r, rfl, hr⟩, rfl⟩
  have hbb : decide (0 ≤ r) = b := by rw [Bool.eq_iff_iff, HB.out, decide_eq_true_eq]; exact hr
  have HBB := Lib.hid hbb
  have HR := Lib.hid hr
  clear hbb hr
  go_wp2
  go_ret
  exact ⟨by rw [← HBB.out]; rfl, rfl⟩

/-- Whether a kind stands there twice. -/
def dup (xs : List (Int × List UInt8)) : Bool := decide (¬ (xs.map (·.1)).Nodup)
/-- What is wrong of a hello. -/
def wrongS (h : Hl) : Int := if h.ver < 768 ∨ 1023 < h.ver then 5 else if 32 < h.ses.length then 6 else if (0 : UInt8) ∉ h.met then 8 else if dup h.exs = true then 7 else 0

theorem stopv {P : Program} {ops : Array Oper} {rest : List Oper} {o : Oper} {a : Act} {Q : Exit → Act → World → Prop} {W : World} (h : Stop (wpList P ops Q (o :: rest) a W)) : wpList P ops Q (o :: rest) a W := by
  unfold Stop at h
  exact h
theorem law_int : Keyed Try.prog 3 := int_keyed Try.underlying3
theorem zero_int (w : World) : (zeroValue 3).run Try.prog w = .ok (.int .i64 0) w := by kernel_rfl
theorem nodup_snoc {α : Type} [DecidableEq α] (l : List α) (x : α) : (l ++ [x]).Nodup ↔ l.Nodup ∧ x ∉ l := by
  rw [List.nodup_append]
  simp
  intro _
  constructor
  · intro h hx
    exact h x hx rfl
  · intro h a ha he
    subst he
    exact h ha

set_option maxRecDepth 100000 in
set_option maxHeartbeats 4000000 in
theorem twice_any (M : Nat → Prop) (v0 : Value) (xs : List (Int × List UInt8)) (w : World) (hd : Rd extK M w v0 xs) (hl : xs.length ≤ 1000000000) (hw : ∀ x ∈ xs, (Lit.int .i64 x.1).wf = true) :
    Calls Try.prog 85 #[v0] w fun e w' => e = .returned (.bool (dup xs)) ∧ Stp (fun _ => False) w w' := by
  obtain ⟨A0, c0, rfl, hle0⟩ := hd.form
  have HD := Lib.hid hd
  have HW := Lib.hid hw
  clear hd hw
  have hmm := @run_makeMap Try.prog
  go_enter Try.func85, Try.ntmps85
  go_wp2
  go_loopw [5, 9] (fun _ i wr => ∃ (k : Nat) (D : DataW Unit), k ≤ xs.length ∧ i = .int .i64 k ∧ ((xs.take k).map (·.1)).Nodup ∧ wr.ownsMap Try.prog 3 (plainElem (H := Unit) Try.prog 3) w.heap.size k D ∧ IsMap D ∧ (∀ n, D.atKey (.int .i64 n) (.lit (.int .i64 0)) = .lit (.int .i64 (if n ∈ (xs.take k).map (·.1) then 1 else 0))) ∧ Stp (fun _ => False) w wr) (fun _ i _ => xs.length - (intOf i).toNat)
  case atStart => exact ⟨0, _, Nat.zero_le _, rfl, by simp, World.ownsMap_made _ _ _ _, isMap_empty, fun n => by simp; rfl, (Stp.refl _ _).alloc _⟩
  case round =>
    obtain ⟨k, D, hk, rfl, hnd, hown, hmap, hat, hs⟩ := hrel
    have HND := Lib.hid hnd
    have HMAP := Lib.hid hmap
    have HAT := Lib.hid hat
    have HS := Lib.hid hs
    clear hnd hmap hat hs
    by_cases hlt : k < xs.length
    · obtain ⟨ad, v, rfl, hnM, hcell1, hcell2, hv⟩ := ext_cell (HD.out.stp0 HS.out) k hlt
      obtain ⟨Av, cv, rfl, hlev⟩ := hv.form
      clear hv
      have hwx := HW.out _ (List.getElem_mem hlt)
      have hkey := keyOf_int_mk (P := Try.prog) (k := 3) Try.underlying3 hwx
      have HKEY := Lib.hid hkey
      clear hkey hwx
      obtain ⟨x, hx⟩ : ∃ x, x = xs[k].1 := ⟨_, rfl⟩
      rw [← hx] at hcell1 HKEY
      have htk : ((xs.take (k + 1)).map (·.1)) = (xs.take k).map (·.1) ++ [x] := by rw [take_snoc _ _ hlt, List.map_append, hx]; rfl
      have HTK := Lib.hid htk
      clear htk
      clear hx
      go_wp2_with (with_reducible refine stop (N := 16) rfl ?_)
      refine Stop.go ?_
      have hown1 := hown.alloc (.cells #[.int .i64 x, .slice Av xs[k].2.length cv] 70)
      refine wpList_lookup_own_int _ rfl _ _ 113 rfl 3 3 .i64 law_int Try.underlying113 Try.underlying3 (zero_int _) w.heap.size k _ rfl hown1 _ _ rfl HKEY.out ?_
      intro c hc hwc
      rw [HAT.out x] at hc
      have hce : c = if x ∈ (xs.take k).map (·.1) then 1 else 0 := by injection hc with hc; injection hc with _ hc; exact hc.symm
      clear hc hwc
      by_cases hin : x ∈ (xs.take k).map (·.1)
      · rw [if_pos hin] at hce
        subst hce
        have hdup : dup xs = true := by
          unfold dup
          rw [decide_eq_true_eq]
          intro hn
          have h1 : ((xs.take (k + 1)).map (·.1)).Nodup := by rw [List.map_take]; exact hn.sublist (List.take_sublist _ _)
          rw [HTK.out, nodup_snoc] at h1
          exact h1.2 hin
        have HDUP := Lib.hid hdup
        clear hdup
        clear hin
        go_wp2_with (at_mapUpdate; refine stopv ?_)
        refine Stop.go ?_
        refine wpList_mapUpdate_own _ rfl _ _ _ 113 rfl 3 3 law_int Try.underlying113 _ w.heap.size k _ rfl hown1 (by unfold maxLen; omega) _ _ _ rfl rfl HKEY.out (.lit (.int .i64 2)) [] (plainElem_int Try.underlying3 (by decide)) ?_
        intro w1 hown2 hgrow
        have hblk := hgrow.block wr.heap.size (by simp) (by have := hown.lt; intro h; injection h with h; omega)
        have hb2 := hblk.trans (heap_alloc_new wr _)
        have hcn := blk_cell (j := 0) hb2
        have hstp : Stp (fun k => k = w.heap.size) wr w1 := ((Stp.refl _ _).alloc _).grown hgrow (fun k hk _ => by injection hk with hk; exact hk.symm)
        have HS1 := Lib.hid (HS.out.then_ hstp (fun k hk he => by omega))
        clear hblk hb2 hgrow hstp
        go_wp2_with (with_reducible refine stop (N := 21) rfl ?_)
        refine Stop.go ?_
        refine wpList_lookup_own_int _ rfl _ _ 113 rfl 3 3 .i64 law_int Try.underlying113 Try.underlying3 (zero_int _) w.heap.size (k + 1) _ rfl hown2 _ _ rfl HKEY.out ?_
        intro c hc hwc
        rw [atKey_put_same (k := .int .i64 x) HMAP.out trivial] at hc
        have hce : c = 2 := by injection hc with hc; injection hc with _ hc; exact hc.symm
        subst hce
        clear hc hwc
        go_wp2
        go_ret
        exact ⟨by rw [HDUP.out]; rfl, HS1.out⟩
      · rw [if_neg hin] at hce
        subst hce
        have HIN := Lib.hid hin
        clear hin
        go_wp2_with (at_mapUpdate; refine stopv ?_)
        refine Stop.go ?_
        refine wpList_mapUpdate_own _ rfl _ _ _ 113 rfl 3 3 law_int Try.underlying113 _ w.heap.size k _ rfl hown1 (by unfold maxLen; omega) _ _ _ rfl rfl HKEY.out (.lit (.int .i64 1)) [] (plainElem_int Try.underlying3 (by decide)) ?_
        intro w1 hown2 hgrow
        have hblk := hgrow.block wr.heap.size (by simp) (by have := hown.lt; intro h; injection h with h; omega)
        have hb2 := hblk.trans (heap_alloc_new wr _)
        have hcn := blk_cell (j := 0) hb2
        have hstp : Stp (fun k => k = w.heap.size) wr w1 := ((Stp.refl _ _).alloc _).grown hgrow (fun k hk _ => by injection hk with hk; exact hk.symm)
        have HS1 := Lib.hid (HS.out.then_ hstp (fun k hk he => by omega))
        clear hblk hb2 hgrow hstp
        go_wp2_with (with_reducible refine stop (N := 21) rfl ?_)
        refine Stop.go ?_
        refine wpList_lookup_own_int _ rfl _ _ 113 rfl 3 3 .i64 law_int Try.underlying113 Try.underlying3 (zero_int _) w.heap.size (k + 1) _ rfl hown2 _ _ rfl HKEY.out ?_
        intro c hc hwc
        rw [atKey_put_same (k := .int .i64 x) HMAP.out trivial] at hc
        have hce : c = 1 := by injection hc with hc; injection hc with _ hc; exact hc.symm
        subst hce
        clear hc hwc
        go_wp2
        go_roundw
        case rel =>
          refine ⟨k + 1, _, by omega, by go_num, by rw [HTK.out, nodup_snoc]; exact ⟨HND.out, HIN.out⟩, hown2, HMAP.out.put _ _, fun n => ?_, HS1.out⟩
          rw [HTK.out]
          by_cases hn : n = x
          · subst hn
            rw [atKey_put_same (k := .int .i64 n) HMAP.out trivial]
            simp
          · rw [atKey_put_other (by intro h; injection h with _ h; exact hn h), HAT.out n]
            simp [hn]
        case measure => simp [intOf]; omega
    · obtain rfl : k = xs.length := by omega
      rw [List.take_length] at HND
      go_wp2
      go_ret
      exact ⟨by simp [dup, HND.out], HS.out⟩

set_option maxRecDepth 100000 in
set_option maxHeartbeats 4000000 in
theorem wrong_any (M : Nat → Prop) (cs : Array Value) (h : Hl) (w : World) (hh : IsHl M w cs h) (hf : HlFit h) (hl : h.exs.length ≤ 1000000000) :
    Calls Try.prog 75 #[.agg cs] w fun e w' => e = .returned (.int .i64 (wrongS h)) ∧ Stp (fun _ => False) w w' := by
  obtain ⟨ver, rnd, ses, cip, met, has, exs⟩ := h
  obtain ⟨vs, vc, vm, vx, e, hr, h1, h2, h3, h4⟩ := hh
  obtain ⟨f1, f2, f3, f4, f5, f6, hw⟩ := hf
  obtain ⟨hcs, hc0, hc33, hc34, hc35, -, hc37⟩ := hl_get e hr
  simp only at h1 h2 h3 h4 f1 f2 f3 f4 f5 f6 hl hc0 hw
  obtain ⟨A1, c1, rfl, hle1⟩ := h1.form
  obtain ⟨A2, c2, rfl, hle2⟩ := h2.form
  obtain ⟨A3, c3, rfl, hle3⟩ := h3.form
  obtain ⟨A4, c4, rfl, hle4⟩ := h4.form
  have hs := (Stp.refl (fun _ => False) w).alloc (.cells cs 62)
  have H3 := Lib.hid (h3.stp0 hs)
  have H4 := Lib.hid (h4.stp0 hs)
  have HS := Lib.hid hs
  have HW := Lib.hid hw
  have HWS := Lib.hid (show wrongS ⟨ver, rnd, ses, cip, met, has, exs⟩ = if ver < 768 ∨ 1023 < ver then 5 else if 32 < ses.length then 6 else if (0 : UInt8) ∉ met then 8 else if dup exs = true then 7 else 0 from rfl)
  clear e hr h1 h2 h3 h4 f5 hs hw f6
  by_cases hv : ver < 768 ∨ 1023 < ver
  · have e1 : (ver / 256 != 3) = true := by simp; omega
    rw [if_pos hv] at HWS
    clear hv
    go_enter Try.func75, Try.ntmps75
    go_wp2
    go_ret
    exact ⟨by rw [HWS.out]; rfl, HS.out⟩
  rw [if_neg hv] at HWS
  have e1 : (ver / 256 != 3) = false := by simp; omega
  clear hv
  by_cases hse : 32 < ses.length
  · have e2 : (32 : Int) < ses.length := by omega
    rw [if_pos hse] at HWS
    clear hse
    go_enter Try.func75, Try.ntmps75
    go_wp2
    go_ret
    exact ⟨by rw [HWS.out]; rfl, HS.out⟩
  rw [if_neg hse] at HWS
  have e2 : ¬ (32 : Int) < ses.length := by omega
  clear hse
  by_cases hm : (0 : UInt8) ∉ met
  · rw [if_pos hm] at HWS
    have HM := Lib.hid hm
    clear hm
    go_enter Try.func75, Try.ntmps75
    go_wp2_with (go_at_call 84; refine stopc ?_)
    refine Stop.go ?_
    refine (containsB_any M _ 0 met _ H3.out f3 false (iff_f HM.out)).mono ?_
    rintro e w' ⟨rfl, rfl⟩
    go_wp2
    go_ret
    exact ⟨by rw [HWS.out]; rfl, HS.out⟩
  rw [if_neg hm] at HWS
  have HM := Lib.hid (Decidable.not_not.1 hm)
  clear hm
  obtain ⟨b, hb⟩ : ∃ b, b = dup exs := ⟨_, rfl⟩
  rw [← hb] at HWS
  have HB := Lib.hid hb
  clear hb
  go_enter Try.func75, Try.ntmps75
  go_wp2_with (go_at_call 84; refine stopc ?_)
  refine Stop.go ?_
  refine (containsB_any M _ 0 met _ H3.out f3 true (iff_t HM.out)).mono ?_
  rintro e w' ⟨rfl, rfl⟩
  go_wp2_with (go_at_call 85; refine stopc ?_)
  refine Stop.go ?_
  refine (twice_any M _ exs _ H4.out hl HW.out).mono ?_
  rw [← HB.out]
  rintro e w2 ⟨rfl, hs2⟩
  have HS2 := Lib.hid (HS.out.trans hs2)
  clear hs2
  cases b with
  | true =>
    go_wp2
    go_ret
    exact ⟨by rw [HWS.out]; rfl, HS2.out⟩
  | false =>
    go_wp2
    go_ret
    exact ⟨by rw [HWS.out]; rfl, HS2.out⟩

/-- A bool tells whether. -/
def Tells (b : Bool) (p : Prop) : Prop := b = true ↔ p
theorem Tells.t {p : Prop} (h : p) : Tells true p := ⟨fun _ => h, fun _ => rfl⟩
theorem Tells.f {p : Prop} (h : ¬ p) : Tells false p := ⟨fun e => (by cases e), fun e => absurd e h⟩
theorem Tells.yes {p : Prop} (h : Tells true p) : p := h.1 rfl
theorem Tells.no {p : Prop} (h : Tells false p) : ¬ p := fun e => by have := h.2 e; cases this
theorem Tells.iff {b : Bool} {p : Prop} (h : Tells b p) : b = true ↔ p := h
theorem tdiv3 (v : Int) (h : -9223372036854775808 ≤ v ∧ v ≤ 9223372036854775807) : (wrap64 (v.tdiv 256) != 3) = decide (v < 768 ∨ 1023 < v) := by
  have key : v.tdiv 256 = if 0 ≤ v then v / 256 else -((-v) / 256) := by
    split
    · exact Int.tdiv_eq_ediv_of_nonneg (by assumption)
    · have := Int.neg_tdiv (a := -v) (b := 256)
      rw [Int.neg_neg] at this
      rw [this, Int.tdiv_eq_ediv_of_nonneg (by omega)]
  have hw : wrap64 (v.tdiv 256) = v.tdiv 256 := by
    rw [key]
    unfold wrap64
    split <;> omega
  rw [hw, key, Bool.eq_iff_iff]
  simp
  split <;> omega
theorem kinds_get (xs : List (Int × List UInt8)) (k : Nat) (hk : k < xs.length) : ((xs.take (k + 1)).map (·.1)) = (xs.take k).map (·.1) ++ [xs[k].1] := by rw [take_snoc _ _ hk, List.map_append]; rfl

set_option maxRecDepth 100000 in
set_option maxHeartbeats 4000000 in
theorem wrongR_any (M : Nat → Prop) (cs : Array Value) (h : Hl) (w : World) (hh : IsHl M w cs h) (hf : HlFit h) (hl : h.exs.length ≤ 1000000000) :
    Calls Try.prog 77 #[.agg cs] w fun e w' => e = .returned (.int .i64 (wrongS h)) ∧ Stp (fun _ => False) w w' := by
  obtain ⟨ver, rnd, ses, cip, met, has, exs⟩ := h
  obtain ⟨vs, vc, vm, vx, e, hr, h1, h2, h3, h4⟩ := hh
  obtain ⟨f1, f2, f3, f4, f5, f6, hw⟩ := hf
  obtain ⟨hcs, hc0, hc33, hc34, hc35, -, hc37⟩ := hl_get e hr
  simp only at h1 h2 h3 h4 f1 f2 f3 f4 f5 f6 hl hc0
  obtain ⟨A1, c1, rfl, hle1⟩ := h1.form
  obtain ⟨A2, c2, rfl, hle2⟩ := h2.form
  obtain ⟨A3, c3, rfl, hle3⟩ := h3.form
  obtain ⟨A4, c4, rfl, hle4⟩ := h4.form
  have hs := (Stp.refl (fun _ => False) w).alloc (.cells cs 62)
  have H3 := Lib.hid (h3.stp0 hs)
  have H4 := Lib.hid (h4.stp0 hs)
  have HS := Lib.hid hs
  have hbk := heap_alloc_new w (.cells cs 62)
  have HBK := Lib.hid hbk
  have HWS := Lib.hid (show wrongS ⟨ver, rnd, ses, cip, met, has, exs⟩ = if ver < 768 ∨ 1023 < ver then 5 else if 32 < ses.length then 6 else if (0 : UInt8) ∉ met then 8 else if dup exs = true then 7 else 0 from rfl)
  clear e hr h1 h2 h3 h4 f5 hs hbk
  have hg33 : cs[33]? = some (.slice A1 ses.length c1) := by rw [Array.getElem?_eq_getElem (by omega), hc33]
  have hg35 : cs[35]? = some (.slice A3 met.length c3) := by rw [Array.getElem?_eq_getElem (by omega), hc35]
  have hg37 : cs[37]? = some (.slice A4 exs.length c4) := by rw [Array.getElem?_eq_getElem (by omega), hc37]
  have hg0 : cs[0]? = some (.int .i64 ver) := by rw [Array.getElem?_eq_getElem (by omega), hc0]
  have HG33 := Lib.hid hg33
  have HG35 := Lib.hid hg35
  have HG37 := Lib.hid hg37
  have HG0 := Lib.hid hg0
  clear hg33 hg35 hg37 hg0
  go_enter Try.func77, Try.ntmps77
  go_wp2
  go_loop [3, 4] (fun z i => ∃ (k : Nat) (b : Bool), k ≤ met.length ∧ i = .int .i64 k ∧ z = .bool b ∧ Tells b ((0 : UInt8) ∈ met.take k)) (fun _ i => met.length - (intOf i).toNat)
  case atStart => exact ⟨0, false, Nat.zero_le _, rfl, rfl, Tells.f (by simp)⟩
  case round =>
    obtain ⟨k, b, hk, rfl, rfl, hb⟩ := hrel
    have HB := Lib.hid hb
    clear hb
    by_cases hlt : k < met.length
    · have HTK := Lib.hid (take_snoc met k hlt)
      cases b with
      | true =>
        go_wp2
        go_round
        case rel => exact ⟨k + 1, true, by omega, by go_num, rfl, Tells.t (by rw [HTK.out]; exact List.mem_append_left _ HB.out.yes)⟩
        case measure => simp [intOf]; omega
      | false =>
        have HN := Lib.hid HB.out.no
        obtain ⟨ad, rfl, _, hcell⟩ := plain_cell H3.out k hlt
        simp only [enc8] at hcell
        obtain ⟨m, hm⟩ : ∃ m, m = met[k] := ⟨_, rfl⟩
        rw [← hm] at hcell HTK
        clear hm
        obtain ⟨b2, hb2⟩ : ∃ b2, b2 = ((m.toNat : Int) == 0) := ⟨_, rfl⟩
        have HB2 := Lib.hid (show b2 = true ↔ m = 0 by
          rw [hb2, beq_iff_eq]
          constructor
          · intro h
            apply UInt8.toNat_inj.1
            simp
            omega
          · intro h
            rw [h]
            rfl)
        have hb2' := hb2.symm
        clear hb2
        go_wp2
        go_round
        case rel =>
          refine ⟨k + 1, b2, by omega, by go_num, rfl, ?_⟩
          unfold Tells
          rw [HTK.out, HB2.out]
          simp [HN.out]
          exact ⟨fun h => h.symm, fun h => h.symm⟩
        case measure => simp [intOf]; omega
    · obtain rfl : k = met.length := by omega
      rw [List.take_length] at HB
      go_wp2
      go_loopw [5, 6, 7] (fun t i _ wr => ∃ (k : Nat) (b : Bool), k ≤ exs.length ∧ i = .int .i64 k ∧ t = .bool b ∧ Tells b (¬ ((exs.take k).map (·.1)).Nodup) ∧ Stp (fun _ => False) (w.alloc (.cells cs 62)) wr) (fun _ i _ _ => exs.length - (intOf i).toNat)
      case atStart => exact ⟨0, false, Nat.zero_le _, rfl, rfl, Tells.f (by simp), Stp.refl _ _⟩
      case round =>
        obtain ⟨wo, rfl⟩ : ∃ wo : World, wo = wr := ⟨_, rfl⟩
        obtain ⟨k, b2, hk2, rfl, rfl, hb2, hs2⟩ := hrel
        have hbo := hs2.blk HBK.out id
        have ho37 := blk_cell (j := 37) hbo
        have ho33 := blk_cell (j := 33) hbo
        have ho0 := blk_cell (j := 0) hbo
        rw [HG37.out] at ho37
        rw [HG33.out] at ho33
        rw [HG0.out] at ho0
        have HB2 := Lib.hid hb2
        have HS2 := Lib.hid hs2
        have HBO := Lib.hid hbo
        clear hb2 hs2 hbo
        by_cases hlt : k < exs.length
        · have HKG := Lib.hid (kinds_get exs k hlt)
          obtain ⟨x, hx⟩ : ∃ x, x = exs[k].1 := ⟨_, rfl⟩
          rw [← hx] at HKG
          have HX := Lib.hid hx
          clear hx
          go_wp2
          go_loopw [5, 7] (fun t i wx => ∃ (j : Nat) (b3 : Bool), j ≤ k ∧ i = .int .i64 j ∧ t = .bool b3 ∧ Tells b3 (b2 = true ∨ x ∈ (exs.take j).map (·.1)) ∧ Stp (fun _ => False) (w.alloc (.cells cs 62)) wx) (fun _ i _ => k - (intOf i).toNat)
          case atStart => exact ⟨0, b2, Nat.zero_le _, rfl, rfl, by unfold Tells; simp, HS2.out⟩
          case round =>
            obtain ⟨j, b3, hj, rfl, rfl, hb3, hs3⟩ := hrel
            have hbi := hs3.blk HBK.out id
            have hi37 := blk_cell (j := 37) hbi
            rw [HG37.out] at hi37
            have HB3 := Lib.hid hb3
            have HS3 := Lib.hid hs3
            have HBI := Lib.hid hbi
            clear hb3 hs3 hbi
            by_cases hjk : j < k
            · have hjl : j < exs.length := by omega
              have HKJ := Lib.hid (kinds_get exs j hjl)
              cases b3 with
              | true =>
                go_wp2_with fail
                go_quiet (fail)
                go_wp2
                go_roundw
                case rel => exact ⟨j + 1, true, by omega, by go_num, rfl, Tells.t (by rcases HB3.out.yes with h | h; exact .inl h; exact .inr (by rw [HKJ.out]; exact List.mem_append_left _ h)), HS3.out.drewN _⟩
                case measure => simp [intOf]; omega
              | false =>
                have HN := Lib.hid HB3.out.no
                obtain ⟨ad, v, rfl, _, hcell1, _, _⟩ := ext_cell (H4.out.stp0 HS3.out) k hlt
                obtain ⟨ad', v', had, _, hcell2, _, _⟩ := ext_cell (H4.out.stp0 HS3.out) j hjl
                obtain rfl : ad = ad' := by injection had
                clear had
                rw [← HX.out] at hcell1
                obtain ⟨y, hy⟩ : ∃ y, y = exs[j].1 := ⟨_, rfl⟩
                rw [← hy] at hcell2 HKJ
                clear hy
                by_cases hxy : x = y
                · have he : (x == y) = true := by simpa using hxy
                  have HXY := Lib.hid hxy
                  clear hxy
                  go_wp2_with fail
                  go_quiet (fail)
                  go_wp2
                  go_roundw
                  case rel => exact ⟨j + 1, true, by omega, by go_num, rfl, Tells.t (.inr (by rw [HKJ.out, HXY.out]; simp)), HS3.out.drewN _⟩
                  case measure => simp [intOf]; omega
                · have he : (x == y) = false := by simpa using hxy
                  have HXY := Lib.hid hxy
                  clear hxy
                  go_wp2_with fail
                  go_quiet (fail)
                  go_wp2
                  go_roundw
                  case rel =>
                    refine ⟨j + 1, false, by omega, by go_num, rfl, Tells.f (fun h => ?_), HS3.out.drewN _⟩
                    rw [HKJ.out] at h
                    rcases h with h | h
                    · exact absurd (.inl h) HN.out
                    · rcases List.mem_append.1 h with h | h
                      · exact absurd (.inr h) HN.out
                      · exact absurd (List.mem_singleton.1 h) HXY.out
                  case measure => simp [intOf]; omega
            · obtain rfl : j = k := by omega
              go_wp2
              go_roundw
              case rel =>
                refine ⟨j + 1, b3, by omega, by go_num, rfl, ?_, HS3.out⟩
                have h2 := HB2.out.iff
                have h3 := HB3.out.iff
                unfold Tells
                rw [h3, HKG.out, nodup_snoc, h2]
                exact ⟨fun h hn => h.elim (fun h => h hn.1) (fun h => hn.2 h), fun h => Classical.byContradiction fun hc => h ⟨Classical.byContradiction fun hd => hc (.inl hd), fun hd => hc (.inr hd)⟩⟩
              case measure => simp [intOf]; omega
        · obtain rfl : k = exs.length := by omega
          rw [List.take_length] at HB2
          have HDU := Lib.hid (show b2 = dup exs by rw [Bool.eq_iff_iff, HB2.out.iff]; simp [dup])
          rw [← HDU.out] at HWS
          by_cases hv : ver < 768 ∨ 1023 < ver
          · have e1 : (wrap64 (ver.tdiv 256) != 3) = true := by rw [tdiv3 ver f6]; simpa using hv
            rw [if_pos hv] at HWS
            clear hv f6
            go_wp2
            go_ret
            exact ⟨by rw [HWS.out]; rfl, HS.out.trans HS2.out⟩
          rw [if_neg hv] at HWS
          have e1 : (wrap64 (ver.tdiv 256) != 3) = false := by rw [tdiv3 ver f6]; simpa using hv
          clear hv f6
          by_cases hse : 32 < ses.length
          · have e2 : (32 : Int) < ses.length := by omega
            rw [if_pos hse] at HWS
            clear hse
            go_wp2
            go_ret
            exact ⟨by rw [HWS.out]; rfl, HS.out.trans HS2.out⟩
          rw [if_neg hse] at HWS
          have e2 : ¬ (32 : Int) < ses.length := by omega
          clear hse
          cases b with
          | false =>
            rw [if_pos HB.out.no] at HWS
            go_wp2
            go_ret
            exact ⟨by rw [HWS.out]; rfl, HS.out.trans HS2.out⟩
          | true =>
            rw [if_neg (fun h => h HB.out.yes)] at HWS
            cases b2 with
            | true =>
              go_wp2
              go_ret
              exact ⟨by rw [HWS.out]; rfl, HS.out.trans HS2.out⟩
            | false =>
              go_wp2
              go_ret
              exact ⟨by rw [HWS.out]; rfl, HS.out.trans HS2.out⟩
end Go.Proofs.Ytdmcmfjhlpnaeaa.L
