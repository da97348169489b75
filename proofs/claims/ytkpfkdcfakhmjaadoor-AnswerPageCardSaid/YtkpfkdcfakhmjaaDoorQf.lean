/- Layer 22: the small case. -/
import Derived.Test.YtkpfkdcfakhmjaaDoorQe
import Derived.ArgAppend
set_option linter.unusedVariables false
set_option linter.unusedSimpArgs false
namespace Go.Proofs.YtkpfkdcfakhmjaaDoor.L
open Go.RowKit Go.Proofs

set_option maxRecDepth 100000 in
set_option maxHeartbeats 4000000 in
theorem record_own (n : Int) (w : World) : Calls Tryd.prog 19 #[.int .i64 n] w (NewB w (recS n)) := by
  obtain ⟨R, hR⟩ : ∃ R, R = NewB w (recS n) := ⟨_, rfl⟩
  rw [← hR]
  have HR := Lib.hid hR
  clear hR
  have ew : IntKind.u8.wrap n = ((toU8 n).toNat : Int) := by
    rw [toU8_nat]
    simp [IntKind.wrap, IntKind.signed, IntKind.bits]
  go_enter Tryd.func19, Tryd.ntmps19
  go_wp2_with (go_at_call 29; refine stopc ?_)
  refine Stop.go ?_
  refine (put_any (fun _ => False) _ [21] _ _ _ (Rd.lit [21] _ rfl (by simp) id) (by simp)).mono ?_
  rintro e w1 ⟨v1, rfl, ho1, hs1⟩
  have HO1 := Lib.hid ho1
  have HS1 := Lib.hid (((Stp.refl (fun _ => False) w).alloc _).trans hs1)
  clear ho1 hs1
  go_wp2_with (go_at_call 30; refine stopc ?_)
  refine Stop.go ?_
  refine (vec_any (fun _ => False) _ _ ([21] ++ be 771 (clampN 2)) [2, toU8 n] _ _ ((HO1.out.rd (h1 := fun _ => rfl) (fun _ _ => id)).stp0 ((Stp.refl _ _).alloc _)) (Rd.lit [2, toU8 n] _ rfl (by simp) id) (by simp [be_len]; decide)).mono ?_
  rw [rec_put]
  rintro e w2 ⟨v2, rfl, ho2, hs2⟩
  have HS2 := Lib.hid ((HS1.out.alloc _).trans hs2)
  have HO2 := Lib.hid (ho2.lower (Nat.le_trans HS1.out.size (by simp)))
  obtain ⟨o2, hq⟩ : ∃ o2, o2 = (vecB ([21] ++ be 771 (clampN 2)) 2 [2, toU8 n]).2 := ⟨_, rfl⟩
  rw [← hq]
  clear ho2 hs2 hq
  go_wp2
  rw [HR.out]
  exact ⟨_, rfl, HO2.out, HS2.out⟩

set_option maxRecDepth 100000 in
set_option maxHeartbeats 4000000 in
theorem of_tls (cv : Array Value) (r : Int) (y u : Int) (y5 : y ≠ 5) (w : World) (hv : IsVd cv 1 r) :
    Calls Tryd.prog 13 #[.agg cv, .agg #[.bool false, .int .i64 y, .int .i64 u]] w (NewB w (recS (alertS r y))) := by
  have HV := Lib.hid hv
  obtain ⟨hs, h1, h3⟩ := hv
  obtain ⟨R, hR⟩ : ∃ R, R = NewB w (recS (alertS r y)) := ⟨_, rfl⟩
  rw [← hR]
  have HR := Lib.hid hR
  clear hR
  have hb : ((w.alloc (.cells cv 28)).alloc (.cells #[.bool false, .int .i64 y, .int .i64 u] 30)).heap[w.heap.size]? = some (.cells cv 28 (0, 0)) := ((Stp.refl (fun _ => False) _).alloc _).blk (heap_alloc_new w _) id
  have HC := Lib.hid hb
  have HS0 := Lib.hid (((Stp.refl (fun _ => False) w).alloc (.cells cv 28)).alloc (.cells #[.bool false, .int .i64 y, .int .i64 u] 30))
  have HZ := Lib.hid (show (Tryd.prog.info? 28).map (·.size) = some cv.size by rw [hs]; kernel_rfl)
  clear hb
  have b5 : (y == 5) = false := by simpa using y5
  have HY := Lib.hid y5
  clear y5
  go_enter Tryd.func13, Tryd.ntmps13
  go_wp2_with (with_reducible refine stop (N := 15) rfl ?_)
  refine Stop.go ?_
  refine wpList_load_row rfl _ _ rfl w.heap.size rfl _ cv (0, 0) _ HC.out Tryd.underlying28 rfl HZ.out ?_
  go_wp2_with (go_at_call 9; refine stopc ?_)
  refine Stop.go ?_
  refine (alert_any cv 1 r false y u _ HV.out).mono ?_
  rintro e w1 ⟨rfl, hs1⟩
  have HS1 := Lib.hid (HS0.out.trans hs1)
  clear hs1
  go_wp2_with (go_at_call 19; refine stopc ?_)
  refine Stop.go ?_
  refine (record_own _ _).mono ?_
  rintro e w2 ⟨v2, rfl, ho2, hs2⟩
  have HO := Lib.hid (ho2.lower HS1.out.size)
  have HS2 := Lib.hid (HS1.out.trans hs2)
  clear ho2 hs2
  go_wp2
  rw [HR.out]
  exact ⟨_, rfl, HO.out, HS2.out⟩

/-- An operation that is wanted (its guard holds). -/
theorem wpList_wanted {P : Program} {ops : Array Oper} {rest : List Oper} {o : Oper} {a : Act} {w : World} {Q : Exit → Act → World → Prop} (hw : Region.wanted o (yielded ops a.tmps) = true)
    (h : o.wp P a w (wpList P ops Q rest) Q) : wpList P ops Q (o :: rest) a w := by
  unfold wpList
  rw [if_pos hw]
  exact .inl h
/-- A verdict that has only a protocol and a reason. -/
def vdA (p r : Int) : Array Value := #[.int .i64 0, .int .i64 p, .int .i64 0, .int .i64 r, .string ⟨#[]⟩, .int .i64 0, .bool false, .string ⟨#[]⟩, .slice none 0 0, .slice none 0 0, .bool false]
theorem vdA_is (p r : Int) : IsVd (vdA p r) p r := ⟨rfl, rfl, rfl⟩
/-- append(b, x) of own bytes: the old ones read as they did. -/
theorem wp_append1o {P : Program} {ops : Array Oper} {rest : List Oper} {o : Oper} {a : Act} {Q : Exit → Act → World → Prop} {W : World} (hg : o.guard = none) (s y : Operand) (t : TypeId) (x : UInt8)
    (ho : o.op = .call { callee := .builtin .append, args := #[s, y], argTypes := #[t, t] })
    {B e : Nat} (ht : P.underlying t = some (.slice e)) (h2 : (P.info? e).map (fun i => (i.zero, i.size, i.bytes)) = some (some (.int .u8 0), 1, 1))
    {g n c : Nat} {xs : List UInt8} (hown : Own enc8 e B W (.slice (some ⟨g, 0, none⟩) n c) xs) (hs : a.eval s = .slice (some ⟨g, 0, none⟩) n c) (ad : Addr) (c2 : Nat) (hx : a.eval y = .slice (some ad) 1 c2) (hc : W.cell? ad = some (enc8 x))
    (hlen : xs.length < 140737488355328)
    (h : ∀ v' W', Rd u8 (fun _ => False) W' v' (xs ++ [x]) → Rd u8 (fun _ => False) W' (.slice (some ⟨g, 0, none⟩) n c) xs → Stp (fun k => k = g) W W' → wpList P ops Q rest (a.put o.dst v') W') :
    wpList P ops Q (o :: rest) a W := by
  obtain ⟨i, hi, hz, hsz, hb⟩ := info_parts h2
  have hrd : Rd u8 (fun _ => False) W (.slice (some ⟨g, 0, none⟩) n c) xs := hown.rd (h1 := fun _ => rfl) (fun _ _ => id)
  obtain ⟨rfl, -, hcm, -⟩ := hrd.at_
  have hcell : ∀ j u, (xs.map enc8)[j]? = some u → W.cell? ⟨g, j, none⟩ = some u := fun j u hj => by
    rw [List.getElem?_map, Option.map_eq_some_iff] at hj
    obtain ⟨p, hp, rfl⟩ := hj
    obtain ⟨hlt, rfl⟩ := List.getElem?_eq_some_iff.1 hp
    exact hown.cellAt j hlt
  have hlt : xs.length ≤ c := hrd.at_.2.1
  have hsp : xs.length + 1 ≤ c → (W.cell? ⟨g, xs.length, none⟩).isSome = true := fun hr => by
    rcases hown.2 with ⟨h1, _⟩ | ⟨g', cap, cur, hv, hbg, hgg, hnc, hcm', hcs, htk⟩
    · simp at h1
    · injection hv with e1 e2 e3
      injection e1 with e1
      injection e1 with e1
      subst e1
      subst e3
      have : W.cell? ⟨g, xs.length, none⟩ = cur[xs.length]? := cell_of_row W g xs.length cur _ _ hgg
      rw [this, Array.getElem?_eq_getElem (by omega)]
      rfl
  refine wpList_append_arg (P := P) W hg s y t ho e i (.int .u8 0) 1 1 ht hi hz hsz hb rfl (by decide) g 0 xs.length c (xs.map enc8) hs (by simp) (fun j u hj => by rw [Nat.zero_add]; exact hcell j u hj) ad 1 c2 [enc8 x] hx rfl ?_ (by intro u hu; simp at hu; subst hu; rfl) ?_ (by simp [maxLen]; omega) (by omega) ?_ ?_
  · intro j u hj
    match j, hj with
    | 0, hj =>
      simp at hj
      subst hj
      simpa [Addr.add] using hc
  · intro hr j hj
    simp at hj
    subst hj
    simp only [Nat.zero_add, Nat.mul_one, Nat.add_zero]
    exact ⟨hsp hr, hown.free _⟩
  · intro hr
    have e1 : W.setCells g (0 + xs.length * 1) [enc8 x] = W.setCell ⟨g, xs.length, none⟩ (enc8 x) := by simp [World.setCells]
    rw [e1]
    obtain ⟨u0, hu0⟩ := Option.isSome_iff_exists.1 (hsp hr)
    have hold : ∀ j, (hj : j < xs.length) → (W.setCell ⟨g, xs.length, none⟩ (enc8 x)).cell? ⟨g, j, none⟩ = some (enc8 xs[j]) := fun j hj => by
      rw [World.cell?_setCell_other _ _ _ _ (fun e => by injection e with _ e; omega)]
      exact hown.cellAt j hj
    refine h _ _ ?_ ?_ ((Stp.refl (fun k => k = g) W).setg xs.length (enc8 x))
    · have := plain_mk (enc := enc8) (h1 := fun _ => rfl) (M := fun _ => False) (W := W.setCell ⟨g, xs.length, none⟩ (enc8 x)) (A := some ⟨g, 0, none⟩) (c := c) (xs := xs ++ [x]) (by simpa using hr) hcm (fun _ => ⟨_, rfl, id, fun j hj => ?_⟩)
      · rw [List.length_append] at this
        exact this
      · have hadd : (⟨g, 0, none⟩ : Addr).add j = ⟨g, j, none⟩ := by unfold Addr.add; split <;> simp_all
        rw [hadd]
        by_cases hjl : j < xs.length
        · rw [hold j hjl, List.getElem_append_left hjl]
        · have : j = xs.length := by simp at hj; omega
          subst this
          rw [World.cell?_setCell_same _ _ _ hu0]
          simp
    · exact plain_mk (enc := enc8) (h1 := fun _ => rfl) hlt hcm (fun _ => ⟨_, rfl, id, fun j hj => by
        have hadd : (⟨g, 0, none⟩ : Addr).add j = ⟨g, j, none⟩ := by unfold Addr.add; split <;> simp_all
        rw [hadd]
        exact hold j hj⟩)
  · intro hr v' w' ho' hg'
    have ho2 : Own enc8 e W.heap.size w' v' (xs ++ [x]) := by
      unfold Own
      simpa using ho'
    have hst : Stp (fun _ => False) W w' := (Stp.refl _ W).grown hg' (fun k hk _ => by cases hk)
    exact h v' w' (ho2.rd (h1 := fun _ => rfl) (fun _ _ => id)) (hrd.stp0 hst) hst.to

def smallV (b : Bool) (w : World) (e : Ending) (w' : World) : Prop := e = .returned (.bool b) ∧ Stp (fun _ => False) w w'
theorem readRec (z : Nat) (l : List UInt8) (h : readS l = (1, (z : Int), true)) : readV l = .tuple #[.int .i64 1, .int .i64 z, .bool true] := by
  unfold readV
  rw [h]
set_option maxRecDepth 100000 in
set_option maxHeartbeats 4000000 in
theorem small22_any (w : World) (ht : TabP w) : Calls Tryd.prog 8 #[] w (smallV true w) := by
  obtain ⟨R, hR⟩ : ∃ R, R = smallV true w := ⟨_, rfl⟩
  rw [← hR]
  have HR := Lib.hid hR
  have HT := Lib.hid ht
  clear hR ht
  have hz : (Tryd.prog.info? 28).map (·.size) = some (vdA 1 5).size := by kernel_rfl
  have hb := heap_alloc_new w (.cells (vdA 1 5) 28)
  have hs := (Stp.refl (fun _ => False) w).alloc (.cells (vdA 1 5) 28)
  have HZ := Lib.hid hz
  have HB := Lib.hid hb
  have HS := Lib.hid hs
  clear hz hb hs
  go_enter Tryd.func8, Tryd.ntmps8
  go_wp2_with (go_at_call 13; refine stopc ?_)
  refine Stop.go ?_
  refine (of_tls (vdA 1 5) 5 0 0 (by decide) _ (vdA_is 1 5)).mono ?_
  rintro e w1 ⟨va, rfl, ho1, hs1⟩
  have HO1 := Lib.hid ho1
  have HS1 := Lib.hid (HS.out.trans hs1)
  have HB1 := Lib.hid (hs1.blk HB.out id)
  clear ho1 hs1
  go_wp2_with (with_reducible refine stop (N := 20) rfl ?_)
  refine Stop.go ?_
  refine wpList_load_row rfl _ _ rfl w.heap.size rfl _ (vdA 1 5) (0, 0) _ HB1.out Tryd.underlying28 rfl HZ.out ?_
  go_wp2_with (go_at_call 13; refine stopc ?_)
  refine Stop.go ?_
  refine (of_tls (vdA 1 5) 5 4 0 (by decide) _ (vdA_is 1 5)).mono ?_
  rintro e w2 ⟨vb, rfl, ho2, hs2⟩
  obtain ⟨Ab, cb, rfl, -⟩ := ho2.form
  rw [show (recS (alertS 5 4)).length = 7 from rfl] at ho2 ⊢
  obtain ⟨gb, rfl, -, hgb, hgl⟩ := ho2.at_ (by decide)
  have HGB := Lib.hid hgb
  have HGL := Lib.hid hgl
  clear hgb hgl
  have HO2 := Lib.hid ho2
  have HT2 := Lib.hid hs2
  have HS2 := Lib.hid (HS1.out.trans hs2)
  have HB2 := Lib.hid (hs2.blk HB1.out id)
  clear ho2 hs2
  go_wp2_with (go_at_call 13; refine stopc ?_)
  refine Stop.go ?_
  refine (of_any (vdA 2 0) 2 0 false 4 0 _ (vdA_is 2 0) (HT.out.step HS2.out)).mono ?_
  rintro e w3 ⟨vc, rfl, hr3, -, hs3⟩
  have HR3 := Lib.hid hr3
  have HT3 := Lib.hid hs3
  have HS3 := Lib.hid (HS2.out.trans hs3)
  have HB3 := Lib.hid (hs3.blk HB2.out id)
  clear hr3 hs3
  go_wp2_with (go_at_call 13; refine stopc ?_)
  refine Stop.go ?_
  refine (of_any (vdA 0 0) 0 0 false 0 0 _ (vdA_is 0 0) (HT.out.step HS3.out)).mono ?_
  rintro e w4 ⟨vd, rfl, hr4, -, hs4⟩
  obtain ⟨Ad, cd, rfl, -⟩ := hr4.form
  rw [show (ofS 0 0 false 0).length = 0 by decide] at hr4 ⊢
  have HT4 := Lib.hid hs4
  have HS4 := Lib.hid (HS3.out.trans hs4)
  have HB4 := Lib.hid (hs4.blk HB3.out id)
  clear hr4 hs4
  go_wp2_with (with_reducible refine stop (N := 29) rfl ?_)
  refine Stop.go ?_
  refine wpList_load_row rfl _ _ rfl w.heap.size rfl _ (vdA 1 5) (0, 0) _ HB4.out Tryd.underlying28 rfl HZ.out ?_
  go_wp2_with (go_at_call 13; refine stopc ?_)
  refine Stop.go ?_
  refine (of_any (vdA 1 5) 1 5 true 0 0 _ (vdA_is 1 5) (HT.out.step HS4.out)).mono ?_
  rintro e w5 ⟨ve, rfl, hr5, -, hs5⟩
  obtain ⟨Ae, ce, rfl, -⟩ := hr5.form
  rw [show (ofS 1 5 true 0).length = 0 by decide] at hr5 ⊢
  have HT5 := Lib.hid hs5
  have HS5 := Lib.hid (HS4.out.trans hs5)
  have HB5 := Lib.hid (hs5.blk HB4.out id)
  clear hr5 hs5
  go_wp2_with (go_at_call 15; refine stopc ?_)
  refine Stop.go ?_
  refine (read_any _ vc page400 _ (HR3.out.stp0 (HT4.out.trans HT5.out)) (HT.out.step HS5.out)).mono ?_
  rintro e w6 ⟨he, hs6⟩
  rw [readV400] at he
  subst he
  have HT6 := Lib.hid hs6
  have HS6 := Lib.hid (HS5.out.trans hs6)
  have HB6 := Lib.hid (hs6.blk HB5.out id)
  clear hs6
  have HO6 := Lib.hid (HO2.out.stp0 (HT3.out.trans (HT4.out.trans (HT5.out.trans HT6.out))))
  go_wp2_with (go_at_call 15; refine stopc ?_)
  refine Stop.go ?_
  refine (read_any (fun _ => False) _ (recS 70) _ (HO6.out.rd (h1 := fun _ => rfl) (fun _ _ => id)) (HT.out.step HS6.out)).mono ?_
  rintro e w7 ⟨he, hs7⟩
  rw [readRec 70 (recS 70) (by decide)] at he
  subst he
  have HT7 := Lib.hid hs7
  have HS7 := Lib.hid (HS6.out.trans hs7)
  have HB7 := Lib.hid (hs7.blk HB6.out id)
  have HO7 := Lib.hid (HO6.out.stp0 hs7)
  clear hs7
  go_wp2_with (with_reducible refine stop (N := 47) rfl ?_)
  refine Stop.go ?_
  refine wp_append1o rfl _ _ _ 0 rfl Tryd.underlying34 info_u8 (HO7.out.stp0 ((Stp.refl _ _).alloc _)) rfl ⟨w7.heap.size, 0, none⟩ 1 rfl ?_ (by decide) ?_
  · rw [World.cell?_alloc_new]
    rfl
  intro v8 w8 hr8 hrb8 hs8
  have HN := Lib.hid (blk_lt HB1.out)
  have HS8 := Lib.hid ((HS7.out.alloc _).new hs8 (by have := HGB.out; have := HN.out; omega))
  have HB8 := Lib.hid ((((Stp.refl (fun k => k = gb) w7).alloc _).trans hs8).blk HB7.out (by have := HGB.out; have := HN.out; omega))
  have hra := (HO1.out.stp0 (HT2.out.trans (HT3.out.trans (HT4.out.trans (HT5.out.trans (HT6.out.trans HT7.out)))))).step (((Stp.refl (fun k => k = gb) w7).alloc _).trans hs8) (fun k hk he => by have := (HO1.out.lt k hk).2; have := HGB.out; omega)
  have HRA8 := Lib.hid (hra.rd (h1 := fun _ => rfl) (M := fun _ => False) (fun _ _ => id))
  have HRC8 := Lib.hid ((HR3.out.stp0 (HT4.out.trans (HT5.out.trans (HT6.out.trans HT7.out)))).step (((Stp.refl (fun k => k = gb) w7).alloc _).trans hs8) (fun k _ he => by have := HGL.out; subst he; exact this))
  have HRB8 := Lib.hid hrb8
  have HR8 := Lib.hid hr8
  clear hr8 hrb8 hs8 hra
  go_wp2_with (go_at_call 15; refine stopc ?_)
  refine Stop.go ?_
  refine (read_any _ v8 (recS 70 ++ [0]) _ HR8.out (HT.out.step HS8.out)).mono ?_
  rintro e w9 ⟨he, hs9⟩
  rw [show readV (recS 70 ++ [0]) = .tuple #[.int .i64 0, .int .i64 0, .bool false] by unfold readV; rw [show readS (recS 70 ++ [0]) = (0, 0, false) by decide]] at he
  subst he
  have HS9 := Lib.hid (HS8.out.trans hs9)
  have HB9 := Lib.hid (hs9.blk HB8.out id)
  have ca := conv_of (HRA8.out.stp0 hs9)
  have cb' := conv_of (HRB8.out.stp0 hs9)
  have cc := conv_of (HRC8.out.stp0 hs9)
  clear hs9
  have e1 : ((strB (recS (alertS 5 0))).toList == [21, 3, 3, 0, 2, 2, 49]) = true := by rw [ByteArray.toList_eq]; decide
  have e2 : ((strB (recS (alertS 5 4))).toList == [21, 3, 3, 0, 2, 2, 70]) = true := by rw [ByteArray.toList_eq]; decide
  have e3 : ((strB (ofS 2 0 false 4)).toList == [72, 84, 84, 80, 47, 49, 46, 49, 32, 52, 48, 48, 32, 66, 97, 100, 32, 82, 101, 113, 117, 101, 115, 116, 13, 10, 67, 111, 110, 116, 101, 110, 116, 45, 76, 101, 110, 103, 116, 104, 58, 32, 48, 13, 10, 67, 111, 110, 110, 101, 99, 116, 105, 111, 110, 58, 32, 99, 108, 111, 115, 101, 13, 10, 13, 10]) = true := by rw [ByteArray.toList_eq]; decide
  go_wp2_with (with_reducible refine stop (N := 102) rfl ?_)
  refine Stop.go ?_
  refine wpList_wanted (by kernel_rfl) (wp_load_row _ _ rfl w.heap.size rfl _ (vdA 1 5) (0, 0) _ HB9.out Tryd.underlying28 rfl HZ.out ?_)
  go_wp2_with (go_at_call 9; refine stopc ?_)
  refine Stop.go ?_
  refine (alert_any (vdA 1 5) 1 5 false 2 0 _ (vdA_is 1 5)).mono ?_
  rw [show alertS 5 2 = 112 by decide]
  rintro e w10 ⟨rfl, hs10⟩
  have HS10 := Lib.hid (HS9.out.trans hs10)
  clear hs10
  go_wp2_with (go_at_call 11; refine stopc ?_)
  refine Stop.go ?_
  refine (status_any false 2 0 _).mono ?_
  rw [show statusS 2 = 403 by decide]
  rintro e w11 ⟨rfl, hs11⟩
  have HS11 := Lib.hid (HS10.out.trans hs11)
  clear hs11
  go_wp2
  rw [HR.out]
  exact ⟨rfl, HS11.out⟩
end Go.Proofs.YtkpfkdcfakhmjaaDoor.L
