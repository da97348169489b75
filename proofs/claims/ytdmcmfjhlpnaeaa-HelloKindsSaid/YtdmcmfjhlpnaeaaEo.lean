/- ExtsOthers: the walk. -/
import Derived.Test.YtdmcmfjhlpnaeaaOm
set_option linter.unusedVariables false
set_option linter.unusedSimpArgs false
namespace Go.Proofs.Ytdmcmfjhlpnaeaa.L
open Go.RowKit Go.Proofs

theorem findS_ins (xs : List (Int × List UInt8)) (n : Nat) (k0 : Int) (d : List UInt8) (kind : Int) (h : k0 ≠ kind) : findS (xs.take n ++ [(k0, d)] ++ xs.drop n) kind = findS xs kind := by
  unfold findS
  have : (xs.take n ++ [(k0, d)] ++ xs.drop n).find? (fun x => x.1 == kind) = xs.find? (fun x => x.1 == kind) := by
    have e : xs.find? (fun x => x.1 == kind) = ((xs.take n).find? (fun x => x.1 == kind)).or ((xs.drop n).find? (fun x => x.1 == kind)) := by
      rw [← List.find?_append, List.take_append_drop]
    rw [e, List.append_assoc, List.find?_append, List.find?_append]
    simp [List.find?_cons, h]
  rw [this]
theorem seeS_ins (xs : List (Int × List UInt8)) (n : Nat) (k0 : Int) (d : List UInt8) (h0 : k0 ≠ 0) (h1 : k0 ≠ 16) (h2 : k0 ≠ 43) (h3 : k0 ≠ 65037) : seeS (xs.take n ++ [(k0, d)] ++ xs.drop n) = seeS xs := by
  unfold seeS nmP alP vsP
  rw [findS_ins _ _ _ _ _ h0, findS_ins _ _ _ _ _ h1, findS_ins _ _ _ _ _ h2, findS_ins _ _ _ _ _ h3]

set_option maxRecDepth 100000 in
set_option maxHeartbeats 8000000 in
theorem extsOthers_any (cs : Array Value) (h : Hl) (kind at_ : Int) (vd : Value) (d : List UInt8) (w : World) (hh : IsHl (newB w) w cs h) (hf : HlFit h) (hd : Rd u8 (newB w) w vd d) :
    Calls Try.prog 11 #[.agg cs, .int .i64 kind, vd, .int .i64 at_] w fun e w' => e = .returned (.bool true) ∧ Stp (fun _ => False) w w' := by
  obtain ⟨A, c, hcs, hc37, hx⟩ := hl_see hh
  obtain ⟨Ad, cd, rfl, hled⟩ := hd.form
  have hnc := hx.at_.2.1
  obtain ⟨s, hs⟩ : ∃ s, s = seeS h.exs := ⟨_, rfl⟩
  have HF := Lib.hid hf
  have HFB := Lib.hid (few_bounds h)
  have HSL := Lib.hid (seeS_len h.exs)
  have HC := Lib.hid hc37
  have hg37 := hc37 (by omega)
  clear hc37 hf
  have HSS := Lib.hid hs
  have HH := Lib.hid hh
  have HX := Lib.hid hx
  have HS := Lib.hid hs
  have HD := Lib.hid hd
  clear hh hx hs hd
  go_enter Try.func11, Try.ntmps11
  go_wp2_with (go_at_call 37; refine stopc ?_)
  refine Stop.go ?_
  refine (small10_any _).mono ?_
  rintro e w1 ⟨rfl, hs1⟩
  have hb := hs1.blk (heap_alloc_new w (.cells cs 62)) id
  have HS1 := Lib.hid (((Stp.refl (fun _ => False) w).alloc _).trans hs1)
  clear hs1
  have HB := Lib.hid hb
  clear hb
  go_wp2_with (with_reducible refine stop (N := 17) rfl ?_)
  refine Stop.go ?_
  refine wpList_load_row rfl _ _ rfl w.heap.size rfl _ cs (0, 0) _ HB.out Try.underlying62 rfl (by rw [hcs]; kernel_rfl) ?_
  go_wp2_with (go_at_call 46; refine stopc ?_)
  refine Stop.go ?_
  refine (few_any (fun _ => False) cs h _ ((HH.out.weak (fun _ _ h => h.elim)).stp0 HS1.out) HF.out (fun _ _ h => h)).mono ?_
  rintro e w2 ⟨rfl, hs2⟩
  have HB2 := Lib.hid (hs2.blk HB.out id)
  have HS2 := Lib.hid (HS1.out.trans hs2)
  have hc2 := blk_cell (j := 37) HB2.out
  have hz37 : cs[37]? = some (.slice A h.exs.length c) := by rw [Array.getElem?_eq_getElem (by omega), hg37]
  rw [hz37] at hc2
  clear hs2
  by_cases hfew : fewB h = true
  case neg =>
    have hf' : fewB h = false := by simpa using hfew
    rw [hf']
    clear hfew
    go_wp2
    go_ret
    exact ⟨rfl, HS2.out⟩
  obtain ⟨-, -, -, hl, hdl⟩ := HFB.out hfew
  have hsl := HSL.out 5000 hdl
  rw [← HS.out] at hsl
  obtain ⟨hsl1, hsl2⟩ := hsl
  rw [hfew]
  have HDL := Lib.hid hdl
  clear hdl
  clear hfew
  by_cases t1 : (500 : Int) < d.length
  · go_wp2
    go_ret
    exact ⟨rfl, HS2.out⟩
  by_cases t2 : at_ < 0
  · go_wp2
    go_ret
    exact ⟨rfl, HS2.out⟩
  by_cases t3 : (h.exs.length : Int) < at_
  · go_wp2
    go_ret
    exact ⟨rfl, HS2.out⟩
  by_cases k1 : kind = 0
  · subst k1
    go_wp2
    go_ret
    exact ⟨rfl, HS2.out⟩
  by_cases k2 : kind = 16
  · subst k2
    go_wp2
    go_ret
    exact ⟨rfl, HS2.out⟩
  by_cases k3 : kind = 43
  · subst k3
    go_wp2
    go_ret
    exact ⟨rfl, HS2.out⟩
  by_cases k4 : kind = 65037
  · subst k4
    go_wp2
    go_ret
    exact ⟨rfl, HS2.out⟩
  have HI := Lib.hid (seeS_ins h.exs at_.toNat kind d k1 k2 k3 k4)
  have l1 : (kind == 0) = false := by simpa using k1
  have l2 : (kind == 16) = false := by simpa using k2
  have l3 : (kind == 43) = false := by simpa using k3
  have l4 : (kind == 65037) = false := by simpa using k4
  clear k1 k2 k3 k4
  obtain ⟨n, rfl⟩ := Int.eq_ofNat_of_zero_le (show 0 ≤ at_ by omega)
  rw [Int.toNat_natCast] at HI
  have hn : n ≤ h.exs.length := by omega
  obtain ⟨hcutH, hcutHr⟩ := cut_hi (P := Try.prog) extK 60 70 Try.underlying60 (by kernel_rfl) A h.exs.length c n hn hnc
  obtain ⟨Al, hcutL, hcutLr⟩ := cut_lo (P := Try.prog) extK 60 70 Try.underlying60 (by kernel_rfl) A h.exs.length c n hn
  have q1 := fun W => hcutH W .i64
  have q2 := fun W => hcutL W .i64
  have HHR := Lib.hid hcutHr
  have HLR := Lib.hid hcutLr
  clear hcutH hcutL hcutHr hcutLr
  go_wp2_with (with_reducible refine stop (N := 55) rfl ?_)
  refine Stop.go ?_
  refine wpList_load_row rfl _ _ rfl w.heap.size rfl _ cs (0, 0) _ HB2.out Try.underlying62 rfl (by rw [hcs]; kernel_rfl) ?_
  go_wp2_with (go_at_call 47; refine stopc ?_)
  refine Stop.go ?_
  have hszw2 := HS2.out.size
  have hb0lt := blk_lt HB2.out
  refine (see_any _ cs A c h.exs _ hcs HC.out (HX.out.stp0 HS2.out) (by omega) (fun x hx => Nat.le_trans (HDL.out x hx) (by decide))).mono ?_
  rw [← HS.out]
  rintro e w3 ⟨v3, rfl, hv3, hs2⟩
  have HB3 := Lib.hid (hs2.blk HB2.out id)
  have HS3 := Lib.hid (HS2.out.trans hs2)
  have HV3 := Lib.hid (hv3.weak (fun k => k = w.heap.size ∨ w3.heap.size ≤ k) (fun _ _ h => by omega))
  obtain ⟨va, vv, rfl, ha, hv⟩ := hv3
  obtain ⟨Aa, ca, rfl, _⟩ := ha.form
  obtain ⟨Av, cv, rfl, _⟩ := hv.form
  clear ha hv hs2 hc2
  go_wp2_with (with_reducible refine stop (N := 59) rfl ?_)
  refine Stop.go ?_
  obtain ⟨w4, hw4, hs4, hb4, hsz4⟩ : ∃ w4, (w3.alloc (.cells #[.bool s.1.has, .string s.1.name, .slice Aa s.1.alpn.length ca, .slice Av s.1.vers.length cv, .bool s.1.ech] 65)) = w4 ∧ Stp (fun _ => False) w3 w4 ∧ w4.heap[w3.heap.size]? = some (.cells #[.bool s.1.has, .string s.1.name, .slice Aa s.1.alpn.length ca, .slice Av s.1.vers.length cv, .bool s.1.ech] 65 (0, 0)) ∧ w3.heap.size + 1 = w4.heap.size :=
    ⟨_, rfl, (Stp.refl _ _).alloc _, heap_alloc_new w3 _, by simp⟩
  rw [hw4]
  clear hw4
  generalize hb5e : w3.heap.size = b5 at *
  have hs5 := (Stp.refl (fun _ => False) w4).alloc (.cells #[] 70)
  have hb5 := hs5.blk hb4 id
  have hb5' := hs5.blk (hs4.blk HB3.out id) id
  have ho5 := OwnM.empty extK 70 w4.heap.size (newB w) w4 (Nat.le_refl _)
  have hcx := blk_cell (j := 37) hb5'
  rw [hz37] at hcx
  have hsz3 := HS3.out.size
  rw [hb5e] at hsz3
  have hszb3 := blk_lt HB3.out
  rw [hb5e] at hszb3
  have HS5 := Lib.hid ((HS3.out.trans hs4).trans hs5)
  have HV3 := Lib.hid (HV3.out.stp0 hs4)
  have HV3 := Lib.hid (HV3.out.stp0 hs5)
  have HO5 := Lib.hid ho5
  have HB5 := Lib.hid hb5
  have HB5' := Lib.hid hb5'
  clear ho5 hb5 hb5'
  clear hs5 hs4 hb4
  go_wp2_with (with_reducible refine stop (N := 64) rfl ?_)
  refine Stop.go ?_
  refine wp_appendRdM (d := extK) (B := w4.heap.size) rfl _ _ _ rfl Try.underlying60 info_ext rfl (by decide) HO5.out (HHR.out _ _ _ (HX.out.stp0 HS5.out)).now (fun k hk => by have := (HO5.out.lt k hk).1; simp only [newB]; omega) rfl rfl (by simp; omega) (by simp; omega) (by simp) ?_
  intro v6 w6 ho6 hg6
  rw [List.nil_append] at ho6
  have hs6 : Stp (fun k => k = w4.heap.size) (w4.alloc (.cells #[] 70)) w6 := (Stp.of_grown hg6).mono (fun k _ hk => by simp [Value.ownBlock] at hk; omega)
  have hb6 := hs6.blk HB5'.out (by omega)
  have hb6' := hs6.blk HB5.out (by omega)
  have HS6 := Lib.hid (HS5.out.then_ hs6 (fun k hk he => by omega))
  have HV6 := Lib.hid (HV3.out.step hs6 (fun k hk he => by omega))
  have hz6 : (h.exs.take n).length = n := by rw [List.length_take]; omega
  obtain ⟨A6, c6, rfl, hle6⟩ := ho6.form
  rw [hz6] at ho6
  have hc37 := blk_cell (j := 37) hb6
  rw [hz37] at hc37
  have hf37 := blk_free hb6 37
  have hw6 : w4.heap.size + 1 ≤ w6.heap.size := by have := hs6.size; simpa using this
  have hown6 : ∀ k, (Value.slice A6 n c6).ownBlock = some k → w4.heap.size ≤ k ∧ k < w6.heap.size := fun k hk => ho6.lt k hk
  have HO6 := Lib.hid ho6
  have HB6 := Lib.hid hb6
  have HB6' := Lib.hid hb6'
  have HOWN6 := Lib.hid hown6
  clear ho6 hb6 hb6' hown6
  have HZ6 := Lib.hid hz6
  clear hg6 hcx hs6 hle6
  rw [hz6]
  obtain ⟨X, hX⟩ : ∃ X, X = h.exs.take n ++ [(kind, d)] ++ h.exs.drop n := ⟨_, rfl⟩
  rw [← hX] at HI
  have hXl : X.length ≤ 61 := by rw [hX]; simp; omega
  have HX' := Lib.hid hX
  clear hX
  go_upto_region 7 with fail
  go_cut [] (fun wx => (∃ A9 c9, Rd extK (fun k => k = w.heap.size) wx (.slice A9 X.length c9) X ∧ wx.heap[w.heap.size]? = some (.cells (cs.setIfInBounds 37 (.slice A9 X.length c9)) 62 (0, 0))) ∧ wx.heap[b5]? = some (.cells #[.bool s.1.has, .string s.1.name, .slice Aa s.1.alpn.length ca, .slice Av s.1.vers.length cv, .bool s.1.ech] 65 (0, 0)) ∧ IsSn (fun k => k = w.heap.size ∨ b5 ≤ k) wx (.agg #[.bool s.1.has, .string s.1.name, .slice Aa s.1.alpn.length ca, .slice Av s.1.vers.length cv, .bool s.1.ech]) s.1 ∧ Stp (fun _ => False) w wx)
  case first =>
    have hcy := ((Stp.refl (fun _ => False) w6).alloc (.cells #[.int .i64 kind, .slice Ad d.length cd] 70)).cell hc37 id
    refine wp_region_held_drew (S := (fun _ => True)) (by kernel_rfl) (trivial) (fun hHeld => ?_)
    try (change wpAnyH _ _ _ _ _ _ _ _ (World.drew _))
    refine rg_take (i := 0) (o := { dst := some 65, op := Op.move (Operand.tmp 13), type := 60, pos := "law.go:144", after := #[], guard := none }) (v := ?rgv1) rfl (by kernel_rfl) (by kernel_rfl) (by kernel_rfl) (fun _ _ _ h => h) (by rfl) (fun w hSw => ?rgy1) hHeld ?_
    case rgy1 => (try dsimp only at hSw); first | (go_simp; done) | (go_simp; with_reducible rfl)
    try simp only [Act.put, List.setIfInBounds_toArray, List.set_cons_zero, List.set_cons_succ]
    refine rg_take (i := 1) (o := { dst := some 66, op := Op.move (Operand.tmp 1), type := 3, pos := "law.go:144", after := #[], guard := none }) (v := ?rgv2) rfl (by kernel_rfl) (by kernel_rfl) (by kernel_rfl) (fun _ _ _ h => h) (by rfl) (fun w hSw => ?rgy2) hHeld ?_
    case rgy2 => (try dsimp only at hSw); first | (go_simp; done) | (go_simp; with_reducible rfl)
    try simp only [Act.put, List.setIfInBounds_toArray, List.set_cons_zero, List.set_cons_succ]
    refine rg_take (i := 2) (o := { dst := some 67, op := Op.move (Operand.tmp 2), type := 22, pos := "law.go:144", after := #[], guard := none }) (v := ?rgv3) rfl (by kernel_rfl) (by kernel_rfl) (by kernel_rfl) (fun _ _ _ h => h) (by rfl) (fun w hSw => ?rgy3) hHeld ?_
    case rgy3 => (try dsimp only at hSw); first | (go_simp; done) | (go_simp; with_reducible rfl)
    try simp only [Act.put, List.setIfInBounds_toArray, List.set_cons_zero, List.set_cons_succ]
    refine rg_take (i := 3) (o := { dst := some 68, op := Op.build 70 #[(0, Operand.tmp 66), (1, Operand.tmp 67)], type := 70, pos := "law.go:144", after := #[{ on := 1, ground := Ground.data }, { on := 2, ground := Ground.data }], guard := none }) (v := ?rgv4) rfl (by kernel_rfl) (by kernel_rfl) (by kernel_rfl) (fun _ _ _ h => h) (by rfl) (fun w hSw => ?rgy4) hHeld ?_
    case rgy4 => (try dsimp only at hSw); first | (go_simp; done) | (go_simp; with_reducible rfl)
    try simp only [Act.put, List.setIfInBounds_toArray, List.set_cons_zero, List.set_cons_succ]
    refine rg_take (i := 6) (o := { dst := some 71, op := Op.fieldAddr 62 (Operand.tmp 4) 6, type := 0, pos := "law.go:144", after := #[], guard := none }) (v := ?rgv5) rfl (by kernel_rfl) (by kernel_rfl) (by kernel_rfl) (fun _ _ _ h => h) (by rfl) (fun w hSw => ?rgy5) hHeld ?_
    case rgy5 => (try dsimp only at hSw); first | (go_simp; done) | (go_simp; with_reducible rfl)
    try simp only [Act.put, List.setIfInBounds_toArray, List.set_cons_zero, List.set_cons_succ]
    refine rg_take (i := 8) (o := { dst := some 73, op := Op.move (Operand.tmp 3), type := 3, pos := "law.go:144", after := #[], guard := none }) (v := ?rgv6) rfl (by kernel_rfl) (by kernel_rfl) (by kernel_rfl) (fun _ _ _ h => h) (by rfl) (fun w hSw => ?rgy6) hHeld ?_
    case rgy6 => (try dsimp only at hSw); first | (go_simp; done) | (go_simp; with_reducible rfl)
    try simp only [Act.put, List.setIfInBounds_toArray, List.set_cons_zero, List.set_cons_succ]
    refine wpAnyH_ready (rs := [4, 7]) (by kernel_rfl) (by simp) ?_
    refine (AllReadyH.cons (o := { dst := some 69, op := Op.buildSlice 60 1 #[(0, Operand.tmp 68)], type := 60, pos := "law.go:144", after := #[{ on := 3, ground := Ground.data }], guard := none }) rfl (fun K hK => ?_) (AllReadyH.cons (o := { dst := some 72, op := Op.load 60 (Operand.tmp 71), type := 60, pos := "law.go:144", after := #[{ on := 6, ground := Ground.data }], guard := none }) rfl (fun K hK => ?_) AllReadyH.nil))
    · skip
      go_simp
      show K _ _
      clear hHeld
      refine hK.out _ _ (trivial) (fun hHeld => ?_)
      clear hK K
      try simp only [Act.put, List.setIfInBounds_toArray, List.set_cons_zero, List.set_cons_succ]
      refine wpAnyH_ready (rs := [5, 7]) (by kernel_rfl) (by simp) ?_
      refine (AllReadyH.cons (o := { dst := some 70, op := Op.call { callee := Callee.builtin Builtin.append, args := #[Operand.tmp 65, Operand.tmp 69], argTypes := #[60, 60] }, type := 60, pos := "law.go:144", after := #[{ on := 0, ground := Ground.data }, { on := 4, ground := Ground.data }], guard := none }) rfl (fun K hK => ?_) (AllReadyH.cons (o := { dst := some 72, op := Op.load 60 (Operand.tmp 71), type := 60, pos := "law.go:144", after := #[{ on := 6, ground := Ground.data }], guard := none }) rfl (fun K hK => ?_) AllReadyH.nil))
      · skip
        refine op_appendRdM (d := extK) (B := w4.heap.size) (ys := [(kind, d)]) _ _ _ (by rfl) Try.underlying60 info_ext (by rfl) (by decide) ((HO6.out.stp0 ((Stp.refl _ _).drew)).stp0 ((Stp.refl _ _).alloc _)) (Now.litK (W := w6.drew) [(kind, d)] #[.int .i64 kind, .slice Ad d.length cd] ⟨[_, _], [], rfl, ⟨[_], [_], rfl, rfl, _, rfl, ((HD.out.stp0 HS6.out).stp0 ((Stp.refl _ _).drew)).stp0 ((Stp.refl _ _).alloc _)⟩, rfl⟩) (fun k hk => by have := (HOWN6.out k hk).1; simp only [newB]; omega) (by rfl) (by rfl) (by simp; omega) (by simp; omega) (by simp; omega) ?_
        intro v9 w9 ho9 hg9
        have hs9 : Stp (fun k => w4.heap.size ≤ k) w6 w9 := ((((Stp.refl _ _).drew).alloc _).grown hg9 (fun k hk he => (HOWN6.out k hk).1))
        have hb9 := hs9.blk HB6.out (by omega)
        have hc39 := blk_cell (j := 37) hb9
        rw [hz37] at hc39
        have hf39 := blk_free hb9 37
        show K _ _
        clear hHeld
        refine hK.out _ _ (trivial) (fun hHeld => ?_)
        clear hK K
        try simp only [Act.put, List.setIfInBounds_toArray, List.set_cons_zero, List.set_cons_succ]
        refine wpAnyH_ready (rs := [7]) (by kernel_rfl) (by simp) ?_
        refine (AllReadyH.cons (o := { dst := some 72, op := Op.load 60 (Operand.tmp 71), type := 60, pos := "law.go:144", after := #[{ on := 6, ground := Ground.data }], guard := none }) rfl (fun K hK => ?_) AllReadyH.nil)
        go_simp
        clear hHeld
        refine hK.out _ _ (trivial) (fun hHeld => ?_)
        clear hK K
        try simp only [Act.put, List.setIfInBounds_toArray, List.set_cons_zero, List.set_cons_succ]
        refine rg_take (i := 9) (o := { dst := some 74, op := Op.slice 60 (Operand.tmp 72) (some (Operand.tmp 73)) none none, type := 60, pos := "law.go:144", after := #[{ on := 7, ground := Ground.data }, { on := 8, ground := Ground.data }], guard := none }) (v := ?rgv7) rfl (by kernel_rfl) (by kernel_rfl) (by kernel_rfl) (fun _ _ _ h => h) (by rfl) (fun w hSw => ?rgy7) hHeld ?_
        case rgy7 => (try dsimp only at hSw); first | (go_simp; done) | (go_simp; with_reducible rfl)
        try simp only [Act.put, List.setIfInBounds_toArray, List.set_cons_zero, List.set_cons_succ]
        refine wpAnyH_ready (rs := [10]) (by kernel_rfl) (by simp) ?_
        refine (AllReadyH.cons (o := { dst := some 75, op := Op.call { callee := Callee.builtin Builtin.append, args := #[Operand.tmp 70, Operand.tmp 74], argTypes := #[60, 60] }, type := 60, pos := "law.go:144", after := #[{ on := 5, ground := Ground.data }, { on := 9, ground := Ground.data }, { on := 5, ground := Ground.chain }], guard := none }) rfl (fun K hK => ?_) AllReadyH.nil)
        refine op_appendRdM (d := extK) (B := w4.heap.size) _ _ _ (by rfl) Try.underlying60 info_ext (by rfl) (by decide) ho9 (HLR.out _ _ _ (HX.out.step (HS6.out.then_ hs9 (fun k hk he => by omega)) (fun k hk he => he.elim))).now (fun k hk => by have := (ho9.lt k hk).1; simp only [newB]; omega) (by rfl) (by rfl) (by simp; omega) (by simp; omega) (by have := hs9.size; omega) ?_
        intro v10 w10 ho10 hg10
        rw [← HX'.out] at ho10
        have hs10 : Stp (fun k => w4.heap.size ≤ k) w9 w10 := (Stp.of_grown hg10).mono (fun k _ hk => (ho9.lt k hk).1)
        have hb10 := hs10.blk hb9 (by omega)
        have hc310 := blk_cell (j := 37) hb10
        rw [hz37] at hc310
        have hf310 := blk_free hb10 37
        obtain ⟨A10, c10, rfl, hle10⟩ := ho10.form
        show K _ _
        clear hHeld
        refine hK.out _ _ (trivial) (fun hHeld => ?_)
        clear hK K
        try simp only [Act.put, List.setIfInBounds_toArray, List.set_cons_zero, List.set_cons_succ]
        refine rg_take (i := 11) (o := { dst := some 76, op := Op.fieldAddr 62 (Operand.tmp 4) 6, type := 0, pos := "law.go:144", after := #[{ on := 0, ground := Ground.phase }, { on := 1, ground := Ground.phase }, { on := 2, ground := Ground.phase }, { on := 3, ground := Ground.phase }, { on := 4, ground := Ground.phase }, { on := 5, ground := Ground.phase }, { on := 6, ground := Ground.phase }, { on := 7, ground := Ground.phase }, { on := 8, ground := Ground.phase }, { on := 9, ground := Ground.phase }, { on := 10, ground := Ground.phase }], guard := none }) (v := ?rgv8) rfl (by kernel_rfl) (by kernel_rfl) (by kernel_rfl) (fun _ _ _ h => h) (by rfl) (fun w hSw => ?rgy8) hHeld ?_
        case rgy8 => (try dsimp only at hSw); first | (go_simp; done) | (go_simp; with_reducible rfl)
        try simp only [Act.put, List.setIfInBounds_toArray, List.set_cons_zero, List.set_cons_succ]
        refine wpAnyH_ready (rs := [12]) (by kernel_rfl) (by simp) ?_
        refine (AllReadyH.cons (o := { dst := none, op := Op.store 60 (Operand.tmp 76) (Operand.tmp 75), type := 0, pos := "law.go:144", after := #[{ on := 11, ground := Ground.data }, { on := 10, ground := Ground.data }, { on := 10, ground := Ground.chain }, { on := 0, ground := Ground.phase }, { on := 1, ground := Ground.phase }, { on := 2, ground := Ground.phase }, { on := 3, ground := Ground.phase }, { on := 4, ground := Ground.phase }, { on := 5, ground := Ground.phase }, { on := 6, ground := Ground.phase }, { on := 7, ground := Ground.phase }, { on := 8, ground := Ground.phase }, { on := 9, ground := Ground.phase }, { on := 10, ground := Ground.phase }], guard := none }) rfl (fun K hK => ?_) AllReadyH.nil)
        go_simp
        clear hHeld
        refine hK.out _ _ (trivial) (fun hHeld => ?_)
        clear hK K
        try simp only [Act.put, List.setIfInBounds_toArray, List.set_cons_zero, List.set_cons_succ]
        clear hHeld
        refine wpAnyH_done (by kernel_rfl) ?_ _
        go_wp2_with fail
        go_meet
        have hs11 := (Stp.refl (fun k => k = w.heap.size) w10).setCell (p := ⟨w.heap.size, 37, none⟩) (fun _ => rfl) (.slice A10 X.length c10)
        have hs96 := hs9.trans hs10
        have hsA := HS6.out.then_ (hs96.mono (T := fun k => w4.heap.size ≤ k) (fun _ _ h => h)) (fun k hk he => by omega)
        refine ⟨⟨A10, c10, (ho10.rd (M' := fun k => k = w.heap.size) (fun k hk h => by simp only [newB]; omega) (fun k hk h => by have := (ho10.lt k hk).1; omega)).stp hs11, blk_set hb10 37 _⟩, hs11.blk (hs10.blk (hs9.blk HB6'.out (by omega)) (by omega)) (by omega), ((HV6.out.step hs9 (fun k hk he => by omega)).step hs10 (fun k hk he => by omega)).step hs11 (fun k hk he => .inl he), Stp.then_ (T := fun k => k = w.heap.size) hsA hs11 (fun k hk he => by omega)⟩
      · skip
        go_simp
        clear hHeld
        refine hK.out _ _ (trivial) (fun hHeld => ?_)
        clear hK K
        try simp only [Act.put, List.setIfInBounds_toArray, List.set_cons_zero, List.set_cons_succ]
        refine rg_take (i := 9) (o := { dst := some 74, op := Op.slice 60 (Operand.tmp 72) (some (Operand.tmp 73)) none none, type := 60, pos := "law.go:144", after := #[{ on := 7, ground := Ground.data }, { on := 8, ground := Ground.data }], guard := none }) (v := ?rgv9) rfl (by kernel_rfl) (by kernel_rfl) (by kernel_rfl) (fun _ _ _ h => h) (by rfl) (fun w hSw => ?rgy9) hHeld ?_
        case rgy9 => (try dsimp only at hSw); first | (go_simp; done) | (go_simp; with_reducible rfl)
        try simp only [Act.put, List.setIfInBounds_toArray, List.set_cons_zero, List.set_cons_succ]
        refine wpAnyH_ready (rs := [5]) (by kernel_rfl) (by simp) ?_
        refine (AllReadyH.cons (o := { dst := some 70, op := Op.call { callee := Callee.builtin Builtin.append, args := #[Operand.tmp 65, Operand.tmp 69], argTypes := #[60, 60] }, type := 60, pos := "law.go:144", after := #[{ on := 0, ground := Ground.data }, { on := 4, ground := Ground.data }], guard := none }) rfl (fun K hK => ?_) AllReadyH.nil)
        refine op_appendRdM (d := extK) (B := w4.heap.size) (ys := [(kind, d)]) _ _ _ (by rfl) Try.underlying60 info_ext (by rfl) (by decide) ((HO6.out.stp0 ((Stp.refl _ _).drew)).stp0 ((Stp.refl _ _).alloc _)) (Now.litK (W := w6.drew) [(kind, d)] #[.int .i64 kind, .slice Ad d.length cd] ⟨[_, _], [], rfl, ⟨[_], [_], rfl, rfl, _, rfl, ((HD.out.stp0 HS6.out).stp0 ((Stp.refl _ _).drew)).stp0 ((Stp.refl _ _).alloc _)⟩, rfl⟩) (fun k hk => by have := (HOWN6.out k hk).1; simp only [newB]; omega) (by rfl) (by rfl) (by simp; omega) (by simp; omega) (by simp; omega) ?_
        intro v9 w9 ho9 hg9
        have hs9 : Stp (fun k => w4.heap.size ≤ k) w6 w9 := ((((Stp.refl _ _).drew).alloc _).grown hg9 (fun k hk he => (HOWN6.out k hk).1))
        have hb9 := hs9.blk HB6.out (by omega)
        have hc39 := blk_cell (j := 37) hb9
        rw [hz37] at hc39
        have hf39 := blk_free hb9 37
        show K _ _
        clear hHeld
        refine hK.out _ _ (trivial) (fun hHeld => ?_)
        clear hK K
        try simp only [Act.put, List.setIfInBounds_toArray, List.set_cons_zero, List.set_cons_succ]
        refine wpAnyH_ready (rs := [10]) (by kernel_rfl) (by simp) ?_
        refine (AllReadyH.cons (o := { dst := some 75, op := Op.call { callee := Callee.builtin Builtin.append, args := #[Operand.tmp 70, Operand.tmp 74], argTypes := #[60, 60] }, type := 60, pos := "law.go:144", after := #[{ on := 5, ground := Ground.data }, { on := 9, ground := Ground.data }, { on := 5, ground := Ground.chain }], guard := none }) rfl (fun K hK => ?_) AllReadyH.nil)
        refine op_appendRdM (d := extK) (B := w4.heap.size) _ _ _ (by rfl) Try.underlying60 info_ext (by rfl) (by decide) ho9 (HLR.out _ _ _ (HX.out.step (HS6.out.then_ hs9 (fun k hk he => by omega)) (fun k hk he => he.elim))).now (fun k hk => by have := (ho9.lt k hk).1; simp only [newB]; omega) (by rfl) (by rfl) (by simp; omega) (by simp; omega) (by have := hs9.size; omega) ?_
        intro v10 w10 ho10 hg10
        rw [← HX'.out] at ho10
        have hs10 : Stp (fun k => w4.heap.size ≤ k) w9 w10 := (Stp.of_grown hg10).mono (fun k _ hk => (ho9.lt k hk).1)
        have hb10 := hs10.blk hb9 (by omega)
        have hc310 := blk_cell (j := 37) hb10
        rw [hz37] at hc310
        have hf310 := blk_free hb10 37
        obtain ⟨A10, c10, rfl, hle10⟩ := ho10.form
        show K _ _
        clear hHeld
        refine hK.out _ _ (trivial) (fun hHeld => ?_)
        clear hK K
        try simp only [Act.put, List.setIfInBounds_toArray, List.set_cons_zero, List.set_cons_succ]
        refine rg_take (i := 11) (o := { dst := some 76, op := Op.fieldAddr 62 (Operand.tmp 4) 6, type := 0, pos := "law.go:144", after := #[{ on := 0, ground := Ground.phase }, { on := 1, ground := Ground.phase }, { on := 2, ground := Ground.phase }, { on := 3, ground := Ground.phase }, { on := 4, ground := Ground.phase }, { on := 5, ground := Ground.phase }, { on := 6, ground := Ground.phase }, { on := 7, ground := Ground.phase }, { on := 8, ground := Ground.phase }, { on := 9, ground := Ground.phase }, { on := 10, ground := Ground.phase }], guard := none }) (v := ?rgv10) rfl (by kernel_rfl) (by kernel_rfl) (by kernel_rfl) (fun _ _ _ h => h) (by rfl) (fun w hSw => ?rgy10) hHeld ?_
        case rgy10 => (try dsimp only at hSw); first | (go_simp; done) | (go_simp; with_reducible rfl)
        try simp only [Act.put, List.setIfInBounds_toArray, List.set_cons_zero, List.set_cons_succ]
        refine wpAnyH_ready (rs := [12]) (by kernel_rfl) (by simp) ?_
        refine (AllReadyH.cons (o := { dst := none, op := Op.store 60 (Operand.tmp 76) (Operand.tmp 75), type := 0, pos := "law.go:144", after := #[{ on := 11, ground := Ground.data }, { on := 10, ground := Ground.data }, { on := 10, ground := Ground.chain }, { on := 0, ground := Ground.phase }, { on := 1, ground := Ground.phase }, { on := 2, ground := Ground.phase }, { on := 3, ground := Ground.phase }, { on := 4, ground := Ground.phase }, { on := 5, ground := Ground.phase }, { on := 6, ground := Ground.phase }, { on := 7, ground := Ground.phase }, { on := 8, ground := Ground.phase }, { on := 9, ground := Ground.phase }, { on := 10, ground := Ground.phase }], guard := none }) rfl (fun K hK => ?_) AllReadyH.nil)
        go_simp
        clear hHeld
        refine hK.out _ _ (trivial) (fun hHeld => ?_)
        clear hK K
        try simp only [Act.put, List.setIfInBounds_toArray, List.set_cons_zero, List.set_cons_succ]
        clear hHeld
        refine wpAnyH_done (by kernel_rfl) ?_ _
        go_wp2_with fail
        go_meet
        have hs11 := (Stp.refl (fun k => k = w.heap.size) w10).setCell (p := ⟨w.heap.size, 37, none⟩) (fun _ => rfl) (.slice A10 X.length c10)
        have hs96 := hs9.trans hs10
        have hsA := HS6.out.then_ (hs96.mono (T := fun k => w4.heap.size ≤ k) (fun _ _ h => h)) (fun k hk he => by omega)
        refine ⟨⟨A10, c10, (ho10.rd (M' := fun k => k = w.heap.size) (fun k hk h => by simp only [newB]; omega) (fun k hk h => by have := (ho10.lt k hk).1; omega)).stp hs11, blk_set hb10 37 _⟩, hs11.blk (hs10.blk (hs9.blk HB6'.out (by omega)) (by omega)) (by omega), ((HV6.out.step hs9 (fun k hk he => by omega)).step hs10 (fun k hk he => by omega)).step hs11 (fun k hk he => .inl he), Stp.then_ (T := fun k => k = w.heap.size) hsA hs11 (fun k hk he => by omega)⟩
    · skip
      go_simp
      clear hHeld
      refine hK.out _ _ (trivial) (fun hHeld => ?_)
      clear hK K
      try simp only [Act.put, List.setIfInBounds_toArray, List.set_cons_zero, List.set_cons_succ]
      refine rg_take (i := 9) (o := { dst := some 74, op := Op.slice 60 (Operand.tmp 72) (some (Operand.tmp 73)) none none, type := 60, pos := "law.go:144", after := #[{ on := 7, ground := Ground.data }, { on := 8, ground := Ground.data }], guard := none }) (v := ?rgv11) rfl (by kernel_rfl) (by kernel_rfl) (by kernel_rfl) (fun _ _ _ h => h) (by rfl) (fun w hSw => ?rgy11) hHeld ?_
      case rgy11 => (try dsimp only at hSw); first | (go_simp; done) | (go_simp; with_reducible rfl)
      try simp only [Act.put, List.setIfInBounds_toArray, List.set_cons_zero, List.set_cons_succ]
      refine wpAnyH_ready (rs := [4]) (by kernel_rfl) (by simp) ?_
      refine (AllReadyH.cons (o := { dst := some 69, op := Op.buildSlice 60 1 #[(0, Operand.tmp 68)], type := 60, pos := "law.go:144", after := #[{ on := 3, ground := Ground.data }], guard := none }) rfl (fun K hK => ?_) AllReadyH.nil)
      go_simp
      show K _ _
      clear hHeld
      refine hK.out _ _ (trivial) (fun hHeld => ?_)
      clear hK K
      try simp only [Act.put, List.setIfInBounds_toArray, List.set_cons_zero, List.set_cons_succ]
      refine wpAnyH_ready (rs := [5]) (by kernel_rfl) (by simp) ?_
      refine (AllReadyH.cons (o := { dst := some 70, op := Op.call { callee := Callee.builtin Builtin.append, args := #[Operand.tmp 65, Operand.tmp 69], argTypes := #[60, 60] }, type := 60, pos := "law.go:144", after := #[{ on := 0, ground := Ground.data }, { on := 4, ground := Ground.data }], guard := none }) rfl (fun K hK => ?_) AllReadyH.nil)
      refine op_appendRdM (d := extK) (B := w4.heap.size) (ys := [(kind, d)]) _ _ _ (by rfl) Try.underlying60 info_ext (by rfl) (by decide) ((HO6.out.stp0 ((Stp.refl _ _).drew)).stp0 ((Stp.refl _ _).alloc _)) (Now.litK (W := w6.drew) [(kind, d)] #[.int .i64 kind, .slice Ad d.length cd] ⟨[_, _], [], rfl, ⟨[_], [_], rfl, rfl, _, rfl, ((HD.out.stp0 HS6.out).stp0 ((Stp.refl _ _).drew)).stp0 ((Stp.refl _ _).alloc _)⟩, rfl⟩) (fun k hk => by have := (HOWN6.out k hk).1; simp only [newB]; omega) (by rfl) (by rfl) (by simp; omega) (by simp; omega) (by simp; omega) ?_
      intro v9 w9 ho9 hg9
      have hs9 : Stp (fun k => w4.heap.size ≤ k) w6 w9 := ((((Stp.refl _ _).drew).alloc _).grown hg9 (fun k hk he => (HOWN6.out k hk).1))
      have hb9 := hs9.blk HB6.out (by omega)
      have hc39 := blk_cell (j := 37) hb9
      rw [hz37] at hc39
      have hf39 := blk_free hb9 37
      show K _ _
      clear hHeld
      refine hK.out _ _ (trivial) (fun hHeld => ?_)
      clear hK K
      try simp only [Act.put, List.setIfInBounds_toArray, List.set_cons_zero, List.set_cons_succ]
      refine wpAnyH_ready (rs := [10]) (by kernel_rfl) (by simp) ?_
      refine (AllReadyH.cons (o := { dst := some 75, op := Op.call { callee := Callee.builtin Builtin.append, args := #[Operand.tmp 70, Operand.tmp 74], argTypes := #[60, 60] }, type := 60, pos := "law.go:144", after := #[{ on := 5, ground := Ground.data }, { on := 9, ground := Ground.data }, { on := 5, ground := Ground.chain }], guard := none }) rfl (fun K hK => ?_) AllReadyH.nil)
      refine op_appendRdM (d := extK) (B := w4.heap.size) _ _ _ (by rfl) Try.underlying60 info_ext (by rfl) (by decide) ho9 (HLR.out _ _ _ (HX.out.step (HS6.out.then_ hs9 (fun k hk he => by omega)) (fun k hk he => he.elim))).now (fun k hk => by have := (ho9.lt k hk).1; simp only [newB]; omega) (by rfl) (by rfl) (by simp; omega) (by simp; omega) (by have := hs9.size; omega) ?_
      intro v10 w10 ho10 hg10
      rw [← HX'.out] at ho10
      have hs10 : Stp (fun k => w4.heap.size ≤ k) w9 w10 := (Stp.of_grown hg10).mono (fun k _ hk => (ho9.lt k hk).1)
      have hb10 := hs10.blk hb9 (by omega)
      have hc310 := blk_cell (j := 37) hb10
      rw [hz37] at hc310
      have hf310 := blk_free hb10 37
      obtain ⟨A10, c10, rfl, hle10⟩ := ho10.form
      show K _ _
      clear hHeld
      refine hK.out _ _ (trivial) (fun hHeld => ?_)
      clear hK K
      try simp only [Act.put, List.setIfInBounds_toArray, List.set_cons_zero, List.set_cons_succ]
      refine rg_take (i := 11) (o := { dst := some 76, op := Op.fieldAddr 62 (Operand.tmp 4) 6, type := 0, pos := "law.go:144", after := #[{ on := 0, ground := Ground.phase }, { on := 1, ground := Ground.phase }, { on := 2, ground := Ground.phase }, { on := 3, ground := Ground.phase }, { on := 4, ground := Ground.phase }, { on := 5, ground := Ground.phase }, { on := 6, ground := Ground.phase }, { on := 7, ground := Ground.phase }, { on := 8, ground := Ground.phase }, { on := 9, ground := Ground.phase }, { on := 10, ground := Ground.phase }], guard := none }) (v := ?rgv12) rfl (by kernel_rfl) (by kernel_rfl) (by kernel_rfl) (fun _ _ _ h => h) (by rfl) (fun w hSw => ?rgy12) hHeld ?_
      case rgy12 => (try dsimp only at hSw); first | (go_simp; done) | (go_simp; with_reducible rfl)
      try simp only [Act.put, List.setIfInBounds_toArray, List.set_cons_zero, List.set_cons_succ]
      refine wpAnyH_ready (rs := [12]) (by kernel_rfl) (by simp) ?_
      refine (AllReadyH.cons (o := { dst := none, op := Op.store 60 (Operand.tmp 76) (Operand.tmp 75), type := 0, pos := "law.go:144", after := #[{ on := 11, ground := Ground.data }, { on := 10, ground := Ground.data }, { on := 10, ground := Ground.chain }, { on := 0, ground := Ground.phase }, { on := 1, ground := Ground.phase }, { on := 2, ground := Ground.phase }, { on := 3, ground := Ground.phase }, { on := 4, ground := Ground.phase }, { on := 5, ground := Ground.phase }, { on := 6, ground := Ground.phase }, { on := 7, ground := Ground.phase }, { on := 8, ground := Ground.phase }, { on := 9, ground := Ground.phase }, { on := 10, ground := Ground.phase }], guard := none }) rfl (fun K hK => ?_) AllReadyH.nil)
      go_simp
      clear hHeld
      refine hK.out _ _ (trivial) (fun hHeld => ?_)
      clear hK K
      try simp only [Act.put, List.setIfInBounds_toArray, List.set_cons_zero, List.set_cons_succ]
      clear hHeld
      refine wpAnyH_done (by kernel_rfl) ?_ _
      go_wp2_with fail
      go_meet
      have hs11 := (Stp.refl (fun k => k = w.heap.size) w10).setCell (p := ⟨w.heap.size, 37, none⟩) (fun _ => rfl) (.slice A10 X.length c10)
      have hs96 := hs9.trans hs10
      have hsA := HS6.out.then_ (hs96.mono (T := fun k => w4.heap.size ≤ k) (fun _ _ h => h)) (fun k hk he => by omega)
      refine ⟨⟨A10, c10, (ho10.rd (M' := fun k => k = w.heap.size) (fun k hk h => by simp only [newB]; omega) (fun k hk h => by have := (ho10.lt k hk).1; omega)).stp hs11, blk_set hb10 37 _⟩, hs11.blk (hs10.blk (hs9.blk HB6'.out (by omega)) (by omega)) (by omega), ((HV6.out.step hs9 (fun k hk he => by omega)).step hs10 (fun k hk he => by omega)).step hs11 (fun k hk he => .inl he), Stp.then_ (T := fun k => k = w.heap.size) hsA hs11 (fun k hk he => by omega)⟩
  case rest =>
    clear hc37 hf37 HB6 HB6' HOWN6 HO6 HV6 HS6 HS5 HO5 HB5 HB5' HV3 HS3 HB3
    obtain ⟨⟨A9, c9, hr9, hq0⟩, hq5, hsn, hs⟩ := hcut
    have hxd : ∀ x ∈ X, x.2.length ≤ 5000 := by
      rw [HX'.out]
      intro x hx
      rcases List.mem_append.1 hx with hx | hx
      · rcases List.mem_append.1 hx with hx | hx
        · exact HDL.out x (List.mem_of_mem_take hx)
        · rw [List.mem_singleton.1 hx]
          simp only
          omega
      · exact HDL.out x (List.mem_of_mem_drop hx)
    obtain ⟨cs', hcs'⟩ : ∃ cs', cs' = cs.setIfInBounds 37 (.slice A9 X.length c9) := ⟨_, rfl⟩
    rw [← hcs'] at hq0
    have hz' : cs'.size = 38 := by rw [hcs']; simp [hcs]
    have hc' : ∀ h : 37 < cs'.size, cs'[37] = .slice A9 X.length c9 := by subst hcs'; intro h; simp
    clear hcs'
    have HR9 := Lib.hid hr9
    have HQ0 := Lib.hid hq0
    have HQ5 := Lib.hid hq5
    have HSN := Lib.hid hsn
    have HS := Lib.hid hs
    have HXD := Lib.hid hxd
    have HC' := Lib.hid hc'
    clear hr9 hq0 hq5 hsn hs hxd hc'
    go_wp2_with (with_reducible refine stop (N := 78) rfl ?_)
    refine Stop.go ?_
    refine wpList_load_row rfl _ _ rfl w.heap.size rfl _ cs' (0, 0) _ HQ0.out Try.underlying62 rfl (by rw [hz']; kernel_rfl) ?_
    go_wp2_with (go_at_call 47; refine stopc ?_)
    refine Stop.go ?_
    refine (see_any _ cs' A9 c9 X _ hz' HC'.out HR9.out (by omega) (fun x hx => Nat.le_trans (HXD.out x hx) (by decide))).mono ?_
    rw [HI.out, ← HSS.out]
    rintro e w7 ⟨v7, rfl, hv7, hs7⟩
    have hq5 := hs7.blk HQ5.out id
    have HS7 := Lib.hid (HS.out.trans hs7)
    have HV7 := Lib.hid (hv7.weak (fun _ => False) (fun _ _ h => h.elim))
    have HV6 := Lib.hid ((HSN.out.weak (fun _ => False) (fun _ _ h => h.elim)).stp0 hs7)
    obtain ⟨va, vv, rfl, ha, hv⟩ := hv7
    obtain ⟨Ab, cb, rfl, _⟩ := ha.form
    obtain ⟨Aw, cw, rfl, _⟩ := hv.form
    have hq5 := ((Stp.refl (fun _ => False) w7).alloc (.cells #[.bool s.1.has, .string s.1.name, .slice Ab s.1.alpn.length cb, .slice Aw s.1.vers.length cw, .bool s.1.ech] 65)).blk hq5 id
    have hc0 := blk_cell (j := 0) hq5
    have hc1 := blk_cell (j := 1) hq5
    have hc2 := blk_cell (j := 2) hq5
    have hc3 := blk_cell (j := 3) hq5
    have hc4 := blk_cell (j := 4) hq5
    clear ha hv hs7 hq5
    go_wp2_with (go_at_call 49; refine stopc ?_)
    refine Stop.go ?_
    refine (same_any (fun _ => False) _ _ s.1 s.1 _ (HV6.out.stp0 ((Stp.refl _ _).alloc _)) (HV7.out.stp0 ((Stp.refl _ _).alloc _)) ⟨by omega, by omega⟩ ⟨by omega, by omega⟩ true (iff_t rfl)).mono ?_
    rintro e w8 ⟨rfl, hs2⟩
    have HS8 := Lib.hid ((HS7.out.alloc _).trans hs2)
    clear hs2
    go_wp2
    go_ret
    exact ⟨rfl, HS8.out⟩
end Go.Proofs.Ytdmcmfjhlpnaeaa.L
