/- Texts of the proof, joined: Vb. -/
import Derived.Test.YtligofmhbbgalaaGreatDoorG12
import Derived.Test.YtligofmhbbgalaaGreatDoorG08
set_option linter.unusedVariables false
set_option linter.unusedSimpArgs false
/- Layer 3: dotted: four numbers with points between. -/
namespace Go.Proofs.YtligofmhbbgalaaGreatDoor.L
open Go.RowKit Go.Proofs

def DotP (w : World) (l : List UInt8) (e : Ending) (w' : World) : Prop :=
  ∃ d : List UInt8, e = .returned (.tuple #[.agg (cellsA d), .bool (dotS l).isSome]) ∧ d.length = 4 ∧ (∀ d', dotS l = some d' → d' = d) ∧ Stp (fun _ => False) w w'
theorem octS_some {x : List UInt8} {n : Int} (h : numS x 255 = (n, true)) : ∃ c : UInt8, n = (c.toNat : Int) ∧ octS x = some c := by
  obtain ⟨m, hm, hle⟩ := numS_pos x 255 (by rw [h])
  rw [h] at hm
  simp only at hm
  refine ⟨UInt8.ofNat m, ?_, ?_⟩
  · rw [hm, UInt8.toNat_ofNat_of_lt' (by have : UInt8.size = 256 := rfl; omega)]
  · unfold octS
    rw [h, if_pos rfl, hm]
    rfl
theorem octS_none {x : List UInt8} {n : Int} (h : numS x 255 = (n, false)) : octS x = none := by
  unfold octS
  rw [h, if_neg (by simp)]
theorem put_at (bs : List UInt8) (k : Nat) (hk : bs.length = k) (n : Nat) (hn : 0 < n) (c : UInt8) : (bs ++ zerosL n).set k c = (bs ++ [c]) ++ zerosL (n - 1) := by
  obtain ⟨m, rfl⟩ : ∃ m, n = m + 1 := ⟨n - 1, by omega⟩
  rw [List.set_append_right _ _ (by omega), hk, Nat.sub_self]
  unfold zerosL
  rw [List.replicate_succ, List.set_cons_zero, Nat.add_sub_cancel]
  simp

set_option maxRecDepth 100000 in
set_option maxHeartbeats 4000000 in
theorem dotted_any (s : ByteArray) (w : World) (hs : s.size < 4294967281) (hm : MaxL w) : Calls Tryz.prog 65 #[.string s] w (DotP w s.data.toList) := by
  obtain ⟨R, hR⟩ : ∃ R, R = DotP w s.data.toList := ⟨_, rfl⟩
  rw [← hR]
  obtain ⟨X, hX, cs⟩ := splitc_call 46 s hs
  have HR := Lib.hid hR
  have HX := Lib.hid hX
  have HL : Hid (X.length = (splitC 46 s.data.toList).length) := Lib.hid (by rw [← hX, List.length_map])
  have HM := Lib.hid hm
  have HZ : Hid (∀ x ∈ X, x.size ≤ s.size) := Lib.hid (fun x hx => by
    have := splitc_le 46 s.data.toList x.data.toList (by rw [← hX]; exact List.mem_map_of_mem hx)
    simpa using this)
  clear hR hX hm
  go_enter Tryz.func65, Tryz.ntmps65
  go_wp2_with (go_at_call 41; refine stopc ?_)
  refine Stop.go ?_
  refine (cs _ (HM.out.step (((Stp.refl _ w).alloc _).alloc _))).mono ?_
  rintro e w1 ⟨G, rfl, hG, hs1, hb1⟩
  have HG : Hid (w.heap.size + 2 ≤ G) := Lib.hid (by simpa using hG)
  clear hG
  have HB1 := Lib.hid hb1
  have HA0 := Lib.hid ((arr_new w w.heap.size 107 (zerosL 4) rfl).alloc (.cells (cellsA (zerosL 4)) 107) |>.step hs1 id)
  have HA1 := Lib.hid ((arr_new (w.alloc (.cells (cellsA (zerosL 4)) 107)) (w.heap.size + 1) 107 (zerosL 4) (by simp)).step hs1 id)
  have HS := Lib.hid (((((Stp.refl (fun _ => False) w).alloc _).alloc _)).trans hs1)
  clear hs1 hb1
  by_cases h4 : X.length = 4
  · skip
    have hd : ((X.length : Int) != 4) = false := by simp; omega
    have HD : Hid (dotS s.data.toList = octsA [] (splitC 46 s.data.toList)) := Lib.hid (by unfold dotS; rw [if_pos (by rw [← HL.out]; exact h4)])
    go_wp2
    go_loopg [18] 4 (fun gf i wx => ∃ (k : Nat) (bs : List UInt8), k + gf = 4 ∧ i = .int .i64 k ∧ bs.length = k ∧ octsA [] (splitC 46 s.data.toList) = octsA bs ((splitC 46 s.data.toList).drop k) ∧ Arr w.heap.size 107 (zerosL 4) wx ∧ Arr (w.heap.size + 1) 107 (bs ++ zerosL (4 - k)) wx ∧ wx.heap[G]? = some (.cells (X.map Value.string).toArray 9 (0, 0)) ∧ Stp (fun _ => False) w wx)
    case atStart => exact ⟨0, [], rfl, rfl, rfl, rfl, HA0.out, HA1.out, HB1.out, HS.out⟩
    case round =>
      obtain ⟨k, bs, hk, rfl, hbl, ho, ha0, ha1, hb, hst⟩ := hrel
      have HO := Lib.hid ho
      have HA0' := Lib.hid ha0
      have HA1' := Lib.hid ha1
      have HB := Lib.hid hb
      have HST := Lib.hid hst
      have HBL := Lib.hid hbl
      clear ho ha0 ha1 hb hst hbl HA0 HA1 HB1 HS
      by_cases hlt : k < 4
      · obtain ⟨gk', rfl⟩ : ∃ gk', gk = gk' + 1 := ⟨gk - 1, by omega⟩
        have hl2 : (k : Int) < (X.length : Int) := by omega
        obtain ⟨x, hx⟩ : ∃ x, X[k]? = some x := ⟨_, List.getElem?_eq_getElem (by omega)⟩
        have hc : wr.cell? ⟨G, k, none⟩ = some (.string x) := by rw [blk_cell HB.out]; simp [hx]
        have hxs : x.size ≤ s.size := HZ.out x (List.mem_of_getElem? hx)
        have HDR : Hid ((splitC 46 s.data.toList).drop k = x.data.toList :: (splitC 46 s.data.toList).drop (k + 1)) := Lib.hid (by
          have hk2 : k < (splitC 46 s.data.toList).length := by rw [← HL.out]; omega
          rw [List.drop_eq_getElem_cons hk2]
          congr 1
          have : (splitC 46 s.data.toList)[k]? = some x.data.toList := by rw [← HX.out, List.getElem?_map, hx]; rfl
          exact (List.getElem?_eq_some_iff.1 this).2)
        have cn := fun W => number_any x 255 W (by omega)
        obtain ⟨n, b, hn⟩ : ∃ n b, numS x.data.toList 255 = (n, b) := ⟨_, _, rfl⟩
        rw [hn] at cn
        clear hx
        cases b with
        | false =>
          have HN := Lib.hid (octS_none hn)
          clear hn
          go_wp2_with (go_at_call 105; refine stopc ?_)
          refine Stop.go ?_
          refine (cn _).mono ?_
          rintro e w2 ⟨rfl, hs2⟩
          have HA2 := Lib.hid (HA1'.out.step hs2 id)
          have HA3 := Lib.hid (HA0'.out.step hs2 id)
          have HS2 := Lib.hid (HST.out.trans hs2)
          have hl4 : (bs ++ zerosL (4 - k)).length = 4 := by have := HBL.out; simp [zerosL]; omega
          clear hs2
          go_wp2_with (with_reducible refine stop (N := 30) rfl ?_)
          refine Stop.go ?_
          refine wp_loadA rfl _ _ rfl rfl HA2.out Tryz.underlying107 size_four hl4 ?_
          refine wp_storeA rfl _ _ _ rfl rfl rfl HA3.out size_four hl4 rfl ?_
          intro w3 hA3 hs3
          have HA4 := Lib.hid hA3
          have HS3 := Lib.hid (HS2.out.then_ hs3 (fun k hk h => absurd h (by omega)))
          have HN2 : Hid (dotS s.data.toList = none) := Lib.hid (by rw [HD.out, HO.out, HDR.out, octsA, HN.out])
          clear hA3 hs3
          go_wp2
          refine bodyPost_ret (results_row_tmp rfl _ _ w.heap.size _ _ _ _ rfl HA4.out Tryz.underlying107 rfl (by rw [cellsA_size, hl4]; exact size_four)) rfl ?_
          rw [HR.out]
          unfold DotP
          rw [HN2.out]
          exact ⟨_, rfl, hl4, (fun d' h => by cases h), HS3.out⟩
        | true =>
          obtain ⟨c, rfl, hcs⟩ := octS_some hn
          have HN := Lib.hid hcs
          clear hn hcs
          have hw : IntKind.u8.wrap (c.toNat : Int) = (c.toNat : Int) := IntWalk.u8_in _ (by have := UInt8.toNat_lt c; omega)
          go_wp2_with (go_at_call 105; refine stopc ?_)
          refine Stop.go ?_
          refine (cn _).mono ?_
          rintro e w2 ⟨rfl, hs2⟩
          have HA2 := Lib.hid (HA1'.out.step hs2 id)
          have HA3 := Lib.hid (HA0'.out.step hs2 id)
          have HB2 := Lib.hid (hs2.blk HB.out id)
          have HS2 := Lib.hid (HST.out.trans hs2)
          have hl4 : k < (bs ++ zerosL (4 - k)).length := by have := HBL.out; simp [zerosL]; omega
          have hc2 : w2.cell? ⟨w.heap.size + 1, k, none⟩ = some (enc8 (bs ++ zerosL (4 - k))[k]) := HA2.out.cell k hl4
          have hf2 : w2.frozen? ⟨w.heap.size + 1, k, none⟩ = false := HA2.out.free k
          have hk4 : (k : Int) < 4 := by omega
          clear hs2
          go_wp2
          go_roundg gk'
          case measure => omega
          case rel =>
            have e1 := HA2.out.set_ k c
            rw [put_at bs k HBL.out (4 - k) (by omega) c, show 4 - k - 1 = 4 - (k + 1) by omega] at e1
            refine ⟨k + 1, bs ++ [c], by omega, by go_num, by simp [HBL.out], ?_, ?_, e1, ?_, ?_⟩
            · rw [HO.out, HDR.out, octsA, HN.out]
            · exact HA3.out.step ((Stp.refl (fun j => j = w.heap.size + 1) w2).setg k _) (by omega)
            · exact ((Stp.refl (fun j => j = w.heap.size + 1) w2).setg k _).blk HB2.out (by have := HG.out; omega)
            · exact HS2.out.setCell (fun h => absurd h (by simp)) _
      · obtain rfl : k = 4 := by omega
        have hbl := HBL.out
        have HA2 := Lib.hid HA1'.out
        rw [show 4 - 4 = 0 from rfl, show zerosL 0 = [] from rfl, List.append_nil] at HA2
        have HN2 : Hid (dotS s.data.toList = some bs) := Lib.hid (by rw [HD.out, HO.out, List.drop_eq_nil_of_le (by rw [← HL.out]; omega), octsA])
        go_wp2_with (with_reducible refine stop (N := 36) rfl ?_)
        refine Stop.go ?_
        refine wp_loadA rfl _ _ rfl rfl HA2.out Tryz.underlying107 size_four hbl ?_
        refine wp_storeA rfl _ _ _ rfl rfl rfl HA0'.out size_four hbl rfl ?_
        intro w3 hA3 hs3
        have HA4 := Lib.hid hA3
        have HS3 := Lib.hid (HST.out.then_ hs3 (fun k hk h => absurd h (by omega)))
        clear hA3 hs3
        go_wp2
        refine bodyPost_ret (results_row_tmp rfl _ _ w.heap.size _ _ _ _ rfl HA4.out Tryz.underlying107 rfl (by rw [cellsA_size, hbl]; exact size_four)) rfl ?_
        rw [HR.out]
        unfold DotP
        rw [HN2.out]
        exact ⟨bs, rfl, hbl, (fun d' h => by injection h with h; exact h.symm), HS3.out⟩
  · have hd : ((X.length : Int) != 4) = true := by simp; omega
    have HD : Hid (dotS s.data.toList = none) := Lib.hid (by unfold dotS; rw [if_neg (by rw [← HL.out]; exact h4)])
    go_wp2_with (with_reducible refine stop (N := 15) rfl ?_)
    refine Stop.go ?_
    refine wp_loadA rfl _ _ rfl rfl HA1.out Tryz.underlying107 size_four rfl ?_
    refine wp_storeA rfl _ _ _ rfl rfl rfl HA0.out size_four rfl rfl ?_
    intro w2 hA2 hs2
    have HA2 := Lib.hid hA2
    have HS2 := Lib.hid (HS.out.then_ hs2 (fun k hk h => absurd h (by omega)))
    clear hA2 hs2
    go_wp2
    refine bodyPost_ret (results_row_tmp rfl _ _ w.heap.size _ _ _ _ rfl HA2.out Tryz.underlying107 rfl (by rw [cellsA_size]; exact size_four)) rfl ?_
    rw [HR.out]
    unfold DotP
    rw [HD.out]
    exact ⟨zerosL 4, rfl, rfl, (fun d' h => by cases h), HS2.out⟩
end Go.Proofs.YtligofmhbbgalaaGreatDoor.L

/-! Layer 3: rows of groups. -/
namespace Go.Proofs.YtligofmhbbgalaaGreatDoor.L
open Go.RowKit Go.Proofs

theorem hexS_lt {l : List UInt8} {n : Int} (h : hexS l = (n, true)) : ∃ m : Nat, n = m ∧ m < 65536 := by
  unfold hexS at h
  split at h
  · cases h
  · rename_i hl
    rw [not_or] at hl
    split at h
    · rename_i m hm
      injection h with h1 h2
      refine ⟨m, h1.symm, ?_⟩
      have := hexFrom_lt l l.length m (by rw [List.take_length]; exact hm)
      have h3 : 16 ^ l.length ≤ 16 ^ 4 := Nat.pow_le_pow_right (by decide) (by omega)
      have h4 : 16 ^ 4 = 65536 := rfl
      omega
    · cases h
def ReadP (w : World) (may : Bool) (l : List UInt8) (e : Ending) (w' : World) : Prop :=
  ∃ v out, e = .returned (.tuple #[v, .bool (readS may l).isSome]) ∧ Own enc8 5 w.heap.size w' v out ∧ (∀ o, readS may l = some o → o = out) ∧ out.length ≤ 4 * (l.length + 1) ∧ Stp (fun _ => False) w w'

set_option maxRecDepth 100000 in
set_option maxHeartbeats 4000000 in
theorem read3_any (s : ByteArray) (may : Bool) (w : World) (hs : s.size < 4294967281) (hm : MaxL w) : Calls Tryz.prog 68 #[.string s, .bool may] w (ReadP w may s.data.toList) := by
  obtain ⟨R, hR⟩ : ∃ R, R = ReadP w may s.data.toList := ⟨_, rfl⟩
  rw [← hR]
  have HR := Lib.hid hR
  clear hR
  by_cases h0 : s.data.toList = []
  · have ht : (s.toList == []) = true := by rw [list_eqb]; simp [h0]
    have HD : Hid (readS may s.data.toList = some []) := Lib.hid (by rw [h0]; rfl)
    clear h0
    go_enter Tryz.func68, Tryz.ntmps68
    go_wp2
    rw [HR.out]
    unfold ReadP
    rw [HD.out]
    exact ⟨_, [], rfl, Own.nil _ _ _ _, (fun o h => by injection h with h; exact h.symm), Nat.zero_le _, Stp.refl _ _⟩
  · have ht : (s.toList == []) = false := by rw [list_eqb]; simp [h0]
    obtain ⟨X, hX, cs⟩ := splitc_call 58 s hs
    have HX := Lib.hid hX
    have HL : Hid (X.length = (splitC 58 s.data.toList).length) := Lib.hid (by rw [← hX, List.length_map])
    have HM := Lib.hid hm
    have HZ : Hid (∀ x ∈ X, x.size ≤ s.size) := Lib.hid (fun x hx => by
      have := splitc_le 58 s.data.toList x.data.toList (by rw [← hX]; exact List.mem_map_of_mem hx)
      simpa using this)
    have HD : Hid (readS may s.data.toList = grpsA may [] (splitC 58 s.data.toList)) := Lib.hid (by unfold readS; rw [if_neg h0])
    have hXl : X.length ≤ s.size + 1 := by
      rw [HL.out, splitC_len]
      have := List.count_le_length (a := (58 : UInt8)) (l := s.data.toList)
      rw [size_list] at this
      omega
    clear hX hm h0
    go_enter Tryz.func68, Tryz.ntmps68
    go_wp2_with (go_at_call 41; refine stopc ?_)
    refine Stop.go ?_
    refine (cs _ HM.out).mono ?_
    rintro e w1 ⟨G, rfl, hG, hs1, hb1⟩
    have HG := Lib.hid hG
    have HB1 := Lib.hid hb1
    have HS := Lib.hid hs1
    obtain ⟨B, hB⟩ : ∃ B, B = w1.heap.size := ⟨_, rfl⟩
    have HBG : Hid (G < B ∧ w.heap.size ≤ B) := Lib.hid (by rw [hB]; exact ⟨blk_lt hb1, hs1.size⟩)
    have HBW : Hid (B ≤ w1.heap.size) := Lib.hid (by omega)
    clear hs1 hb1 hG hB
    go_wp2
    go_loopg [6, 20] X.length (fun gf v i wx => ∃ (k : Nat) (acc : List UInt8), k + gf = X.length ∧ i = .int .i64 k ∧ Own enc8 5 B wx v acc ∧ B ≤ wx.heap.size ∧ grpsA may [] (splitC 58 s.data.toList) = grpsA may acc ((splitC 58 s.data.toList).drop k) ∧ acc.length ≤ 4 * k ∧ wx.heap[G]? = some (.cells (X.map Value.string).toArray 9 (0, 0)) ∧ Stp (fun _ => False) w wx)
    case atStart => exact ⟨0, [], by omega, rfl, Own.nil _ _ _ _, HBW.out, rfl, Nat.le_refl _, HB1.out, HS.out⟩
    case round =>
      obtain ⟨k, acc, hk, rfl, hown, hbw, ho, hal, hb, hst⟩ := hrel
      have HBR := Lib.hid hbw
      clear hbw
      have HO := Lib.hid ho
      have HB := Lib.hid hb
      have HST := Lib.hid hst
      have HAL := Lib.hid hal
      have HOW := Lib.hid hown
      obtain ⟨A, c, rfl, hle⟩ := HOW.out.form
      clear ho hb hst hal hown HB1 HS
      by_cases hlt : k < X.length
      · obtain ⟨gk', rfl⟩ : ∃ gk', gk = gk' + 1 := ⟨gk - 1, by omega⟩
        have hl2 : (k : Int) < (X.length : Int) := by omega
        obtain ⟨x, hx⟩ : ∃ x, X[k]? = some x := ⟨_, List.getElem?_eq_getElem (by omega)⟩
        have hc : wr.cell? ⟨G, k, none⟩ = some (.string x) := by rw [blk_cell HB.out]; simp [hx]
        have hxs : x.size ≤ s.size := HZ.out x (List.mem_of_getElem? hx)
        have HDR : Hid ((splitC 58 s.data.toList).drop k = x.data.toList :: (splitC 58 s.data.toList).drop (k + 1)) := Lib.hid (by
          have hk2 : k < (splitC 58 s.data.toList).length := by rw [← HL.out]; omega
          rw [List.drop_eq_getElem_cons hk2]
          congr 1
          have : (splitC 58 s.data.toList)[k]? = some x.data.toList := by rw [← HX.out, List.getElem?_map, hx]; rfl
          exact (List.getElem?_eq_some_iff.1 this).2)
        have ch := fun W => hex_any x W (by omega)
        have cd := fun W hW => dotted_any x W (by omega) hW
        obtain ⟨n, b, hn⟩ : ∃ n b, hexS x.data.toList = (n, b) := ⟨_, _, rfl⟩
        rw [hn] at ch
        clear hx
        go_wp2_with (go_at_call 107; refine stopc ?_)
        refine Stop.go ?_
        refine (ch _).mono ?_
        rintro e w2 ⟨rfl, hs2⟩
        have HS2 := Lib.hid hs2
        clear hs2
        go_wp2_with (go_at_call 65; refine stopc ?_)
        refine Stop.go ?_
        refine (cd _ (HM.out.step (HST.out.trans HS2.out))).mono ?_
        rintro e w3 ⟨d, rfl, hdl, hd, hs3⟩
        have HS3 := Lib.hid hs3
        have HD3 := Lib.hid hd
        obtain ⟨D, hDv⟩ : ∃ D, D = (dotS x.data.toList).isSome := ⟨_, rfl⟩
        rw [← hDv]
        have HDV := Lib.hid hDv
        have HDL := Lib.hid hdl
        clear hs3 hd hDv hdl
        go_wp2_with (refine wp_storeA rfl _ _ _ rfl rfl rfl (arr_new _ _ _ (zerosL 4) rfl) size_four HDL.out rfl ?_; intro w4 hA4 hs4; refine stopw ?_)
        refine Stop.go ?_
        have hst3 := (HST.out.trans HS2.out).trans HS3.out
        have hsz3 := hst3.size
        have hszr := (HS2.out.trans HS3.out).size
        have hGl : G < wr.heap.size := blk_lt HB.out
        have HS4 := Lib.hid ((hst3.alloc _).then_ hs4 (fun k hk h => absurd h (by omega)))
        have hOW3 := (HOW.out.stp0 HS2.out).stp0 HS3.out
        have HOW4 := Lib.hid ((hOW3.stp0 ((Stp.refl _ _).alloc _)).step hs4 (fun k hk h => by have := (hOW3.lt k hk).2; omega))
        have HB4 := Lib.hid (hs4.blk ((((HS2.out.trans HS3.out).alloc _).blk HB.out id)) (by omega))
        have HA4 := Lib.hid hA4
        have hBw : B ≤ w4.heap.size := by have := hs4.size; have := HBR.out; simp at *; omega
        clear hst3 hOW3 hs4 hA4
        cases b with
        | true =>
          obtain ⟨m, rfl, hmm⟩ := hexS_lt hn
          go_wp2_with (with_reducible refine stop (N := 44) rfl ?_)
          refine Stop.go ?_
          have e1 : ((UInt8.ofNat (m / 256)).toNat : Int) = (m : Int) / 256 := by rw [UInt8.toNat_ofNat_of_lt' (by have : UInt8.size = 256 := rfl; omega)]; omega
          have e2 : ((UInt8.ofNat (m % 256)).toNat : Int) = (m : Int) % 256 := by rw [UInt8.toNat_ofNat_of_lt' (by have : UInt8.size = 256 := rfl; omega)]; omega
          have HGR : Hid (∀ b, grpS b x.data.toList = some [UInt8.ofNat (m / 256), UInt8.ofNat (m % 256)]) := Lib.hid (fun b => by unfold grpS; rw [hn, if_pos rfl]; rfl)
          have hal := HAL.out
          refine wp_appendRd enc8 (h1e := fun _ => rfl) rfl _ _ _ rfl Tryz.underlying22 info_u8 rfl (HOW4.out.stp0 ((Stp.refl _ _).alloc _)) (Rd.lit (M := fun _ => False) [UInt8.ofNat (m / 256), UInt8.ofNat (m % 256)] _ (by simp [enc8]; omega) (by simp) id) rfl rfl (by simp; omega) (by simp; omega) (by simp; omega) ?_
          intro v5 w5 ho5 hg5
          have HO5 := Lib.hid ho5
          have HS5 := Lib.hid ((HS4.out.alloc _).own ((HOW4.out.stp0 ((Stp.refl _ _).alloc _)).lower HBG.out.2) hg5)
          have HB5 := Lib.hid (((Stp.refl (fun k => (Value.slice A acc.length c).ownBlock = some k) w4).alloc (Obj.cells #[Value.int IntKind.u8 (↑m / 256), Value.int IntKind.u8 (↑m % 256)] 5) |>.grown hg5 (fun k hk _ => hk)).blk HB4.out (fun h => by
            have := (HOW.out.lt G h).1
            have := HBG.out.1
            omega))
          have hBw5 : B ≤ w5.heap.size := by have := hg5.size; simp at this; omega
          clear ho5 hg5 e1 e2
          go_wp2
          go_roundg gk'
          case measure => omega
          case rel =>
            refine ⟨k + 1, acc ++ [UInt8.ofNat (m / 256), UInt8.ofNat (m % 256)], by omega, by go_num, HO5.out, hBw5, ?_, by simp; omega, HB5.out, HS5.out⟩
            rw [HO.out, HDR.out, grpsA, HGR.out]
        | false =>
          have HGR : Hid (∀ b, grpS b x.data.toList = if b = true then dotS x.data.toList else none) := Lib.hid (fun b => by unfold grpS; rw [hn, if_neg (by simp)])
          have hwr : IntKind.i64.wrap ((X.length : Int) - 1) = (X.length : Int) - 1 := IntWalk.i64_in _ (by omega)
          have hRE : (((splitC 58 s.data.toList).drop (k + 1)).isEmpty = decide (k + 1 = X.length)) := by
            rw [Bool.eq_iff_iff, List.isEmpty_iff, List.drop_eq_nil_iff, decide_eq_true_eq, ← HL.out]
            omega
          have HRE := Lib.hid hRE
          clear hRE hn
          have HNO : Hid ((D = false ∨ may = false ∨ k + 1 ≠ X.length) → readS may s.data.toList = none) := Lib.hid (by
            intro h
            rw [HD.out, HO.out, HDR.out, grpsA, HGR.out, HRE.out]
            have h2 : (if (may && decide (k + 1 = X.length)) = true then dotS x.data.toList else none) = none := by
              split
              · rename_i hh
                rw [Bool.and_eq_true, decide_eq_true_eq] at hh
                rcases h with h | h | h
                · rw [HDV.out] at h
                  cases hq : dotS x.data.toList with
                  | none => rfl
                  | some y => rw [hq] at h; cases h
                · rw [h] at hh
                  cases hh.1
                · exact absurd hh.2 h
              · rfl
            rw [h2])
          cases D with
          | false =>
            have HN2 := Lib.hid (HNO.out (Or.inl rfl))
            go_wp2
            rw [HR.out]
            unfold ReadP
            rw [HN2.out]
            exact ⟨_, [], rfl, Own.nil _ _ _ _, (fun o h => by cases h), Nat.zero_le _, HS4.out⟩
          | true =>
            cases may with
            | false =>
              have HN2 := Lib.hid (HNO.out (Or.inr (Or.inl rfl)))
              go_wp2
              rw [HR.out]
              unfold ReadP
              rw [HN2.out]
              exact ⟨_, [], rfl, Own.nil _ _ _ _, (fun o h => by cases h), Nat.zero_le _, HS4.out⟩
            | true =>
              by_cases hkl : k + 1 = X.length
              · have hq : ((k : Int) == (X.length : Int) - 1) = true := by simp; omega
                have HDD : Hid (dotS x.data.toList = some d) := Lib.hid (by
                  cases hq : dotS x.data.toList with
                  | none => have := HDV.out; rw [hq] at this; cases this
                  | some y => rw [HD3.out y hq])
                have hal := HAL.out
                have hdl := HDL.out
                go_wp2_with (with_reducible refine stop (N := 59) rfl ?_)
                refine Stop.go ?_
                refine wp_appendRd enc8 (h1e := fun _ => rfl) rfl _ _ _ rfl Tryz.underlying22 info_u8 rfl HOW4.out (HA4.out.all (fun _ => False) id 4 hdl (by decide)) rfl rfl (by omega) (by omega) hBw ?_
                intro v5 w5 ho5 hg5
                have HO5 := Lib.hid ho5
                have HS5 := Lib.hid (HS4.out.own (HOW4.out.lower HBG.out.2) hg5)
                have HB5 := Lib.hid (((Stp.refl (fun k => (Value.slice A acc.length c).ownBlock = some k) w4).grown hg5 (fun k hk _ => hk)).blk HB4.out (fun h => by
                  have := (HOW.out.lt G h).1
                  have := HBG.out.1
                  omega))
                have hBw5 : B ≤ w5.heap.size := by have := hg5.size; omega
                clear ho5 hg5
                go_wp2
                go_roundg gk'
                case measure => omega
                case rel =>
                  refine ⟨k + 1, acc ++ d, by omega, by go_num, HO5.out, hBw5, ?_, by simp; omega, HB5.out, HS5.out⟩
                  rw [HO.out, HDR.out, grpsA, HGR.out, HRE.out, decide_eq_true hkl, Bool.and_true, if_pos rfl, HDD.out]
              · have hq : ((k : Int) == (X.length : Int) - 1) = false := by simp; omega
                have HN2 := Lib.hid (HNO.out (Or.inr (Or.inr hkl)))
                go_wp2
                rw [HR.out]
                unfold ReadP
                rw [HN2.out]
                exact ⟨_, [], rfl, Own.nil _ _ _ _, (fun o h => by cases h), Nat.zero_le _, HS4.out⟩
      · obtain rfl : k = X.length := by omega
        have HN2 : Hid (readS may s.data.toList = some acc) := Lib.hid (by rw [HD.out, HO.out, List.drop_eq_nil_of_le (by rw [← HL.out]; omega), grpsA])
        have hsl : s.data.toList.length = s.size := size_list s
        go_wp2
        rw [HR.out]
        unfold ReadP
        rw [HN2.out]
        exact ⟨_, acc, rfl, HOW.out.lower HBG.out.2, (fun o h => by injection h with h; exact h.symm), by have := HAL.out; omega, HST.out⟩
end Go.Proofs.YtligofmhbbgalaaGreatDoor.L

/-! Layer 3: an address of a text. -/
namespace Go.Proofs.YtligofmhbbgalaaGreatDoor.L
open Go.RowKit Go.Proofs

theorem index_gap (l : List UInt8) : Lib.index l [58, 58] = match gapS l with
    | some (x, y) => (x.length : Int)
    | none => -1 := by
  induction l with
  | nil => rfl
  | cons c r ih =>
    rw [Lib.index, gapS]
    by_cases h : c = 58 ∧ r[0]? = some 58
    · rw [if_pos h, if_pos]
      · rfl
      · obtain ⟨rfl, h2⟩ := h
        cases r with
        | nil => simp at h2
        | cons d r =>
          simp at h2
          simp [h2, List.isPrefixOf]
    · rw [if_neg h, if_neg, ih]
      · cases gapS r with
        | none => rfl
        | some p => simp
      · intro hp
        apply h
        cases r with
        | nil => simp [List.isPrefixOf] at hp
        | cons d r =>
          simp [List.isPrefixOf] at hp
          exact ⟨hp.1.symm, by simp [hp.2]⟩
def cut2 (l : List UInt8) : List UInt8 × List UInt8 × Bool := match gapS l with
  | some (x, y) => (x, y, true)
  | none => (l, [], false)
theorem cut_gap (l : List UInt8) : Lib.cut l [58, 58] = cut2 l := by
  unfold Lib.cut cut2
  rw [index_gap]
  cases h : gapS l with
  | none => simp
  | some p =>
    obtain ⟨x, y⟩ := p
    have := gapS_inv l x y h
    simp only
    rw [if_pos (by omega), this]
    simp
theorem cut2_call (s : ByteArray) (w : World) (hs : s.size < 4294967281) (hm : MaxL w) :
    Calls Tryz.prog 67 #[.string s, .string ⟨#[58, 58]⟩] w fun e w' => e = .returned (.tuple #[.string (strB (cut2 s.data.toList).1), .string (strB (cut2 s.data.toList).2.1), .bool (cut2 s.data.toList).2.2]) ∧ Stp (fun _ => False) w w' := by
  obtain ⟨m, hm⟩ := hm
  refine (Tryz.strings_Cut s ⟨#[58, 58]⟩ m w hs hm).mono fun e w' ⟨h1, n, h2⟩ => ⟨?_, h2 ▸ stp_drewN w n⟩
  rw [h1]
  rw [show (⟨#[58, 58]⟩ : ByteArray).data.toList = [58, 58] from rfl, cut_gap]
  rfl
theorem gapS_len (l x y : List UInt8) (h : gapS l = some (x, y)) : x.length + y.length + 2 = l.length := by
  rw [gapS_inv l x y h]
  simp
  omega
/-- What an address's text gives: sixteen bytes, and whether it is one. -/
def AdrP (w : World) (l : List UInt8) (e : Ending) (w' : World) : Prop :=
  ∃ a : List UInt8, e = .returned (.tuple #[.agg (cellsA a), .bool (parseA l).isSome]) ∧ a.length = 16 ∧ (∀ a', parseA l = some a' → a' = a) ∧ (parseA l = none → a = zerosL 16) ∧ Stp (fun _ => False) w w'
theorem over_two (x y : List UInt8) (h : x.length + y.length ≤ 14) : over (over (zerosL 16) 0 x) (16 - y.length) y = x ++ zerosL (16 - x.length - y.length) ++ y := by
  have e1 : over (zerosL 16) 0 x = x ++ zerosL (16 - x.length) := by
    unfold over zerosL
    rw [List.take_zero, List.nil_append, Nat.zero_add, List.drop_replicate]
  have e2 : zerosL (16 - x.length) = zerosL (16 - x.length - y.length) ++ zerosL y.length := by
    unfold zerosL
    rw [List.replicate_append_replicate]
    congr 1
    omega
  have hz : ∀ n, (zerosL n).length = n := fun n => by simp [zerosL]
  have e3 : over (zerosL 16) 0 x = (x ++ zerosL (16 - x.length - y.length)) ++ zerosL y.length := by rw [e1, e2, List.append_assoc]
  show (over (zerosL 16) 0 x).take (16 - y.length) ++ (y ++ (over (zerosL 16) 0 x).drop (16 - y.length + y.length)) = _
  rw [e3, List.take_append_of_le_length (by simp [hz]; omega), List.take_of_length_le (by simp [hz]; omega), List.drop_eq_nil_of_le (by simp [hz]; omega), List.append_nil]
def offT (n : Nat) : Nat := if n = 0 then 0 else 16 - n
theorem over_tail (x y : List UInt8) (h : x.length + y.length ≤ 14) : over (over (zerosL 16) 0 x) (offT y.length) y = x ++ zerosL (16 - x.length - y.length) ++ y := by
  unfold offT
  split
  · rename_i h0
    obtain rfl : y = [] := List.eq_nil_of_length_eq_zero h0
    rw [← over_two x [] h]
    have e : ∀ (z : List UInt8) (k : Nat), over z k [] = z := fun z k => by simp [over]
    rw [e, e]
  · exact over_two x y h
theorem len_addr : Tryz.prog.arrayLen 76 = 16 := by kernel_rfl
theorem elem_addr : Tryz.prog.elem 76 = 5 := by kernel_rfl
theorem slice_tail (g n : Nat) (hn : n ≤ 16) (W : World) : (Instr.sliceAt 76 (.pointer (some ⟨g, 0, none⟩)) (some (.int .i64 (16 - (n : Int)))) none none).run Tryz.prog W = .ok (.slice (some ⟨g, offT n, none⟩) n n) W := by
  rw [run_sliceAt_array_l W 76 ⟨g, 0, none⟩ (by rw [len_addr, elem_addr]; exact Tryz.underlying76) .i64 (16 - (n : Int)) (by omega) (by rw [len_addr]; omega), len_addr, elem_addr, Tryz.sizeOf5 W, Result.andThen_ok]
  unfold slicedAt offT
  have e : (16 - (n : Int)).toNat = 16 - n := by omega
  rw [e]
  by_cases h : n = 0
  · subst h
    rfl
  · rw [if_neg (by omega), if_neg h, show 16 - (16 - n) = n by omega, Nat.mul_one]
    by_cases h2 : 16 - n = 0
    · rw [h2, addr_z]
    · rw [addr_nz _ _ h2, Nat.zero_add]
theorem over_all (x : List UInt8) (h : x.length = 16) : over (zerosL 16) 0 x = x := by
  unfold over zerosL
  rw [List.take_zero, List.nil_append, List.drop_eq_nil_of_le (by simp; omega), List.append_nil]

set_option maxRecDepth 100000 in
set_option maxHeartbeats 4000000 in
theorem aparse_any (s : ByteArray) (w : World) (hs : s.size < 4294967281) (hm : MaxL w) (hh : AheadP w) : Calls Tryz.prog 37 #[.string s] w (AdrP w s.data.toList) := by
  obtain ⟨R, hR⟩ : ∃ R, R = AdrP w s.data.toList := ⟨_, rfl⟩
  rw [← hR]
  have HR := Lib.hid hR
  have HM := Lib.hid hm
  have HH := Lib.hid hh
  clear hR hm hh
  have cd := fun W hW => dotted_any s W hs hW
  go_enter Tryz.func37, Tryz.ntmps37
  go_wp2_with (go_at_call 65; refine stopc ?_)
  refine Stop.go ?_
  refine (cd _ (HM.out.step ((Stp.refl _ w).alloc _))).mono ?_
  rintro e w1 ⟨d, rfl, hdl, hd, hs1⟩
  have HS1 := Lib.hid (((Stp.refl (fun _ => False) w).alloc _).trans hs1)
  have HA1 := Lib.hid ((arr_new w w.heap.size 76 (zerosL 16) rfl).step hs1 id)
  have HDL := Lib.hid hdl
  have HDD := Lib.hid hd
  obtain ⟨D, hDv⟩ : ∃ D, D = (dotS s.data.toList).isSome := ⟨_, rfl⟩
  rw [← hDv]
  have HDV := Lib.hid hDv
  clear hs1 hdl hd hDv
  go_wp2_with (refine wp_storeA rfl _ _ _ rfl rfl rfl (arr_new _ _ _ (zerosL 4) rfl) size_four HDL.out rfl ?_; intro w2 hA2 hs2; refine stopw ?_)
  refine Stop.go ?_
  have hsz1 := HS1.out.size
  have hgl : w.heap.size < w1.heap.size := HA1.out.lt
  have HA2 := Lib.hid hA2
  have HR2 := Lib.hid ((HA1.out.alloc _).step hs2 (by omega))
  have HS2 := Lib.hid ((HS1.out.alloc _).then_ hs2 (fun k hk h => absurd h (by omega)))
  have hdl := HDL.out
  clear hA2 hs2
  cases D with
  | true =>
    have HD4 : Hid (parseA s.data.toList = some (aheadL ++ d)) := Lib.hid (by
      unfold parseA
      cases hq : dotS s.data.toList with
      | none => have := HDV.out; rw [hq] at this; cases this
      | some y => rw [HDD.out y hq])
    have hl16 : (aheadL ++ d).length = 16 := by simp [hdl, aheadL]
    go_wp2_with (with_reducible refine stop (N := 22) rfl ?_)
    refine Stop.go ?_
    refine wp_loadA rfl _ _ rfl rfl HA2.out Tryz.underlying107 size_four hdl ?_
    go_wp2_with (go_at_call 66; refine stopc ?_)
    refine Stop.go ?_
    refine (of4_any d hdl _ (HH.out.step HS2.out)).mono ?_
    rintro e w3 ⟨rfl, hs3⟩
    have HR3 := Lib.hid (HR2.out.step hs3 id)
    have HS3 := Lib.hid (HS2.out.trans hs3)
    clear hs3
    go_wp2_with (refine wp_storeA rfl _ _ _ rfl rfl rfl HR3.out size_addr hl16 rfl ?_; intro w4 hA4 hs4; refine stopw ?_)
    refine Stop.go ?_
    have HA4 := Lib.hid hA4
    have HS4 := Lib.hid (HS3.out.then_ hs4 (fun k hk h => absurd h (by omega)))
    clear hA4 hs4
    go_wp2
    refine bodyPost_ret (results_row_tmp rfl _ _ w.heap.size _ _ _ _ rfl HA4.out Tryz.underlying76 rfl (by rw [cellsA_size, hl16]; exact size_addr)) rfl ?_
    rw [HR.out]
    unfold AdrP
    rw [HD4.out]
    exact ⟨_, rfl, hl16, (fun a' h => by injection h with h; exact h.symm), (fun h => by cases h), HS4.out⟩
  | false =>
    have HD4 : Hid (dotS s.data.toList = none) := Lib.hid (by
      cases hq : dotS s.data.toList with
      | none => rfl
      | some y => have := HDV.out; rw [hq] at this; cases this)
    clear HDD HDV HDL HA2 hdl
    have hgl2 : w.heap.size < w2.heap.size := HR2.out.lt
    have cc := fun W hW => cut2_call s W hs hW
    go_wp2_with (go_at_call 67; refine stopc ?_)
    refine Stop.go ?_
    refine (cc _ (HM.out.step (HS2.out.alloc _))).mono ?_
    rintro e w3 ⟨rfl, hs3⟩
    have HR3 := Lib.hid ((HR2.out.alloc _).step hs3 id)
    have HA3 := Lib.hid ((arr_new w2 w2.heap.size 76 (zerosL 16) rfl).step hs3 id)
    have HS3 := Lib.hid ((HS2.out.alloc _).trans hs3)
    clear hs3 cc
    cases hg : gapS s.data.toList with
    | none =>
      have hcut : cut2 s.data.toList = (s.data.toList, [], false) := by unfold cut2; rw [hg]
      have HPA : Hid (parseA s.data.toList = match readS true s.data.toList with
        | some b => if b.length = 16 then some b else none
        | none => none) := Lib.hid (by unfold parseA; rw [HD4.out]; simp only [hg]; rfl)
      rw [hcut]
      clear hcut hg
      have cr := fun W hW => read3_any s true W hs hW
      go_wp2_with (go_at_call 68; refine stopc ?_)
      refine Stop.go ?_
      refine (cr _ (HM.out.step HS3.out)).mono ?_
      rintro e w4 ⟨v, out, rfl, hown, hro, hle, hs4⟩
      have HR4 := Lib.hid (HR3.out.step hs4 id)
      have HA4 := Lib.hid (HA3.out.step hs4 id)
      have HS4 := Lib.hid (HS3.out.trans hs4)
      have HOW := Lib.hid hown
      have HRO := Lib.hid hro
      have hsl := size_list s
      obtain ⟨A, c, rfl, hlc⟩ := HOW.out.form
      obtain ⟨O, hOv⟩ : ∃ O, O = (readS true s.data.toList).isSome := ⟨_, rfl⟩
      rw [← hOv]
      have HOV := Lib.hid hOv
      clear hs4 hown hro hOv
      have HNO : Hid ((O = false ∨ out.length ≠ 16) → parseA s.data.toList = none) := Lib.hid (by
        intro h
        rw [HPA.out]
        cases hq : readS true s.data.toList with
        | none => rfl
        | some b =>
          rcases h with h | h
          · have := HOV.out
            rw [hq, h] at this
            cases this
          · rw [HRO.out b hq]
            simp only
            rw [if_neg h])
      by_cases hbad : O = false ∨ out.length ≠ 16
      · have HN2 := Lib.hid (HNO.out hbad)
        clear HNO
        have key : ∀ p : Prop, p → p := fun _ h => h
        cases O with
        | false =>
          clear hbad
          go_wp2_with (with_reducible refine stop (N := 44) rfl ?_)
          refine Stop.go ?_
          refine wp_loadA rfl _ _ rfl rfl HA4.out Tryz.underlying76 size_addr rfl ?_
          refine wp_storeA rfl _ _ _ rfl rfl rfl HR4.out size_addr rfl rfl ?_
          intro w5 hA5 hs5
          have HA5 := Lib.hid hA5
          have HS5 := Lib.hid (HS4.out.then_ hs5 (fun k hk h => absurd h (by omega)))
          clear hA5 hs5
          go_wp2
          refine bodyPost_ret (results_row_tmp rfl _ _ w.heap.size _ _ _ _ rfl HA5.out Tryz.underlying76 rfl (by rw [cellsA_size]; exact size_addr)) rfl ?_
          rw [HR.out]
          unfold AdrP
          rw [HN2.out]
          exact ⟨_, rfl, rfl, (fun a' h => by cases h), (fun _ => rfl), HS5.out⟩
        | true =>
          have hne : ((out.length : Int) != 16) = true := by
            rcases hbad with h | h
            · cases h
            · simp; omega
          clear hbad
          go_wp2_with (with_reducible refine stop (N := 44) rfl ?_)
          refine Stop.go ?_
          refine wp_loadA rfl _ _ rfl rfl HA4.out Tryz.underlying76 size_addr rfl ?_
          refine wp_storeA rfl _ _ _ rfl rfl rfl HR4.out size_addr rfl rfl ?_
          intro w5 hA5 hs5
          have HA5 := Lib.hid hA5
          have HS5 := Lib.hid (HS4.out.then_ hs5 (fun k hk h => absurd h (by omega)))
          clear hA5 hs5
          go_wp2
          refine bodyPost_ret (results_row_tmp rfl _ _ w.heap.size _ _ _ _ rfl HA5.out Tryz.underlying76 rfl (by rw [cellsA_size]; exact size_addr)) rfl ?_
          rw [HR.out]
          unfold AdrP
          rw [HN2.out]
          exact ⟨_, rfl, rfl, (fun a' h => by cases h), (fun _ => rfl), HS5.out⟩
      · rw [not_or] at hbad
        obtain ⟨hO, h16⟩ := hbad
        have hO : O = true := by simpa using hO
        subst hO
        have h16 : out.length = 16 := Decidable.of_not_not h16
        have hne : ((out.length : Int) != 16) = false := by simp; omega
        have HPO : Hid (parseA s.data.toList = some out) := Lib.hid (by
          rw [HPA.out]
          cases hq : readS true s.data.toList with
          | none => have := HOV.out; rw [hq] at this; cases this
          | some b => rw [HRO.out b hq]; simp only; rw [if_pos h16])
        have hown : ∀ k, (Value.slice A out.length c).ownBlock = some k → w3.heap.size ≤ k := fun k hk => (HOW.out.lt k hk).1
        have hrd := HOW.out.rd (h1 := fun _ => rfl) (M := fun _ => False) (fun _ _ => id)
        rw [h16] at hrd
        have HRD := Lib.hid hrd
        clear hrd
        go_wp2_with (with_reducible refine stop (N := 47) rfl ?_)
        refine Stop.go ?_
        refine wp_copyA rfl _ _ _ _ rfl 5 Tryz.underlying22 size_u8 HA4.out HRD.out rfl rfl (by decide) (by omega) ?_
        intro w5 hA5 hs5
        have HA5 := Lib.hid (over_all out h16 ▸ hA5)
        have HR5 := Lib.hid (HR4.out.step hs5 (by omega))
        have HS5 := Lib.hid (HS4.out.then_ hs5 (fun k hk h => absurd h (by omega)))
        clear hA5 hs5
        go_wp2_with (with_reducible refine stop (N := 48) rfl ?_)
        refine Stop.go ?_
        refine wp_loadA rfl _ _ rfl rfl HA5.out Tryz.underlying76 size_addr h16 ?_
        refine wp_storeA rfl _ _ _ rfl rfl rfl HR5.out size_addr h16 rfl ?_
        intro w6 hA6 hs6
        have HA6 := Lib.hid hA6
        have HS6 := Lib.hid (HS5.out.then_ hs6 (fun k hk h => absurd h (by omega)))
        clear hA6 hs6
        go_wp2
        refine bodyPost_ret (results_row_tmp rfl _ _ w.heap.size _ _ _ _ rfl HA6.out Tryz.underlying76 rfl (by rw [cellsA_size, h16]; exact size_addr)) rfl ?_
        rw [HR.out]
        unfold AdrP
        rw [HPO.out]
        exact ⟨_, rfl, h16, (fun a' h => by injection h with h; exact h.symm), (fun h => by cases h), HS6.out⟩
    | some p =>
      obtain ⟨x, y⟩ := p
      have hcut : cut2 s.data.toList = (x, y, true) := by unfold cut2; rw [hg]
      have hlen := gapS_len _ x y hg
      have hsl := size_list s
      have HPA : Hid (parseA s.data.toList = match readS false x, readS true y with
        | some a, some b => if a.length + b.length ≤ 14 then some (a ++ zerosL (16 - a.length - b.length) ++ b) else none
        | _, _ => none) := Lib.hid (by unfold parseA; rw [HD4.out]; simp only [hg]; rfl)
      rw [hcut]
      clear hcut hg
      obtain ⟨xs, hxs⟩ : ∃ xs, xs = strB x := ⟨_, rfl⟩
      obtain ⟨ys, hys⟩ : ∃ ys, ys = strB y := ⟨_, rfl⟩
      have hxl : xs.size = x.length := by rw [hxs, strB_size]
      have hyl : ys.size = y.length := by rw [hys, strB_size]
      have hxd : xs.data.toList = x := by rw [hxs]; simp [strB]
      have hyd : ys.data.toList = y := by rw [hys]; simp [strB]
      have cx := fun W hW => read3_any xs false W (by omega) hW
      have cy := fun W hW => read3_any ys true W (by omega) hW
      rw [hxd] at cx
      rw [hyd] at cy
      rw [← hxs, ← hys]
      clear hxs hys hxd hyd hxl hyl
      go_wp2_with (go_at_call 68; refine stopc ?_)
      refine Stop.go ?_
      refine (cx _ (HM.out.step HS3.out)).mono ?_
      rintro e w4 ⟨v, xo, rfl, hown, hro, hle, hs4⟩
      have HR4 := Lib.hid (HR3.out.step hs4 id)
      have HA4 := Lib.hid (HA3.out.step hs4 id)
      have HS4 := Lib.hid (HS3.out.trans hs4)
      have HOX := Lib.hid hown
      have HRX := Lib.hid hro
      obtain ⟨A, c, rfl, hlc⟩ := HOX.out.form
      obtain ⟨O, hOv⟩ : ∃ O, O = (readS false x).isSome := ⟨_, rfl⟩
      rw [← hOv]
      have HOV := Lib.hid hOv
      clear hs4 hown hro hOv
      go_wp2_with (go_at_call 68; refine stopc ?_)
      refine Stop.go ?_
      refine (cy _ (HM.out.step HS4.out)).mono ?_
      rintro e w5 ⟨v, yo, rfl, hown, hro, hle2, hs5⟩
      have HR5 := Lib.hid (HR4.out.step hs5 id)
      have HA5 := Lib.hid (HA4.out.step hs5 id)
      have HS5 := Lib.hid (HS4.out.trans hs5)
      have HOX5 := Lib.hid (HOX.out.stp0 hs5)
      have HOY := Lib.hid hown
      have HRY := Lib.hid hro
      obtain ⟨A2, c2, rfl, hlc2⟩ := HOY.out.form
      obtain ⟨O2, hOv⟩ : ∃ O, O = (readS true y).isSome := ⟨_, rfl⟩
      rw [← hOv]
      have HOV2 := Lib.hid hOv
      clear hs5 hown hro hOv HOX
      have HNO : Hid ((O = false ∨ O2 = false ∨ ¬ xo.length + yo.length ≤ 14) → parseA s.data.toList = none) := Lib.hid (by
        intro h
        rw [HPA.out]
        cases hq : readS false x with
        | none => rfl
        | some a =>
          cases hq2 : readS true y with
          | none => rfl
          | some b =>
            rcases h with h | h | h
            · have := HOV.out
              rw [hq, h] at this
              cases this
            · have := HOV2.out
              rw [hq2, h] at this
              cases this
            · rw [HRX.out a hq, HRY.out b hq2]
              simp only
              rw [if_neg h])
      have hww : IntKind.i64.wrap ((xo.length : Int) + (yo.length : Int)) = (xo.length : Int) + (yo.length : Int) := IntWalk.i64_in _ (by omega)
      cases O with
      | false =>
        have HN2 := Lib.hid (HNO.out (Or.inl rfl))
        clear HNO
        go_wp2_with (with_reducible refine stop (N := 73) rfl ?_)
        refine Stop.go ?_
        refine wp_loadA rfl _ _ rfl rfl HA5.out Tryz.underlying76 size_addr rfl ?_
        refine wp_storeA rfl _ _ _ rfl rfl rfl HR5.out size_addr rfl rfl ?_
        intro w6 hA6 hs6
        have HA6 := Lib.hid hA6
        have HS6 := Lib.hid (HS5.out.then_ hs6 (fun k hk h => absurd h (by omega)))
        clear hA6 hs6
        go_wp2
        refine bodyPost_ret (results_row_tmp rfl _ _ w.heap.size _ _ _ _ rfl HA6.out Tryz.underlying76 rfl (by rw [cellsA_size]; exact size_addr)) rfl ?_
        rw [HR.out]
        unfold AdrP
        rw [HN2.out]
        exact ⟨_, rfl, rfl, (fun a' h => by cases h), (fun _ => rfl), HS6.out⟩
      | true =>
        cases O2 with
        | false =>
          have HN2 := Lib.hid (HNO.out (Or.inr (Or.inl rfl)))
          clear HNO
          go_wp2_with (with_reducible refine stop (N := 73) rfl ?_)
          refine Stop.go ?_
          refine wp_loadA rfl _ _ rfl rfl HA5.out Tryz.underlying76 size_addr rfl ?_
          refine wp_storeA rfl _ _ _ rfl rfl rfl HR5.out size_addr rfl rfl ?_
          intro w6 hA6 hs6
          have HA6 := Lib.hid hA6
          have HS6 := Lib.hid (HS5.out.then_ hs6 (fun k hk h => absurd h (by omega)))
          clear hA6 hs6
          go_wp2
          refine bodyPost_ret (results_row_tmp rfl _ _ w.heap.size _ _ _ _ rfl HA6.out Tryz.underlying76 rfl (by rw [cellsA_size]; exact size_addr)) rfl ?_
          rw [HR.out]
          unfold AdrP
          rw [HN2.out]
          exact ⟨_, rfl, rfl, (fun a' h => by cases h), (fun _ => rfl), HS6.out⟩
        | true =>
          by_cases h14 : xo.length + yo.length ≤ 14
          · have hdd : decide ((14 : Int) < (xo.length : Int) + (yo.length : Int)) = false := decide_eq_false (by omega)
            have HPO : Hid (parseA s.data.toList = some (xo ++ zerosL (16 - xo.length - yo.length) ++ yo)) := Lib.hid (by
              rw [HPA.out]
              cases hq : readS false x with
              | none => have := HOV.out; rw [hq] at this; cases this
              | some a =>
                cases hq2 : readS true y with
                | none => have := HOV2.out; rw [hq2] at this; cases this
                | some b =>
                  rw [HRX.out a hq, HRY.out b hq2]
                  simp only
                  rw [if_pos h14])
            have hlt4 := HA4.out.lt
            have HRDX := Lib.hid (HOX5.out.rd (h1 := fun _ => rfl) (M := fun _ => False) (fun _ _ => id))
            have HRDY := Lib.hid (HOY.out.rd (h1 := fun _ => rfl) (M := fun k => k = w2.heap.size) (fun k hk h => by have := (HOY.out.lt k hk).1; omega))
            have hl16 : (xo ++ zerosL (16 - xo.length - yo.length) ++ yo).length = 16 := by simp [zerosL]; omega
            have hw1 : IntKind.i64.wrap (16 - (yo.length : Int)) = 16 - (yo.length : Int) := IntWalk.i64_in _ (by omega)
            have hw2 := fun W => slice_tail w2.heap.size yo.length (by omega) W
            clear HNO
            go_wp2_with (with_reducible refine stop (N := 76) rfl ?_)
            refine Stop.go ?_
            refine wp_copyA rfl _ _ _ _ rfl 5 Tryz.underlying22 size_u8 HA5.out HRDX.out rfl rfl (by decide) (by omega) ?_
            intro w6 hA6 hs6
            have HA6 := Lib.hid hA6
            have HR6 := Lib.hid (HR5.out.step hs6 (by omega))
            have HRDY6 := Lib.hid (HRDY.out.stp hs6)
            have HS6 := Lib.hid (HS5.out.then_ hs6 (fun k hk h => absurd h (by omega)))
            clear hA6 hs6
            go_wp2_with (with_reducible refine stop (N := 82) rfl ?_)
            refine Stop.go ?_
            refine wp_copyA rfl _ _ _ _ rfl 5 Tryz.underlying22 size_u8 HA6.out HRDY6.out rfl rfl (by rw [over_len _ _ _ (by simp [zerosL]; omega)]; unfold offT; simp [zerosL]; split <;> omega) (Nat.le_refl _) ?_
            intro w7 hA7 hs7
            rw [over_tail xo yo h14] at hA7
            have HA7 := Lib.hid hA7
            have HR7 := Lib.hid (HR6.out.step hs7 (by omega))
            have HS7 := Lib.hid (HS6.out.then_ hs7 (fun k hk h => absurd h (by omega)))
            clear hA7 hs7
            go_wp2_with (with_reducible refine stop (N := 83) rfl ?_)
            refine Stop.go ?_
            refine wp_loadA rfl _ _ rfl rfl HA7.out Tryz.underlying76 size_addr hl16 ?_
            refine wp_storeA rfl _ _ _ rfl rfl rfl HR7.out size_addr hl16 rfl ?_
            intro w8 hA8 hs8
            have HA8 := Lib.hid hA8
            have HS8 := Lib.hid (HS7.out.then_ hs8 (fun k hk h => absurd h (by omega)))
            clear hA8 hs8
            go_wp2
            refine bodyPost_ret (results_row_tmp rfl _ _ w.heap.size _ _ _ _ rfl HA8.out Tryz.underlying76 rfl (by rw [cellsA_size, hl16]; exact size_addr)) rfl ?_
            rw [HR.out]
            unfold AdrP
            rw [HPO.out]
            exact ⟨_, rfl, hl16, (fun a' h => by injection h with h; exact h.symm), (fun h => by cases h), HS8.out⟩
          · have hdd : decide ((14 : Int) < (xo.length : Int) + (yo.length : Int)) = true := decide_eq_true (by omega)
            have HN2 := Lib.hid (HNO.out (Or.inr (Or.inr h14)))
            clear HNO
            go_wp2_with (with_reducible refine stop (N := 73) rfl ?_)
            refine Stop.go ?_
            refine wp_loadA rfl _ _ rfl rfl HA5.out Tryz.underlying76 size_addr rfl ?_
            refine wp_storeA rfl _ _ _ rfl rfl rfl HR5.out size_addr rfl rfl ?_
            intro w6 hA6 hs6
            have HA6 := Lib.hid hA6
            have HS6 := Lib.hid (HS5.out.then_ hs6 (fun k hk h => absurd h (by omega)))
            clear hA6 hs6
            go_wp2
            refine bodyPost_ret (results_row_tmp rfl _ _ w.heap.size _ _ _ _ rfl HA6.out Tryz.underlying76 rfl (by rw [cellsA_size]; exact size_addr)) rfl ?_
            rw [HR.out]
            unfold AdrP
            rw [HN2.out]
            exact ⟨_, rfl, rfl, (fun a' h => by cases h), (fun _ => rfl), HS6.out⟩
end Go.Proofs.YtligofmhbbgalaaGreatDoor.L
