/- Texts of the proof, joined: Tk Tr Hz Pm Pn Ts. -/
import Derived.Test.YtligofmhbbgalaaGreatDoorG24
import Derived.Test.YtligofmhbbgalaaGreatDoorG25
import Derived.Test.YtligofmhbbgalaaGreatDoorG06
import Derived.Test.YtligofmhbbgalaaGreatDoorG09
import Derived.Test.YtligofmhbbgalaaGreatDoorG19
set_option linter.unusedVariables false
set_option linter.unusedSimpArgs false
/- Layer 15: the document's way, all bytes; equal verdicts are the same. -/
namespace Go.Proofs.YtligofmhbbgalaaGreatDoor.L
open Go.RowKit Go.Proofs

def RaT (w : World) (b : List UInt8) (e : Ending) (w' : World) : Prop := ∃ va vv, e = .returned (vtV (allT b).1 (allT b).2 va vv) ∧ VtR (fun k => k < w.heap.size) w' (allT b).1 va vv ∧ Stp (fun _ => False) w w'
theorem stepT_def (t : Ts) (c : UInt8) {d' : Df} {is : Bool} {ed : Int} {b' : List UInt8} {wh : Bool} {em : Int} (hp : takeD t.1 c = (d', is, ed)) (hq : takeM t.2 c = (b', wh, em)) :
    stepT t c = if ed ≠ 0 then ((d', t.2), .bad ed) else if is = false then ((d', t.2), .open_) else if em ≠ 0 then ((d', b'), .bad em) else if wh = false then ((d', b'), .open_) else ((d', b'), judgeT (b'.drop 4)) := by
  unfold stepT
  rw [hp, hq]
theorem vgC_one (v : Vt) (p u : Int) (A B : Option Addr) (n m a q : Nat) : (vgC v p u (.slice A n a) (.slice B m q)).toArray.all (·.oneCell') = true := by simp [vgC, Value.oneCell']
set_option maxRecDepth 100000 in
set_option maxHeartbeats 16000000 in
theorem rallT_any (M : Nat → Prop) (vb : Value) (b : List UInt8) (w : World) (hb : Rd u8 M w vb b) (hl : b.length ≤ 1000000) : Calls Tryz.prog 11 #[vb] w (RaT w b) := by
  obtain ⟨R, hR⟩ : ∃ R, R = RaT w b := ⟨_, rfl⟩
  rw [← hR]
  have HR := Lib.hid hR
  have HX := Lib.hid hb
  obtain ⟨A, cp, rfl, hle⟩ := hb.form
  clear hR hb
  have hb63 : (b.length : Int) ≤ 1000000 := by omega
  go_enter Tryz.func11, Tryz.ntmps11
  go_wp2_with fail
  have z1 : (w.alloc (.cells vd0 31)).heap.size = w.heap.size + 1 := by simp
  have z2 : ((w.alloc (.cells vd0 31)).alloc (.cells (rdC 0 0 0 0) 53)).heap.size = w.heap.size + 1 + 1 := by simp
  have a1 := heap_alloc_new w (.cells vd0 31)
  have a2 := heap_alloc_new (w.alloc (.cells vd0 31)) (.cells (rdC 0 0 0 0) 53)
  have a3 := heap_alloc_new ((w.alloc (.cells vd0 31)).alloc (.cells (rdC 0 0 0 0) 53)) (.cells #[.slice none 0 0, .int .i64 0] 56)
  rw [z1] at a2
  rw [z2] at a3
  have s2 : Stp (fun _ => False) (w.alloc (.cells vd0 31)) ((w.alloc (.cells vd0 31)).alloc (.cells (rdC 0 0 0 0) 53)) := (Stp.refl _ _).alloc _
  have s3 : Stp (fun _ => False) ((w.alloc (.cells vd0 31)).alloc (.cells (rdC 0 0 0 0) 53)) (((w.alloc (.cells vd0 31)).alloc (.cells (rdC 0 0 0 0) 53)).alloc (.cells #[.slice none 0 0, .int .i64 0] 56)) := (Stp.refl _ _).alloc _
  have a1 := s3.blk (s2.blk a1 id) id
  have a2 := s3.blk a2 id
  have hs0 : Stp (fun _ => False) w (((w.alloc (.cells vd0 31)).alloc (.cells (rdC 0 0 0 0) 53)).alloc (.cells #[.slice none 0 0, .int .i64 0] 56)) := (((Stp.refl _ _).alloc _).trans s2).trans s3
  change Code.wp _ _ _ _ (((w.alloc (.cells vd0 31)).alloc (.cells (rdC 0 0 0 0) 53)).alloc (.cells #[.slice none 0 0, .int .i64 0] 56))
  generalize (((w.alloc (.cells vd0 31)).alloc (.cells (rdC 0 0 0 0) 53)).alloc (.cells #[.slice none 0 0, .int .i64 0] 56)) = w0 at a1 a2 a3 hs0 ⊢
  clear z1 z2 s2 s3
  obtain ⟨gr, hgr⟩ : ∃ g, g = w.heap.size := ⟨_, rfl⟩
  rw [← hgr] at a1 a2 a3
  simp only [← hgr]
  have HGW := Lib.hid hgr
  have HD0 := Lib.hid (show RdB w0 (gr + 1) .new from ⟨0, 0, 0, a2, ⟨fun _ => rfl, fun h => absurd h (show ¬ (0 : Nat) = 4 by decide), fun h => absurd h (show ¬ (0 : Nat) = 5 by decide), Nat.zero_le _⟩⟩)
  have HM0 := Lib.hid (show RmB w0 (gr + 1 + 1) [] from ⟨_, a3, Own.nil _ _ _ _⟩)
  have HR0 := Lib.hid a1
  have HS0 := Lib.hid hs0
  clear a1 a2 a3 hs0 hgr
  go_loopg [5] b.length (fun gf i wr => ∃ (k : Nat) (s : Ts), k + gf = b.length ∧ i = .int .i64 k ∧ allT b = runT s k (b.drop k) ∧ TsOk s k ∧ RdB wr (gr + 1) s.1 ∧ RmB wr (gr + 1 + 1) s.2 ∧ wr.heap[gr]? = some (.cells vd0 31 (0, 0)) ∧ Stp (fun _ => False) w wr)
  case atStart => exact ⟨0, .new, by omega, rfl, rfl, TsOk.new, HD0.out, HM0.out, HR0.out, HS0.out⟩
  case round =>
    obtain ⟨k, s, hk, rfl, hrun, hok, hd, hm, hrb, hs⟩ := hrel
    have hlenk := hok.len
    have HRUN := Lib.hid hrun
    have HOK := Lib.hid hok
    have HD := Lib.hid hd
    have HM := Lib.hid hm
    have HRB := Lib.hid hrb
    have HS := Lib.hid hs
    clear hrun hok hd hm hrb hs
    by_cases hlt : k < b.length
    · obtain ⟨ad, rfl, -, hc⟩ := plain_cell (HX.out.stp0 HS.out) k hlt
      have hcx := fun (W : World) (hW : Stp (fun _ => False) w W) => plain_cell (HX.out.stp0 hW) k hlt
      obtain ⟨c, hcc⟩ : ∃ c, c = b[k] := ⟨_, rfl⟩
      rw [← hcc] at hc
      have HCX : Hid (∀ W, Stp (fun _ => False) w W → W.cell? (ad.add k) = some (.int .u8 (c.toNat : Int))) := Lib.hid (fun W hW => by
        obtain ⟨ad', h1, -, h2⟩ := hcx W hW
        injection h1 with h1
        subst h1
        rw [← hcc] at h2
        exact h2)
      simp only [enc8] at hc
      have hstep : allT b = if (stepT s c).2.st = 0 then runT (stepT s c).1 (k + 1) (b.drop (k + 1)) else ((stepT s c).2, k + 1) := by
        rw [HRUN.out, drop_cons' b k hlt, runT_cons, ← hcc]
      have cD := rtakeD_any (gr + 1) s.1 c wr HD.out HOK.out.er HOK.out.nx HOK.out.l4 HOK.out.l5
      obtain ⟨v, hmf⟩ := HM.out
      have cM := fun W hW => rtakeM_any (gr + 1 + 1) s.2 v c W hW HOK.out.hd HOK.out.sz HOK.out.op (by omega)
      have hok2 := fun h => HOK.out.step c h
      have href := takeM_ref (c := c) HOK.out.hd HOK.out.sz
      have hjx := fun (h0 : (stp2 s c).2 = 0) (h1 : (stp2 s c).1 = true) => stp2_whole h0 h1
      unfold RtP at cD
      unfold RnP at cM
      obtain ⟨p, hp⟩ : ∃ p, p = takeD s.1 c := ⟨_, rfl⟩
      obtain ⟨q, hq⟩ : ∃ q, q = takeM s.2 c := ⟨_, rfl⟩
      rw [← hp] at cD
      rw [← hq] at cM href
      obtain ⟨d', is, ed⟩ := p
      obtain ⟨b', wh, em⟩ := q
      have hT := stepT_def s c hp.symm hq.symm
      simp only at cD cM hT
      have HST := Lib.hid hstep
      have HOK2 := Lib.hid hok2
      have HT := Lib.hid hT
      have HREF := Lib.hid href
      have HMF := Lib.hid hmf
      have hdm : v.ownBlock ≠ some (gr + 1) := fun h => by have := (hmf.2.lt _ h).1; omega
      have hrm : v.ownBlock ≠ some gr := fun h => by have := (hmf.2.lt _ h).1; omega
      have HNE := Lib.hid (And.intro hdm hrm)
      have HVL := Lib.hid (fun k hk => (hmf.2.lt k hk).1)
      have hin : (k : Int) < (b.length : Int) := by omega
      have hw : IntKind.i64.wrap ((k : Int) + 1) = (k : Int) + 1 := IntWalk.i64_in _ (by omega)
      clear hstep hok2 hT hp hq hcc href hmf hdm hrm hcx hjx
      go_wp2_with (go_at_call 20; refine stopc ?_)
      refine Stop.go ?_
      refine cD.mono ?_
      rintro e w1 ⟨rfl, hd1, hs1⟩
      have HD1 := Lib.hid hd1
      have HS1 := Lib.hid (HS.out.then_ hs1 (fun j hj h => by have := HGW.out; omega))
      have HR1 := Lib.hid (hs1.blk HRB.out (by omega))
      have HM1 := Lib.hid (HMF.out.step hs1 (by omega) (fun k hk e => HNE.out.1 (by rw [← e]; exact hk)))
      have hl1 := blk_lt HR1.out
      have hc1 := HCX.out w1 HS1.out
      clear hd1 hs1 cD hc
      by_cases h1 : ed = 0
      · subst h1
        cases is with
        | true =>
          go_wp2_with (go_at_call 21; refine stopc ?_)
          refine Stop.go ?_
          refine (cM _ HM1.out).mono ?_
          rintro e w2 ⟨rfl, hm2, hs2⟩
          have HM2 := Lib.hid hm2
          have HD2 := Lib.hid ((HD1.out (by simp)).step hs2 (fun h => h.elim (fun h => by omega) HNE.out.1))
          have HS2 := Lib.hid (HS1.out.then_ hs2 (fun j hj h => by
            rcases h with h | h
            · have := HGW.out; omega
            · have := HVL.out j h; have := HGW.out; omega))
          have HR2 := Lib.hid (hs2.blk HR1.out (fun h => h.elim (fun h => by omega) HNE.out.2))
          clear hm2 hs2 cM hc1 hl1
          have hl2 := blk_lt HR2.out
          by_cases h2 : em = 0
          · subst h2
            obtain ⟨v2, hmf2⟩ := HM2.out rfl
            have HMF2 := Lib.hid hmf2
            clear hmf2
            cases wh with
            | true =>
              have HT2 : Hid (stepT s c = ((d', b'), judgeT (b'.drop 4))) := Lib.hid (by rw [HT.out, if_neg (by simp), if_neg (by simp), if_neg (by simp), if_neg (by simp)])
              have hwR : whR b' = true := by
                have h := HREF.out
                injection h with e1 e2
                injection e2 with e2 e3
                rw [← e3] at e2
                rw [if_pos rfl, ← e1] at e2
                exact e2.symm
              have hbl : b'.length ≤ 100000 := by
                have h := HREF.out
                injection h with e1 e2
                rw [e1]
                simp
                omega
              have hne0 : ¬ (judgeT (b'.drop 4)).st = 0 := by
                rcases judgeT_cases (b'.drop 4) with ⟨g, -⟩ | ⟨e, -, g⟩
                · rw [g]; decide
                · rw [g]; exact (show ¬ (2 : Int) = 0 by decide)
              have HKN : Hid (allT b = (judgeT (b'.drop 4), k + 1)) := Lib.hid (by rw [HST.out, HT2.out]; exact if_neg hne0)
              have cB := rbody_any (fun _ => False) (gr + 1 + 1) b' v2 w2 HMF2.out (fun _ _ => id) hwR hbl
              have hdl : (b'.drop 4).length ≤ 1000000 := by rw [List.length_drop]; omega
              obtain ⟨x, hx⟩ : ∃ x, x = b'.drop 4 := ⟨_, rfl⟩
              rw [← hx] at cB HKN hdl
              have cJ := fun (vb : Value) (W : World) (hW : Rd L.u8 (fun _ => False) W vb x) => rjudge_any (fun _ => False) vb x W hW hdl
              unfold JdP at cJ
              obtain ⟨V, hV⟩ : ∃ V, V = judgeT x := ⟨_, rfl⟩
              rw [← hV] at HKN cJ
              clear hwR hbl hne0 hx hV
              go_wp2_with (go_at_call 23; refine stopc ?_)
              refine Stop.go ?_
              refine cB.mono ?_
              rintro e w3 ⟨vb3, rfl, hrd3, hs3⟩
              have HRD3 := Lib.hid hrd3
              obtain ⟨A3, c3, rfl, -⟩ := hrd3.form
              have HS3 := Lib.hid (HS2.out.trans hs3)
              have HR3 := Lib.hid (hs3.blk HR2.out id)
              clear hrd3 hs3 cB
              go_wp2_with (go_at_call 22; refine stopc ?_)
              refine Stop.go ?_
              refine (cJ _ _ HRD3.out).mono ?_
              rintro e w4 ⟨va, vv, rfl, hvr, hs4⟩
              have HS4 := Lib.hid (HS3.out.trans hs4)
              have HR4 := Lib.hid (hs4.blk HR3.out id)
              have hl4 := blk_lt HR4.out
              have HL3 := Lib.hid HS3.out.size
              have HVR4 := Lib.hid (hvr.weak (M' := fun k => k < w3.heap.size ∨ w4.heap.size ≤ k) (fun k hk h => by omega))
              obtain ⟨A1, p1, rfl, -⟩ := hvr.1.form
              obtain ⟨A2, p2, rfl, -⟩ := hvr.2.1.form
              clear hvr hs4 cJ hl2
              go_wp2_with (refine wpList_store_row rfl _ _ _ rfl w4.heap.size _ rfl rfl _ vd0 (heap_alloc_new w4 _) size_vd rfl (vgC_one _ _ _ _ _ _ _ _ _) ?_; refine stopw ?_)
              refine Stop.go ?_
              have hsA := (Stp.refl (fun _ => False) w4).alloc (.cells vd0 31)
              have hsB := (Stp.refl (fun k => k = w4.heap.size) (w4.alloc (.cells vd0 31))).rowA (g := w4.heap.size) (fun _ => rfl) (vgC V 0 0 (.slice A1 V.sn.alpn.length p1) (.slice A2 V.sn.vers.length p2)).toArray
              have hsC := hsA.then_ hsB (fun j hj h => by omega)
              refine wpl_gen (fun W => W.heap[w4.heap.size]? = some (.cells (vgC V 0 0 (.slice A1 V.sn.alpn.length p1) (.slice A2 V.sn.vers.length p2)).toArray 31 (0, 0)) ∧ W.heap[gr]? = some (.cells vd0 31 (0, 0)) ∧ VtR (fun k => k < w3.heap.size ∨ w4.heap.size ≤ k) W V (.slice A1 V.sn.alpn.length p1) (.slice A2 V.sn.vers.length p2) ∧ Stp (fun _ => False) w W) ⟨row_blk (heap_alloc_new w4 _) _, hsC.blk HR4.out id, HVR4.out.stp0 hsC, HS4.out.trans hsC⟩ ?_
              clear hsA hsB hsC
              rintro w5 ⟨hj5, hr5, hv5, hs5⟩
              obtain ⟨gj, hgj⟩ : ∃ g, g = w4.heap.size := ⟨_, rfl⟩
              rw [← hgj] at hj5 hv5 hl4
              simp only [← hgj]
              have HJ5 := Lib.hid hj5
              have HR5 := Lib.hid hr5
              have HV5 := Lib.hid hv5
              have HS5 := Lib.hid hs5
              have c1 : w5.cell? ⟨gj, 1, none⟩ = some (.int .i64 0) := by rw [blk_cell hj5]; rfl
              have c2 : w5.cell? ⟨gj, 2, none⟩ = some (.int .i64 0) := by rw [blk_cell hj5]; rfl
              have f1 := blk_free hj5 1
              have f2 := blk_free hj5 2
              have hl5 := blk_lt hj5
              have HGJ := Lib.hid (show w.heap.size ≤ gj from by rw [hgj]; exact HS4.out.size)
              clear hj5 hr5 hv5 hs5 hgj
              go_wp2_with (with_reducible refine stop (N := 57) rfl ?_)
              refine Stop.go ?_
              have hs6 : Stp (fun k => k = gj) w5 ((w5.setCell ⟨gj, 1, none⟩ (.int .i64 1)).setCell ⟨gj, 2, none⟩ (.int .i64 ((k : Int) + 1))) := ((Stp.refl _ _).setg 1 _).setg 2 _
              have hj6 : ((w5.setCell ⟨gj, 1, none⟩ (.int .i64 1)).setCell ⟨gj, 2, none⟩ (.int .i64 ((k : Int) + 1))).heap[gj]? = some (.cells (vtC V (k + 1) (.slice A1 V.sn.alpn.length p1) (.slice A2 V.sn.vers.length p2)).toArray 31 (0, 0)) := blk_set (blk_set HJ5.out 1 (.int .i64 1)) 2 (.int .i64 ((k : Int) + 1))
              have hr6 := hs6.blk HR5.out (by omega)
              refine wpList_load_row rfl _ _ rfl gj rfl _ _ (0, 0) _ hj6 Tryz.underlying31 rfl size_vd ?_
              refine wpList_store_row rfl _ _ _ rfl gr _ rfl rfl _ vd0 hr6 size_vd rfl (vtC_one _ _ _ _ _ _ _ _) ?_
              have hs7 := (Stp.refl (fun k => k = gr) ((w5.setCell ⟨gj, 1, none⟩ (.int .i64 1)).setCell ⟨gj, 2, none⟩ (.int .i64 ((k : Int) + 1)))).rowA (g := gr) (fun _ => rfl) (vtC V (k + 1) (.slice A1 V.sn.alpn.length p1) (.slice A2 V.sn.vers.length p2)).toArray
              have HR8 := Lib.hid (row_blk hr6 (vtC V (k + 1) (.slice A1 V.sn.alpn.length p1) (.slice A2 V.sn.vers.length p2)).toArray)
              have HS8 := Lib.hid ((HS5.out.then_ hs6 (fun j hj h => by have := HGJ.out; omega)).then_ hs7 (fun j hj h => by have := HGW.out; omega))
              have HV8 := Lib.hid ((HV5.out.step hs6 (fun j hj h => Or.inr (by omega))).step hs7 (fun j hj h => Or.inl (by have := HGW.out; have := HL3.out; have := blk_lt HR3.out; omega)))
              clear hs6 hj6 hr6 hs7
              go_wp2
              refine bodyPost_ret (results_cell_row rfl _ _ gr _ _ _ _ rfl HR8.out Tryz.underlying31 rfl size_vd) rfl ?_
              rw [HR.out]
              unfold RaT
              rw [HKN.out]
              exact ⟨_, _, rfl, HV8.out.weak (fun k hk h => Or.inl (Nat.lt_of_lt_of_le h HL3.out)), HS8.out⟩
            | false =>
              have HT2 : Hid (stepT s c = ((d', b'), .open_)) := Lib.hid (by rw [HT.out, if_neg (by simp), if_neg (by simp), if_neg (by simp), if_pos rfl])
              have HRU : Hid (allT b = runT (d', b') (k + 1) (b.drop (k + 1)) ∧ TsOk (d', b') (k + 1)) := Lib.hid (by
                have h1 := HST.out
                have h2 := HOK2.out
                rw [HT2.out] at h1 h2
                exact ⟨h1, h2 rfl⟩)
              obtain ⟨g', rfl⟩ : ∃ g', gk = g' + 1 := ⟨gk - 1, by omega⟩
              go_wp2
              go_roundg g'
              case measure => omega
              case rel => exact ⟨k + 1, (d', b'), by omega, by go_num, HRU.out.1, HRU.out.2, HD2.out, ⟨v2, HMF2.out⟩, HR2.out, HS2.out⟩
          · have hne2 : (em != 0) = true := by simpa using h2
            have hT2 : stepT s c = ((d', b'), .bad em) := by rw [HT.out, if_neg (by simp), if_neg (by simp), if_pos h2]
            have HKN : Hid (allT b = (.bad em, k + 1)) := Lib.hid (by
              rw [HST.out, hT2]
              exact if_neg (show ¬ (2 : Int) = 0 by decide))
            clear hT2
            clear h2
            have r0 : w2.cell? ⟨gr, 0, none⟩ = some (.int .i64 0) := blk_cell (j := 0) HR2.out
            have q0 := blk_free HR2.out 0
            have r1 : w2.cell? ⟨gr, 1, none⟩ = some (.int .i64 0) := blk_cell (j := 1) HR2.out
            have q1 := blk_free HR2.out 1
            have r2 : w2.cell? ⟨gr, 2, none⟩ = some (.int .i64 0) := blk_cell (j := 2) HR2.out
            have q2 := blk_free HR2.out 2
            have r3 : w2.cell? ⟨gr, 3, none⟩ = some (.int .i64 0) := blk_cell (j := 3) HR2.out
            have q3 := blk_free HR2.out 3
            have r4 : w2.cell? ⟨gr, 4, none⟩ = some (.string ⟨#[]⟩) := blk_cell (j := 4) HR2.out
            have q4 := blk_free HR2.out 4
            have r5 : w2.cell? ⟨gr, 5, none⟩ = some (.int .i64 0) := blk_cell (j := 5) HR2.out
            have q5 := blk_free HR2.out 5
            have r6 : w2.cell? ⟨gr, 6, none⟩ = some (.bool false) := blk_cell (j := 6) HR2.out
            have q6 := blk_free HR2.out 6
            have r7 : w2.cell? ⟨gr, 7, none⟩ = some (.string ⟨#[]⟩) := blk_cell (j := 7) HR2.out
            have q7 := blk_free HR2.out 7
            have r8 : w2.cell? ⟨gr, 8, none⟩ = some (.slice none 0 0) := blk_cell (j := 8) HR2.out
            have q8 := blk_free HR2.out 8
            have r9 : w2.cell? ⟨gr, 9, none⟩ = some (.slice none 0 0) := blk_cell (j := 9) HR2.out
            have q9 := blk_free HR2.out 9
            have r10 : w2.cell? ⟨gr, 10, none⟩ = some (.bool false) := blk_cell (j := 10) HR2.out
            have q10 := blk_free HR2.out 10
            go_wp2
            refine bodyPost_ret (results_cell_row rfl _ _ gr _ _ _ _ rfl (vd_set HR2.out _ _ _ _ _ _ _ _ _ _ _) Tryz.underlying31 rfl size_vd) rfl ?_
            rw [HR.out]
            unfold RaT
            rw [HKN.out]
            exact ⟨_, _, rfl, VtR.nil _ _ _ _ _, HS2.out.then_ (vd_stp w2 gr _ _ _ _ _ _ _ _ _ _ _) (fun j hj h => by have := HGW.out; omega)⟩
        | false =>
          have HT2 : Hid (stepT s c = ((d', s.2), .open_)) := Lib.hid (by rw [HT.out, if_neg (by simp), if_pos rfl])
          have HRU : Hid (allT b = runT (d', s.2) (k + 1) (b.drop (k + 1)) ∧ TsOk (d', s.2) (k + 1)) := Lib.hid (by
            have h1 := HST.out
            have h2 := HOK2.out
            rw [HT2.out] at h1 h2
            exact ⟨h1, h2 rfl⟩)
          obtain ⟨g', rfl⟩ : ∃ g', gk = g' + 1 := ⟨gk - 1, by omega⟩
          go_wp2
          go_roundg g'
          case measure => omega
          case rel => exact ⟨k + 1, (d', s.2), by omega, by go_num, HRU.out.1, HRU.out.2, HD1.out (by simp), ⟨v, HM1.out⟩, HR1.out, HS1.out⟩
      · have hne1 : (ed != 0) = true := by simpa using h1
        have hne1' : (ed == 0) = false := by simpa using h1
        have hT2 : stepT s c = ((d', s.2), .bad ed) := by rw [HT.out, if_pos h1]
        have HKN : Hid (allT b = (.bad ed, k + 1)) := Lib.hid (by
          rw [HST.out, hT2]
          exact if_neg (show ¬ (2 : Int) = 0 by decide))
        clear hT2
        clear h1 hc1
        have r0 : w1.cell? ⟨gr, 0, none⟩ = some (.int .i64 0) := blk_cell (j := 0) HR1.out
        have q0 := blk_free HR1.out 0
        have r1 : w1.cell? ⟨gr, 1, none⟩ = some (.int .i64 0) := blk_cell (j := 1) HR1.out
        have q1 := blk_free HR1.out 1
        have r2 : w1.cell? ⟨gr, 2, none⟩ = some (.int .i64 0) := blk_cell (j := 2) HR1.out
        have q2 := blk_free HR1.out 2
        have r3 : w1.cell? ⟨gr, 3, none⟩ = some (.int .i64 0) := blk_cell (j := 3) HR1.out
        have q3 := blk_free HR1.out 3
        have r4 : w1.cell? ⟨gr, 4, none⟩ = some (.string ⟨#[]⟩) := blk_cell (j := 4) HR1.out
        have q4 := blk_free HR1.out 4
        have r5 : w1.cell? ⟨gr, 5, none⟩ = some (.int .i64 0) := blk_cell (j := 5) HR1.out
        have q5 := blk_free HR1.out 5
        have r6 : w1.cell? ⟨gr, 6, none⟩ = some (.bool false) := blk_cell (j := 6) HR1.out
        have q6 := blk_free HR1.out 6
        have r7 : w1.cell? ⟨gr, 7, none⟩ = some (.string ⟨#[]⟩) := blk_cell (j := 7) HR1.out
        have q7 := blk_free HR1.out 7
        have r8 : w1.cell? ⟨gr, 8, none⟩ = some (.slice none 0 0) := blk_cell (j := 8) HR1.out
        have q8 := blk_free HR1.out 8
        have r9 : w1.cell? ⟨gr, 9, none⟩ = some (.slice none 0 0) := blk_cell (j := 9) HR1.out
        have q9 := blk_free HR1.out 9
        have r10 : w1.cell? ⟨gr, 10, none⟩ = some (.bool false) := blk_cell (j := 10) HR1.out
        have q10 := blk_free HR1.out 10
        go_wp2
        refine bodyPost_ret (results_cell_row rfl _ _ gr _ _ _ _ rfl (vd_set HR1.out _ _ _ _ _ _ _ _ _ _ _) Tryz.underlying31 rfl size_vd) rfl ?_
        rw [HR.out]
        unfold RaT
        rw [HKN.out]
        exact ⟨_, _, rfl, VtR.nil _ _ _ _ _, HS1.out.then_ (vd_stp w1 gr _ _ _ _ _ _ _ _ _ _ _) (fun j hj h => by have := HGW.out; omega)⟩
    · obtain rfl : k = b.length := by omega
      have HKN : Hid (allT b = (.open_, b.length)) := Lib.hid (by rw [HRUN.out, List.drop_length]; rfl)
      have hl1 := blk_lt HRB.out
      have r0 : wr.cell? ⟨gr, 0, none⟩ = some (.int .i64 0) := blk_cell (j := 0) HRB.out
      have q0 := blk_free HRB.out 0
      have r1 : wr.cell? ⟨gr, 1, none⟩ = some (.int .i64 0) := blk_cell (j := 1) HRB.out
      have q1 := blk_free HRB.out 1
      have r2 : wr.cell? ⟨gr, 2, none⟩ = some (.int .i64 0) := blk_cell (j := 2) HRB.out
      have q2 := blk_free HRB.out 2
      have r3 : wr.cell? ⟨gr, 3, none⟩ = some (.int .i64 0) := blk_cell (j := 3) HRB.out
      have q3 := blk_free HRB.out 3
      have r4 : wr.cell? ⟨gr, 4, none⟩ = some (.string ⟨#[]⟩) := blk_cell (j := 4) HRB.out
      have q4 := blk_free HRB.out 4
      have r5 : wr.cell? ⟨gr, 5, none⟩ = some (.int .i64 0) := blk_cell (j := 5) HRB.out
      have q5 := blk_free HRB.out 5
      have r6 : wr.cell? ⟨gr, 6, none⟩ = some (.bool false) := blk_cell (j := 6) HRB.out
      have q6 := blk_free HRB.out 6
      have r7 : wr.cell? ⟨gr, 7, none⟩ = some (.string ⟨#[]⟩) := blk_cell (j := 7) HRB.out
      have q7 := blk_free HRB.out 7
      have r8 : wr.cell? ⟨gr, 8, none⟩ = some (.slice none 0 0) := blk_cell (j := 8) HRB.out
      have q8 := blk_free HRB.out 8
      have r9 : wr.cell? ⟨gr, 9, none⟩ = some (.slice none 0 0) := blk_cell (j := 9) HRB.out
      have q9 := blk_free HRB.out 9
      have r10 : wr.cell? ⟨gr, 10, none⟩ = some (.bool false) := blk_cell (j := 10) HRB.out
      have q10 := blk_free HRB.out 10
      go_wp2
      refine bodyPost_ret (results_cell_row rfl _ _ gr _ _ _ _ rfl (vd_set HRB.out _ _ _ _ _ _ _ _ _ _ _) Tryz.underlying31 rfl size_vd) rfl ?_
      rw [HR.out]
      unfold RaT
      rw [HKN.out]
      exact ⟨_, _, rfl, VtR.nil _ _ _ _ _, HS.out.then_ (vd_stp wr gr _ _ _ _ _ _ _ _ _ _ _) (fun j hj h => by have := HGW.out; omega)⟩
end Go.Proofs.YtligofmhbbgalaaGreatDoor.L

/- Layer 15, plain: a message in records. No function of the program. -/
namespace Go.Proofs.YtligofmhbbgalaaGreatDoor.L
open Go.RowKit

/-- Two bytes of a size. -/
def b2 (n : Nat) : List UInt8 := [UInt8.ofNat (n / 256), UInt8.ofNat (n % 256)]
def wrapW (x : List UInt8) : List UInt8 := 1 :: 0 :: (b2 x.length ++ x)
def recR (p : List UInt8) : List UInt8 := 22 :: 3 :: 1 :: (b2 p.length ++ p)
def frameF : Nat → Nat → List UInt8 → List UInt8
  | 0, _, _ => []
  | f + 1, n, x => if x = [] then [] else recR (x.take n) ++ frameF f n (x.drop n)
def frameS (n : Nat) (x : List UInt8) : List UInt8 := frameF x.length n x
theorem hi_nat (n : Nat) (h : n ≤ 16384) : (UInt8.ofNat (n / 256)).toNat = n / 256 := by
  rw [UInt8.toNat_ofNat']
  omega
theorem lo_nat (n : Nat) : (UInt8.ofNat (n % 256)).toNat = n % 256 := by
  rw [UInt8.toNat_ofNat']
  omega
theorem wrapW_len (x : List UInt8) : (wrapW x).length = 4 + x.length := by
  unfold wrapW b2
  simp
  omega
theorem wrapW_drop (x : List UInt8) : (wrapW x).drop 4 = x := rfl
/-- A byte more of a message. -/
theorem takeM_wrap {x b : List UInt8} {c : UInt8} (hx : x.length ≤ 16384) (h : b ++ [c] <+: wrapW x) : takeM b c = (b ++ [c], decide ((b ++ [c]).length = (wrapW x).length), 0) := by
  have hlen := h.length_le
  rw [wrapW_len] at hlen ⊢
  have hat : ∀ j, j < (b ++ [c]).length → (b ++ [c])[j]? = (wrapW x)[j]? := fun j hj => by
    obtain ⟨r, hr⟩ := h
    rw [← hr, List.getElem?_append_left hj]
  simp only [List.length_append, List.length_cons, List.length_nil] at hlen
  have hw0 : (wrapW x)[0]? = some 1 := rfl
  have hw1 : (wrapW x)[1]? = some 0 := rfl
  have hw2 : (wrapW x)[2]? = some (UInt8.ofNat (x.length / 256)) := rfl
  have hw3 : (wrapW x)[3]? = some (UInt8.ofNat (x.length % 256)) := rfl
  have hl1 : (b ++ [c]).length = b.length + 1 := by simp
  -- the message's size by its first bytes
  have msz4 : 4 ≤ (b ++ [c]).length → msz (b ++ [c]) = x.length := fun h4 => by
    have e : (b ++ [c]).take 4 = (wrapW x).take 4 := by
      apply List.ext_getElem?
      intro j
      rw [List.getElem?_take, List.getElem?_take]
      split
      · exact hat j (by omega)
      · rfl
    unfold msz
    rw [e]
    show beNum [0, UInt8.ofNat (x.length / 256), UInt8.ofNat (x.length % 256)] = _
    unfold beNum
    simp only [List.foldl_cons, List.foldl_nil, hi_nat _ hx, lo_nat]
    have : (0 : UInt8).toNat = 0 := rfl
    omega
  unfold takeM
  by_cases h0 : b = []
  · subst h0
    have hc := hat 0 (by simp)
    rw [hw0] at hc
    obtain rfl : c = 1 := by simpa using hc
    rw [if_pos rfl, if_pos rfl]
    have : decide (([] ++ [(1 : UInt8)]).length = 4 + x.length) = false := decide_eq_false (by simp; omega)
    rw [this]
    rfl
  · rw [if_neg h0]
    have hb1 : 1 ≤ b.length := by
      cases b with
      | nil => exact absurd rfl h0
      | cons _ _ => simp
    have hno : ¬ (b.length < 4 ∧ 16384 < msz (b ++ [c]) * 256 ^ (3 - b.length)) := by
      rintro ⟨h4, hbig⟩
      have e3 : b.length = 1 ∨ b.length = 2 ∨ b.length = 3 := by omega
      rcases e3 with e | e | e
      · have hc := hat 1 (by omega)
        rw [hw1] at hc
        have : (b ++ [c]) = [1, 0] := by
          apply List.ext_getElem?
          intro j
          match j with
          | 0 => rw [hat 0 (by omega)]; rfl
          | 1 => rw [hc]; rfl
          | j + 2 => rw [List.getElem?_eq_none (by omega), List.getElem?_eq_none (by simp)]
        rw [this] at hbig
        revert hbig
        rw [e]
        decide
      · have : (b ++ [c]) = [1, 0, UInt8.ofNat (x.length / 256)] := by
          apply List.ext_getElem?
          intro j
          match j with
          | 0 => rw [hat 0 (by omega)]; rfl
          | 1 => rw [hat 1 (by omega)]; rfl
          | 2 => rw [hat 2 (by omega)]; rfl
          | j + 3 => rw [List.getElem?_eq_none (by omega), List.getElem?_eq_none (by simp)]
        rw [this, e] at hbig
        have hm : msz [1, 0, UInt8.ofNat (x.length / 256)] = x.length / 256 := by
          show beNum [0, UInt8.ofNat (x.length / 256)] = _
          unfold beNum
          simp only [List.foldl_cons, List.foldl_nil, hi_nat _ hx]
          have : (0 : UInt8).toNat = 0 := rfl
          omega
        rw [hm] at hbig
        have : (256 : Nat) ^ (3 - 2) = 256 := rfl
        omega
      · rw [msz4 (by omega), e] at hbig
        have : (256 : Nat) ^ (3 - 3) = 1 := rfl
        omega
    rw [if_neg hno]
    congr 2
    rw [Bool.eq_iff_iff, decide_eq_true_iff, decide_eq_true_iff]
    constructor
    · rintro ⟨h4, h5⟩
      rw [msz4 h4] at h5
      exact h5
    · intro h5
      have h4 : 4 ≤ (b ++ [c]).length := by omega
      exact ⟨h4, by rw [msz4 h4]; exact h5⟩
/-- The bytes of a payload. -/
theorem run_pay {x : List UInt8} (hx : x.length ≤ 16384) (p : List UInt8) : ∀ (b : List UInt8) (u : Nat) (r : List UInt8), p ≠ [] → b ++ p <+: wrapW x →
    runT (⟨5, p.length, 0⟩, b) u (p ++ r) = if (b ++ p).length = (wrapW x).length then (judgeT x, u + p.length) else runT (⟨0, 0, 0⟩, b ++ p) (u + p.length) r := by
  induction p with
  | nil => intro b u r h; exact absurd rfl h
  | cons c p ih =>
    intro b u r _ hp
    have hp1 : b ++ [c] <+: wrapW x := by
      refine List.IsPrefix.trans ?_ hp
      exact ⟨p, by simp⟩
    have hM := takeM_wrap hx hp1
    have hD : takeD ⟨5, (c :: p).length, 0⟩ c = (⟨if (c :: p).length = 1 then 0 else 5, (c :: p).length - 1, 0⟩, true, 0) := rfl
    have hS : stepT (⟨5, (c :: p).length, 0⟩, b) c = ((⟨if (c :: p).length = 1 then 0 else 5, (c :: p).length - 1, 0⟩, b ++ [c]), if (b ++ [c]).length = (wrapW x).length then judgeT ((b ++ [c]).drop 4) else .open_) := by
      unfold stepT
      simp only [hD, hM]
      rw [if_neg (by simp), if_neg (by simp), if_neg (by simp)]
      by_cases hw : (b ++ [c]).length = (wrapW x).length
      · rw [decide_eq_true hw, if_neg (by simp), if_pos hw]
      · rw [decide_eq_false hw, if_pos rfl, if_neg hw]
    rw [List.cons_append, runT_cons, hS]
    by_cases hw : (b ++ [c]).length = (wrapW x).length
    · have hpn : p = [] := by
        have := hp.length_le
        simp only [List.length_append, List.length_cons, List.length_nil] at this hw
        exact List.eq_nil_of_length_eq_zero (by omega)
      subst hpn
      have hbe : b ++ [c] = wrapW x := hp1.eq_of_length hw
      rw [if_pos hw, if_pos hw, hbe, wrapW_drop]
      have : ¬ (judgeT x).st = 0 := by
        rcases judgeT_cases x with ⟨g, -⟩ | ⟨e, -, g⟩
        · rw [g]; decide
        · rw [g]; exact (show ¬ (2 : Int) = 0 by decide)
      rw [if_neg this]
      rfl
    · rw [if_neg hw]
      rw [if_pos (show (Vt.open_).st = 0 from rfl)]
      cases p with
      | nil =>
        rw [if_neg hw]
        rfl
      | cons y p =>
        have hne : ¬ (c :: y :: p).length = 1 := by simp
        rw [if_neg hne]
        have e := ih (b ++ [c]) (u + 1) r (by simp) (by rw [List.append_assoc]; exact hp)
        have e2 : (c :: y :: p).length - 1 = (y :: p).length := rfl
        rw [e2, e, List.append_assoc]
        have e3 : u + 1 + (y :: p).length = u + (c :: y :: p).length := by simp only [List.length_cons]; omega
        rw [e3]
        rfl
theorem run_rec {x : List UInt8} (hx : x.length ≤ 16384) (p : List UInt8) (b : List UInt8) (u : Nat) (r : List UInt8) (h0 : p ≠ []) (h1 : p.length ≤ 16384) (hp : b ++ p <+: wrapW x) :
    runT (⟨0, 0, 0⟩, b) u (recR p ++ r) = if (b ++ p).length = (wrapW x).length then (judgeT x, u + (recR p).length) else runT (⟨0, 0, 0⟩, b ++ p) (u + (recR p).length) r := by
  have hpl : 0 < p.length := List.length_pos_iff.2 h0
  have e1 : ∀ l : Nat, stepT (⟨0, l, 0⟩, b) 22 = ((⟨1, l, 0⟩, b), .open_) := fun l => rfl
  have e2 : ∀ l : Nat, stepT (⟨1, l, 0⟩, b) 3 = ((⟨2, l, 0⟩, b), .open_) := fun l => rfl
  have e3 : ∀ l : Nat, stepT (⟨2, l, 0⟩, b) 1 = ((⟨3, l, 0⟩, b), .open_) := fun l => rfl
  have e4 : ∀ l : Nat, stepT (⟨3, l, 0⟩, b) (UInt8.ofNat (p.length / 256)) = ((⟨4, p.length / 256 * 256, 0⟩, b), .open_) := fun l => by
    have hh : headD ⟨3, l, 0⟩ (UInt8.ofNat (p.length / 256)) = ⟨4, p.length / 256 * 256, 0⟩ := by
      unfold headD
      rw [if_neg (by simp), if_neg (by simp), if_neg (by simp), if_pos rfl, hi_nat _ h1, if_pos (by omega)]
    have hd : takeD ⟨3, l, 0⟩ (UInt8.ofNat (p.length / 256)) = (⟨4, p.length / 256 * 256, 0⟩, false, 0) := by
      unfold takeD
      rw [if_neg (by simp), if_pos (by show (3 : Nat) < 5; decide), hh]
    unfold stepT
    simp only [hd]
    rw [if_neg (by simp), if_pos trivial]
  have e5 : stepT (⟨4, p.length / 256 * 256, 0⟩, b) (UInt8.ofNat (p.length % 256)) = ((⟨5, p.length, 0⟩, b), .open_) := by
    have hs : p.length / 256 * 256 + p.length % 256 = p.length := by omega
    have hh : headD ⟨4, p.length / 256 * 256, 0⟩ (UInt8.ofNat (p.length % 256)) = ⟨5, p.length, 0⟩ := by
      unfold headD
      rw [if_neg (by simp), if_neg (by simp), if_neg (by simp), if_neg (by simp)]
      simp only
      rw [lo_nat, hs, if_pos ⟨hpl, h1⟩]
    have hd : takeD ⟨4, p.length / 256 * 256, 0⟩ (UInt8.ofNat (p.length % 256)) = (⟨5, p.length, 0⟩, false, 0) := by
      unfold takeD
      rw [if_neg (by simp), if_pos (by show (4 : Nat) < 5; decide), hh]
    unfold stepT
    simp only [hd]
    rw [if_neg (by simp), if_pos trivial]
  have on : ∀ {s s' : Ts} {c : UInt8}, stepT s c = (s', .open_) → ∀ (u : Nat) (r : List UInt8), runT s u (c :: r) = runT s' (u + 1) r := fun h u r => by
    rw [runT_cons, h]
    exact if_pos rfl
  have el : recR p ++ r = 22 :: 3 :: 1 :: UInt8.ofNat (p.length / 256) :: UInt8.ofNat (p.length % 256) :: (p ++ r) := rfl
  have ell : (recR p).length = 5 + p.length := by
    unfold recR b2
    simp
    omega
  rw [el, on (e1 0), on (e2 0), on (e3 0), on (e4 0), on e5, run_pay hx p b _ r h0 hp, ell]
  rw [show u + 1 + 1 + 1 + 1 + 1 + p.length = u + (5 + p.length) by omega]
theorem run_frames {x : List UInt8} (hx : x.length ≤ 16384) (n : Nat) (h1 : 1 ≤ n) (hn : n ≤ 16384) (f : Nat) : ∀ (y b : List UInt8) (u : Nat), y ≠ [] → y.length ≤ f → b ++ y = wrapW x →
    runT (⟨0, 0, 0⟩, b) u (frameF f n y) = (judgeT x, u + (frameF f n y).length) := by
  induction f with
  | zero =>
    intro y b u h0 hl _
    exact absurd (List.eq_nil_of_length_eq_zero (by omega)) h0
  | succ f ih =>
    intro y b u h0 hl hb
    have hyl : 0 < y.length := List.length_pos_iff.2 h0
    rw [frameF, if_neg h0]
    have ht : y.take n ≠ [] := by
      intro h
      have := congrArg List.length h
      rw [List.length_take, List.length_nil] at this
      omega
    have hpre : b ++ y.take n <+: wrapW x := ⟨y.drop n, by rw [List.append_assoc, List.take_append_drop, hb]⟩
    rw [run_rec hx (y.take n) b u _ ht (by rw [List.length_take]; omega) hpre]
    have hbl := congrArg List.length hb
    rw [List.length_append] at hbl
    by_cases hd : y.length ≤ n
    · have e1 : y.take n = y := List.take_of_length_le hd
      have e2 : y.drop n = [] := List.drop_of_length_le hd
      have e3 : frameF f n [] = [] := by cases f <;> rfl
      rw [e1, e2, e3, hb, if_pos rfl, List.append_nil]
    · have hne : ¬ (b ++ y.take n).length = (wrapW x).length := by
        rw [List.length_append, List.length_take]
        omega
      rw [if_neg hne, ih (y.drop n) (b ++ y.take n) _ (by
        intro h
        have := congrArg List.length h
        rw [List.length_drop] at this
        simp at this
        omega) (by rw [List.length_drop]; omega) (by rw [List.append_assoc, List.take_append_drop, hb])]
      rw [Nat.add_assoc, List.length_append]
/-- A message is known by its last byte, whatever size its records have. -/
theorem all_frames (x : List UInt8) (hx : x.length ≤ 16384) (n : Nat) (h1 : 1 ≤ n) (hn : n ≤ 16384) : allT (frameS n (wrapW x)) = (judgeT x, (frameS n (wrapW x)).length) := by
  have h := run_frames hx n h1 hn (wrapW x).length (wrapW x) [] 0 (by unfold wrapW; simp) (Nat.le_refl _) rfl
  rw [Nat.zero_add] at h
  exact h
end Go.Proofs.YtligofmhbbgalaaGreatDoor.L

/- What is laid is parsed as it was; what is parsed is laid as it was: plain laws. -/
namespace Go.Proofs.YtligofmhbbgalaaGreatDoor.L

theorem vecB_yes (b x : List UInt8) (k : Int) (h : x.length < 256 ^ clampN k) : (vecB b k x).1 = b ++ (be (x.length : Nat) (clampN k) ++ x) := by
  unfold vecB
  rw [if_pos h]
  simp
theorem xOne_yes (x : Int × List UInt8) (h : x.2.length ≤ 65535) : xOne x = be x.1 2 ++ (be (x.2.length : Nat) 2 ++ x.2) := vecB_yes _ _ 2 (by show _ < 256 ^ 2; omega)
theorem wrong_zero (h : Hl) (hw : wrongH h = 0) : 768 ≤ h.ver ∧ h.ver ≤ 1023 ∧ h.ses.length ≤ 32 ∧ (0 : UInt8) ∈ h.met ∧ dup h.exs = false := by
  unfold wrongH at hw
  split at hw
  · cases hw
  · rename_i h1
    split at hw
    · cases hw
    · rename_i h2
      split at hw
      · cases hw
      · rename_i h3
        split at hw
        · cases hw
        · rename_i h4
          exact ⟨by omega, by omega, by omega, Classical.not_not.1 h3, by simpa using h4⟩
/-- The bytes ahead of the extensions. -/
theorem layA_eq (h : Hl) (h1 : h.ses.length < 256) (h2 : (flatN h.cip).length < 65536) (h3 : h.met.length < 256) :
    layA h = be h.ver 2 ++ (h.rnd ++ ((be (h.ses.length : Nat) 1 ++ h.ses) ++ ((be ((flatN h.cip).length : Nat) 2 ++ flatN h.cip) ++ (be (h.met.length : Nat) 1 ++ h.met)))) := by
  unfold layA
  rw [vecB_yes _ _ 1 h3, vecB_yes _ _ 2 h2, vecB_yes _ _ 1 h1]
  simp only [List.append_assoc]
  rfl
end Go.Proofs.YtligofmhbbgalaaGreatDoor.L

/- What is laid is parsed as it was; bytes of which some are missing, or behind which more stands: plain laws. -/
namespace Go.Proofs.YtligofmhbbgalaaGreatDoor.L
open Go.RowKit Go.Proofs

/-- The parts ahead of the extensions are read as they were laid. -/
theorem rds (h : Hl) (t : List UInt8) (hv : 0 ≤ h.ver ∧ h.ver ≤ 65535) (hr : h.rnd.length = 32) (h1 : h.ses.length < 256) (h2 : (flatN h.cip).length < 65536) (h3 : h.met.length < 256) :
    (rd1 (layA h ++ t)).1 = h.ver ∧ (rd2 (layA h ++ t)).1 = h.rnd ∧ (rd3 (layA h ++ t)).1 = h.ses ∧ (rd4 (layA h ++ t)).1 = flatN h.cip ∧ rd5 (layA h ++ t) = (h.met, (t, false)) := by
  obtain ⟨n, hn⟩ : ∃ n : Nat, h.ver = (n : Int) := ⟨h.ver.toNat, by omega⟩
  obtain ⟨R5, e5⟩ : ∃ R, R = be (h.met.length : Nat) (clampN 1) ++ h.met ++ t := ⟨_, rfl⟩
  obtain ⟨R4, e4⟩ : ∃ R, R = be ((flatN h.cip).length : Nat) (clampN 2) ++ flatN h.cip ++ R5 := ⟨_, rfl⟩
  obtain ⟨R3, e3⟩ : ∃ R, R = be (h.ses.length : Nat) (clampN 1) ++ h.ses ++ R4 := ⟨_, rfl⟩
  have hb : layA h ++ t = be (n : Int) (clampN 2) ++ (h.rnd ++ R3) := by
    rw [layA_eq h h1 h2 h3, e3, e4, e5, hn]
    simp only [List.append_assoc]
    rfl
  have r1 : rd1 (layA h ++ t) = ((n : Int), (h.rnd ++ R3, false)) := by
    unfold rd1
    rw [hb]
    exact rnum_be n 2 _ (by show n < 256 ^ 2; omega)
  have r2 : rd2 (layA h ++ t) = (h.rnd, (R3, false)) := by
    unfold rd2
    rw [r1]
    exact rtake_app _ _ _ (by rw [hr]; rfl)
  have r3 : rd3 (layA h ++ t) = (h.ses, (R4, false)) := by
    unfold rd3
    rw [r2, e3]
    exact rvec_be _ _ 1 h1
  have r4 : rd4 (layA h ++ t) = (flatN h.cip, (R5, false)) := by
    unfold rd4
    rw [r3, e4]
    exact rvec_be _ _ 2 h2
  have r5 : rd5 (layA h ++ t) = (h.met, (t, false)) := by
    unfold rd5
    rw [r4, e5]
    exact rvec_be _ _ 1 h3
  exact ⟨by rw [r1, hn], by rw [r2], by rw [r3], by rw [r4], r5⟩
theorem ok_parts (h : Hl) (ho : okP h = true) : (0 ≤ h.ver ∧ h.ver ≤ 65535) ∧ h.ses.length < 256 ∧ (flatN h.cip).length < 65536 ∧ h.met.length < 256 ∧ 0 < h.cip.length ∧ 0 < h.met.length ∧ h.cip.all twoB = true ∧ h.exs.all extB = true ∧ (flatX h.exs).length < 65536 ∧ wrongH h = 0 ∧ (h.has = true ∨ h.exs = []) := by
  simp only [okP, ok1, Bool.and_eq_true, decide_eq_true_eq, Bool.or_eq_true] at ho
  obtain ⟨⟨⟨⟨⟨⟨⟨⟨⟨a1, a2⟩, a3⟩, a4⟩, a5⟩, a6⟩, a7⟩, a8⟩, a9⟩, a10⟩ := ho
  obtain ⟨-, -, w3, -⟩ := wrong_zero h a5
  simp only [twoB, Bool.and_eq_true, decide_eq_true_eq] at a1
  refine ⟨a1, by omega, by omega, by omega, a2, a3, a7, a8, by omega, a5, ?_⟩
  rcases a6 with a6 | a6
  · exact .inl a6
  · exact .inr (List.eq_nil_of_length_eq_zero a6)
theorem fit_two (l : List Int) (h : l.all twoB = true) : fitV l = true := by simpa [fitV, twoB] using h
theorem laid_lay (h : Hl) (t : List UInt8) (ho : okP h = true) (hr : h.rnd.length = 32) :
    laidS (layA h ++ t) = if t.length = 0 then some { h with has := false, exs := [] } else if okX (layA h ++ t) then some { h with has := true, exs := (extS (rd6 (layA h ++ t)).1).1 } else none := by
  obtain ⟨p1, p2, p3, p4, p5, p6, p7, p8, p9, p10, p11⟩ := ok_parts h ho
  obtain ⟨q1, q2, q3, q4, q5⟩ := rds h t p1 hr p2 p3 p4
  have hF : okFH (layA h ++ t) := by
    refine ⟨by rw [q5], ?_, ?_, ?_⟩
    · rw [q4, flatN_len]; omega
    · rw [q4, flatN_len]; omega
    · rw [q5]; simp only; omega
  have hh : hlF (layA h ++ t) = { h with has := false, exs := [] } := by
    unfold hlF
    rw [q1, q2, q3, q4, q5, twos_put _ (fit_two _ p7)]
    unfold rndS
    rw [if_pos hr]
  unfold laidS
  rw [if_pos hF, hh, q5]
theorem rd6_lay (h : Hl) (t : List UInt8) (ho : okP h = true) (hr : h.rnd.length = 32) : rd6 (layA h ++ t) = rvec (t, false) 2 := by
  obtain ⟨p1, p2, p3, p4, p5, p6, p7, p8, p9, p10, p11⟩ := ok_parts h ho
  obtain ⟨q1, q2, q3, q4, q5⟩ := rds h t p1 hr p2 p3 p4
  unfold rd6
  rw [q5]
theorem many_putX (l : List (Int × List UInt8)) (n : Nat) (hn : (flatX l).length ≤ n) (h : l.all extB = true) : many oneX n (flatX l, false) = (l, ([], false)) := by
  induction l generalizing n with
  | nil => exact many_nil _ _ _ rfl
  | cons x l ih =>
    simp only [List.all_cons, Bool.and_eq_true] at h
    obtain ⟨h1, h2⟩ := h
    simp only [extB, twoB, Bool.and_eq_true, decide_eq_true_eq] at h1
    obtain ⟨⟨h3, h4⟩, h5⟩ := h1
    obtain ⟨m, hm⟩ : ∃ m : Nat, x.1 = (m : Int) := ⟨x.1.toNat, by omega⟩
    have e : flatX (x :: l) = be (m : Int) (clampN 2) ++ (be (x.2.length : Nat) (clampN 2) ++ x.2 ++ flatX l) := by
      show xOne x ++ flatX l = _
      rw [xOne_yes x h5, hm]
      simp only [List.append_assoc]
      rfl
    have hl : (flatX (x :: l)).length = 4 + x.2.length + (flatX l).length := by
      rw [e]
      simp only [List.length_append, be_len, show clampN 2 = 2 from rfl]
      omega
    obtain ⟨k, rfl⟩ : ∃ k, n = k + 1 := ⟨n - 1, by omega⟩
    rw [many_cons _ _ _ (by simp only; omega)]
    have h6 : oneX (flatX (x :: l), false) = (x, (flatX l, false)) := by
      unfold oneX
      rw [e, rnum_be m 2 _ (by show m < 256 ^ 2; omega)]
      simp only
      rw [rvec_be x.2 (flatX l) 2 (by show _ < 256 ^ 2; omega), ← hm]
    rw [h6]
    simp only
    rw [ih k (by omega) h2]
theorem parse_lay (h : Hl) (ho : okP h = true) (hr : h.rnd.length = 32) : parseS (layS h) = (h, 0) := by
  obtain ⟨p1, p2, p3, p4, p5, p6, p7, p8, p9, p10, p11⟩ := ok_parts h ho
  have hl : laidS (layS h) = some h := by
    unfold layS
    split
    · rename_i hh
      rw [vecB_yes _ _ 2 p9, laid_lay h _ ho hr, if_neg (by simp [be_len, show clampN 2 = 2 from rfl]), if_pos]
      · rw [rd6_lay h _ ho hr]
        have e := rvec_be (flatX h.exs) [] 2 p9
        rw [List.append_nil] at e
        rw [e]
        unfold extS
        rw [many_putX _ _ (Nat.le_refl _) p8]
        cases h
        simp only at hh
        rw [hh]
      · unfold okX
        rw [rd6_lay h _ ho hr]
        have e := rvec_be (flatX h.exs) [] 2 p9
        rw [List.append_nil] at e
        rw [e]
        refine ⟨rfl, rfl, ?_⟩
        unfold extS
        rw [many_putX _ _ (Nat.le_refl _) p8]
        rfl
    · rename_i hh
      have hh : h.has = false := by simpa using hh
      have he : h.exs = [] := by
        rcases p11 with e | e
        · rw [hh] at e
          cases e
        · exact e
      have e := laid_lay h [] ho hr
      rw [List.append_nil] at e
      rw [e, if_pos (show ([] : List UInt8).length = 0 from rfl)]
      cases h
      simp only at hh he
      rw [hh, he]
  unfold parseS
  rw [hl]
  simp only
  rw [if_pos p10]
/-! ### more, and less -/
end Go.Proofs.YtligofmhbbgalaaGreatDoor.L

/- Layer 15, plain: a hello with a name and protocols, in records. No function of the program. -/
namespace Go.Proofs.YtligofmhbbgalaaGreatDoor.L
open Go.RowKit

/-- A hello with these extensions. -/
def helloX (xs : List (Int × List UInt8)) : Hl := ⟨771, List.replicate 32 0, [], [4865], [0], true, xs⟩
def helloE (d p : List UInt8) : Hl := helloX [(0, d), (16, p)]
theorem helloE_ok (d p : List UInt8) (hd : d.length ≤ 300) (hp : p.length ≤ 2000) : okP (helloE d p) = true := by
  have v1 := vecB_len (be 0 2) 2 d
  have v2 := vecB_len (be 16 2) 2 p
  rw [be_len] at v1 v2
  unfold okP helloE helloX
  simp [ok1, wrongH, twoB, extB, flatN, flatX, dup, xOne, be_len]
  omega
theorem helloE_parse (d p : List UInt8) (hd : d.length ≤ 300) (hp : p.length ≤ 2000) : parseS (layS (helloE d p)) = (helloE d p, 0) :=
  parse_lay _ (helloE_ok d p hd hp) (by unfold helloE helloX; simp)
theorem findS_E0 (d p : List UInt8) : findS [(0, d), (16, p)] 0 = (d, true) := rfl
theorem findS_E16 (d p : List UInt8) : findS [(0, d), (16, p)] 16 = (p, true) := rfl
theorem findS_E43 (d p : List UInt8) : findS [(0, d), (16, p)] 43 = ([], false) := rfl
theorem findS_Eh (d p : List UInt8) : findS [(0, d), (16, p)] 65037 = ([], false) := rfl
theorem helloE_see (s : ByteArray) (l : List ByteArray) (hs : mayB s.data.toList = true) (hl : (putPrS l).2 = true) : seeS [(0, (putNmS s).1), (16, (putPrS l).1)] = (⟨true, s, l, [], false⟩, 0) := by
  have h1 : nmP [(0, (putNmS s).1), (16, (putPrS l).1)] = (s, 0) := by
    unfold nmP
    rw [findS_E0, if_pos rfl, nameS_put s hs]
  have h2 : alP [(0, (putNmS s).1), (16, (putPrS l).1)] = (l, 0) := by
    unfold alP
    rw [findS_E16, if_pos rfl, protS_put l hl]
  have h3 : vsP [(0, (putNmS s).1), (16, (putPrS l).1)] = ([], 0) := by
    unfold vsP
    rw [findS_E43]
    rfl
  unfold seeS
  rw [h1, h2, h3, findS_E0, findS_Eh]
  simp
theorem judge_hello (s : ByteArray) (l : List ByteArray) (hs : mayB s.data.toList = true) (hl : (putPrS l).2 = true) (hd : (putNmS s).1.length ≤ 300) (hp : (putPrS l).1.length ≤ 2000) :
    judgeT (layS (helloE (putNmS s).1 (putPrS l).1)) = if (normN s.data.toList).2 ≠ 0 then .bad (normN s.data.toList).2 else ⟨1, 0, (normN s.data.toList).1, ⟨true, s, l, [], false⟩⟩ := by
  have h1 := helloE_parse _ _ hd hp
  have h2 := helloE_see s l hs hl
  unfold judgeT
  rw [h1]
  simp only
  rw [if_neg (by simp)]
  have e : (helloE (putNmS s).1 (putPrS l).1).exs = [(0, (putNmS s).1), (16, (putPrS l).1)] := rfl
  rw [e, h2]
  simp only
  rw [if_neg (by simp), if_neg (by simp)]
end Go.Proofs.YtligofmhbbgalaaGreatDoor.L
