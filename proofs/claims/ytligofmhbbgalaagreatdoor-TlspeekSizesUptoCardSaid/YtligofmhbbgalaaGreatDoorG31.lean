/- Texts of the proof, joined: Tv. -/
import Derived.Test.YtligofmhbbgalaaGreatDoorG28
set_option linter.unusedVariables false
set_option linter.unusedSimpArgs false
/- Layer 15: the law TlspeekSizes. -/
namespace Go.Proofs.YtligofmhbbgalaaGreatDoor.L
open Go.RowKit Go.Proofs

theorem frameS_len (n : Nat) (hn : 1 ≤ n) (x : List UInt8) : (frameS n x).length ≤ 6 * x.length := by
  suffices h : ∀ (k : Nat) (y : List UInt8), y.length ≤ k → (frameS n y).length ≤ 6 * y.length from h _ x (Nat.le_refl _)
  intro k
  induction k with
  | zero =>
    intro y hy
    have : y = [] := List.eq_nil_of_length_eq_zero (by omega)
    rw [this, frameS_nil]
    exact Nat.zero_le _
  | succ k ih =>
    intro y hy
    by_cases h0 : y = []
    · rw [h0, frameS_nil]
      exact Nat.zero_le _
    · have hp : 0 < y.length := List.length_pos_iff.2 h0
      have h1 := ih (y.drop n) (by rw [List.length_drop]; omega)
      rw [frameS_cons n hn y h0, List.length_append]
      have h2 : (recR (y.take n)).length = 5 + (y.take n).length := by
        unfold recR b2
        simp
        omega
      rw [h2, List.length_take]
      rw [List.length_drop] at h1
      omega
theorem putNm_len {s : ByteArray} (h : (putNmS s).2 = true) : mayB s.data.toList = true ∧ (putNmS s).1.length ≤ 300 := by
  unfold putNmS at h ⊢
  by_cases hm : mayB s.data.toList = true
  · rw [if_pos hm]
    have h1 := may_size hm
    refine ⟨hm, ?_⟩
    simp only [List.length_append, List.length_cons, be_len, bytes_len]
    omega
  · rw [if_neg hm] at h
    cases h
set_option maxRecDepth 100000 in
set_option maxHeartbeats 16000000 in
theorem sizes15_any (M : Nat → Prop) (s : ByteArray) (vl : Value) (l : List ByteArray) (size : Int) (w : World) (hl : Rd str M w vl l) (hll : l.length ≤ 2000000) (hls : ∀ x ∈ l, x.size ≤ 1000000000) (hs : s.size ≤ 4000000000) (he : EnvP w) :
    Calls Tryz.prog 7 #[.string s, vl, .int .i64 size] w (TrueT w) := by
  obtain ⟨R, hR⟩ : ∃ R, R = TrueT w := ⟨_, rfl⟩
  rw [← hR]
  have HR := Lib.hid hR
  have HM := Lib.hid he
  have HL := Lib.hid hl
  have cN := fun W => putNm_any s W
  have cP := fun W hW => putPr_any M vl l W (hl.stp0 hW) hll (fun x hx => Nat.le_trans (hls x hx) (by decide))
  have hnm := putNm_len (s := s)
  have cB := fun W hW h1 h2 hd hp => bytesT_any M s vl l size W (hl.stp0 hW) hll hls (by omega) h1 h2 hd hp
  have hjh := fun hs hl hd hp => judge_hello s l hs hl hd hp
  obtain ⟨q1, hq1⟩ : ∃ q, q = putNmS s := ⟨_, rfl⟩
  obtain ⟨q2, hq2⟩ : ∃ q, q = putPrS l := ⟨_, rfl⟩
  rw [← hq1] at cN hnm
  rw [← hq2] at cP
  simp only [← hq1, ← hq2] at cB hjh
  obtain ⟨d, ok⟩ := q1
  obtain ⟨p, is⟩ := q2
  simp only at cN cP hnm cB hjh
  have HCB := Lib.hid cB
  have HJH := Lib.hid hjh
  have HNM := Lib.hid hnm
  obtain ⟨Al, cl, rfl, -⟩ := hl.form
  clear hR he hl hq1 hq2 cB hjh hnm hll hls
  cases ok with
  | false =>
    have HS0 := Lib.hid (Stp.refl (fun _ => False) w)
    go_enter Tryz.func7, Tryz.ntmps7
    go_wp2_with (go_at_call 8; refine stopc ?_)
    refine Stop.go ?_
    refine (small15_any _ (HM.out.step HS0.out)).mono ?_
    rintro e w1 ⟨he, hs1⟩
    subst he
    have HS1 := Lib.hid (HS0.out.trans hs1)
    clear hs1
    go_wp2_with (go_at_call 14; refine stopc ?_)
    refine Stop.go ?_
    refine (cN _).mono ?_
    rintro e w2 ⟨vd, rfl, hod, hs2⟩
    have HS2 := Lib.hid (HS1.out.trans hs2)
    clear hs2
    obtain ⟨A8, c8, rfl, -⟩ := hod.form
    clear hod
    go_wp2_with (go_at_call 15; refine stopc ?_)
    refine Stop.go ?_
    refine (cP _ HS2.out).mono ?_
    rintro e w3 ⟨vp, rfl, hop, hs3⟩
    have HS3 := Lib.hid (HS2.out.trans hs3)
    clear hs3
    obtain ⟨A9, c9, rfl, -⟩ := hop.form
    clear hop
    go_wp2
    rw [HR.out]
    exact ⟨rfl, HS3.out⟩
  | true =>
    cases is with
    | false =>
      have HS0 := Lib.hid (Stp.refl (fun _ => False) w)
      go_enter Tryz.func7, Tryz.ntmps7
      go_wp2_with (go_at_call 8; refine stopc ?_)
      refine Stop.go ?_
      refine (small15_any _ (HM.out.step HS0.out)).mono ?_
      rintro e w1 ⟨he, hs1⟩
      subst he
      have HS1 := Lib.hid (HS0.out.trans hs1)
      clear hs1
      go_wp2_with (go_at_call 14; refine stopc ?_)
      refine Stop.go ?_
      refine (cN _).mono ?_
      rintro e w2 ⟨vd, rfl, hod, hs2⟩
      have HS2 := Lib.hid (HS1.out.trans hs2)
      clear hs2
      obtain ⟨A8, c8, rfl, -⟩ := hod.form
      clear hod
      go_wp2_with (go_at_call 15; refine stopc ?_)
      refine Stop.go ?_
      refine (cP _ HS2.out).mono ?_
      rintro e w3 ⟨vp, rfl, hop, hs3⟩
      have HS3 := Lib.hid (HS2.out.trans hs3)
      clear hs3
      obtain ⟨A9, c9, rfl, -⟩ := hop.form
      clear hop
      go_wp2
      rw [HR.out]
      exact ⟨rfl, HS3.out⟩
    | true =>
      obtain ⟨hmay, hd⟩ := HNM.out rfl
      have h300 : decide ((300 : Int) < (d.length : Int)) = false := decide_eq_false (by omega)
      by_cases hp : p.length ≤ 2000
      · have h2000 : decide ((2000 : Int) < (p.length : Int)) = false := decide_eq_false (by omega)
        have hj := HJH.out hmay rfl hd hp
        have cB := fun W hW => HCB.out W hW rfl rfl hd hp
        have hsz := may_size hmay
        obtain ⟨n, hn⟩ : ∃ n, n = normN s.data.toList := ⟨_, rfl⟩
        have cM := fun W hW => norm_any s W (by omega) hW
        unfold NormP at cM
        rw [← hn] at cM hj
        obtain ⟨ho, en⟩ := n
        simp only at cM hj
        obtain ⟨N1, hN1⟩ : ∃ N, N = strB ho := ⟨_, rfl⟩
        rw [← hN1] at cM
        have hll := layS_len (helloE d p) (by unfold helloE helloX; simp)
        have hfw : fewN (helloE d p) ≤ 2400 := by
          unfold fewN helloE helloX
          simp
          omega
        obtain ⟨x, hx⟩ : ∃ x, x = layS (helloE d p) := ⟨_, rfl⟩
        rw [← hx] at cB hj hll
        have hwl := wrapW_len x
        have hrn := recN_le size
        have hal := all_frames x (by omega) (recN size) hrn.1 hrn.2
        have hfl := frameS_len (recN size) hrn.1 (wrapW x)
        rw [hj] at hal
        obtain ⟨y, hy⟩ : ∃ y, y = frameS (recN size) (wrapW x) := ⟨_, rfl⟩
        rw [← hy] at cB hal hfl
        have hyl : y.length ≤ 1000000 := by omega
        unfold NewB at cB
        have HN1 := Lib.hid hN1
        have HAL := Lib.hid hal
        clear hmay hd hp hj hsz hn hN1 hll hfw hx hwl hrn hfl hy hal
        have hss : (s.toList == s.toList) = true := by simp
        have hnn : (N1.toList == N1.toList) = true := by simp
        have HS0 := Lib.hid (Stp.refl (fun _ => False) w)
        go_enter Tryz.func7, Tryz.ntmps7
        go_wp2_with (go_at_call 8; refine stopc ?_)
        refine Stop.go ?_
        refine (small15_any _ (HM.out.step HS0.out)).mono ?_
        rintro e w1 ⟨he, hs1⟩
        subst he
        have HS1 := Lib.hid (HS0.out.trans hs1)
        clear hs1
        go_wp2_with (go_at_call 14; refine stopc ?_)
        refine Stop.go ?_
        refine (cN _).mono ?_
        rintro e w2 ⟨vd, rfl, hod, hs2⟩
        have HS2 := Lib.hid (HS1.out.trans hs2)
        clear hs2
        obtain ⟨A8, c8, rfl, -⟩ := hod.form
        clear hod
        go_wp2_with (go_at_call 15; refine stopc ?_)
        refine Stop.go ?_
        refine (cP _ HS2.out).mono ?_
        rintro e w3 ⟨vp, rfl, hop, hs3⟩
        have HS3 := Lib.hid (HS2.out.trans hs3)
        clear hs3
        obtain ⟨A9, c9, rfl, -⟩ := hop.form
        clear hop
        go_wp2_with (go_at_call 16; refine stopc ?_)
        refine Stop.go ?_
        refine (cB _ HS3.out).mono ?_
        rintro e w4 ⟨vb, rfl, hob, hs4⟩
        have HS4 := Lib.hid (HS3.out.trans hs4)
        clear hs4
        have HRD := Lib.hid (hob.rd (h1 := fun _ => rfl) (M := fun _ => False) (fun _ _ => id))
        obtain ⟨Ab, cb, rfl, -⟩ := hob.form
        clear hob
        by_cases he0 : en = 0
        · subst he0
          have hq : allT y = (⟨1, 0, ho, ⟨true, s, l, [], false⟩⟩, y.length) := by rw [HAL.out, if_neg (by simp)]
          have HQ := Lib.hid hq
          clear hq
          go_wp2_with (go_at_call 10; refine stopc ?_)
          refine Stop.go ?_
          refine (tallC_any _ _ y _ HRD.out hyl (HM.out.step HS4.out) HQ.out HN1.out).mono ?_
          rintro e w5 ⟨A1, p1, A2, p2, rfl, hv, hs5⟩
          have HS5 := Lib.hid (HS4.out.trans hs5)
          clear hs5
          have HV := Lib.hid hv
          clear hv
          go_wp2_with (go_at_call 17; refine stopc ?_)
          refine Stop.go ?_
          refine (carry15 (ow := fun w' => VtR (fun _ => False) w' ⟨1, 0, ho, ⟨true, s, l, [], false⟩⟩ (.slice A1 l.length p1) (.slice A2 0 p2)) (cM _ (HM.out.step (HS5.out.alloc _))) (fun e w' h => (HV.out.stp0 ((Stp.refl (fun _ => False) _).alloc _)).stp0 h.2)).mono ?_
          rintro e w6 ⟨⟨rfl, hs6⟩, hov⟩
          have HS6 := Lib.hid ((HS5.out.alloc _).trans hs6)
          have HBV := Lib.hid (show w6.heap[w5.heap.size]? = some (.cells #[.int .i64 1, .int .i64 1, .int .i64 (y.length : Int), .int .i64 0, .string N1, .int .i64 0, .bool true, .string s, .slice A1 l.length p1, .slice A2 0 p2, .bool false] 31 (0, 0)) from hs6.blk (heap_alloc_new w5 _) id)
          clear hs6
          have kV0 : w6.cell? ⟨w5.heap.size, 0, none⟩ = some (.int .i64 1) := blk_cell (j := 0) HBV.out
          have kV1 : w6.cell? ⟨w5.heap.size, 1, none⟩ = some (.int .i64 1) := blk_cell (j := 1) HBV.out
          have kV2 : w6.cell? ⟨w5.heap.size, 2, none⟩ = some (.int .i64 (y.length : Int)) := blk_cell (j := 2) HBV.out
          have kV3 : w6.cell? ⟨w5.heap.size, 3, none⟩ = some (.int .i64 0) := blk_cell (j := 3) HBV.out
          have kV4 : w6.cell? ⟨w5.heap.size, 4, none⟩ = some (.string N1) := blk_cell (j := 4) HBV.out
          have kV5 : w6.cell? ⟨w5.heap.size, 5, none⟩ = some (.int .i64 0) := blk_cell (j := 5) HBV.out
          have kV6 : w6.cell? ⟨w5.heap.size, 6, none⟩ = some (.bool true) := blk_cell (j := 6) HBV.out
          have kV7 : w6.cell? ⟨w5.heap.size, 7, none⟩ = some (.string s) := blk_cell (j := 7) HBV.out
          have kV8 : w6.cell? ⟨w5.heap.size, 8, none⟩ = some (.slice A1 l.length p1) := blk_cell (j := 8) HBV.out
          have kV9 : w6.cell? ⟨w5.heap.size, 9, none⟩ = some (.slice A2 0 p2) := blk_cell (j := 9) HBV.out
          have kV10 : w6.cell? ⟨w5.heap.size, 10, none⟩ = some (.bool false) := blk_cell (j := 10) HBV.out
          have ltV := blk_lt HBV.out
          replace HV := Lib.hid hov
          clear hov
          go_wp2_with (go_at_call 18; refine stopc ?_)
          refine Stop.go ?_
          refine (rows_any (fun _ => False) _ _ l l _ HV.out.1 ((HL.out.stp0 HS6.out).weak (by decide) (fun _ _ h => h.elim)) (by have := HV.out.2.2.1; simp only at this; omega) (by have := HV.out.2.2.1; simp only at this; omega) true (by simp)).mono ?_
          rintro e w7 ⟨he, hs7⟩
          subst he
          have HS7 := Lib.hid (HS6.out.trans hs7)
          replace HBV := Lib.hid (hs7.blk HBV.out id)
          clear hs7 kV0 kV1 kV2 kV3 kV4 kV5 kV6 kV7 kV8 kV9 kV10 ltV
          have kV0 : w7.cell? ⟨w5.heap.size, 0, none⟩ = some (.int .i64 1) := blk_cell (j := 0) HBV.out
          have kV1 : w7.cell? ⟨w5.heap.size, 1, none⟩ = some (.int .i64 1) := blk_cell (j := 1) HBV.out
          have kV2 : w7.cell? ⟨w5.heap.size, 2, none⟩ = some (.int .i64 (y.length : Int)) := blk_cell (j := 2) HBV.out
          have kV3 : w7.cell? ⟨w5.heap.size, 3, none⟩ = some (.int .i64 0) := blk_cell (j := 3) HBV.out
          have kV4 : w7.cell? ⟨w5.heap.size, 4, none⟩ = some (.string N1) := blk_cell (j := 4) HBV.out
          have kV5 : w7.cell? ⟨w5.heap.size, 5, none⟩ = some (.int .i64 0) := blk_cell (j := 5) HBV.out
          have kV6 : w7.cell? ⟨w5.heap.size, 6, none⟩ = some (.bool true) := blk_cell (j := 6) HBV.out
          have kV7 : w7.cell? ⟨w5.heap.size, 7, none⟩ = some (.string s) := blk_cell (j := 7) HBV.out
          have kV8 : w7.cell? ⟨w5.heap.size, 8, none⟩ = some (.slice A1 l.length p1) := blk_cell (j := 8) HBV.out
          have kV9 : w7.cell? ⟨w5.heap.size, 9, none⟩ = some (.slice A2 0 p2) := blk_cell (j := 9) HBV.out
          have kV10 : w7.cell? ⟨w5.heap.size, 10, none⟩ = some (.bool false) := blk_cell (j := 10) HBV.out
          have ltV := blk_lt HBV.out
          go_wp2
          rw [HR.out]
          exact ⟨rfl, HS7.out⟩
        · skip
          have hq : allT y = (⟨2, en, [], ⟨false, ⟨#[]⟩, [], [], false⟩⟩, y.length) := by rw [HAL.out, if_pos he0]; rfl
          have HQ := Lib.hid hq
          have hne : (en != 0) = true := by simpa using he0
          clear hq he0
          go_wp2_with (go_at_call 10; refine stopc ?_)
          refine Stop.go ?_
          refine (tallC_any _ _ y _ HRD.out hyl (HM.out.step HS4.out) HQ.out (H := ⟨#[]⟩) rfl).mono ?_
          rintro e w5 ⟨A1, p1, A2, p2, rfl, hv, hs5⟩
          have HS5 := Lib.hid (HS4.out.trans hs5)
          clear hs5
          clear hv
          go_wp2_with (go_at_call 17; refine stopc ?_)
          refine Stop.go ?_
          refine (cM _ (HM.out.step (HS5.out.alloc _))).mono ?_
          rintro e w6 ⟨he, hs6⟩
          subst he
          have HS6 := Lib.hid ((HS5.out.alloc _).trans hs6)
          have HBV := Lib.hid (show w6.heap[w5.heap.size]? = some (.cells #[.int .i64 2, .int .i64 1, .int .i64 (y.length : Int), .int .i64 en, .string ⟨#[]⟩, .int .i64 0, .bool false, .string ⟨#[]⟩, .slice A1 0 p1, .slice A2 0 p2, .bool false] 31 (0, 0)) from hs6.blk (heap_alloc_new w5 _) id)
          clear hs6
          have kV0 : w6.cell? ⟨w5.heap.size, 0, none⟩ = some (.int .i64 2) := blk_cell (j := 0) HBV.out
          have kV1 : w6.cell? ⟨w5.heap.size, 1, none⟩ = some (.int .i64 1) := blk_cell (j := 1) HBV.out
          have kV2 : w6.cell? ⟨w5.heap.size, 2, none⟩ = some (.int .i64 (y.length : Int)) := blk_cell (j := 2) HBV.out
          have kV3 : w6.cell? ⟨w5.heap.size, 3, none⟩ = some (.int .i64 en) := blk_cell (j := 3) HBV.out
          have kV4 : w6.cell? ⟨w5.heap.size, 4, none⟩ = some (.string ⟨#[]⟩) := blk_cell (j := 4) HBV.out
          have kV5 : w6.cell? ⟨w5.heap.size, 5, none⟩ = some (.int .i64 0) := blk_cell (j := 5) HBV.out
          have kV6 : w6.cell? ⟨w5.heap.size, 6, none⟩ = some (.bool false) := blk_cell (j := 6) HBV.out
          have kV7 : w6.cell? ⟨w5.heap.size, 7, none⟩ = some (.string ⟨#[]⟩) := blk_cell (j := 7) HBV.out
          have kV8 : w6.cell? ⟨w5.heap.size, 8, none⟩ = some (.slice A1 0 p1) := blk_cell (j := 8) HBV.out
          have kV9 : w6.cell? ⟨w5.heap.size, 9, none⟩ = some (.slice A2 0 p2) := blk_cell (j := 9) HBV.out
          have kV10 : w6.cell? ⟨w5.heap.size, 10, none⟩ = some (.bool false) := blk_cell (j := 10) HBV.out
          have ltV := blk_lt HBV.out
          go_wp2
          rw [HR.out]
          exact ⟨rfl, HS6.out⟩
      · have h2000 : decide ((2000 : Int) < (p.length : Int)) = true := decide_eq_true (by omega)
        clear hmay hd hp
        have HS0 := Lib.hid (Stp.refl (fun _ => False) w)
        go_enter Tryz.func7, Tryz.ntmps7
        go_wp2_with (go_at_call 8; refine stopc ?_)
        refine Stop.go ?_
        refine (small15_any _ (HM.out.step HS0.out)).mono ?_
        rintro e w1 ⟨he, hs1⟩
        subst he
        have HS1 := Lib.hid (HS0.out.trans hs1)
        clear hs1
        go_wp2_with (go_at_call 14; refine stopc ?_)
        refine Stop.go ?_
        refine (cN _).mono ?_
        rintro e w2 ⟨vd, rfl, hod, hs2⟩
        have HS2 := Lib.hid (HS1.out.trans hs2)
        clear hs2
        obtain ⟨A8, c8, rfl, -⟩ := hod.form
        clear hod
        go_wp2_with (go_at_call 15; refine stopc ?_)
        refine Stop.go ?_
        refine (cP _ HS2.out).mono ?_
        rintro e w3 ⟨vp, rfl, hop, hs3⟩
        have HS3 := Lib.hid (HS2.out.trans hs3)
        clear hs3
        obtain ⟨A9, c9, rfl, -⟩ := hop.form
        clear hop
        go_wp2
        rw [HR.out]
        exact ⟨rfl, HS3.out⟩
end Go.Proofs.YtligofmhbbgalaaGreatDoor.L
