/- Layer 16: the document's way, all bytes. -/
import Derived.Test.YtgjmaifgkgejgaaGreatDoorJh
import Derived.Test.YtgjmaifgkgejgaaGreatDoorFk
import Derived.Test.YtgjmaifgkgejgaaGreatDoorRy
import Derived.Deep.DeepCutAuto
import Derived.Deep.CutRange
set_option linter.unusedVariables false
set_option linter.unusedSimpArgs false
namespace Go.Proofs.YtgjmaifgkgejgaaGreatDoor.L
open Go.RowKit Go.Proofs

def rqC (q : Rq) : Array Value := #[.string (strB q.m), .string (strB q.t), .int .i64 q.n]
/-- What the document's loop holds. -/
structure RfI (b : List UInt8) (w wr : World) (k f n : Nat) (s : Hs) (fv : Value) : Prop where
  ref : RefH b k f s
  ok : HsOk s k
  cnt : n ≤ k ∧ (s.first = true ↔ 0 < n)
  fl : OwnM fldK 46 w.heap.size (fun _ => True) wr fv (fsB s.fs)
  res : wr.heap[w.heap.size]? = some (.cells vd0 31 (0, 0))
  rq : wr.heap[w.heap.size + 1]? = some (.cells (rqC s.rq) 40 (0, 0))
  stp : Stp (fun _ => False) w wr
theorem back_cases {b : List UInt8} {k f : Nat} {s : Hs} (h : RefH b k f s) (hk : k < b.length) : (s.back = true ∧ f < k ∧ ∃ k1, k = k1 + 1 ∧ ∃ h : k1 < b.length, b[k1] = 13) ∨ (s.back = false ∧ f < k ∧ ∃ k1, k = k1 + 1 ∧ ∃ h : k1 < b.length, b[k1] ≠ 13) ∨ (s.back = false ∧ ¬ f < k) := by
  have hb := h.back (Nat.le_of_lt hk)
  by_cases hf : f < k
  · obtain ⟨k1, rfl⟩ : ∃ k1, k = k1 + 1 := ⟨k - 1, by omega⟩
    have h1 : k1 < b.length := by omega
    rw [Nat.add_sub_cancel, List.getElem?_eq_getElem h1] at hb
    cases hs : s.back with
    | true =>
      have := (hb.2 hs).2
      exact Or.inl ⟨rfl, hf, k1, rfl, h1, Option.some.inj this⟩
    | false =>
      refine Or.inr (Or.inl ⟨rfl, hf, k1, rfl, h1, fun e => ?_⟩)
      rw [hb.1 ⟨hf, by rw [e]⟩] at hs
      cases hs
  · cases hs : s.back with
    | true => exact absurd (hb.2 hs).1 hf
    | false => exact Or.inr (Or.inr ⟨rfl, hf⟩)
def jC (v : Vd) : Array Value := #[.int .i64 v.st, .int .i64 0, .int .i64 0, .int .i64 v.rs, .string (strB v.ho), .int .i64 v.po, .bool false, .string ⟨#[]⟩, .slice none 0 0, .slice none 0 0, .bool false]
theorem jC_one (v : Vd) : (jC v).all (·.oneCell') = true := by simp [jC, Value.oneCell']
theorem RfI.stp0 {b : List UInt8} {w wr wr' : World} {k f n : Nat} {s : Hs} {fv : Value} (h : RfI b w wr k f n s fv) (hs : Stp (fun _ => False) wr wr') : RfI b w wr' k f n s fv :=
  ⟨h.ref, h.ok, h.cnt, h.fl.stp0 hs, hs.blk h.res id, hs.blk h.rq id, h.stp.trans hs⟩
/-- What a line leaves. -/
structure LnI (w wx : World) (bv : Nat) (s s2 : Hs) (er : Int) (v0 : Vd) (fv2 : Value) : Prop where
  ln : lineH2 s = (s2, if er ≠ 0 then .bad er else v0)
  op : er ≠ 0 → v0 = .open_
  vb : wx.heap[bv]? = some (.cells (jC v0) 31 (0, 0))
  fl : er = 0 → v0.st = 0 → OwnM fldK 46 w.heap.size (fun _ => True) wx fv2 (fsB s2.fs)
  rq : wx.heap[w.heap.size + 1]? = some (.cells (rqC s2.rq) 40 (0, 0))
  res : wx.heap[w.heap.size]? = some (.cells vd0 31 (0, 0))
  stp : Stp (fun _ => False) w wx
theorem line_first (line : List UInt8) (rq : Rq) (fs : List (List UInt8 × List UInt8)) (q : Rq × Int) (hq : q = parseRq line) : lineH2 ⟨line, true, false, rq, fs⟩ = (⟨[], false, true, q.1, fs⟩, if q.2 ≠ 0 then .bad q.2 else .open_) := by
  unfold lineH2
  rw [if_pos rfl]
  simp only
  rw [← hq]
  by_cases h : q.2 = 0
  · rw [if_pos h, if_neg (fun e => e h)]
  · rw [if_neg h, if_pos h]
theorem step_quiet (line : List UInt8) (fi : Bool) (rq : Rq) (fs : List (List UInt8 × List UInt8)) (c : UInt8) (h10 : c ≠ 10) : ∃ l2 b2, stepH ⟨line, false, fi, rq, fs⟩ c = (⟨l2, b2, fi, rq, fs⟩, .open_) := by
  by_cases h13 : c = 13
  · subst h13
    exact ⟨line, true, by unfold stepH; rw [if_neg (by simp), if_neg (by simp), if_pos rfl]⟩
  · exact ⟨line ++ [c], false, step_plain _ c rfl h10 h13⟩
theorem ownM_ne {α : Type} {d : Kind α} {e B : Nat} {M : Nat → Prop} {w : World} {v : Value} {xs : List α} {b : Nat} {cs : Array Value} {t : TypeId} {fr : Nat × Nat} (h : OwnM d e B M w v xs) (hb : w.heap[b]? = some (.cells cs t fr)) (ht : t ≠ e) : v.ownBlock ≠ some b := by
  intro he
  obtain ⟨cs', _, hr⟩ := h.row
  rcases hr.2 with ⟨rfl, _⟩ | ⟨b', cap, cur, rfl, _, hb', _⟩
  · cases he
  · injection he with he
    simp only at he
    rw [he, hb] at hb'
    injection hb' with hb'
    injection hb' with _ h2 _
    exact ht h2
set_option maxRecDepth 100000 in
set_option maxHeartbeats 16000000 in
theorem pallR_any (M : Nat → Prop) (vb : Value) (b : List UInt8) (w : World) (hb : Rd u8 M w vb b) (hl : b.length ≤ 1000000) : Calls Tryz.prog 12 #[vb] w (AllP w b) := by
  obtain ⟨R, hR⟩ : ∃ R, R = AllP w b := ⟨_, rfl⟩
  rw [← hR]
  have HR := Lib.hid hR
  have HX := Lib.hid hb
  obtain ⟨A, cp, rfl, hle⟩ := hb.form
  clear hR hb
  have hb63 : (b.length : Int) ≤ 1000000 := by omega
  go_enter Tryz.func12, Tryz.ntmps12
  go_wp2
  go_loopg [4, 5, 6, 7, 8, 9, 10, 11, 12, 13, 14, 15] b.length (fun gf t4 t5 t6 t7 _ _ _ _ _ _ _ _ wr => ∃ (k f n : Nat) (s : Hs) (fv : Value), k + gf = b.length ∧ t7 = .int .i64 k ∧ t6 = .int .i64 f ∧ t5 = .int .i64 n ∧ t4 = fv ∧ RfI b w wr k f n s fv)
  case atStart =>
    have h0 := (Stp.refl (fun _ => False) w).alloc (.cells vd0 31)
    have h1 := (Stp.refl (fun _ => False) (w.alloc (.cells vd0 31))).alloc (.cells (rqC Rq.none) 40)
    have h2 := heap_alloc_new (w.alloc (.cells vd0 31)) (.cells (rqC Rq.none) 40)
    rw [show (w.alloc (.cells vd0 31)).heap.size = w.heap.size + 1 by simp] at h2
    exact ⟨0, 0, 0, .new, _, by omega, rfl, rfl, rfl, rfl, ⟨RefH.zero b, HsOk.new, ⟨Nat.le_refl _, by decide⟩, OwnM.nil _ _ _ _ _, h1.blk (heap_alloc_new w _) id, h2, h0.trans h1⟩⟩
  case round =>
    obtain ⟨k, f, n, s, fv, hk, rfl, rfl, rfl, rfl, hi⟩ := hrel
    have HI := Lib.hid hi
    clear hi
    by_cases hlt : k < b.length
    · obtain ⟨ad, rfl, -, hc⟩ := plain_cell (HX.out.stp0 HI.out.stp) k hlt
      obtain ⟨c, hcc⟩ : ∃ c, c = b[k] := ⟨_, rfl⟩
      rw [← hcc] at hc
      simp only [enc8] at hc
      have HC := Lib.hid hcc
      have hfk := HI.out.ref.le
      have hnk := HI.out.cnt.1
      have hw1 : IntKind.i64.wrap ((k : Int) + 1) = (k : Int) + 1 := IntWalk.i64_in _ (by omega)
      have hw2 : IntKind.i64.wrap ((n : Int) + 1) = (n : Int) + 1 := IntWalk.i64_in _ (by omega)
      have fr0 := blk_free HI.out.res
      obtain ⟨A2, c2, rfl, hle2⟩ := HI.out.fl.form
      obtain ⟨m, hm⟩ : ∃ m, m = (fsB s.fs).length := ⟨_, rfl⟩
      have hm2 : m = s.fs.length := by rw [hm, fsB_len]
      rw [← hm] at HI hle2
      simp only [← hm]
      obtain ⟨line, bk, fi, rq, fs⟩ := s
      have HMM := Lib.hid hm
      have HM2 := Lib.hid hm2
      have hm100 : m ≤ 100 := by rw [hm2]; exact HI.out.ok.fs
      clear hm hm2
      have HCK := Lib.hid (back_cases HI.out.ref hlt)
      clear hcc
      go_upto_region 8 with fail
      go_cut [8] (fun t8 wx => t8 = .bool bk ∧ wx = wr)
      case first =>
        rcases HCK.out with ⟨hbk, hf, k1, hkk, hk1, h13⟩ | ⟨hbk, hf, k1, hkk, hk1, h13⟩ | ⟨hbk, hf⟩
        · obtain rfl : bk = true := hbk
          obtain ⟨_, ⟨⟩, -, hc1⟩ := plain_cell (HX.out.stp0 HI.out.stp) k1 hk1
          rw [h13] at hc1
          simp only [enc8] at hc1
          have hw3 : IntKind.i64.wrap ((k : Int) - 1) = (k1 : Int) := by rw [IntWalk.i64_in _ (by omega)]; omega
          have hk13 : (k1 : Int) < (b.length : Int) := by omega
          clear hkk h13
          go_wp2_with fail
          go_meet
          exact ⟨rfl, rfl⟩
        · obtain rfl : bk = false := hbk
          obtain ⟨_, ⟨⟩, -, hc1⟩ := plain_cell (HX.out.stp0 HI.out.stp) k1 hk1
          simp only [enc8] at hc1
          have hw3 : IntKind.i64.wrap ((k : Int) - 1) = (k1 : Int) := by rw [IntWalk.i64_in _ (by omega)]; omega
          have hk13 : (k1 : Int) < (b.length : Int) := by omega
          have e13 : (((b[k1]).toNat : Int) == 13) = false := by
            have : (b[k1]).toNat ≠ 13 := fun e => h13 (UInt8.toNat_inj.1 e)
            simp
            omega
          clear hkk h13
          go_wp2_with fail
          go_meet
          exact ⟨rfl, rfl⟩
        · obtain rfl : bk = false := hbk
          go_wp2_with fail
          go_meet
          exact ⟨rfl, rfl⟩
      case rest =>
        obtain ⟨rfl, hwx⟩ := hcut
        obtain rfl := hwx
        clear HCK
        cases bk with
        | true =>
          by_cases hc10 : c = 10
          · have hbk := (HI.out.ref.back (Nat.le_of_lt hlt)).2 rfl
            obtain ⟨k1, hkk⟩ : ∃ k1, k = k1 + 1 := ⟨k - 1, by omega⟩
            have hfk1 : f ≤ k1 := by have := hbk.1; omega
            have e10 : ((c.toNat : Int) == 10) = true := by rw [hc10]; rfl
            have hln := HI.out.ref.line hlt rfl (HC.out.symm.trans hc10)
            have hll : line.length ≤ k := HI.out.ok.line
            have hlb : line.length ≤ 1000000 := by omega
            have HLN := Lib.hid hln.2
            obtain ⟨A3, hsl, hcut⟩ := cut_lh (P := Tryz.prog) L.u8 22 5 Tryz.underlying22 (by kernel_rfl) (some ad) b.length cp f k1 hfk1 (by omega) hle
            have hcv : ∀ W, Stp (fun _ => False) wc W → convT W (.slice A3 (k1 - f) (cp - f)) line := fun W hW => by
              have h1 := hcut _ _ _ (((HX.out.stp0 HI.out.stp).stp0 hW))
              have h2 := hln.1
              rw [show k - 1 = k1 by omega] at h2
              rw [h2] at h1
              exact run_strOf (P := Tryz.prog) 22 9 5 h1 Tryz.underlying22 Tryz.underlying5 Tryz.underlying9
            have HCV := Lib.hid hcv
            have hw3 : IntKind.i64.wrap ((k : Int) - 1) = (k1 : Int) := by rw [IntWalk.i64_in _ (by omega)]; omega
            have hk13 : (k1 : Int) ≤ (b.length : Int) := by omega
            have hfk2 : (f : Int) ≤ (k1 : Int) := by omega
            have HKK := Lib.hid hkk
            clear hbk hkk hc10 hln hcut hcv
            go_upto_if 45 with fail
            have hA := (Stp.refl (fun _ => False) wc).alloc (.cells vd0 31)
            have HCW := Lib.hid (HCV.out _ hA)
            have hcv := HCW.out
            have HI1 := Lib.hid (HI.out.stp0 hA)
            have HB1 := Lib.hid (heap_alloc_new wc (.cells vd0 31))
            change Code.wp _ _ _ _ (wc.alloc (.cells vd0 31))
            have hbv : w.heap.size + 1 < wc.heap.size := blk_lt HI.out.rq
            obtain ⟨bv, hbve⟩ : ∃ n, n = wc.heap.size := ⟨_, rfl⟩
            rw [← hbve] at HB1 hbv
            simp only [← hbve]
            clear hbve hA
            generalize wc.alloc (.cells vd0 31) = W1 at *
            go_cut [4, 5, 6, 9, 11, 12, 13, 14, 15] (fun t4 t5 t6 t9 _ _ _ _ _ wx => ∃ (er : Int) (v0 : Vd) (s2 : Hs) (fv2 : Value), t9 = .int .i64 er ∧ t5 = .int .i64 ((n : Int) + 1) ∧ t6 = .int .i64 ((k : Int) + 1) ∧ t4 = fv2 ∧ LnI w wx bv ⟨line, true, fi, rq, fs⟩ s2 er v0 fv2)
            case first =>
              obtain ⟨X, hX⟩ : ∃ X, X = strB line := ⟨_, rfl⟩
              have hXd : X.data.toList = line := by rw [hX]; simp [strB]
              have hXs : X.size ≤ 1000000 := by rw [hX, strB_size]; exact hlb
              unfold convT at hcv
              rw [← hX] at hcv
              have HXX := Lib.hid hX
              clear hX
              by_cases hn0 : n = 0
              · have hfi : fi = false := by
                  cases fi with
                  | false => rfl
                  | true => have := HI1.out.cnt.2.1 rfl; omega
                subst hn0
                subst hfi
                have cp' := fun W => qparseR_any X W (by omega)
                rw [hXd] at cp'
                obtain ⟨q, hq⟩ : ∃ q, q = parseRq line := ⟨_, rfl⟩
                rw [← hq] at cp'
                have HLF := Lib.hid (line_first line rq fs q hq)
                obtain ⟨r, er⟩ := q
                unfold ReqE ReqV at cp'
                obtain ⟨mm, hmm⟩ : ∃ m, m = strB r.m := ⟨_, rfl⟩
                obtain ⟨tt, htt⟩ : ∃ t, t = strB r.t := ⟨_, rfl⟩
                obtain ⟨nn, hnn⟩ : ∃ n, n = r.n := ⟨_, rfl⟩
                simp only [← hmm, ← htt, ← hnn] at cp'
                have HMT := Lib.hid (And.intro hmm (And.intro htt hnn))
                clear hq hmm htt hnn hXd
                have HS0 := Lib.hid (Stp.refl (fun _ => False) W1)
                go_wp2_with (go_at_call 20; refine stopc ?_)
                refine Stop.go ?_
                refine (cp' _).mono ?_
                rintro e w1 ⟨he, hs1⟩
                subst he
                have HS1 := Lib.hid (HS0.out.trans hs1)
                clear hs1
                have HI2 := Lib.hid (HI1.out.stp0 HS1.out)
                have HV2 := Lib.hid (HS1.out.blk HB1.out id)
                have kq0 : w1.cell? ⟨w.heap.size + 1, 0, none⟩ = some (.string (strB rq.m)) := blk_cell (j := 0) HI2.out.rq
                have kq1 : w1.cell? ⟨w.heap.size + 1, 1, none⟩ = some (.string (strB rq.t)) := blk_cell (j := 1) HI2.out.rq
                have kq2 : w1.cell? ⟨w.heap.size + 1, 2, none⟩ = some (.int .i64 rq.n) := blk_cell (j := 2) HI2.out.rq
                have fq0 := blk_free HI2.out.rq 0
                have fq1 := blk_free HI2.out.rq 1
                have fq2 := blk_free HI2.out.rq 2
                have ltq := blk_lt HI2.out.rq
                go_wp2_with fail
                go_meet
                have hB : Stp (fun k => k = w.heap.size + 1) w1 (((w1.setCell ⟨w.heap.size + 1, 0, none⟩ (.string mm)).setCell ⟨w.heap.size + 1, 1, none⟩ (.string tt)).setCell ⟨w.heap.size + 1, 2, none⟩ (.int .i64 nn)) := (((Stp.refl _ _).setg 0 _).setg 1 _).setg 2 _
                have hrq := blk_set (blk_set (blk_set HI2.out.rq 0 (.string mm)) 1 (.string tt)) 2 (.int .i64 nn)
                have hne := ownM_ne HI2.out.fl HI2.out.rq (by decide)
                have hA := (Stp.refl (fun _ => False) (((w1.setCell ⟨w.heap.size + 1, 0, none⟩ (.string mm)).setCell ⟨w.heap.size + 1, 1, none⟩ (.string tt)).setCell ⟨w.heap.size + 1, 2, none⟩ (.int .i64 nn))).alloc (.cells #[.string mm, .string tt, .int .i64 nn] 40)
                refine ⟨er, .open_, ⟨[], false, true, r, fs⟩, .slice A2 m c2, rfl, rfl, rfl, rfl, HLF.out, fun _ => rfl, hA.blk (hB.blk HV2.out (by omega)) id, fun _ _ => ?_, ?_, hA.blk (hB.blk HI2.out.res (by omega)) id, (HI2.out.stp.then_ hB (fun k hk h => by omega)).trans hA⟩
                · rw [HMM.out]
                  have h9 := HI2.out.fl
                  rw [HMM.out] at h9 hne
                  exact (h9.step hB fun k _ h => ⟨trivial, fun e => hne (by rw [e, h])⟩).stp0 hA
                · have hrq2 := hA.blk hrq id
                  rw [HMT.out.1, HMT.out.2.1, HMT.out.2.2] at hrq2 ⊢
                  exact hrq2
              · have en1 : (((n : Int) + 1) == 1) = false := by simp; omega
                have hfi : fi = true := HI1.out.cnt.2.2 (by omega)
                subst hfi
                by_cases hl0 : line = []
                · have ht : (X.toList == []) = true := by rw [list_eqb, hXd]; simp [hl0]
                  have HLF : Hid (lineH2 ⟨line, true, true, rq, fs⟩ = (⟨[], false, true, rq, fs⟩, judgeH rq fs)) := Lib.hid (by unfold lineH2; rw [if_neg (by simp), if_pos hl0])
                  obtain ⟨mm, hmm⟩ : ∃ m, m = strB rq.m := ⟨_, rfl⟩
                  obtain ⟨tt, htt⟩ : ∃ t, t = strB rq.t := ⟨_, rfl⟩
                  obtain ⟨nn, hnn⟩ : ∃ n, n = rq.n := ⟨_, rfl⟩
                  have hmd : mm.data.toList = rq.m := by rw [hmm]; simp [strB]
                  have htd : tt.data.toList = rq.t := by rw [htt]; simp [strB]
                  have hts : tt.size ≤ 8000 := by rw [htt, strB_size]; exact HI1.out.ok.rq
                  have hz : (findF hostL (flS (fsB fs))).1.length ≤ 1000000 := by
                    rw [flS_fsB]
                    exact findF_tx _ _ _ fun x hx => by have := (HI1.out.ok.tx x hx).2; omega
                  have cJ := judgeR_any (fun _ => False) (.slice A2 m c2) (fsB fs) mm tt nn W1 (HI1.out.fl.rd (fun _ _ _ => trivial) (fun _ _ h => h)) (by rw [fsB_len]; have := HI1.out.ok.fs; simp only at this; omega) hz hts
                  rw [hmd, htd, flS_fsB, hnn] at cJ
                  rw [← hnn] at cJ
                  unfold VdJP vdJ at cJ
                  have hjj : judgeH ⟨rq.m, rq.t, nn⟩ fs = judgeH rq fs := by rw [hnn]
                  rw [hjj] at cJ
                  obtain ⟨J, hJ⟩ : ∃ J, J = jC (judgeH rq fs) := ⟨_, rfl⟩
                  change Calls _ _ _ _ (fun e w' => e = .returned (.agg (jC (judgeH rq fs))) ∧ Stp (fun _ => False) W1 w') at cJ
                  rw [← hJ] at cJ
                  have hJ1 : J.all (·.oneCell') = true := by rw [hJ]; exact jC_one _
                  have hJs : J.size = 11 := by rw [hJ]; rfl
                  have HJ := Lib.hid hJ
                  have HJ1 := Lib.hid hJ1
                  have HJS := Lib.hid hJs
                  have kq0 : W1.cell? ⟨w.heap.size + 1, 0, none⟩ = some (.string mm) := by rw [hmm]; exact blk_cell (j := 0) HI1.out.rq
                  have kq1 : W1.cell? ⟨w.heap.size + 1, 1, none⟩ = some (.string tt) := by rw [htt]; exact blk_cell (j := 1) HI1.out.rq
                  have kq2 : W1.cell? ⟨w.heap.size + 1, 2, none⟩ = some (.int .i64 nn) := by rw [hnn]; exact blk_cell (j := 2) HI1.out.rq
                  clear hl0 hXd hmm htt hnn hmd htd hz hjj hJ hJ1 hJs
                  go_wp2_with (go_at_call 21; refine stopc ?_)
                  refine Stop.go ?_
                  refine cJ.mono ?_
                  rintro e w1 ⟨rfl, hs1⟩
                  have HS1 := Lib.hid hs1
                  clear hs1 cJ
                  go_wp2_with (first | (refine wpList_store_row rfl _ _ _ rfl bv _ rfl rfl _ vd0 (HS1.out.blk HB1.out id) (by rw [HJS.out]; exact size_vd) (by rw [HJS.out]; rfl) HJ1.out ?_; refine stopw ?_))
                  refine Stop.go ?_
                  have hB := (Stp.refl (fun k => k = bv) w1).rowA (g := bv) (fun _ => rfl) J
                  have HBB := Lib.hid hB
                  have HRW := Lib.hid (row_blk (HS1.out.blk HB1.out id) J)
                  clear hB
                  go_wp2_with fail
                  go_meet
                  have hi := HI1.out.stp0 HS1.out
                  have hne := ownM_ne hi.fl (HS1.out.blk HB1.out id) (by decide)
                  refine ⟨0, judgeH rq fs, ⟨[], false, true, rq, fs⟩, .slice A2 m c2, rfl, rfl, rfl, rfl, by rw [HLF.out, if_neg (by decide)], fun h => absurd rfl h, by rw [← HJ.out]; exact HRW.out, fun _ _ => ?_, HBB.out.blk hi.rq (by omega), HBB.out.blk hi.res (by omega), hi.stp.then_ HBB.out (fun k hk h => by omega)⟩
                  rw [HMM.out]
                  have h9 := hi.fl
                  rw [HMM.out] at h9 hne
                  exact h9.step HBB.out fun k _ h => ⟨trivial, fun e => hne (by rw [e, h])⟩
                · have ht : (X.toList == []) = false := by rw [list_eqb, hXd]; simp [hl0]
                  have cp' := fun W => fparseR_any X W (by omega)
                  rw [hXd] at cp'
                  obtain ⟨q, hq⟩ : ∃ q, q = parseF line := ⟨_, rfl⟩
                  rw [← hq] at cp'
                  have HLF : Hid (lineH2 ⟨line, true, true, rq, fs⟩ = if q.2.2 ≠ 0 then (⟨[], false, true, rq, fs⟩, .bad q.2.2) else if fs.length = 100 then (⟨[], false, true, rq, fs⟩, .bad 2) else (⟨[], false, true, rq, fs ++ [(q.1, q.2.1)]⟩, .open_)) := Lib.hid (by unfold lineH2; rw [if_neg (by simp), if_neg hl0, hq])
                  obtain ⟨fn, ft, er⟩ := q
                  unfold FieldV at cp'
                  obtain ⟨N, hN⟩ : ∃ N, N = strB fn := ⟨_, rfl⟩
                  obtain ⟨T, hT⟩ : ∃ T, T = strB ft := ⟨_, rfl⟩
                  simp only [← hN, ← hT] at cp'
                  have HNT := Lib.hid (And.intro hN hT)
                  clear hq hN hT hXd hl0
                  have HS0 := Lib.hid (Stp.refl (fun _ => False) W1)
                  go_wp2_with (go_at_call 22; refine stopc ?_)
                  refine Stop.go ?_
                  refine (cp' _).mono ?_
                  rintro e w1 ⟨he, hs1⟩
                  subst he
                  have HS1 := Lib.hid (HS0.out.trans hs1)
                  clear hs1
                  have HI2 := Lib.hid (HI1.out.stp0 HS1.out)
                  have HV2 := Lib.hid (HS1.out.blk HB1.out id)
                  have hA2 := ((Stp.refl (fun _ => False) w1).alloc (.cells #[.string N, .string T] 46)).alloc (.cells #[.string N, .string T] 46)
                  have HA2 := Lib.hid hA2
                  have HI3 := Lib.hid (HI2.out.stp0 hA2)
                  have hfa := FAt.alloc (w1.alloc (.cells #[.string N, .string T] 46)) N T
                  rw [show (w1.alloc (.cells #[.string N, .string T] 46)).heap.size = w1.heap.size + 1 by simp] at hfa
                  have HFA := Lib.hid hfa
                  clear hfa
                  have hfl3 := HI3.out.fl
                  have hw1s : w.heap.size ≤ w1.heap.size := HI2.out.stp.size
                  clear hA2
                  simp only at hfl3
                  go_wp2_with (with_reducible refine stop (N := 78) rfl ?_)
                  refine Stop.go ?_
                  have hmL : m = (fsB fs).length := HMM.out
                  refine wp_appendRdM (d := fldK) (B := w.heap.size) (M := fun _ => True) (ys := [(N, T)]) rfl _ _ _ rfl Tryz.underlying41 info_fld rfl (by decide) hfl3 ((HFA.out.now _)) (fun k hk => trivial) rfl rfl (by simp; omega) (by simp; omega) (by simp; omega) ?_
                  intro v3 W3 ho3 hg3
                  obtain ⟨Y, hY⟩ : ∃ Y, Y = fsB fs ++ [(N, T)] := ⟨_, rfl⟩
                  rw [← hY] at ho3
                  have hYl : Y.length = m + 1 := by rw [hY, List.length_append, ← hmL]; rfl
                  obtain ⟨A4, c4, rfl, hle4⟩ := ho3.form
                  have hG := Stp.of_grown hg3
                  have HV3 := Lib.hid (hG.blk (HA2.out.blk HV2.out id) (ownM_ne HI3.out.fl (HA2.out.blk HV2.out id) (by decide)))
                  have HQ3 := Lib.hid (hG.blk HI3.out.rq (ownM_ne HI3.out.fl HI3.out.rq (by decide)))
                  have HR3 := Lib.hid (hG.blk HI3.out.res (ownM_ne HI3.out.fl HI3.out.res (by decide)))
                  have HS3 := Lib.hid (HI3.out.stp.then_ hG (fun k hk h => by have := (HI3.out.fl.lt k h).1; omega))
                  have HO3 := Lib.hid ho3
                  have HYY := Lib.hid hY
                  clear hY ho3 hg3 hG hfl3
                  by_cases her : er = 0
                  · subst her
                    by_cases hm1 : m = 100
                    · have d1 : decide ((100 : Int) < (Y.length : Int)) = true := decide_eq_true (by omega)
                      have hfs : fs.length = 100 := by rw [← fsB_len, ← hmL, hm1]
                      have HFS := Lib.hid hfs
                      clear hfs hmL hYl hm1
                      go_wp2_with fail
                      go_meet
                      refine ⟨2, .open_, ⟨[], false, true, rq, fs⟩, .slice A4 Y.length c4, rfl, rfl, rfl, rfl, ?_, fun _ => rfl, HV3.out, fun h => absurd h (by decide), HQ3.out, HR3.out, HS3.out⟩
                      rw [HLF.out, if_neg (by simp), if_pos HFS.out, if_pos (by decide)]
                    · have d1 : decide ((100 : Int) < (Y.length : Int)) = false := decide_eq_false (by omega)
                      have hfs : ¬ fs.length = 100 := by rw [← fsB_len, ← hmL]; exact hm1
                      have HFS := Lib.hid hfs
                      clear hfs hmL hYl hm1
                      go_wp2_with fail
                      go_meet
                      refine ⟨0, .open_, ⟨[], false, true, rq, fs ++ [(fn, ft)]⟩, .slice A4 Y.length c4, rfl, rfl, rfl, rfl, ?_, fun _ => rfl, HV3.out, fun _ _ => ?_, HQ3.out, HR3.out, HS3.out⟩
                      · rw [HLF.out, if_neg (by simp), if_neg HFS.out, if_neg (by decide)]
                      · show OwnM _ _ _ _ _ _ (fsB (fs ++ [(fn, ft)]))
                        rw [fsB_snoc, ← HNT.out.1, ← HNT.out.2, ← HYY.out]
                        exact HO3.out
                  · have hne : (er == 0) = false := by simpa using her
                    have HNE := Lib.hid her
                    clear her hmL hYl
                    go_wp2_with fail
                    go_meet
                    refine ⟨er, .open_, ⟨[], false, true, rq, fs⟩, .slice A4 Y.length c4, rfl, rfl, rfl, rfl, ?_, fun _ => rfl, HV3.out, fun h => absurd h HNE.out, HQ3.out, HR3.out, HS3.out⟩
                    rw [HLF.out, if_pos HNE.out, if_pos HNE.out]
            case rest =>
              obtain ⟨er, v0, s2, fv2, rfl, rfl, rfl, rfl, hL⟩ := hcut
              have HL := Lib.hid hL
              clear hL
              have f0 := blk_free HL.out.vb 0
              have f1 := blk_free HL.out.vb 1
              have f2 := blk_free HL.out.vb 2
              have kv0 : wc.cell? ⟨bv, 0, none⟩ = some (.int .i64 v0.st) := blk_cell (j := 0) HL.out.vb
              have kv1 : wc.cell? ⟨bv, 1, none⟩ = some (.int .i64 0) := blk_cell (j := 1) HL.out.vb
              have kv2 : wc.cell? ⟨bv, 2, none⟩ = some (.int .i64 0) := blk_cell (j := 2) HL.out.vb
              by_cases her : er = 0
              · subst her
                have hlv : (lineH2 ⟨line, true, fi, rq, fs⟩).2 = v0 := by rw [HL.out.ln]; simp
                by_cases hst : v0.st = 0
                · have HOP : Hid (v0 = .open_ ∧ lineH2 ⟨line, true, fi, rq, fs⟩ = (s2, .open_)) := Lib.hid (by
                    have h1 := step_open (s := ⟨line, true, fi, rq, fs⟩) (c := b[k]) (by rw [HLN.out.1, hlv]; exact hst)
                    rw [HLN.out.1, hlv] at h1
                    refine ⟨h1, ?_⟩
                    rw [HL.out.ln, h1]
                    simp)
                  rw [hst] at kv0
                  have HST0 := Lib.hid hst
                  clear hlv hst
                  obtain ⟨g', rfl⟩ : ∃ g', gk = g' + 1 := ⟨gk - 1, by omega⟩
                  go_wp2
                  go_roundg g'
                  case measure => omega
                  case rel =>
                    have h2 := HI1.out.ok.step b[k]
                    rw [HLN.out.1, HOP.out.2] at h2
                    have h3 := HLN.out.2 (by rw [HOP.out.2]; rfl)
                    rw [HOP.out.2] at h3
                    have h4 := (line2_fresh ⟨line, true, fi, rq, fs⟩).2.2
                    rw [HOP.out.2] at h4
                    exact ⟨k + 1, k + 1, n + 1, s2, _, by omega, by go_num, by go_num, by go_num, rfl, ⟨h3, h2, ⟨by have := HI1.out.cnt.1; omega, fun _ => by omega, fun _ => h4⟩, HL.out.fl rfl HST0.out, HL.out.res, HL.out.rq, HL.out.stp⟩⟩
                · have hne : (v0.st != 0) = true := by simpa using hst
                  have HKN : Hid (allH b = (v0, k + 1)) := Lib.hid (by rw [HI1.out.ref.known hlt (by rw [HLN.out.1, hlv]; exact hst), HLN.out.1, hlv])
                  clear hlv hst
                  go_wp2_with (with_reducible refine stop (N := 98) rfl ?_)
                  refine Stop.go ?_
                  have hs1 : Stp (fun k => k = bv) wc ((wc.setCell ⟨bv, 1, none⟩ (.int .i64 2)).setCell ⟨bv, 2, none⟩ (.int .i64 ((k : Int) + 1))) := ((Stp.refl _ wc).setg 1 _).setg 2 _
                  have HST := Lib.hid hs1
                  have hb9 : ((wc.setCell ⟨bv, 1, none⟩ (.int .i64 2)).setCell ⟨bv, 2, none⟩ (.int .i64 ((k : Int) + 1))).heap[bv]? = some (.cells (vdC v0 (k + 1)).toArray 31 (0, 0)) := blk_set (blk_set HL.out.vb 1 (.int .i64 2)) 2 (.int .i64 ((k : Int) + 1))
                  refine wpList_load_row rfl _ _ rfl bv rfl _ _ (0, 0) _ hb9 Tryz.underlying31 rfl size_vd ?_
                  refine wpList_store_row rfl _ _ _ rfl w.heap.size _ rfl rfl _ vd0 (HST.out.blk HL.out.res (by omega)) size_vd rfl (by simp [vdC, Value.oneCell']) ?_
                  have hrow := row_blk (HST.out.blk HL.out.res (by omega)) (vdC v0 (k + 1)).toArray
                  have hst := (HL.out.stp.then_ HST.out (fun k hk h => by omega)).then_ ((Stp.refl (fun k => k = w.heap.size) _).rowA (g := w.heap.size) (fun _ => rfl) (vdC v0 (k + 1)).toArray) (fun k hk h => by omega)
                  have HROW := Lib.hid hrow
                  have HST9 := Lib.hid hst
                  clear hrow hst
                  go_wp2
                  refine bodyPost_ret (results_cell_row rfl _ _ w.heap.size _ _ _ _ rfl HROW.out Tryz.underlying31 rfl size_vd) rfl ?_
                  rw [HR.out]
                  exact ⟨by rw [HKN.out]; rfl, HST9.out⟩
              · have hne : (er != 0) = true := by simpa using her
                obtain rfl := HL.out.op her
                have HKN : Hid (allH b = (.bad er, k + 1)) := Lib.hid (by
                  have h1 : lineH2 ⟨line, true, fi, rq, fs⟩ = (s2, .bad er) := by rw [HL.out.ln, if_pos her]
                  rw [HI1.out.ref.known hlt (by rw [HLN.out.1, h1]; exact (show ¬ (2 : Int) = 0 by decide)), HLN.out.1, h1])
                simp only [Vd.open_] at kv0
                have hvb : wc.heap[bv]? = some (.cells vd0 31 (0, 0)) := HL.out.vb
                have HVB := Lib.hid hvb
                have g3 : wc.cell? ⟨bv, 3, none⟩ = some (.int .i64 0) := blk_cell (j := 3) hvb
                have f3 := blk_free hvb 3
                have g4 : wc.cell? ⟨bv, 4, none⟩ = some (.string ⟨#[]⟩) := blk_cell (j := 4) hvb
                have f4 := blk_free hvb 4
                have g5 : wc.cell? ⟨bv, 5, none⟩ = some (.int .i64 0) := blk_cell (j := 5) hvb
                have f5 := blk_free hvb 5
                have g6 : wc.cell? ⟨bv, 6, none⟩ = some (.bool false) := blk_cell (j := 6) hvb
                have f6 := blk_free hvb 6
                have g7 : wc.cell? ⟨bv, 7, none⟩ = some (.string ⟨#[]⟩) := blk_cell (j := 7) hvb
                have f7 := blk_free hvb 7
                have g8 : wc.cell? ⟨bv, 8, none⟩ = some (.slice none 0 0) := blk_cell (j := 8) hvb
                have f8 := blk_free hvb 8
                have g9 : wc.cell? ⟨bv, 9, none⟩ = some (.slice none 0 0) := blk_cell (j := 9) hvb
                have f9 := blk_free hvb 9
                have g10 : wc.cell? ⟨bv, 10, none⟩ = some (.bool false) := blk_cell (j := 10) hvb
                have f10 := blk_free hvb 10
                clear her hvb
                go_wp2_with (with_reducible refine stop (N := 98) rfl ?_)
                refine Stop.go ?_
                have hs1 : Stp (fun k => k = bv) wc (((((((((((((wc.setCell ⟨bv, 0, none⟩ (.int .i64 2)).setCell ⟨bv, 1, none⟩ (.int .i64 0)).setCell ⟨bv, 2, none⟩ (.int .i64 0)).setCell ⟨bv, 3, none⟩ (.int .i64 er)).setCell ⟨bv, 4, none⟩ (.string ⟨#[]⟩)).setCell ⟨bv, 5, none⟩ (.int .i64 0)).setCell ⟨bv, 6, none⟩ (.bool false)).setCell ⟨bv, 7, none⟩ (.string ⟨#[]⟩)).setCell ⟨bv, 8, none⟩ (.slice none 0 0)).setCell ⟨bv, 9, none⟩ (.slice none 0 0)).setCell ⟨bv, 10, none⟩ (.bool false)).setCell ⟨bv, 1, none⟩ (.int .i64 2)).setCell ⟨bv, 2, none⟩ (.int .i64 ((k : Int) + 1))) := ((vd_stp wc bv (.int .i64 2) (.int .i64 0) (.int .i64 0) (.int .i64 er) (.string ⟨#[]⟩) (.int .i64 0) (.bool false) (.string ⟨#[]⟩) (.slice none 0 0) (.slice none 0 0) (.bool false)).setg 1 _).setg 2 _
                have HST := Lib.hid hs1
                have hb9 : (((((((((((((wc.setCell ⟨bv, 0, none⟩ (.int .i64 2)).setCell ⟨bv, 1, none⟩ (.int .i64 0)).setCell ⟨bv, 2, none⟩ (.int .i64 0)).setCell ⟨bv, 3, none⟩ (.int .i64 er)).setCell ⟨bv, 4, none⟩ (.string ⟨#[]⟩)).setCell ⟨bv, 5, none⟩ (.int .i64 0)).setCell ⟨bv, 6, none⟩ (.bool false)).setCell ⟨bv, 7, none⟩ (.string ⟨#[]⟩)).setCell ⟨bv, 8, none⟩ (.slice none 0 0)).setCell ⟨bv, 9, none⟩ (.slice none 0 0)).setCell ⟨bv, 10, none⟩ (.bool false)).setCell ⟨bv, 1, none⟩ (.int .i64 2)).setCell ⟨bv, 2, none⟩ (.int .i64 ((k : Int) + 1))).heap[bv]? = some (.cells (vdC (.bad er) (k + 1)).toArray 31 (0, 0)) := blk_set (blk_set (vd_set HVB.out (.int .i64 2) (.int .i64 0) (.int .i64 0) (.int .i64 er) (.string ⟨#[]⟩) (.int .i64 0) (.bool false) (.string ⟨#[]⟩) (.slice none 0 0) (.slice none 0 0) (.bool false)) 1 (.int .i64 2)) 2 (.int .i64 ((k : Int) + 1))
                refine wpList_load_row rfl _ _ rfl bv rfl _ _ (0, 0) _ hb9 Tryz.underlying31 rfl size_vd ?_
                refine wpList_store_row rfl _ _ _ rfl w.heap.size _ rfl rfl _ vd0 (HST.out.blk HL.out.res (by omega)) size_vd rfl (by simp [vdC, Value.oneCell']) ?_
                have hrow := row_blk (HST.out.blk HL.out.res (by omega)) (vdC (.bad er) (k + 1)).toArray
                have hst := (HL.out.stp.then_ HST.out (fun k hk h => by omega)).then_ ((Stp.refl (fun k => k = w.heap.size) _).rowA (g := w.heap.size) (fun _ => rfl) (vdC (.bad er) (k + 1)).toArray) (fun k hk h => by omega)
                have HROW := Lib.hid hrow
                have HST9 := Lib.hid hst
                clear hrow hst
                go_wp2
                refine bodyPost_ret (results_cell_row rfl _ _ w.heap.size _ _ _ _ rfl HROW.out Tryz.underlying31 rfl size_vd) rfl ?_
                rw [HR.out]
                exact ⟨by rw [HKN.out]; rfl, HST9.out⟩
          · have e10 : ((c.toNat : Int) == 10) = false := by
              have : c.toNat ≠ 10 := fun e => hc10 (UInt8.toNat_inj.1 e)
              simp
              omega
            have HKN : Hid (allH b = (.bad 3, k + 1)) := Lib.hid (by
              have hs3 : stepH ⟨line, true, fi, rq, fs⟩ b[k] = (⟨line, true, fi, rq, fs⟩, .bad 3) := by rw [← HC.out]; unfold stepH; rw [if_neg (fun h => hc10 h.2), if_pos (Or.inl rfl)]
              rw [HI.out.ref.known hlt (by rw [hs3]; exact (show ¬ (2 : Int) = 0 by decide)), hs3])
            clear hc10
            go_wp2_with (with_reducible refine stop (N := 98) rfl ?_)
            refine Stop.go ?_
            refine wpList_load_row rfl _ _ rfl wc.heap.size rfl _ _ (0, 0) _ (heap_alloc_new wc _) Tryz.underlying31 rfl size_vd ?_
            refine wpList_store_row rfl _ _ _ rfl w.heap.size _ rfl rfl _ vd0 (((Stp.refl (fun _ => False) wc).alloc _).blk HI.out.res id) size_vd rfl (by simp [Value.oneCell']) ?_
            have hrow := row_blk (((Stp.refl (fun _ => False) wc).alloc (.cells (#[.int .i64 2, .int .i64 2, .int .i64 ((k : Int) + 1), .int .i64 3, .string ⟨#[]⟩, .int .i64 0, .bool false, .string ⟨#[]⟩, .slice none 0 0, .slice none 0 0, .bool false] : Array Value) 31)).blk HI.out.res id) (#[.int .i64 2, .int .i64 2, .int .i64 ((k : Int) + 1), .int .i64 3, .string ⟨#[]⟩, .int .i64 0, .bool false, .string ⟨#[]⟩, .slice none 0 0, .slice none 0 0, .bool false] : Array Value)
            have hst := (HI.out.stp.alloc (.cells (#[.int .i64 2, .int .i64 2, .int .i64 ((k : Int) + 1), .int .i64 3, .string ⟨#[]⟩, .int .i64 0, .bool false, .string ⟨#[]⟩, .slice none 0 0, .slice none 0 0, .bool false] : Array Value) 31)).then_ ((Stp.refl (fun k => k = w.heap.size) _).rowA (g := w.heap.size) (fun _ => rfl) (#[.int .i64 2, .int .i64 2, .int .i64 ((k : Int) + 1), .int .i64 3, .string ⟨#[]⟩, .int .i64 0, .bool false, .string ⟨#[]⟩, .slice none 0 0, .slice none 0 0, .bool false] : Array Value)) (fun k hk h => by omega)
            have HROW := Lib.hid hrow
            have HST := Lib.hid hst
            clear hrow hst
            go_wp2
            refine bodyPost_ret (results_cell_row rfl _ _ w.heap.size _ _ _ _ rfl HROW.out Tryz.underlying31 rfl size_vd) rfl ?_
            rw [HR.out]
            exact ⟨by rw [HKN.out]; rfl, HST.out⟩
        | false =>
          by_cases hc10 : c = 10
          · have e10 : ((c.toNat : Int) == 10) = true := by rw [hc10]; rfl
            have HKN : Hid (allH b = (.bad 3, k + 1)) := Lib.hid (by
              have hs3 : stepH ⟨line, false, fi, rq, fs⟩ b[k] = (⟨line, false, fi, rq, fs⟩, .bad 3) := by rw [← HC.out]; unfold stepH; rw [if_neg (by simp), if_pos (Or.inr hc10)]
              rw [HI.out.ref.known hlt (by rw [hs3]; exact (show ¬ (2 : Int) = 0 by decide)), hs3])
            clear hc10
            go_wp2_with (with_reducible refine stop (N := 98) rfl ?_)
            refine Stop.go ?_
            refine wpList_load_row rfl _ _ rfl wc.heap.size rfl _ _ (0, 0) _ (heap_alloc_new wc _) Tryz.underlying31 rfl size_vd ?_
            refine wpList_store_row rfl _ _ _ rfl w.heap.size _ rfl rfl _ vd0 (((Stp.refl (fun _ => False) wc).alloc _).blk HI.out.res id) size_vd rfl (by simp [Value.oneCell']) ?_
            have hrow := row_blk (((Stp.refl (fun _ => False) wc).alloc (.cells (#[.int .i64 2, .int .i64 2, .int .i64 ((k : Int) + 1), .int .i64 3, .string ⟨#[]⟩, .int .i64 0, .bool false, .string ⟨#[]⟩, .slice none 0 0, .slice none 0 0, .bool false] : Array Value) 31)).blk HI.out.res id) (#[.int .i64 2, .int .i64 2, .int .i64 ((k : Int) + 1), .int .i64 3, .string ⟨#[]⟩, .int .i64 0, .bool false, .string ⟨#[]⟩, .slice none 0 0, .slice none 0 0, .bool false] : Array Value)
            have hst := (HI.out.stp.alloc (.cells (#[.int .i64 2, .int .i64 2, .int .i64 ((k : Int) + 1), .int .i64 3, .string ⟨#[]⟩, .int .i64 0, .bool false, .string ⟨#[]⟩, .slice none 0 0, .slice none 0 0, .bool false] : Array Value) 31)).then_ ((Stp.refl (fun k => k = w.heap.size) _).rowA (g := w.heap.size) (fun _ => rfl) (#[.int .i64 2, .int .i64 2, .int .i64 ((k : Int) + 1), .int .i64 3, .string ⟨#[]⟩, .int .i64 0, .bool false, .string ⟨#[]⟩, .slice none 0 0, .slice none 0 0, .bool false] : Array Value)) (fun k hk h => by omega)
            have HROW := Lib.hid hrow
            have HST := Lib.hid hst
            clear hrow hst
            go_wp2
            refine bodyPost_ret (results_cell_row rfl _ _ w.heap.size _ _ _ _ rfl HROW.out Tryz.underlying31 rfl size_vd) rfl ?_
            rw [HR.out]
            exact ⟨by rw [HKN.out]; rfl, HST.out⟩
          · have e10 : ((c.toNat : Int) == 10) = false := by
              have : c.toNat ≠ 10 := fun e => hc10 (UInt8.toNat_inj.1 e)
              simp
              omega
            obtain ⟨l2, b2, hs3⟩ := step_quiet line fi rq fs c hc10
            have HNX : Hid (RefH b (k + 1) f ⟨l2, b2, fi, rq, fs⟩ ∧ HsOk ⟨l2, b2, fi, rq, fs⟩ (k + 1)) := Lib.hid (by
              have h1 := HI.out.ref.next hlt (by rw [← HC.out, hs3]; rfl) (by simp)
              have h2 := HI.out.ok.step c
              rw [← HC.out, hs3] at h1
              rw [hs3] at h2
              exact ⟨h1, h2⟩)
            clear hc10 hs3
            obtain ⟨g', rfl⟩ : ∃ g', gk = g' + 1 := ⟨gk - 1, by omega⟩
            go_wp2
            go_roundg g'
            case measure => omega
            case rel =>
              have hA := (Stp.refl (fun _ => False) wc).alloc (.cells vd0 31)
              exact ⟨k + 1, f, n, ⟨l2, b2, fi, rq, fs⟩, _, by omega, by go_num, rfl, rfl, rfl, ⟨HNX.out.1, HNX.out.2, ⟨Nat.le_succ_of_le HI.out.cnt.1, HI.out.cnt.2⟩, by have := HI.out.fl.stp0 hA; rw [HMM.out] at this ⊢; exact this, hA.blk HI.out.res id, hA.blk HI.out.rq id, HI.out.stp.trans hA⟩⟩
    · obtain rfl : k = b.length := by omega
      have HKN := Lib.hid (HI.out.ref.end_)
      have kr0 : wr.cell? ⟨w.heap.size, 0, none⟩ = some (.int .i64 0) := blk_cell (j := 0) HI.out.res
      have fr0 := blk_free HI.out.res 0
      have kr1 : wr.cell? ⟨w.heap.size, 1, none⟩ = some (.int .i64 0) := blk_cell (j := 1) HI.out.res
      have fr1 := blk_free HI.out.res 1
      have kr2 : wr.cell? ⟨w.heap.size, 2, none⟩ = some (.int .i64 0) := blk_cell (j := 2) HI.out.res
      have fr2 := blk_free HI.out.res 2
      have kr3 : wr.cell? ⟨w.heap.size, 3, none⟩ = some (.int .i64 0) := blk_cell (j := 3) HI.out.res
      have fr3 := blk_free HI.out.res 3
      have kr4 : wr.cell? ⟨w.heap.size, 4, none⟩ = some (.string ⟨#[]⟩) := blk_cell (j := 4) HI.out.res
      have fr4 := blk_free HI.out.res 4
      have kr5 : wr.cell? ⟨w.heap.size, 5, none⟩ = some (.int .i64 0) := blk_cell (j := 5) HI.out.res
      have fr5 := blk_free HI.out.res 5
      have kr6 : wr.cell? ⟨w.heap.size, 6, none⟩ = some (.bool false) := blk_cell (j := 6) HI.out.res
      have fr6 := blk_free HI.out.res 6
      have kr7 : wr.cell? ⟨w.heap.size, 7, none⟩ = some (.string ⟨#[]⟩) := blk_cell (j := 7) HI.out.res
      have fr7 := blk_free HI.out.res 7
      have kr8 : wr.cell? ⟨w.heap.size, 8, none⟩ = some (.slice none 0 0) := blk_cell (j := 8) HI.out.res
      have fr8 := blk_free HI.out.res 8
      have kr9 : wr.cell? ⟨w.heap.size, 9, none⟩ = some (.slice none 0 0) := blk_cell (j := 9) HI.out.res
      have fr9 := blk_free HI.out.res 9
      have kr10 : wr.cell? ⟨w.heap.size, 10, none⟩ = some (.bool false) := blk_cell (j := 10) HI.out.res
      have fr10 := blk_free HI.out.res 10
      go_wp2
      refine bodyPost_ret (results_cell_row rfl _ _ w.heap.size _ _ _ _ rfl (vd_set HI.out.res _ _ _ _ _ _ _ _ _ _ _) Tryz.underlying31 rfl size_vd) rfl ?_
      rw [HR.out]
      exact ⟨by rw [HKN.out]; rfl, HI.out.stp.then_ (vd_stp wr w.heap.size _ _ _ _ _ _ _ _ _ _ _) (fun k hk h => by omega)⟩
end Go.Proofs.YtgjmaifgkgejgaaGreatDoor.L
