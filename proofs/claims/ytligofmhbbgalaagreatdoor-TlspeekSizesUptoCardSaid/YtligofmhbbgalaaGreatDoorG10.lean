/- Texts of the proof, joined: Tb Th Ay Az Fb Rr Fc Rt. -/
import Derived.Test.YtligofmhbbgalaaGreatDoorG09
import Derived.Test.YtligofmhbbgalaaGreatDoorG04
import Derived.IntWalk
import Derived.Laws.Runes
import Derived.Lib.MapLaws
import Derived.Lib.QuoteLoop
import Derived.Test.YtligofmhbbgalaaGreatDoorG01
import Derived.Test.YtligofmhbbgalaaGreatDoorG08
set_option linter.unusedVariables false
set_option linter.unusedSimpArgs false
/- Layer 15: the first message of a handshake. -/
namespace Go.Proofs.YtligofmhbbgalaaGreatDoor.L
open Go.RowKit Go.Proofs

/-- The cells of a message that comes, and where it lies. -/
def msC (hd sz : Nat) (v : Value) (er : Int) : Array Value := #[.int .i64 (hd : Int), .int .i64 (sz : Int), v, .int .i64 er]
def MsF (w : World) (g : Nat) (b : List UInt8) (v : Value) : Prop := w.heap[g]? = some (.cells (msC (min b.length 4) (msz b) v 0) 96 (0, 0)) ∧ Own enc8 5 (g + 1) w v (b.drop 4)
def MsB (w : World) (g : Nat) (b : List UInt8) : Prop := ∃ v, MsF w g b v
theorem MsF.lt {w : World} {g : Nat} {b : List UInt8} {v : Value} (h : MsF w g b v) : g < w.heap.size := blk_lt h.1
theorem MsF.step {S : Nat → Prop} {w w1 : World} {g : Nat} {b : List UInt8} {v : Value} (h : MsF w g b v) (hs : Stp S w w1) (hS : ¬ S g) (hv : ∀ k, v.ownBlock = some k → ¬ S k) : MsF w1 g b v := ⟨hs.blk h.1 hS, h.2.step hs hv⟩
theorem MsF.stp0 {w w1 : World} {g : Nat} {b : List UInt8} {v : Value} (h : MsF w g b v) (hs : Stp (fun _ => False) w w1) : MsF w1 g b v := h.step hs id fun _ _ => id
/-- An own slice of bytes lies in no block of another type. -/
theorem own_ty {e B : Nat} {w : World} {v : Value} {xs : List UInt8} {g : Nat} {cs : Array Value} {t : TypeId} {fr : Nat × Nat} (h : Own enc8 e B w v xs) (hb : w.heap[g]? = some (.cells cs t fr)) (ht : t ≠ e) : v.ownBlock ≠ some g := by
  intro hk
  rcases h.2 with ⟨rfl, _⟩ | ⟨b, cap, cur, rfl, _, hb2, _⟩
  · cases hk
  · injection hk with hk
    simp only at hk
    rw [hk, hb] at hb2
    injection hb2 with hb2
    injection hb2 with _ h2 _
    exact ht h2
/-- Is all there? -/
def whB (hd sz n : Nat) (er : Int) : Bool := decide (er = 0 ∧ hd = 4 ∧ n = sz)
def WhP (w : World) (b : Bool) (e : Ending) (w' : World) : Prop := e = .returned (.bool b) ∧ Stp (fun _ => False) w w'
set_option maxRecDepth 100000 in
set_option maxHeartbeats 8000000 in
theorem whole_any (g hd sz n cp : Nat) (A : Option Addr) (er : Int) (w : World) (h : w.heap[g]? = some (.cells (msC hd sz (.slice A n cp) er) 96 (0, 0))) :
    Calls Tryz.prog 96 #[.pointer (some ⟨g, 0, none⟩)] w (WhP w (whB hd sz n er)) := by
  obtain ⟨R, hR⟩ : ∃ R, R = WhP w (whB hd sz n er) := ⟨_, rfl⟩
  rw [← hR]
  have HR := Lib.hid hR
  have hlt := blk_lt h
  have c0 : w.cell? ⟨g, 0, none⟩ = some (.int .i64 (hd : Int)) := blk_cell (j := 0) h
  have c1 : w.cell? ⟨g, 1, none⟩ = some (.int .i64 (sz : Int)) := blk_cell (j := 1) h
  have c2 : w.cell? ⟨g, 2, none⟩ = some (.slice A n cp) := blk_cell (j := 2) h
  have c3 : w.cell? ⟨g, 3, none⟩ = some (.int .i64 er) := blk_cell (j := 3) h
  clear hR h
  by_cases h0 : er = 0
  · subst h0
    by_cases h1 : hd = 4
    · subst h1
      by_cases h2 : n = sz
      · subst h2
        have HB : Hid (whB 4 n n 0 = true) := Lib.hid (by simp [whB])
        go_enter Tryz.func96, Tryz.ntmps96
        go_wp2_with fail
        go_quiet (fail)
        go_wp2
        rw [HR.out, HB.out]
        exact ⟨rfl, (Stp.refl _ _).drewN _⟩
      · have HB : Hid (whB 4 sz n 0 = false) := Lib.hid (by simp [whB, h2])
        have e2 : ((n : Int) == (sz : Int)) = false := by simp; omega
        clear h2
        go_enter Tryz.func96, Tryz.ntmps96
        go_wp2_with fail
        go_quiet (fail)
        go_wp2
        rw [HR.out, HB.out]
        exact ⟨rfl, (Stp.refl _ _).drewN _⟩
    · have HB : Hid (whB hd sz n 0 = false) := Lib.hid (by simp [whB, h1])
      have e1 : ((hd : Int) == 4) = false := by simp; omega
      clear h1
      go_enter Tryz.func96, Tryz.ntmps96
      go_wp2_with fail
      go_quiet (fail)
      go_wp2
      rw [HR.out, HB.out]
      exact ⟨rfl, (Stp.refl _ _).drewN _⟩
  · have HB : Hid (whB hd sz n er = false) := Lib.hid (by simp [whB, h0])
    have e0 : (er == 0) = false := by simpa using h0
    clear h0
    go_enter Tryz.func96, Tryz.ntmps96
    go_wp2_with fail
    go_quiet (fail)
    go_wp2
    rw [HR.out, HB.out]
    exact ⟨rfl, (Stp.refl _ _).drewN _⟩

/-- What a byte ahead of the body does. -/
def fstE (b : List UInt8) (c : UInt8) : Int := if b = [] then (if c = 1 then 0 else 4) else if 16384 < msz (b ++ [c]) * 256 ^ (3 - b.length) then 6 else 0
def FsP (w : World) (g : Nat) (b : List UInt8) (v : Value) (c : UInt8) (e : Ending) (w' : World) : Prop := e = .returned (.int .i64 (fstE b c)) ∧ w'.heap[g]? = some (.cells (msC (b.length + 1) (msz (b ++ [c])) v 0) 96 (0, 0)) ∧ Stp (fun k => k = g) w w'
theorem or_sz (z : Nat) (c : UInt8) (h : z ≤ 64) : bits .or .i64 ((z : Int) * 256) (c.toNat : Int) = ((z * 256 + c.toNat : Nat) : Int) := by
  have hc := c.toNat_lt
  rw [bits_join .i64 32 (by decide) (fun n h0 h1 => IntWalk.i64_in _ (by omega)) 8 _ _ (by omega) (by omega) (by omega) (by omega) (by omega) (by omega)]
  simp
theorem msz_small {b : List UInt8} (h1 : b ≠ []) (h4 : b.length < 4) (hz : fsz b ≤ 16384) : msz b ≤ 64 := by
  unfold fsz at hz
  have hp : 0 < b.length := List.length_pos_iff.2 h1
  have : b.length = 1 ∨ b.length = 2 ∨ b.length = 3 := by omega
  rcases this with e | e | e <;> rw [e] at hz <;> simp at hz <;> omega
set_option maxRecDepth 100000 in
set_option maxHeartbeats 8000000 in
theorem first_any (g : Nat) (b : List UInt8) (v : Value) (c : UInt8) (w : World) (h : w.heap[g]? = some (.cells (msC b.length (msz b) v 0) 96 (0, 0))) (h4 : b.length < 4) (hz : fsz b ≤ 16384) :
    Calls Tryz.prog 97 #[.pointer (some ⟨g, 0, none⟩), .int .u8 (c.toNat : Int)] w (FsP w g b v c) := by
  obtain ⟨R, hR⟩ : ∃ R, R = FsP w g b v c := ⟨_, rfl⟩
  rw [← hR]
  have HR := Lib.hid hR
  have HG := Lib.hid h
  have hlt := blk_lt h
  have f0 := blk_free h 0
  have f1 := blk_free h 1
  have c1 : w.cell? ⟨g, 1, none⟩ = some (.int .i64 (msz b : Int)) := blk_cell (j := 1) h
  have c0 : w.cell? ⟨g, 0, none⟩ = some (.int .i64 (b.length : Int)) := blk_cell (j := 0) h
  clear hR
  by_cases hb : b = []
  · subst hb
    have c0 : w.cell? ⟨g, 0, none⟩ = some (.int .i64 0) := blk_cell (j := 0) h
    by_cases hc : c.toNat = 1
    · have HJ : Hid (fstE [] c = 0) := Lib.hid (by unfold fstE; rw [if_pos rfl, if_pos (UInt8.toNat_inj.1 hc)])
      have e1 : ((c.toNat : Int) != 1) = false := by simp; omega
      clear h h4 hz hc
      go_enter Tryz.func97, Tryz.ntmps97
      go_wp2
      rw [HR.out]
      unfold FsP
      rw [HJ.out]
      exact ⟨rfl, blk_set HG.out 0 (.int .i64 1), (Stp.refl _ w).setg 0 _⟩
    · have HJ : Hid (fstE [] c = 4) := Lib.hid (by unfold fstE; rw [if_pos rfl, if_neg (fun e => hc (by rw [e]; rfl))])
      have e1 : ((c.toNat : Int) != 1) = true := by simp; omega
      clear h h4 hz hc
      go_enter Tryz.func97, Tryz.ntmps97
      go_wp2
      rw [HR.out]
      unfold FsP
      rw [HJ.out]
      exact ⟨rfl, blk_set HG.out 0 (.int .i64 1), (Stp.refl _ w).setg 0 _⟩
  · have hz64 := msz_small hb h4 hz
    have hsn := msz_snoc b c hb h4
    have eo := or_sz (msz b) c hz64
    rw [← hsn] at eo
    have hcl := c.toNat_lt
    have hN : msz (b ++ [c]) ≤ 16639 := by omega
    have hfs : fstE b c = if 16384 < msz (b ++ [c]) * 256 ^ (3 - b.length) then 6 else 0 := by unfold fstE; rw [if_neg hb]
    obtain ⟨z, hzz⟩ : ∃ z, z = msz b := ⟨_, rfl⟩
    obtain ⟨y, hy⟩ : ∃ y, y = msz (b ++ [c]) := ⟨_, rfl⟩
    rw [← hzz] at c1 eo HG hz64
    rw [← hy] at eo hN hfs
    have HY := Lib.hid hy
    have ew : IntKind.i64.wrap ((c.toNat : Int)) = (c.toNat : Int) := IntWalk.i64_in _ (by omega)
    have ew2 : IntKind.i64.wrap ((z : Int) * 256) = (z : Int) * 256 := IntWalk.i64_in _ (by omega)
    have hp : 0 < b.length := List.length_pos_iff.2 hb
    have h123 : b.length = 1 ∨ b.length = 2 ∨ b.length = 3 := by omega
    obtain ⟨l, hl⟩ : ∃ l, l = b.length := ⟨_, rfl⟩
    rw [← hl] at c0 HG h123 hfs
    have HL := Lib.hid hl
    clear h h4 hz hb hsn hcl hzz hy hp hl
    rcases h123 with rfl | rfl | rfl
    · have ew3 : IntKind.i64.wrap ((y : Int) * 65536) = (y : Int) * 65536 := IntWalk.i64_in _ (by omega)
      simp only [Int.natCast_one] at c0
      by_cases hk : 16384 < y * 65536
      · have HJ : Hid (fstE b c = 6) := Lib.hid (by rw [hfs]; exact if_pos hk)
        have e1 : (16384 : Int) < (y : Int) * 65536 := by omega
        clear hfs hk
        go_enter Tryz.func97, Tryz.ntmps97
        go_wp2_with fail
        go_quiet (fail)
        go_wp2
        rw [HR.out]
        unfold FsP
        rw [HJ.out, ← HL.out, ← HY.out]
        exact ⟨rfl, ((Stp.refl (fun _ => False) _).drewN _).blk (blk_set (blk_set HG.out 0 (.int .i64 2)) 1 (.int .i64 (y : Int))) id, (((Stp.refl _ w).setg 0 _).setg 1 _).drewN _⟩
      · have HJ : Hid (fstE b c = 0) := Lib.hid (by rw [hfs]; exact if_neg hk)
        have e1 : ¬ (16384 : Int) < (y : Int) * 65536 := by omega
        clear hfs hk
        go_enter Tryz.func97, Tryz.ntmps97
        go_wp2_with fail
        go_quiet (fail)
        go_wp2
        rw [HR.out]
        unfold FsP
        rw [HJ.out, ← HL.out, ← HY.out]
        exact ⟨rfl, ((Stp.refl (fun _ => False) _).drewN _).blk (blk_set (blk_set HG.out 0 (.int .i64 2)) 1 (.int .i64 (y : Int))) id, (((Stp.refl _ w).setg 0 _).setg 1 _).drewN _⟩
    · have ew3 : IntKind.i64.wrap ((y : Int) * 256) = (y : Int) * 256 := IntWalk.i64_in _ (by omega)
      simp only [show ((2 : Nat) : Int) = 2 from rfl] at c0
      by_cases hk : 16384 < y * 256
      · have HJ : Hid (fstE b c = 6) := Lib.hid (by rw [hfs]; exact if_pos hk)
        have e1 : (16384 : Int) < (y : Int) * 256 := by omega
        clear hfs hk
        go_enter Tryz.func97, Tryz.ntmps97
        go_wp2_with fail
        go_quiet (fail)
        go_wp2
        rw [HR.out]
        unfold FsP
        rw [HJ.out, ← HL.out, ← HY.out]
        exact ⟨rfl, ((Stp.refl (fun _ => False) _).drewN _).blk (blk_set (blk_set HG.out 0 (.int .i64 3)) 1 (.int .i64 (y : Int))) id, (((Stp.refl _ w).setg 0 _).setg 1 _).drewN _⟩
      · have HJ : Hid (fstE b c = 0) := Lib.hid (by rw [hfs]; exact if_neg hk)
        have e1 : ¬ (16384 : Int) < (y : Int) * 256 := by omega
        clear hfs hk
        go_enter Tryz.func97, Tryz.ntmps97
        go_wp2_with fail
        go_quiet (fail)
        go_wp2
        rw [HR.out]
        unfold FsP
        rw [HJ.out, ← HL.out, ← HY.out]
        exact ⟨rfl, ((Stp.refl (fun _ => False) _).drewN _).blk (blk_set (blk_set HG.out 0 (.int .i64 3)) 1 (.int .i64 (y : Int))) id, (((Stp.refl _ w).setg 0 _).setg 1 _).drewN _⟩
    · have ew3 : IntKind.i64.wrap (y : Int) = (y : Int) := IntWalk.i64_in _ (by omega)
      simp only [show ((3 : Nat) : Int) = 3 from rfl] at c0
      by_cases hk : 16384 < y
      · have HJ : Hid (fstE b c = 6) := Lib.hid (by rw [hfs]; exact if_pos (by simpa using hk))
        have e1 : (16384 : Int) < (y : Int) := by omega
        clear hfs hk
        go_enter Tryz.func97, Tryz.ntmps97
        go_wp2_with fail
        go_quiet (fail)
        go_wp2
        rw [HR.out]
        unfold FsP
        rw [HJ.out, ← HL.out, ← HY.out]
        exact ⟨rfl, ((Stp.refl (fun _ => False) _).drewN _).blk (blk_set (blk_set HG.out 0 (.int .i64 4)) 1 (.int .i64 (y : Int))) id, (((Stp.refl _ w).setg 0 _).setg 1 _).drewN _⟩
      · have HJ : Hid (fstE b c = 0) := Lib.hid (by rw [hfs]; exact if_neg (by simpa using hk))
        have e1 : ¬ (16384 : Int) < (y : Int) := by omega
        clear hfs hk
        go_enter Tryz.func97, Tryz.ntmps97
        go_wp2_with fail
        go_quiet (fail)
        go_wp2
        rw [HR.out]
        unfold FsP
        rw [HJ.out, ← HL.out, ← HY.out]
        exact ⟨rfl, ((Stp.refl (fun _ => False) _).drewN _).blk (blk_set (blk_set HG.out 0 (.int .i64 4)) 1 (.int .i64 (y : Int))) id, (((Stp.refl _ w).setg 0 _).setg 1 _).drewN _⟩

/-! ### a byte -/
def MsS (g : Nat) (v : Value) (k : Nat) : Prop := k = g ∨ v.ownBlock = some k
def MtP (w : World) (g : Nat) (b : List UInt8) (v : Value) (c : UInt8) (e : Ending) (w' : World) : Prop := e = .returned (.tuple #[.bool (takeM b c).2.1, .int .i64 (takeM b c).2.2]) ∧ ((takeM b c).2.2 = 0 → MsB w' g (takeM b c).1) ∧ Stp (MsS g v) w w'
theorem takeM_head {b : List UInt8} {c : UInt8} (h4 : b.length < 4) : takeM b c = (b ++ [c], whB (b.length + 1) (msz (b ++ [c])) 0 (fstE b c), fstE b c) := by
  unfold takeM fstE whB
  by_cases h0 : b = []
  · subst h0
    rw [if_pos rfl, if_pos rfl]
    simp
  · rw [if_neg h0, if_neg h0]
    by_cases h1 : 16384 < msz (b ++ [c]) * 256 ^ (3 - b.length)
    · rw [if_pos ⟨h4, h1⟩, if_pos h1]
      simp
    · rw [if_neg (fun h => h1 h.2), if_neg h1]
      congr 2
      rw [Bool.eq_iff_iff, decide_eq_true_iff, decide_eq_true_iff]
      simp only [List.length_append, List.length_cons, List.length_nil, true_and]
      omega
theorem takeM_body {b : List UInt8} {c : UInt8} (h4 : 4 ≤ b.length) : takeM b c = (b ++ [c], whB 4 (msz b) (b.length - 4 + 1) 0, 0) := by
  unfold takeM whB
  rw [if_neg (by intro h; rw [h] at h4; simp at h4), if_neg (fun h => by omega), msz_more b c h4]
  congr 2
  rw [Bool.eq_iff_iff, decide_eq_true_iff, decide_eq_true_iff]
  simp only [List.length_append, List.length_cons, List.length_nil, true_and]
  omega
theorem drop4_nil {b : List UInt8} (h : b.length ≤ 4) : b.drop 4 = [] := List.drop_of_length_le h
set_option maxRecDepth 100000 in
set_option maxHeartbeats 8000000 in
theorem mtake_any (g : Nat) (b : List UInt8) (v : Value) (c : UInt8) (w : World) (h : MsF w g b v) (hz : fsz b ≤ 16384) (hop : 4 ≤ b.length → b.length < 4 + msz b) (hl : b.length ≤ 1000000) :
    Calls Tryz.prog 53 #[.pointer (some ⟨g, 0, none⟩), .int .u8 (c.toNat : Int)] w (MtP w g b v c) := by
  obtain ⟨R, hR⟩ : ∃ R, R = MtP w g b v c := ⟨_, rfl⟩
  rw [← hR]
  have HR := Lib.hid hR
  have hcl := c.toNat_lt
  obtain ⟨hg, ho⟩ := h
  have hlt := blk_lt hg
  clear hR
  by_cases h4 : b.length < 4
  · rw [drop4_nil (by omega)] at ho
    rw [show min b.length 4 = b.length by omega] at hg
    have HO := Lib.hid ho
    obtain ⟨A, cp, rfl, hle⟩ := ho.form
    simp only [List.length_nil] at hg HO HR ⊢
    have HG := Lib.hid hg
    have cW := fun W (hW : W.heap[g]? = some (.cells (msC b.length (msz b) (.slice A 0 cp) 0) 96 (0, 0))) => whole_any g b.length (msz b) 0 cp A 0 W hW
    rw [show whB b.length (msz b) 0 0 = false by simp [whB]; omega] at cW
    have cF := fun W hW => first_any g b (.slice A 0 cp) c W hW h4 hz
    have hJ := takeM_head (c := c) h4
    obtain ⟨er, her⟩ : ∃ er, er = fstE b c := ⟨_, rfl⟩
    unfold FsP at cF
    rw [← her] at cF hJ
    obtain ⟨y, hy⟩ : ∃ y, y = msz (b ++ [c]) := ⟨_, rfl⟩
    obtain ⟨z, hz2⟩ : ∃ z, z = msz b := ⟨_, rfl⟩
    rw [← hy] at cF hJ
    rw [← hz2] at cW cF HG
    have HJ := Lib.hid hJ
    have HY := Lib.hid hy
    obtain ⟨l, hl2⟩ : ∃ l, l = b.length := ⟨_, rfl⟩
    rw [← hl2] at cF cW HG h4 HJ
    have HL := Lib.hid hl2
    have c0 : w.cell? ⟨g, 0, none⟩ = some (.int .i64 (l : Int)) := blk_cell (j := 0) HG.out
    have c3 : w.cell? ⟨g, 3, none⟩ = some (.int .i64 0) := blk_cell (j := 3) HG.out
    have e4 : (l : Int) < 4 := by omega
    clear hg ho hz hop hl hJ her hy hz2 hl2 h4
    go_enter Tryz.func53, Tryz.ntmps53
    go_wp2_with (go_at_call 96; refine stopc ?_)
    refine Stop.go ?_
    refine (cW _ HG.out).mono ?_
    rintro e w1 ⟨rfl, hs1⟩
    have hg1 := hs1.blk HG.out id
    have HG1 := Lib.hid hg1
    have HS1 := Lib.hid hs1
    have lt1 := blk_lt hg1
    have d0 : w1.cell? ⟨g, 0, none⟩ = some (.int .i64 (l : Int)) := blk_cell (j := 0) hg1
    clear hg1 hs1 c0 c3
    go_wp2_with (go_at_call 97; refine stopc ?_)
    refine Stop.go ?_
    refine (cF _ HG1.out).mono ?_
    rintro e w2 ⟨rfl, hg2, hs2⟩
    have HG2 := Lib.hid hg2
    have HS2 := Lib.hid (HS1.out.to.trans hs2)
    have lt2 := blk_lt hg2
    have f3 := blk_free hg2 3
    have k3 : w2.cell? ⟨g, 3, none⟩ = some (.int .i64 0) := blk_cell (j := 3) hg2
    clear hg2 hs2 d0
    go_wp2_with fail
    have HS3 := Lib.hid (HS2.out.setg 3 (.int .i64 er))
    have HG3 : Hid ((w2.setCell ⟨g, 3, none⟩ (.int .i64 er)).heap[g]? = some (.cells (msC (l + 1) y (.slice A 0 cp) er) 96 (0, 0))) := Lib.hid (blk_set HG2.out 3 (.int .i64 er))
    generalize w2.setCell ⟨g, 3, none⟩ (.int .i64 er) = w3 at HS3 HG3 ⊢
    clear f3 k3 lt2 lt1
    have hT0 : Stp (fun _ => False) w3 w3.drew := (Stp.refl _ _).drew
    refine wp_region_held_drew (S := (fun w' => w'.heap[g]? = some (.cells (msC (l + 1) y (.slice A 0 cp) er) 96 (0, 0)))) (by kernel_rfl) (hT0.blk HG3.out id) (fun hHeld => ?_)
    try (change wpAnyH _ _ _ _ _ _ _ _ (World.drew _))
    generalize w3.drew = W0 at hT0 hHeld ⊢
    have HT := Lib.hid hT0
    have HGW := Lib.hid (hT0.blk HG3.out id)
    clear hT0
    refine rg_take (i := 0) (o := { dst := some 41, op := Op.move (Operand.tmp 0), type := 48, pos := "shake.go:63", after := #[], guard := none }) (v := ?rgv1) rfl (by kernel_rfl) (by kernel_rfl) (by kernel_rfl) (fun _ _ _ h => h) (by rfl) (fun w hSw => ?rgy1) hHeld ?_
    case rgy1 => (try dsimp only at hSw); first | (go_simp; done) | (go_simp; with_reducible rfl)
    try simp only [Act.put, List.setIfInBounds_toArray, List.set_cons_zero, List.set_cons_succ]
    refine rg_take (i := 2) (o := { dst := some 43, op := Op.move (Operand.tmp 0), type := 48, pos := "shake.go:63", after := #[{ on := 6, ground := Ground.gcOnly Departure.lateStores }], guard := none }) (v := ?rgv2) rfl (by kernel_rfl) (by kernel_rfl) (by kernel_rfl) (fun _ _ _ h => h) (by rfl) (fun w hSw => ?rgy2) hHeld ?_
    case rgy2 => (try dsimp only at hSw); first | (go_simp; done) | (go_simp; with_reducible rfl)
    try simp only [Act.put, List.setIfInBounds_toArray, List.set_cons_zero, List.set_cons_succ]
    refine rg_take (i := 3) (o := { dst := some 44, op := Op.nilCheck (Operand.tmp 43), type := 0, pos := "shake.go:63", after := #[{ on := 2, ground := Ground.data }, { on := 6, ground := Ground.gcOnly Departure.lateStores }], guard := none }) (v := ?rgv3) rfl (by kernel_rfl) (by kernel_rfl) (by kernel_rfl) (fun _ _ _ h => h) (by rfl) (fun w hSw => ?rgy3) hHeld ?_
    case rgy3 => (try dsimp only at hSw); first | (go_simp; done) | (go_simp; with_reducible rfl)
    try simp only [Act.put, List.setIfInBounds_toArray, List.set_cons_zero, List.set_cons_succ]
    refine rg_take (i := 4) (o := { dst := some 45, op := Op.fieldAddr 96 (Operand.tmp 44) 3, type := 0, pos := "shake.go:63", after := #[{ on := 3, ground := Ground.data }, { on := 6, ground := Ground.gcOnly Departure.lateStores }], guard := none }) (v := ?rgv4) rfl (by kernel_rfl) (by kernel_rfl) (by kernel_rfl) (fun _ _ _ h => h) (by rfl) (fun w hSw => ?rgy4) hHeld ?_
    case rgy4 => (try dsimp only at hSw); first | (go_simp; done) | (go_simp; with_reducible rfl)
    try simp only [Act.put, List.setIfInBounds_toArray, List.set_cons_zero, List.set_cons_succ]
    refine rg_take (i := 5) (o := { dst := some 46, op := Op.load 25 (Operand.tmp 45), type := 25, pos := "shake.go:63", after := #[{ on := 4, ground := Ground.data }, { on := 6, ground := Ground.gcOnly Departure.lateStores }], guard := none }) (v := ?rgv5) rfl (by kernel_rfl) (by kernel_rfl) (by kernel_rfl) (fun _ _ _ h => h) (by rfl) (fun w hSw => ?rgy5) hHeld ?_
    case rgy5 => (have hk0 : w.cell? ⟨g, 3, none⟩ = some (.int .i64 er) := blk_cell (j := 3) hSw; have hk1 := blk_lt hSw; go_simp; with_reducible rfl)
    try simp only [Act.put, List.setIfInBounds_toArray, List.set_cons_zero, List.set_cons_succ]
    refine wpAnyH_ready (rs := [1]) (by kernel_rfl) (by simp) ?_
    refine (AllReadyH.cons (o := { dst := some 42, op := Op.call { callee := Callee.value (Operand.func 96), args := #[Operand.tmp 41], argTypes := #[48] }, type := 4, pos := "shake.go:63", after := #[{ on := 0, ground := Ground.data }], guard := none }) rfl (fun K hK => ?_) AllReadyH.nil)
    go_simp
    refine (whole_any g (l + 1) y 0 cp A er _ HGW.out).mono ?_
    rintro e W1 ⟨rfl, hs1⟩
    replace HT := Lib.hid (HT.out.trans hs1)
    replace HGW := Lib.hid (hs1.blk HGW.out id)
    clear hs1
    show K _ _
    clear hHeld
    refine hK.out _ _ (HGW.out) (fun hHeld => ?_)
    clear hK K
    try simp only [Act.put, List.setIfInBounds_toArray, List.set_cons_zero, List.set_cons_succ]
    refine rg_take (i := 6) (o := { dst := some 4, op := Op.assign (Operand.tmp 42), type := 4, pos := "shake.go:63", after := #[{ on := 1, ground := Ground.data }, { on := 1, ground := Ground.chain }, { on := 0, ground := Ground.phase }, { on := 1, ground := Ground.phase }, { on := 2, ground := Ground.textOnly Departure.lateStores }, { on := 3, ground := Ground.textOnly Departure.lateStores }, { on := 4, ground := Ground.textOnly Departure.lateStores }, { on := 5, ground := Ground.textOnly Departure.lateStores }], guard := none }) (v := ?rgv6) rfl (by kernel_rfl) (by kernel_rfl) (by kernel_rfl) (fun _ _ _ h => h) (by rfl) (fun w hSw => ?rgy6) hHeld ?_
    case rgy6 => (try dsimp only at hSw); first | (go_simp; done) | (go_simp; with_reducible rfl)
    try simp only [Act.put, List.setIfInBounds_toArray, List.set_cons_zero, List.set_cons_succ]
    refine rg_take (i := 7) (o := { dst := some 5, op := Op.assign (Operand.tmp 46), type := 25, pos := "shake.go:63", after := #[{ on := 5, ground := Ground.data }, { on := 6, ground := Ground.chain }, { on := 0, ground := Ground.phase }, { on := 1, ground := Ground.phase }, { on := 2, ground := Ground.phase }, { on := 3, ground := Ground.phase }, { on := 4, ground := Ground.phase }, { on := 5, ground := Ground.phase }, { on := 6, ground := Ground.phase }], guard := none }) (v := ?rgv7) rfl (by kernel_rfl) (by kernel_rfl) (by kernel_rfl) (fun _ _ _ h => h) (by rfl) (fun w hSw => ?rgy7) hHeld ?_
    case rgy7 => (try dsimp only at hSw); first | (go_simp; done) | (go_simp; with_reducible rfl)
    try simp only [Act.put, List.setIfInBounds_toArray, List.set_cons_zero, List.set_cons_succ]
    clear hHeld
    refine wpAnyH_done (by kernel_rfl) ?_ _
    go_wp2
    rw [HR.out]
    unfold MtP
    rw [HJ.out]
    have hsx : Stp (fun k => k = g) w W1 := HS3.out.trans HT.out.to
    refine ⟨rfl, fun h0 => ⟨.slice A 0 cp, ?_, ?_⟩, hsx.mono fun k _ e => Or.inl e⟩
    · have h0 : er = 0 := h0
      have e1 : min (b ++ [c]).length 4 = l + 1 := by rw [HL.out]; simp; have := HL.out; omega
      show _ = some (Obj.cells (msC (min (b ++ [c]).length 4) (msz (b ++ [c])) _ 0) _ _)
      rw [e1, ← HY.out, ← h0]
      exact HGW.out
    · show Own _ _ _ _ _ ((b ++ [c]).drop 4)
      rw [drop4_nil (by simp; have := HL.out; omega)]
      exact HO.out.step hsx (fun k hk e => by have := (HO.out.lt k hk).1; omega)
  · have h4' : 4 ≤ b.length := by omega
    have hne := hop h4'
    rw [show min b.length 4 = 4 by omega] at hg
    have HO := Lib.hid ho
    have hJ := takeM_body (c := c) h4'
    have hdl : (b.drop 4).length = b.length - 4 := List.length_drop
    have hdr : (b ++ [c]).drop 4 = b.drop 4 ++ [c] := List.drop_append_of_le_length h4'
    obtain ⟨xs, hxs⟩ : ∃ xs, xs = b.drop 4 := ⟨_, rfl⟩
    rw [← hxs] at ho HO hdl hdr
    have hms := msz_more b c h4'
    obtain ⟨z, hz2⟩ : ∃ z, z = msz b := ⟨_, rfl⟩
    rw [← hz2] at hg hJ hne hms
    have hxl : xs.length ≤ 1000000 := by omega
    rw [← hdl] at hJ
    have hnz : xs.length ≠ z := by omega
    have HDR := Lib.hid (And.intro hdr hms)
    have HML : Hid (min (b ++ [c]).length 4 = 4) := Lib.hid (by simp; omega)
    have HJ := Lib.hid hJ
    obtain ⟨A, cp, rfl, hle⟩ := ho.form
    have HG := Lib.hid hg
    have cW := fun W (hW : W.heap[g]? = some (.cells (msC 4 z (.slice A xs.length cp) 0) 96 (0, 0))) => whole_any g 4 z xs.length cp A 0 W hW
    rw [show whB 4 z xs.length 0 = false by simp [whB]; omega] at cW
    have c0 : w.cell? ⟨g, 0, none⟩ = some (.int .i64 4) := blk_cell (j := 0) hg
    have c3 : w.cell? ⟨g, 3, none⟩ = some (.int .i64 0) := blk_cell (j := 3) hg
    clear hg ho hz hop hl hJ hz2 h4 h4' hne hms hdr hdl hxs hnz
    go_enter Tryz.func53, Tryz.ntmps53
    go_wp2_with (go_at_call 96; refine stopc ?_)
    refine Stop.go ?_
    refine (cW _ HG.out).mono ?_
    rintro e w1 ⟨rfl, hs1⟩
    have hg1 := hs1.blk HG.out id
    have HG1 := Lib.hid hg1
    have HS1 := Lib.hid hs1
    have HO1 := Lib.hid (HO.out.stp0 hs1)
    have lt1 := blk_lt hg1
    have d0 : w1.cell? ⟨g, 0, none⟩ = some (.int .i64 4) := blk_cell (j := 0) hg1
    have d2 : w1.cell? ⟨g, 2, none⟩ = some (.slice A xs.length cp) := blk_cell (j := 2) hg1
    clear hg1 hs1 c0 c3
    go_wp2_with (with_reducible refine stop (N := 13) rfl ?_)
    refine Stop.go ?_
    refine wp_append1 enc8 c rfl rfl _ _ _ rfl Tryz.underlying22 info_u8 rfl (HO1.out.stp0 ((Stp.refl _ _).alloc _)) rfl ⟨w1.heap.size, 0, none⟩ 1 rfl ?_ (by omega) (by omega) (by simp; omega) ?_
    · exact blk_cell (j := 0) (heap_alloc_new _ _)
    · intro v2 w2 ho2 hg2
      obtain ⟨ys, hys⟩ : ∃ ys, ys = xs ++ [c] := ⟨_, rfl⟩
      rw [← hys] at ho2
      have hyl : ys.length = xs.length + 1 := by rw [hys]; simp
      have HYS := Lib.hid hys
      have HYL := Lib.hid hyl
      clear hys hyl
      obtain ⟨A2, c2, rfl, hle2⟩ := ho2.form
      have hA : Stp (fun _ => False) w1 (w1.alloc (.cells #[enc8 c] 5)) := (Stp.refl _ _).alloc _
      have hoA := HO1.out.stp0 hA
      have hB := Stp.of_grown hg2
      have hgn : ¬ (Value.slice A xs.length cp).ownBlock = some g := fun h => by have := (hoA.lt g h).1; omega
      have hg3 := hB.blk (hA.blk HG1.out id) hgn
      have lt2 := blk_lt hg3
      have k2 : w2.cell? ⟨g, 2, none⟩ = some (.slice A xs.length cp) := blk_cell (j := 2) hg3
      have f2 := blk_free hg3 2
      have HS2 := Lib.hid (HS1.out.to.trans (hA.to.trans (hB.mono (T := MsS g (.slice A xs.length cp)) fun k _ h => Or.inr h)))
      have HG2 := Lib.hid hg3
      have HO2 := Lib.hid ho2
      clear ho2 hg2 hA hoA hB hgn hg3 d0 d2
      go_wp2_with fail
      have hC : Stp (fun k => k = g) w2 (w2.setCell ⟨g, 2, none⟩ (.slice A2 ys.length c2)) := (Stp.refl _ _).setg 2 _
      have HS3 := Lib.hid (HS2.out.trans (hC.mono fun k _ e => Or.inl e))
      have HO3 := Lib.hid (HO2.out.step hC (fun k hk e => by have := (HO2.out.lt k hk).1; omega))
      have HG3 : Hid ((w2.setCell ⟨g, 2, none⟩ (.slice A2 ys.length c2)).heap[g]? = some (.cells (msC 4 z (.slice A2 ys.length c2) 0) 96 (0, 0))) := Lib.hid (blk_set HG2.out 2 _)
      clear hC
      generalize w2.setCell ⟨g, 2, none⟩ (.slice A2 ys.length c2) = w3 at HS3 HG3 HO3 ⊢
      clear f2 k2 lt2 lt1
      have hT0 : Stp (fun _ => False) w3 w3.drew := (Stp.refl _ _).drew
      refine wp_region_held_drew (S := (fun w' => w'.heap[g]? = some (.cells (msC 4 z (.slice A2 ys.length c2) 0) 96 (0, 0)))) (by kernel_rfl) (hT0.blk HG3.out id) (fun hHeld => ?_)
      try (change wpAnyH _ _ _ _ _ _ _ _ (World.drew _))
      generalize w3.drew = W0 at hT0 hHeld ⊢
      have HT := Lib.hid hT0
      have HGW := Lib.hid (hT0.blk HG3.out id)
      clear hT0
      refine rg_take (i := 0) (o := { dst := some 41, op := Op.move (Operand.tmp 0), type := 48, pos := "shake.go:63", after := #[], guard := none }) (v := ?rgv8) rfl (by kernel_rfl) (by kernel_rfl) (by kernel_rfl) (fun _ _ _ h => h) (by rfl) (fun w hSw => ?rgy8) hHeld ?_
      case rgy8 => (try dsimp only at hSw); first | (go_simp; done) | (go_simp; with_reducible rfl)
      try simp only [Act.put, List.setIfInBounds_toArray, List.set_cons_zero, List.set_cons_succ]
      refine rg_take (i := 2) (o := { dst := some 43, op := Op.move (Operand.tmp 0), type := 48, pos := "shake.go:63", after := #[{ on := 6, ground := Ground.gcOnly Departure.lateStores }], guard := none }) (v := ?rgv9) rfl (by kernel_rfl) (by kernel_rfl) (by kernel_rfl) (fun _ _ _ h => h) (by rfl) (fun w hSw => ?rgy9) hHeld ?_
      case rgy9 => (try dsimp only at hSw); first | (go_simp; done) | (go_simp; with_reducible rfl)
      try simp only [Act.put, List.setIfInBounds_toArray, List.set_cons_zero, List.set_cons_succ]
      refine rg_take (i := 3) (o := { dst := some 44, op := Op.nilCheck (Operand.tmp 43), type := 0, pos := "shake.go:63", after := #[{ on := 2, ground := Ground.data }, { on := 6, ground := Ground.gcOnly Departure.lateStores }], guard := none }) (v := ?rgv10) rfl (by kernel_rfl) (by kernel_rfl) (by kernel_rfl) (fun _ _ _ h => h) (by rfl) (fun w hSw => ?rgy10) hHeld ?_
      case rgy10 => (try dsimp only at hSw); first | (go_simp; done) | (go_simp; with_reducible rfl)
      try simp only [Act.put, List.setIfInBounds_toArray, List.set_cons_zero, List.set_cons_succ]
      refine rg_take (i := 4) (o := { dst := some 45, op := Op.fieldAddr 96 (Operand.tmp 44) 3, type := 0, pos := "shake.go:63", after := #[{ on := 3, ground := Ground.data }, { on := 6, ground := Ground.gcOnly Departure.lateStores }], guard := none }) (v := ?rgv11) rfl (by kernel_rfl) (by kernel_rfl) (by kernel_rfl) (fun _ _ _ h => h) (by rfl) (fun w hSw => ?rgy11) hHeld ?_
      case rgy11 => (try dsimp only at hSw); first | (go_simp; done) | (go_simp; with_reducible rfl)
      try simp only [Act.put, List.setIfInBounds_toArray, List.set_cons_zero, List.set_cons_succ]
      refine rg_take (i := 5) (o := { dst := some 46, op := Op.load 25 (Operand.tmp 45), type := 25, pos := "shake.go:63", after := #[{ on := 4, ground := Ground.data }, { on := 6, ground := Ground.gcOnly Departure.lateStores }], guard := none }) (v := ?rgv12) rfl (by kernel_rfl) (by kernel_rfl) (by kernel_rfl) (fun _ _ _ h => h) (by rfl) (fun w hSw => ?rgy12) hHeld ?_
      case rgy12 => (have hk0 : w.cell? ⟨g, 3, none⟩ = some (.int .i64 0) := blk_cell (j := 3) hSw; have hk1 := blk_lt hSw; go_simp; with_reducible rfl)
      try simp only [Act.put, List.setIfInBounds_toArray, List.set_cons_zero, List.set_cons_succ]
      refine wpAnyH_ready (rs := [1]) (by kernel_rfl) (by simp) ?_
      refine (AllReadyH.cons (o := { dst := some 42, op := Op.call { callee := Callee.value (Operand.func 96), args := #[Operand.tmp 41], argTypes := #[48] }, type := 4, pos := "shake.go:63", after := #[{ on := 0, ground := Ground.data }], guard := none }) rfl (fun K hK => ?_) AllReadyH.nil)
      go_simp
      refine (whole_any g 4 z ys.length c2 A2 0 _ HGW.out).mono ?_
      rintro e W1 ⟨rfl, hs1⟩
      replace HT := Lib.hid (HT.out.trans hs1)
      replace HGW := Lib.hid (hs1.blk HGW.out id)
      clear hs1
      show K _ _
      clear hHeld
      refine hK.out _ _ (HGW.out) (fun hHeld => ?_)
      clear hK K
      try simp only [Act.put, List.setIfInBounds_toArray, List.set_cons_zero, List.set_cons_succ]
      refine rg_take (i := 6) (o := { dst := some 4, op := Op.assign (Operand.tmp 42), type := 4, pos := "shake.go:63", after := #[{ on := 1, ground := Ground.data }, { on := 1, ground := Ground.chain }, { on := 0, ground := Ground.phase }, { on := 1, ground := Ground.phase }, { on := 2, ground := Ground.textOnly Departure.lateStores }, { on := 3, ground := Ground.textOnly Departure.lateStores }, { on := 4, ground := Ground.textOnly Departure.lateStores }, { on := 5, ground := Ground.textOnly Departure.lateStores }], guard := none }) (v := ?rgv13) rfl (by kernel_rfl) (by kernel_rfl) (by kernel_rfl) (fun _ _ _ h => h) (by rfl) (fun w hSw => ?rgy13) hHeld ?_
      case rgy13 => (try dsimp only at hSw); first | (go_simp; done) | (go_simp; with_reducible rfl)
      try simp only [Act.put, List.setIfInBounds_toArray, List.set_cons_zero, List.set_cons_succ]
      refine rg_take (i := 7) (o := { dst := some 5, op := Op.assign (Operand.tmp 46), type := 25, pos := "shake.go:63", after := #[{ on := 5, ground := Ground.data }, { on := 6, ground := Ground.chain }, { on := 0, ground := Ground.phase }, { on := 1, ground := Ground.phase }, { on := 2, ground := Ground.phase }, { on := 3, ground := Ground.phase }, { on := 4, ground := Ground.phase }, { on := 5, ground := Ground.phase }, { on := 6, ground := Ground.phase }], guard := none }) (v := ?rgv14) rfl (by kernel_rfl) (by kernel_rfl) (by kernel_rfl) (fun _ _ _ h => h) (by rfl) (fun w hSw => ?rgy14) hHeld ?_
      case rgy14 => (try dsimp only at hSw); first | (go_simp; done) | (go_simp; with_reducible rfl)
      try simp only [Act.put, List.setIfInBounds_toArray, List.set_cons_zero, List.set_cons_succ]
      clear hHeld
      refine wpAnyH_done (by kernel_rfl) ?_ _
      go_wp2
      rw [HR.out]
      unfold MtP
      rw [HJ.out, ← HYL.out]
      refine ⟨rfl, fun h0 => ⟨.slice A2 ys.length c2, ?_, ?_⟩, HS3.out.trans HT.out.to⟩
      · show _ = some (Obj.cells (msC (min (b ++ [c]).length 4) (msz (b ++ [c])) _ 0) _ _)
        rw [HML.out, HDR.out.2]
        exact HGW.out
      · show Own _ _ _ _ _ ((b ++ [c]).drop 4)
        rw [HDR.out.1, ← HYS.out]
        exact HO3.out.stp0 HT.out

/-! ### the body of a whole one -/
def BdP (w : World) (b : List UInt8) (e : Ending) (w' : World) : Prop := ∃ v, e = .returned v ∧ Rd u8 (fun k => k < w.heap.size) w' v (b.drop 4) ∧ Stp (fun _ => False) w w'
set_option maxRecDepth 100000 in
set_option maxHeartbeats 8000000 in
theorem body_any (g : Nat) (b : List UInt8) (w : World) (h : MsB w g b) (h4 : 4 ≤ b.length) (he : b.length = 4 + msz b) (hl : b.length ≤ 1000000) :
    Calls Tryz.prog 55 #[.pointer (some ⟨g, 0, none⟩)] w (BdP w b) := by
  obtain ⟨R, hR⟩ : ∃ R, R = BdP w b := ⟨_, rfl⟩
  rw [← hR]
  have HR := Lib.hid hR
  obtain ⟨v, hg, ho⟩ := h
  rw [show min b.length 4 = 4 by omega] at hg
  have hdl : (b.drop 4).length = b.length - 4 := List.length_drop
  obtain ⟨xs, hxs⟩ : ∃ xs, xs = b.drop 4 := ⟨_, rfl⟩
  unfold BdP at HR
  rw [← hxs] at ho hdl HR
  have HO := Lib.hid ho
  have hlt := blk_lt hg
  obtain ⟨A, cp, rfl, hle⟩ := ho.form
  have HG := Lib.hid hg
  have cW := whole_any g 4 (msz b) xs.length cp A 0 w hg
  rw [show whB 4 (msz b) xs.length 0 = true by simp [whB]; omega] at cW
  have cC := fun W hW => clone_any (fun _ => False) (.slice A xs.length cp) xs W hW (by omega)
  clear hR hg ho he h4 hl hdl hxs
  go_enter Tryz.func55, Tryz.ntmps55
  go_wp2_with (go_at_call 96; refine stopc ?_)
  refine Stop.go ?_
  refine cW.mono ?_
  rintro e w1 ⟨rfl, hs1⟩
  have hg1 := hs1.blk HG.out id
  have HS1 := Lib.hid hs1
  have HO1 := Lib.hid (HO.out.stp0 hs1)
  have lt1 := blk_lt hg1
  have d2 : w1.cell? ⟨g, 2, none⟩ = some (.slice A xs.length cp) := blk_cell (j := 2) hg1
  clear hg1 hs1
  go_wp2_with (go_at_call 100; refine stopc ?_)
  refine Stop.go ?_
  refine (cC _ (HO1.out.rd (h1 := fun _ => rfl) fun _ _ => id)).mono ?_
  rintro e w2 ⟨v2, rfl, hr2, hs2⟩
  have HR2 := Lib.hid (hr2.weak (M' := fun k => k < w.heap.size) (by decide) (fun k _ h => by have := HS1.out.size; omega))
  have HS2 := Lib.hid (HS1.out.trans hs2)
  clear hr2 hs2 d2
  go_wp2
  rw [HR.out]
  exact ⟨_, rfl, HR2.out, HS2.out⟩
end Go.Proofs.YtligofmhbbgalaaGreatDoor.L

/- Layer 15: the document's way: records are taken apart. -/
namespace Go.Proofs.YtligofmhbbgalaaGreatDoor.L
open Go.RowKit Go.Proofs

def rdC (at_ sz : Nat) (er n : Int) : Array Value := #[.int .i64 (at_ : Int), .int .i64 (sz : Int), .int .i64 er, .int .i64 n]
/-- What the document's reader of records holds. -/
structure RdS (d : Df) (at_ sz : Nat) : Prop where
  lo : d.nx < 5 → at_ = d.nx
  l4 : d.nx = 4 → sz = d.left
  l5 : d.nx = 5 → 5 ≤ at_ ∧ at_ + d.left = 5 + sz
  mx : sz ≤ 16384
def RdB (w : World) (g : Nat) (d : Df) : Prop := ∃ at_ sz n, w.heap[g]? = some (.cells (rdC at_ sz 0 n) 53 (0, 0)) ∧ RdS d at_ sz
theorem RdB.step {S : Nat → Prop} {w w1 : World} {g : Nat} {d : Df} (h : RdB w g d) (hs : Stp S w w1) (hS : ¬ S g) : RdB w1 g d := by
  obtain ⟨a, z, n, h, k⟩ := h
  exact ⟨a, z, n, hs.blk h hS, k⟩
theorem RdB.lt {w : World} {g : Nat} {d : Df} (h : RdB w g d) : g < w.heap.size := by
  obtain ⟨a, z, n, h, k⟩ := h
  exact blk_lt h
def RtP (w : World) (g : Nat) (d : Df) (c : UInt8) (e : Ending) (w' : World) : Prop := e = .returned (.tuple #[.bool (takeD d c).2.1, .int .i64 (takeD d c).2.2]) ∧ ((takeD d c).2.2 = 0 → RdB w' g (takeD d c).1) ∧ Stp (fun k => k = g) w w'
theorem takeD_head {d : Df} {c : UInt8} (h0 : d.err = 0) (h5 : d.nx < 5) : takeD d c = (headD d c, false, (headD d c).err) := by
  unfold takeD
  rw [if_neg (by rw [h0]; simp), if_pos h5]
set_option maxRecDepth 100000 in
set_option maxHeartbeats 16000000 in
theorem rtakeD_any (g : Nat) (d : Df) (c : UInt8) (w : World) (h : RdB w g d) (h0 : d.err = 0) (hn : d.nx ≤ 5) (h4 : d.nx = 4 → ∃ k, d.left = 256 * k ∧ k ≤ 64) (h5 : d.nx = 5 → 1 ≤ d.left ∧ d.left ≤ 16384) :
    Calls Tryz.prog 20 #[.pointer (some ⟨g, 0, none⟩), .int .u8 (c.toNat : Int)] w (RtP w g d c) := by
  obtain ⟨R, hR⟩ : ∃ R, R = RtP w g d c := ⟨_, rfl⟩
  rw [← hR]
  have HR := Lib.hid hR
  obtain ⟨a, sz, n, hg, hs⟩ := h
  obtain ⟨nx, left, err⟩ := d
  simp only at h0 hn h4 h5
  subst h0
  have HG := Lib.hid hg
  have hlt := blk_lt hg
  have hcl := c.toNat_lt
  have f0 := blk_free hg 0
  have f1 := blk_free hg 1
  have f2 := blk_free hg 2
  have f3 := blk_free hg 3
  have c1 : w.cell? ⟨g, 1, none⟩ = some (.int .i64 (sz : Int)) := blk_cell (j := 1) hg
  have c2 : w.cell? ⟨g, 2, none⟩ = some (.int .i64 0) := blk_cell (j := 2) hg
  have c3 : w.cell? ⟨g, 3, none⟩ = some (.int .i64 n) := blk_cell (j := 3) hg
  have hmx := hs.mx
  have ew : IntKind.i64.wrap ((c.toNat : Int)) = (c.toNat : Int) := IntWalk.i64_in _ (by omega)
  clear hR
  have hx : nx = 0 ∨ nx = 1 ∨ nx = 2 ∨ nx = 3 ∨ nx = 4 ∨ nx = 5 := by omega
  rcases hx with rfl | rfl | rfl | rfl | rfl | rfl
  · obtain rfl := hs.lo (show (0 : Nat) < 5 by decide)
    have c0 : w.cell? ⟨g, 0, none⟩ = some (.int .i64 0) := blk_cell (j := 0) hg
    have ew5 : IntKind.i64.wrap (5 + (sz : Int)) = 5 + (sz : Int) := IntWalk.i64_in _ (by omega)
    clear h4 h5 hn hs hg
    by_cases hc : c.toNat = 22
    · have HJ : Hid (takeD ⟨0, left, 0⟩ c = (⟨1, left, 0⟩, false, 0)) := Lib.hid (by rw [takeD_head rfl (show (0 : Nat) < 5 by decide)]; unfold headD; rw [if_pos rfl, if_pos (UInt8.toNat_inj.1 hc)])
      have e1 : ((c.toNat : Int) != 22) = false := by simp; omega
      clear hc
      have e9 : ((1 : Int) == 5 + (sz : Int)) = false := by simp; omega
      go_enter Tryz.func20, Tryz.ntmps20
      go_wp2_with fail
      go_quiet (fail)
      go_wp2
      rw [HR.out]
      unfold RtP
      rw [HJ.out]
      exact ⟨rfl, fun _ => ⟨1, sz, n, ((Stp.refl (fun _ => False) _).drewN _).blk (blk_set HG.out 0 (.int .i64 1)) id, ⟨fun _ => rfl, fun h => absurd h (show ¬ (1 : Nat) = 4 by decide), fun h => absurd h (show ¬ (1 : Nat) = 5 by decide), hmx⟩⟩, ((Stp.refl _ w).setg 0 _).drewN _⟩
    · have HJ : Hid (takeD ⟨0, left, 0⟩ c = (⟨0, left, 4⟩, false, 4)) := Lib.hid (by rw [takeD_head rfl (show (0 : Nat) < 5 by decide)]; unfold headD; rw [if_pos rfl, if_neg (fun e => hc (by rw [e]; rfl))])
      have e1 : ((c.toNat : Int) != 22) = true := by simp; omega
      clear hc
      go_enter Tryz.func20, Tryz.ntmps20
      go_wp2_with fail
      go_quiet (fail)
      go_wp2
      rw [HR.out]
      unfold RtP
      rw [HJ.out]
      exact ⟨rfl, fun h => absurd h (show ¬ (4 : Int) = 0 by decide), ((Stp.refl _ w).setg 2 _).drewN _⟩
  · obtain rfl := hs.lo (show (1 : Nat) < 5 by decide)
    have c0 : w.cell? ⟨g, 0, none⟩ = some (.int .i64 1) := blk_cell (j := 0) hg
    have ew5 : IntKind.i64.wrap (5 + (sz : Int)) = 5 + (sz : Int) := IntWalk.i64_in _ (by omega)
    clear h4 h5 hn hs hg
    by_cases hc : c.toNat = 3
    · have HJ : Hid (takeD ⟨1, left, 0⟩ c = (⟨2, left, 0⟩, false, 0)) := Lib.hid (by rw [takeD_head rfl (show (1 : Nat) < 5 by decide)]; unfold headD; rw [if_neg (by simp), if_pos rfl, if_pos (UInt8.toNat_inj.1 hc)])
      have e1 : ((c.toNat : Int) != 3) = false := by simp; omega
      clear hc
      have e9 : ((2 : Int) == 5 + (sz : Int)) = false := by simp; omega
      go_enter Tryz.func20, Tryz.ntmps20
      go_wp2_with fail
      go_quiet (fail)
      go_wp2
      rw [HR.out]
      unfold RtP
      rw [HJ.out]
      exact ⟨rfl, fun _ => ⟨2, sz, n, ((Stp.refl (fun _ => False) _).drewN _).blk (blk_set HG.out 0 (.int .i64 2)) id, ⟨fun _ => rfl, fun h => absurd h (show ¬ (2 : Nat) = 4 by decide), fun h => absurd h (show ¬ (2 : Nat) = 5 by decide), hmx⟩⟩, ((Stp.refl _ w).setg 0 _).drewN _⟩
    · have HJ : Hid (takeD ⟨1, left, 0⟩ c = (⟨1, left, 5⟩, false, 5)) := Lib.hid (by rw [takeD_head rfl (show (1 : Nat) < 5 by decide)]; unfold headD; rw [if_neg (by simp), if_pos rfl, if_neg (fun e => hc (by rw [e]; rfl))])
      have e1 : ((c.toNat : Int) != 3) = true := by simp; omega
      clear hc
      go_enter Tryz.func20, Tryz.ntmps20
      go_wp2_with fail
      go_quiet (fail)
      go_wp2
      rw [HR.out]
      unfold RtP
      rw [HJ.out]
      exact ⟨rfl, fun h => absurd h (show ¬ (5 : Int) = 0 by decide), ((Stp.refl _ w).setg 2 _).drewN _⟩
  · obtain rfl := hs.lo (show (2 : Nat) < 5 by decide)
    have c0 : w.cell? ⟨g, 0, none⟩ = some (.int .i64 2) := blk_cell (j := 0) hg
    have ew5 : IntKind.i64.wrap (5 + (sz : Int)) = 5 + (sz : Int) := IntWalk.i64_in _ (by omega)
    clear h4 h5 hn hs hg
    by_cases hc : c.toNat ≤ 4
    · have HJ : Hid (takeD ⟨2, left, 0⟩ c = (⟨3, left, 0⟩, false, 0)) := Lib.hid (by rw [takeD_head rfl (show (2 : Nat) < 5 by decide)]; unfold headD; rw [if_neg (by simp), if_neg (by simp), if_pos rfl, if_pos (hc)])
      have e1 : ¬ (4 : Int) < (c.toNat : Int) := by omega
      clear hc
      have e9 : ((3 : Int) == 5 + (sz : Int)) = false := by simp; omega
      go_enter Tryz.func20, Tryz.ntmps20
      go_wp2_with fail
      go_quiet (fail)
      go_wp2
      rw [HR.out]
      unfold RtP
      rw [HJ.out]
      exact ⟨rfl, fun _ => ⟨3, sz, n, ((Stp.refl (fun _ => False) _).drewN _).blk (blk_set HG.out 0 (.int .i64 3)) id, ⟨fun _ => rfl, fun h => absurd h (show ¬ (3 : Nat) = 4 by decide), fun h => absurd h (show ¬ (3 : Nat) = 5 by decide), hmx⟩⟩, ((Stp.refl _ w).setg 0 _).drewN _⟩
    · have HJ : Hid (takeD ⟨2, left, 0⟩ c = (⟨2, left, 5⟩, false, 5)) := Lib.hid (by rw [takeD_head rfl (show (2 : Nat) < 5 by decide)]; unfold headD; rw [if_neg (by simp), if_neg (by simp), if_pos rfl, if_neg (hc)])
      have e1 : (4 : Int) < (c.toNat : Int) := by omega
      clear hc
      go_enter Tryz.func20, Tryz.ntmps20
      go_wp2_with fail
      go_quiet (fail)
      go_wp2
      rw [HR.out]
      unfold RtP
      rw [HJ.out]
      exact ⟨rfl, fun h => absurd h (show ¬ (5 : Int) = 0 by decide), ((Stp.refl _ w).setg 2 _).drewN _⟩
  · obtain rfl := hs.lo (show (3 : Nat) < 5 by decide)
    have c0 : w.cell? ⟨g, 0, none⟩ = some (.int .i64 3) := blk_cell (j := 0) hg
    obtain ⟨m, hm⟩ : ∃ m : Nat, m = c.toNat * 256 := ⟨_, rfl⟩
    have em : (c.toNat : Int) * 256 = (m : Int) := by omega
    have ew2 : IntKind.i64.wrap (m : Int) = (m : Int) := IntWalk.i64_in _ (by omega)
    have ew5 : IntKind.i64.wrap (5 + (m : Int)) = 5 + (m : Int) := IntWalk.i64_in _ (by omega)
    clear h4 h5 hn hs hg
    by_cases hc : m ≤ 16384
    · have HJ : Hid (takeD ⟨3, left, 0⟩ c = (⟨4, m, 0⟩, false, 0)) := Lib.hid (by rw [takeD_head rfl (show (3 : Nat) < 5 by decide)]; unfold headD; rw [if_neg (by simp), if_neg (by simp), if_neg (by simp), if_pos rfl, ← hm, if_pos hc])
      have e1 : ¬ (16384 : Int) < (m : Int) := by omega
      have HC := Lib.hid hc
      clear hc hm
      have e9 : ((4 : Int) == 5 + (m : Int)) = false := by simp; omega
      go_enter Tryz.func20, Tryz.ntmps20
      go_wp2_with fail
      go_quiet (fail)
      go_wp2
      rw [HR.out]
      unfold RtP
      rw [HJ.out]
      exact ⟨rfl, fun _ => ⟨4, m, n, ((Stp.refl (fun _ => False) _).drewN _).blk (blk_set (blk_set HG.out 1 (.int .i64 (m : Int))) 0 (.int .i64 4)) id, ⟨fun _ => rfl, fun _ => rfl, fun h => absurd h (show ¬ (4 : Nat) = 5 by decide), HC.out⟩⟩, (((Stp.refl _ w).setg 1 _).setg 0 _).drewN _⟩
    · have HJ : Hid (takeD ⟨3, left, 0⟩ c = (⟨3, m, 6⟩, false, 6)) := Lib.hid (by rw [takeD_head rfl (show (3 : Nat) < 5 by decide)]; unfold headD; rw [if_neg (by simp), if_neg (by simp), if_neg (by simp), if_pos rfl, ← hm, if_neg hc])
      have e1 : (16384 : Int) < (m : Int) := by omega
      clear hc hm
      go_enter Tryz.func20, Tryz.ntmps20
      go_wp2_with fail
      go_quiet (fail)
      go_wp2
      rw [HR.out]
      unfold RtP
      rw [HJ.out]
      exact ⟨rfl, fun h => absurd h (show ¬ (6 : Int) = 0 by decide), (((Stp.refl _ w).setg 1 _).setg 2 _).drewN _⟩
  · obtain rfl := hs.lo (show (4 : Nat) < 5 by decide)
    have hsl := hs.l4 rfl
    simp only at hsl
    subst hsl
    have c0 : w.cell? ⟨g, 0, none⟩ = some (.int .i64 4) := blk_cell (j := 0) hg
    obtain ⟨m, hm⟩ : ∃ m : Nat, m = sz + c.toNat := ⟨_, rfl⟩
    have em : (sz : Int) + (c.toNat : Int) = (m : Int) := by omega
    have ew2 : IntKind.i64.wrap (m : Int) = (m : Int) := IntWalk.i64_in _ (by omega)
    have ew5 : IntKind.i64.wrap (5 + (m : Int)) = 5 + (m : Int) := IntWalk.i64_in _ (by omega)
    have hJ : takeD ⟨4, sz, 0⟩ c = (headD ⟨4, sz, 0⟩ c, false, (headD ⟨4, sz, 0⟩ c).err) := takeD_head rfl (show (4 : Nat) < 5 by decide)
    have hH : headD ⟨4, sz, 0⟩ c = if 0 < m ∧ m ≤ 16384 then ⟨5, m, 0⟩ else ⟨4, m, 6⟩ := by
      rw [hm]
      unfold headD
      rw [if_neg (by simp), if_neg (by simp), if_neg (by simp), if_neg (by simp)]
    rw [hH] at hJ
    have HJ0 := Lib.hid hJ
    clear h4 h5 hn hs hg hJ hH hcl
    clear hm
    by_cases hz : m = 0
    · subst hz
      have HJ : Hid (takeD ⟨4, sz, 0⟩ c = (⟨4, 0, 6⟩, false, 6)) := Lib.hid HJ0.out
      simp only [Int.natCast_zero] at em ew2 ew5
      clear ew5 ew2
      go_enter Tryz.func20, Tryz.ntmps20
      go_wp2_with fail
      go_quiet (fail)
      go_wp2
      rw [HR.out]
      unfold RtP
      rw [HJ.out]
      exact ⟨rfl, fun h => absurd h (show ¬ (6 : Int) = 0 by decide), (((Stp.refl _ w).setg 1 _).setg 2 _).drewN _⟩
    · have e0 : ((m : Int) == 0) = false := by simp; omega
      by_cases hc : m ≤ 16384
      · have HJ : Hid (takeD ⟨4, sz, 0⟩ c = (⟨5, m, 0⟩, false, 0)) := Lib.hid (by rw [HJ0.out, if_pos ⟨by omega, hc⟩])
        have e1 : ¬ (16384 : Int) < (m : Int) := by omega
        have HC := Lib.hid hc
        have hz0 : 0 < m := by omega
        clear hc hz
        have e9 : ((5 : Int) == 5 + (m : Int)) = false := by simp; omega
        go_enter Tryz.func20, Tryz.ntmps20
        go_wp2_with fail
        go_quiet (fail)
        go_wp2
        rw [HR.out]
        unfold RtP
        rw [HJ.out]
        exact ⟨rfl, fun _ => ⟨5, m, n, ((Stp.refl (fun _ => False) _).drewN _).blk (blk_set (blk_set HG.out 1 (.int .i64 (m : Int))) 0 (.int .i64 5)) id, ⟨fun h => absurd h (show ¬ (5 : Nat) < 5 by decide), fun h => absurd h (show ¬ (5 : Nat) = 4 by decide), fun _ => ⟨Nat.le_refl _, rfl⟩, HC.out⟩⟩, (((Stp.refl _ w).setg 1 _).setg 0 _).drewN _⟩
      · have HJ : Hid (takeD ⟨4, sz, 0⟩ c = (⟨4, m, 6⟩, false, 6)) := Lib.hid (by rw [HJ0.out, if_neg (fun h => hc h.2)])
        have e1 : (16384 : Int) < (m : Int) := by omega
        clear hc hz
        go_enter Tryz.func20, Tryz.ntmps20
        go_wp2_with fail
        go_quiet (fail)
        go_wp2
        rw [HR.out]
        unfold RtP
        rw [HJ.out]
        exact ⟨rfl, fun h => absurd h (show ¬ (6 : Int) = 0 by decide), (((Stp.refl _ w).setg 1 _).setg 2 _).drewN _⟩
  · obtain ⟨ha5, hal⟩ := hs.l5 rfl
    obtain ⟨h51, h52⟩ := h5 rfl
    simp only at hal
    have hJ : takeD ⟨5, left, 0⟩ c = (⟨if left = 1 then 0 else 5, left - 1, 0⟩, true, 0) := by unfold takeD; rw [if_neg (by simp), if_neg (by simp)]
    have c0 : w.cell? ⟨g, 0, none⟩ = some (.int .i64 (a : Int)) := blk_cell (j := 0) hg
    have ew1 : IntKind.i64.wrap ((a : Int) + 1) = (a : Int) + 1 := IntWalk.i64_in _ (by omega)
    have ew5 : IntKind.i64.wrap (5 + (sz : Int)) = 5 + (sz : Int) := IntWalk.i64_in _ (by omega)
    have k0 : ((a : Int) == 0) = false := by simp; omega
    have k1 : ((a : Int) == 1) = false := by simp; omega
    have k2 : ((a : Int) == 2) = false := by simp; omega
    have k3 : ((a : Int) == 3) = false := by simp; omega
    have k4 : ((a : Int) == 4) = false := by simp; omega
    have k5 : (5 : Int) < (a : Int) + 1 := by omega
    have HJ0 := Lib.hid hJ
    clear h4 h5 hn hs hg hJ hcl
    by_cases hl1 : left = 1
    · subst hl1
      have HJ : Hid (takeD ⟨5, 1, 0⟩ c = (⟨0, 0, 0⟩, true, 0)) := Lib.hid HJ0.out
      have e9 : ((a : Int) + 1 == 5 + (sz : Int)) = true := by simp; omega
      clear hal
      go_enter Tryz.func20, Tryz.ntmps20
      go_wp2_with fail
      go_quiet (fail)
      go_wp2
      rw [HR.out]
      unfold RtP
      rw [HJ.out]
      exact ⟨rfl, fun _ => ⟨0, sz, _, blk_set (blk_set (((Stp.refl (fun _ => False) _).drewN _).blk (blk_set HG.out 0 (.int .i64 ((a : Int) + 1))) id) 0 (.int .i64 0)) 3 _, ⟨fun _ => rfl, fun h => absurd h (show ¬ (0 : Nat) = 4 by decide), fun h => absurd h (show ¬ (0 : Nat) = 5 by decide), hmx⟩⟩, ((((Stp.refl _ w).setg 0 _).drewN _).setg 0 _).setg 3 _⟩
    · have HJ : Hid (takeD ⟨5, left, 0⟩ c = (⟨5, left - 1, 0⟩, true, 0)) := Lib.hid (by rw [HJ0.out, if_neg hl1])
      have e9 : ((a : Int) + 1 == 5 + (sz : Int)) = false := by simp; omega
      have HAL := Lib.hid (And.intro hal (And.intro hl1 (And.intro h51 ha5)))
      clear hal hl1
      go_enter Tryz.func20, Tryz.ntmps20
      go_wp2_with fail
      go_quiet (fail)
      go_wp2
      rw [HR.out]
      unfold RtP
      rw [HJ.out]
      exact ⟨rfl, fun _ => ⟨a + 1, sz, n, ((Stp.refl (fun _ => False) _).drewN _).blk (blk_set HG.out 0 (.int .i64 ((a : Int) + 1))) id, ⟨fun h => absurd h (show ¬ (5 : Nat) < 5 by decide), fun h => absurd h (show ¬ (5 : Nat) = 4 by decide), fun _ => ⟨by have := HAL.out; omega, by have := HAL.out; show a + 1 + (left - 1) = 5 + sz; omega⟩, hmx⟩⟩, ((Stp.refl _ w).setg 0 _).drewN _⟩
end Go.Proofs.YtligofmhbbgalaaGreatDoor.L

/- Layer 2: Same, Visible; the reference's Lower, Token, Visible. -/
namespace Go.Proofs.YtligofmhbbgalaaGreatDoor.L
open Go.RowKit Go.Proofs

theorem lowerR1_any (c : UInt8) (w : World) :
    Calls Tryz.prog 131 #[.int .u8 (c.toNat : Int)] w fun e w' => e = .returned (.int .u8 ((lowB c).toNat : Int)) ∧ w' = w := by
  have hc := c.toNat_lt
  obtain ⟨n, hn⟩ : ∃ n : Int, n = ((lowB c).toNat : Int) := ⟨_, rfl⟩
  rw [← hn]
  rw [lowB_nat] at hn
  by_cases h1 : 65 ≤ c.toNat
  · by_cases h2 : c.toNat ≤ 90
    · rw [if_pos ⟨h1, h2⟩] at hn
      have HN := Lib.hid hn
      clear hn
      go_enter Tryz.func131, Tryz.ntmps131
      go_wp2
      go_ret
      refine ⟨ret_i8 ?_, rfl⟩
      rw [HN.out]
      omega
    · rw [if_neg (by omega)] at hn
      have HN := Lib.hid hn
      clear hn
      go_enter Tryz.func131, Tryz.ntmps131
      go_wp2
      go_ret
      exact ⟨ret_i8 HN.out.symm, rfl⟩
  · rw [if_neg (by omega)] at hn
    have HN := Lib.hid hn
    clear hn
    go_enter Tryz.func131, Tryz.ntmps131
    go_wp2
    go_ret
    exact ⟨ret_i8 HN.out.symm, rfl⟩

set_option maxRecDepth 100000 in
set_option maxHeartbeats 4000000 in
theorem lowerR_any (s : ByteArray) (w : World) (hs : s.size ≤ 9223372036854775807) :
    Calls Tryz.prog 91 #[.string s] w fun e w' => e = .returned (.string (strB (lowS s.data.toList))) ∧ Stp (fun _ => False) w w' := by
  obtain ⟨R, hR⟩ : ∃ R : ByteArray, R = strB (lowS s.data.toList) := ⟨_, rfl⟩
  rw [← hR]
  have HR := Lib.hid hR
  clear hR
  go_enter Tryz.func91, Tryz.ntmps91
  go_wp2_with (with_reducible refine stop (N := 6) rfl ?_)
  refine Stop.go ?_
  refine wp_bytesBlk rfl _ _ _ rfl Tryz.underlying9 Tryz.underlying22 Tryz.underlying5 rfl hs ?_
  intro w1 c hb hc hm hs1 hz
  have HB := Lib.hid hb
  have HS := Lib.hid hs1
  have HZ := Lib.hid hz
  clear hb hs1 hz
  go_wp2
  go_loopg [4] s.size (fun gf i wr => ∃ k : Nat, k + gf = s.size ∧ i = .int .i64 k ∧ BlkB wr w.heap.size s.size (lowS (s.data.toList.take k) ++ s.data.toList.drop k) ∧ Stp (fun k => k = w.heap.size) w1 wr)
  case atStart => exact ⟨0, by omega, rfl, by simpa [lowS] using HB.out, Stp.refl _ _⟩
  case round =>
    obtain ⟨k, hk, rfl, hb, hst⟩ := hrel
    have HB2 := Lib.hid hb
    have HST := Lib.hid hst
    clear hb hst
    by_cases hlt : k < s.size
    · obtain ⟨g', rfl⟩ : ∃ g', gk = g' + 1 := ⟨gk - 1, by omega⟩
      obtain ⟨d, hd⟩ : ∃ d, d = s[k] := ⟨_, rfl⟩
      have hlen : (lowS (s.data.toList.take k)).length = k := by rw [lowS_len, List.length_take, size_list]; omega
      have hat : (lowS (s.data.toList.take k) ++ s.data.toList.drop k)[k]? = some d := by
        rw [List.getElem?_append_right (by omega), hlen, List.getElem?_drop, hd]
        simpa using get_list s k hlt
      have hcell : wr.cell? ⟨w.heap.size, k, none⟩ = some (.int .u8 (d.toNat : Int)) := HB2.out.cell hat
      have hfree : wr.frozen? ⟨w.heap.size, k, none⟩ = false := HB2.out.free hlt
      have HD := Lib.hid hd
      have HL := Lib.hid hlen
      clear hd hlen hat
      go_wp2_with (go_at_call 131; refine (lowerR1_any _ _).mono ?_; rintro e w' ⟨rfl, rfl⟩)
      go_roundg g'
      case measure => omega
      case rel =>
        refine ⟨k + 1, by omega, by go_num, ?_, HST.out.setCell (fun _ => rfl) _⟩
        have := HB2.out.set k (lowB d)
        have e : (lowS (s.data.toList.take k) ++ s.data.toList.drop k).set k (lowB d) = lowS (s.data.toList.take (k + 1)) ++ s.data.toList.drop (k + 1) := by
          have hk2 : k < s.data.toList.length := by rw [size_list]; exact hlt
          rw [List.set_append_right _ _ (by rw [HL.out]; exact Nat.le_refl _), HL.out, Nat.sub_self, List.drop_eq_getElem_cons hk2, List.set_cons_zero, List.take_succ_eq_append_getElem hk2, lowS_append, List.append_assoc]
          rw [HD.out]
          rfl
        rw [e] at this
        exact this
    · have hcv : convB wr (.slice (some ⟨w.heap.size, 0, none⟩) s.size c) (lowS s.data.toList) := by
        have := HB2.out.rd hc hm (fun _ => False) (fun h => h)
        rw [List.take_of_length_le (by rw [size_list]; omega), List.drop_of_length_le (by rw [size_list]; omega), List.append_nil] at this
        exact conv_of this
      have hcv' : (convert 22 9 (.slice (some ⟨w.heap.size, 0, none⟩) s.size c)).run Tryz.prog wr = .ok (.string R) wr := by rw [HR.out]; exact hcv
      clear hcv
      go_wp2
      go_ret
      exact ⟨rfl, HS.out.new HST.out (Nat.le_refl _)⟩

end Go.Proofs.YtligofmhbbgalaaGreatDoor.L

/- Layer 2: the reference's Trim; numbers and their texts. -/
namespace Go.Proofs.YtligofmhbbgalaaGreatDoor.L
open Go.RowKit Go.Proofs

theorem extract_strB (s : ByteArray) (a b : Nat) : s.extract a b = strB ((s.data.toList.take b).drop a) := by
  rw [Lib.extract_eq]
  unfold strB
  rw [List.drop_take]

end Go.Proofs.YtligofmhbbgalaaGreatDoor.L

/- Layer 12: the reference's parser; what is printed. -/
namespace Go.Proofs.YtligofmhbbgalaaGreatDoor.L
open Go.RowKit Go.Proofs

theorem anyS_true {p : Nat → Bool} {s : ByteArray} {k : Nat} (hk : k < s.size) (h : p (s[k]).toNat = true) : anyS p s.data.toList = true := by
  unfold anyS
  rw [List.any_eq_true]
  exact ⟨s[k], List.mem_of_getElem? (get_list s k hk), h⟩
theorem anyS_false {p : Nat → Bool} {s : ByteArray} (h : ∀ k (hk : k < s.size), p (s[k]).toNat = false) : anyS p s.data.toList = false := by
  unfold anyS
  rw [List.any_eq_false]
  intro c hc
  obtain ⟨k, hk, rfl⟩ := List.mem_iff_getElem.1 hc
  rw [size_list] at hk
  have h' : p (s.data.toList[k]).toNat = false := h k hk
  exact fun e => by rw [h'] at e; cases e
theorem ext_upto (s : ByteArray) (k : Nat) : s.extract 0 k = strB (s.data.toList.take k) := by
  rw [extract_strB, List.drop_zero]
theorem ext_from (s : ByteArray) (k : Nat) : s.extract k s.size = strB (s.data.toList.drop k) := by
  rw [extract_strB, List.take_of_length_le (by rw [size_list]; exact Nat.le_refl _)]

end Go.Proofs.YtligofmhbbgalaaGreatDoor.L

/- Layer 12: a field is printed. (The regions' ways: gen_xfc.py.) -/
namespace Go.Proofs.YtligofmhbbgalaaGreatDoor.L
open Go.RowKit Go.Proofs

end Go.Proofs.YtligofmhbbgalaaGreatDoor.L

/-! Layer 12: the reference's print; what is found. -/
namespace Go.Proofs.YtligofmhbbgalaaGreatDoor.L
open Go.RowKit Go.Proofs

theorem strB_of' (s : ByteArray) : strB s.data.toList = s := by cases s; simp [strB]

end Go.Proofs.YtligofmhbbgalaaGreatDoor.L

/- Layer 11: what is wrong of a method and a target; authorities. -/
namespace Go.Proofs.YtligofmhbbgalaaGreatDoor.L
open Go.RowKit Go.Proofs

theorem sB_self (s : ByteArray) : strB s.data.toList = s := by
  apply ByteArray.ext
  simp [strB]

end Go.Proofs.YtligofmhbbgalaaGreatDoor.L

/-! Layer 11: the forms of targets. -/
namespace Go.Proofs.YtligofmhbbgalaaGreatDoor.L
open Go.RowKit Go.Proofs

theorem hasPrefix_one (l : List UInt8) (c : UInt8) : Lib.hasPrefix l [c] = decide (l[0]? = some c) := by
  cases l with
  | nil => simp [Lib.hasPrefix]
  | cons x l =>
    rw [Bool.eq_iff_iff]
    simp only [Lib.hasPrefix, List.isPrefixOf, Bool.and_true, beq_iff_eq, List.getElem?_cons_zero, Option.some.injEq, decide_eq_true_eq]
    exact ⟨fun h => h.symm, fun h => h.symm⟩
theorem list_eqb (s : ByteArray) (l : List UInt8) : (s.toList == l) = decide (s.data.toList = l) := by
  rw [Lib.toList_data, Bool.eq_iff_iff]
  simp
end Go.Proofs.YtligofmhbbgalaaGreatDoor.L

/-! Layer 11: a request's line is parsed. -/
namespace Go.Proofs.YtligofmhbbgalaaGreatDoor.L
open Go.RowKit Go.Proofs

end Go.Proofs.YtligofmhbbgalaaGreatDoor.L
