/- be: numbers as bytes: each function's contract. -/
import Derived.Test.YtdmcmfjhlpnaeaaProg
import Derived.Test.YtdmcmfjhlpnaeaaOps
set_option linter.unusedVariables false
set_option linter.unusedSimpArgs false
namespace Go.Proofs.Ytdmcmfjhlpnaeaa.L
open Go.RowKit Go.Proofs

theorem info_u8 : (Try.prog.info? 5).map (fun i => (i.zero, i.size, i.bytes)) = some (some (.int .u8 0), 1, 1) := by kernel_rfl
theorem size_u8 : (Try.prog.info? 5).map (·.size) = some 1 := by kernel_rfl

/-- A size that may be. -/
def clampN (n : Int) : Nat := if n < 1 then 1 else if 4 < n then 4 else n.toNat
theorem clampN_le (n : Int) : 1 ≤ clampN n ∧ clampN n ≤ 4 := by unfold clampN; (repeat' split) <;> omega

def toU8 (x : Int) : UInt8 := UInt8.ofNat (x % 256).toNat
theorem toU8_nat (x : Int) : ((toU8 x).toNat : Int) = x % 256 := by
  unfold toU8
  rw [UInt8.toNat_ofNat']
  omega
/-- The last s bytes of a number, the great ones first. -/
def be (n : Int) : Nat → List UInt8
  | 0 => []
  | s + 1 => be (n / 256) s ++ [toU8 n]
theorem be_len (n : Int) (s : Nat) : (be n s).length = s := by
  induction s generalizing n with
  | zero => rfl
  | succ s ih => simp [be, ih]

theorem ret_i {k : IntKind} {a b : Int} (h : a = b) : Ending.returned (.int k a) = .returned (.int k b) := by rw [h]

set_option maxHeartbeats 400000 in
theorem clamp_any (n : Int) (w : World) : Calls Try.prog 64 #[.int .i64 n] w fun e w' => e = .returned (.int .i64 (clampN n : Nat)) ∧ w = w' := by
  by_cases h1 : n < 1
  · have e : ((clampN n : Nat) : Int) = 1 := by simp [clampN, h1]
    have H := Lib.hid e
    clear e
    go_enter Try.func64, Try.ntmps64
    go_wp2
    go_ret
    exact ⟨ret_i H.out.symm, rfl⟩
  · by_cases h2 : 4 < n
    · have e : ((clampN n : Nat) : Int) = 4 := by simp [clampN, h1, h2]
      have H := Lib.hid e
      clear e
      go_enter Try.func64, Try.ntmps64
      go_wp2
      go_ret
      exact ⟨ret_i H.out.symm, rfl⟩
    · have e : ((clampN n : Nat) : Int) = n := by simp [clampN, h1, h2]; omega
      have H := Lib.hid e
      clear e
      go_enter Try.func64, Try.ntmps64
      go_wp2
      go_ret
      exact ⟨ret_i H.out.symm, rfl⟩

/-- A new slice of bytes is handed back; nothing that was there has turned. -/
def NewB (w : World) (l : List UInt8) (e : Ending) (w' : World) : Prop := ∃ v, e = .returned v ∧ Own enc8 5 w.heap.size w' v l ∧ Stp (fun _ => False) w w'

theorem u64_wrap_mod (n : Int) : IntKind.u64.wrap n = n % 18446744073709551616 := by simp [IntKind.wrap, IntKind.signed, IntKind.bits]

theorem byte_of (n : Int) (m : Nat) (hm : m < 4) : ((toU8 (n / 256 ^ m)).toNat : Int) = ((n % 18446744073709551616) / 2 ^ (8 * m)) % 256 := by
  rw [toU8_nat]
  match m, hm with
  | 0, _ => omega
  | 1, _ => omega
  | 2, _ => omega
  | 3, _ => omega

set_option maxHeartbeats 1000000 in
theorem put_any (M : Nat → Prop) (v : Value) (b : List UInt8) (n size : Int) (w : World) (hb : Rd u8 M w v b) (hl : b.length ≤ 140737488351232) :
    Calls Try.prog 22 #[v, .int .i64 n, .int .i64 size] w (NewB w (b ++ be n (clampN size))) := by
  obtain ⟨A, c, rfl, hle⟩ := hb.form
  have HB := Lib.hid hb
  clear hb
  obtain ⟨hs1, hs4⟩ := clampN_le size
  go_enter Try.func22, Try.ntmps22
  go_wp2_with (with_reducible refine stop (N := 14) rfl ?_)
  refine Stop.go ?_
  refine wp_make enc8 0 rfl _ _ 22 rfl w.heap.size 5 1 Try.underlying22 info_u8 rfl _ _ _ _ b.length (b.length + 4) rfl rfl rfl (by omega) (by omega) (by omega) (by omega) (by omega) ?_
  intro v1 w1 ho1 hs1 hb1 hz1 hv1
  subst hv1
  have HO1 := Lib.hid ho1
  have HS1 := Lib.hid hs1
  have HZ1 := Lib.hid hz1
  clear ho1 hs1 hz1 hb1
  go_wp2_with (with_reducible refine stop (N := 17) rfl ?_)
  refine Stop.go ?_
  refine wp_copy enc8 (h1e := fun _ => rfl) rfl _ _ _ _ rfl 5 Try.underlying22 size_u8 HO1.out (HB.out.stp0 HS1.out) rfl rfl ?_
  intro w2 ho2 hg2
  have HO2 := Lib.hid ho2
  have HS2 := Lib.hid (HS1.out.own HO1.out hg2)
  clear ho2 hg2
  go_wp2_with (go_at_call 64; refine (clamp_any _ _).mono ?_; rintro e w' ⟨rfl, rfl⟩)
  have hcl : clampN size ≤ clampN size := Nat.le_refl _
  have e0 : b.take (List.replicate b.length (0 : UInt8)).length ++ (List.replicate b.length (0 : UInt8)).drop b.length = b := by simp
  rw [e0] at HO2
  clear e0
  go_loopg [7, 8] (clampN size) (fun k o i wr => k ≤ clampN size ∧ i = .int .i64 (8 * (k : Int) - 8) ∧ Own enc8 5 w.heap.size wr o (b ++ be (n / 256 ^ k) (clampN size - k)) ∧ Stp (fun _ => False) w wr)
  case atStart => exact ⟨Nat.le_refl _, by go_num, by simpa [be] using HO2.out, HS2.out⟩
  case round =>
    obtain ⟨hk, rfl, ho, hs⟩ := hrel
    have HO := Lib.hid ho
    have HS := Lib.hid hs
    clear ho hs
    by_cases h0 : gk = 0
    · subst h0
      go_wp2
      go_ret
      exact ⟨_, rfl, by simpa using HO.out, HS.out⟩
    · obtain ⟨m, rfl⟩ : ∃ m, gk = m + 1 := ⟨gk - 1, by omega⟩
      go_wp2_with (with_reducible refine stop (N := 34) rfl ?_)
      refine Stop.go ?_
      refine wp_append1 enc8 (toU8 (n / 256 ^ m)) rfl rfl _ _ _ rfl Try.underlying22 info_u8 rfl (HO.out.stp0 ((Stp.refl _ _).alloc _)) rfl ⟨wr.heap.size, 0, none⟩ 1 rfl ?_ ?_ ?_ ?_ ?_
      · rw [World.cell?_alloc_new]
        simp [enc8, byte_of n m (by omega), u64_wrap_mod, show 8 * (m + 1) - 8 = 8 * m by omega]
      · have := be_len (n / 256 ^ (m + 1)) (clampN size - (m + 1))
        simp
        omega
      · have := be_len (n / 256 ^ (m + 1)) (clampN size - (m + 1))
        simp
        omega
      · have := HS.out.size
        simp
        omega
      · intro v3 w3 ho3 hg3
        have HO3 := Lib.hid ho3
        have HS3 := Lib.hid ((HS.out.alloc _).own (HO.out.stp0 ((Stp.refl _ _).alloc _)) hg3)
        clear ho3 hg3
        go_wp2
        go_roundg m
        case measure => omega
        case rel =>
          refine ⟨by omega, by go_num, ?_, HS3.out⟩
          have := HO3.out
          rw [List.append_assoc] at this
          rw [show clampN size - m = (clampN size - (m + 1)) + 1 by omega]
          show Own _ _ _ _ _ (b ++ (be (n / 256 ^ m / 256) (clampN size - (m + 1)) ++ [toU8 (n / 256 ^ m)]))
          rw [Int.ediv_ediv_of_nonneg (Int.pow_nonneg (by decide)), ← Int.pow_succ]
          exact this

/-- A new slice of bytes, and a bool. -/
def NewB2 (w : World) (l : List UInt8) (ok : Bool) (e : Ending) (w' : World) : Prop := ∃ v, e = .returned (.tuple #[v, .bool ok]) ∧ Own enc8 5 w.heap.size w' v l ∧ Stp (fun _ => False) w w'

/-- What Vec lays, and whether it fits. -/
def vecB (b : List UInt8) (size : Int) (x : List UInt8) : List UInt8 × Bool :=
  if x.length < 256 ^ clampN size then (b ++ be x.length (clampN size) ++ x, true) else (b, false)

theorem shr_ne (n m : Nat) : ((n : Int) / 2 ^ (8 * m) != 0) = decide (256 ^ m ≤ n) := by
  show (!((n : Int) / 2 ^ (8 * m) == 0)) = _
  have h : (256 : Nat) ^ m = 2 ^ (8 * m) := by rw [Nat.pow_mul]
  have h2 : ((n : Int) / 2 ^ (8 * m)) = ((n / 2 ^ (8 * m) : Nat) : Int) := by simp
  rw [h2, h]
  have h3 : (((n / 2 ^ (8 * m) : Nat) : Int) == 0) = (n / 2 ^ (8 * m) == 0) := by
    rw [Bool.eq_iff_iff, beq_iff_eq, beq_iff_eq]
    omega
  rw [h3, Bool.eq_iff_iff]
  have hp : 0 < 2 ^ (8 * m) := Nat.pow_pos (by decide)
  simp only [Bool.not_eq_true', beq_eq_false_iff_ne, ne_eq, decide_eq_true_eq, Nat.div_eq_zero_iff]
  omega

set_option maxHeartbeats 1000000 in
theorem vec_any (M : Nat → Prop) (v y : Value) (b x : List UInt8) (size : Int) (w : World) (hb : Rd u8 M w v b) (hx : Rd u8 M w y x) (hl : b.length ≤ 140737488351232 ∧ b.length + x.length + 4 ≤ 140737488355328 ∧ x.length ≤ 140737488351232) :
    Calls Try.prog 23 #[v, .int .i64 size, y] w (NewB2 w (vecB b size x).1 (vecB b size x).2) := by
  obtain ⟨A, c, rfl, hle⟩ := hb.form
  obtain ⟨A2, c2, rfl, hle2⟩ := hx.form
  have HB := Lib.hid hb
  have HX := Lib.hid hx
  clear hb hx
  obtain ⟨hs1, hs4⟩ := clampN_le size
  obtain ⟨hl1, hl2, hl3⟩ := hl
  have hsh := shr_ne x.length (clampN size)
  by_cases hfit : x.length < 256 ^ clampN size
  · have hv : vecB b size x = (b ++ be x.length (clampN size) ++ x, true) := by unfold vecB; rw [if_pos hfit]
    rw [hv]
    rw [show decide (256 ^ clampN size ≤ x.length) = false by simpa using hfit] at hsh
    clear hv hfit
    go_enter Try.func23, Try.ntmps23
    go_wp2_with (first
      | (go_at_call 64; refine (clamp_any _ _).mono ?_; rintro e w' ⟨rfl, rfl⟩)
      | (go_at_call 22; refine stopc ?_))
    refine Stop.go ?_
    refine (put_any M _ b _ _ _ HB.out hl1).mono ?_
    rintro e w1 ⟨v1, rfl, ho1, hs1⟩
    have HO := Lib.hid ho1
    have HS := Lib.hid hs1
    clear ho1 hs1
    go_wp2_with (with_reducible refine stop (N := 25) rfl ?_)
    refine Stop.go ?_
    refine wp_appendRd enc8 (h1e := fun _ => rfl) rfl _ _ _ rfl Try.underlying22 info_u8 rfl HO.out (HX.out.stp0 HS.out) rfl rfl ?_ ?_ HS.out.size ?_
    · simp [be_len]
      omega
    · simp [be_len]
      omega
    · intro v2 w2 ho2 hg2
      have HO2 := Lib.hid ho2
      have HS2 := Lib.hid (HS.out.own HO.out hg2)
      clear ho2 hg2
      go_wp2
      go_ret2
      exact ⟨_, rfl, HO2.out, HS2.out⟩
  · have hv : vecB b size x = (b, false) := by unfold vecB; rw [if_neg hfit]
    rw [hv]
    rw [show decide (256 ^ clampN size ≤ x.length) = true by simpa using hfit] at hsh
    clear hv hfit
    go_enter Try.func23, Try.ntmps23
    go_wp2_with (first
      | (go_at_call 64; refine (clamp_any _ _).mono ?_; rintro e w' ⟨rfl, rfl⟩)
      | (with_reducible refine stop (N := 18) rfl ?_))
    refine Stop.go ?_
    refine wp_appendRd enc8 (h1e := fun _ => rfl) rfl _ _ _ rfl Try.underlying22 info_u8 rfl (Own.nil _ _ _ _) HB.out rfl rfl ?_ ?_ (Nat.le_refl _) ?_
    · simp
      omega
    · simp
      omega
    · intro v2 w2 ho2 hg2
      have HO2 := Lib.hid ho2
      have HS2 := Lib.hid ((Stp.refl (fun _ => False) _).nil hg2)
      clear ho2 hg2
      go_wp2
      go_ret2
      exact ⟨_, rfl, HO2.out, HS2.out⟩

/-! ### readers -/
/-- What is left to read, and whether something was missing. -/
abbrev RSt := List UInt8 × Bool
def rtake (s : RSt) (n : Int) : List UInt8 × RSt := if s.2 = true ∨ n < 0 ∨ (s.1.length : Int) < n then ([], ([], true)) else (s.1.take n.toNat, (s.1.drop n.toNat, false))
def beNum (l : List UInt8) : Nat := l.foldl (fun n c => n * 256 + c.toNat) 0
def rnum (s : RSt) (size : Int) : Int × RSt := ((beNum (rtake s (clampN size : Nat)).1 : Nat), (rtake s (clampN size : Nat)).2)
def rvec (s : RSt) (size : Int) : List UInt8 × RSt := if (rnum s size).2.2 = true then ([], (rnum s size).2) else rtake (rnum s size).2 (rnum s size).1

/-- A reader at block g; apart from the blocks of M. -/
def IsRd (M : Nat → Prop) (W : World) (g : Nat) (s : RSt) : Prop :=
  ¬ M g ∧ ∃ A c, W.heap[g]? = some (.cells #[.slice A s.1.length c, .bool s.2] 87 (0, 0)) ∧ Rd u8 (fun k => k = g ∨ M k) W (.slice A s.1.length c) s.1

theorem IsRd.step {M S : Nat → Prop} {W W1 : World} {g : Nat} {s : RSt} (h : IsRd M W g s) (hs : Stp S W W1) (hS : ∀ k, k < W.heap.size → S k → M k) : IsRd M W1 g s := by
  obtain ⟨hM, A, c, hg, hr⟩ := h
  exact ⟨hM, A, c, hs.blk hg (fun h => hM (hS g (blk_lt hg) h)), hr.step hs (fun k hk h => .inr (hS k hk h))⟩
theorem IsRd.stp0 {M : Nat → Prop} {W W1 : World} {g : Nat} {s : RSt} (h : IsRd M W g s) (hs : Stp (fun _ => False) W W1) : IsRd M W1 g s := h.step hs (fun _ _ h => h.elim)
theorem IsRd.lt {M : Nat → Prop} {W : World} {g : Nat} {s : RSt} (h : IsRd M W g s) : g < W.heap.size := by
  obtain ⟨_, A, c, hg, _⟩ := h
  exact blk_lt hg
theorem IsRd.weak {M M' : Nat → Prop} {W : World} {g : Nat} {s : RSt} (h : IsRd M W g s) (hM : ∀ k, k < W.heap.size → M' k → M k) : IsRd M' W g s := by
  have hlt := h.lt
  obtain ⟨hMg, A, c, hg, hr⟩ := h
  exact ⟨fun h => hMg (hM g hlt h), A, c, hg, hr.weak (by decide) (fun k hk h => h.elim .inl (fun h => .inr (hM k hk h)))⟩

/-- A new reader is handed back. -/
def NewRd (w : World) (l : List UInt8) (e : Ending) (w' : World) : Prop := ∃ g, e = .returned (.pointer (some ⟨g, 0, none⟩)) ∧ IsRd (fun k => k < w.heap.size) w' g (l, false) ∧ Stp (fun _ => False) w w'

set_option maxHeartbeats 1000000 in
theorem read_any (M : Nat → Prop) (v : Value) (b : List UInt8) (w : World) (hb : Rd u8 M w v b) (hl : b.length ≤ 140737488355328) :
    Calls Try.prog 26 #[v] w (NewRd w b) := by
  obtain ⟨A, c, rfl, hle⟩ := hb.form
  have HB := Lib.hid hb
  clear hb
  go_enter Try.func26, Try.ntmps26
  go_wp2_with (with_reducible refine stop (N := 6) rfl ?_)
  refine Stop.go ?_
  refine wp_make enc8 0 rfl _ _ 22 rfl w.heap.size 5 1 Try.underlying22 info_u8 rfl _ _ _ _ b.length b.length rfl rfl rfl rfl (Nat.le_refl _) (by omega) (by omega) (by omega) ?_
  intro v1 w1 ho1 hs1 hb1 hz1 hv1
  subst hv1
  have HO1 := Lib.hid ho1
  have HS1 := Lib.hid hs1
  clear ho1 hs1 hz1 hb1
  go_wp2_with (with_reducible refine stop (N := 9) rfl ?_)
  refine Stop.go ?_
  refine wp_copy enc8 (h1e := fun _ => rfl) rfl _ _ _ _ rfl 5 Try.underlying22 size_u8 HO1.out (HB.out.stp0 HS1.out) rfl rfl ?_
  intro w2 ho2 hg2
  have HO2 := Lib.hid ho2
  have HS2 := Lib.hid (HS1.out.own HO1.out hg2)
  clear ho2 hg2
  have e0 : b.take (List.replicate b.length (0 : UInt8)).length ++ (List.replicate b.length (0 : UInt8)).drop b.length = b := by simp
  rw [e0] at HO2
  clear e0
  go_wp2
  go_ret
  have hsz := HS2.out.size
  refine ⟨w2.heap.size, rfl, ⟨by omega, _, _, heap_alloc_new w2 _, ?_⟩, HS2.out.alloc _⟩
  exact (Own.rd (h1 := fun _ => rfl) HO2.out (M := fun k => k = w2.heap.size ∨ k < w.heap.size) (fun k hk h => by
    have h1 := HO2.out.lt k hk
    simp [Value.ownBlock] at hk
    omega)).stp0 ((Stp.refl _ _).alloc _)

/-- What a reader's call hands back, and the reader behind it. -/
def RdRet (M : Nat → Prop) (w : World) (g : Nat) (l : List UInt8) (s : RSt) (e : Ending) (w' : World) : Prop :=
  ∃ v, e = .returned v ∧ Own enc8 5 w.heap.size w' v l ∧ IsRd M w' g s ∧ Stp (fun k => k = g) w w'

set_option maxHeartbeats 1000000 in
theorem take_any (M : Nat → Prop) (g : Nat) (s : RSt) (n : Int) (w : World) (hr : IsRd M w g s) (hl : s.1.length ≤ 140737488355328) :
    Calls Try.prog 29 #[.pointer (some ⟨g, 0, none⟩), .int .i64 n] w (RdRet M w g (rtake s n).1 (rtake s n).2) := by
  have HR := Lib.hid hr
  obtain ⟨hM, A, c, hg, hrd⟩ := hr
  have HG := Lib.hid hg
  have HRD := Lib.hid hrd
  have hc0 := blk_cell (j := 0) hg
  have hc1 := blk_cell (j := 1) hg
  have hf0 := blk_free hg 0
  have hf1 := blk_free hg 1
  have hle := (Rd.at_ hrd).2.1
  clear hg hrd
  obtain ⟨l, bad⟩ := s
  simp only at hc0 hc1 hle hl
  by_cases hbad : bad = true ∨ n < 0 ∨ (l.length : Int) < n
  · have hv : rtake (l, bad) n = ([], ([], true)) := by unfold rtake; rw [if_pos hbad]
    rw [hv]
    have hend : ∀ w', w' = (w.setCell ⟨g, 1, none⟩ (.bool true)).setCell ⟨g, 0, none⟩ (.slice none 0 0) → RdRet M w g [] ([], true) (.returned (.slice none 0 0)) w' := by
      rintro w' rfl
      refine ⟨_, rfl, Own.nil _ _ _ _, ⟨hM, none, 0, ?_, Rd.nil _ _ _⟩, ?_⟩
      · simpa using blk_set (blk_set HG.out 1 (.bool true)) 0 (.slice none 0 0)
      · exact ((Stp.refl _ _).setg 1 _).setg 0 _
    have HE := Lib.hid hend
    clear hend hv
    rcases hbad with rfl | h | h
    · go_enter Try.func29, Try.ntmps29
      go_wp2
      go_ret
      exact HE.out _ rfl
    · cases bad with
      | true => 
        go_enter Try.func29, Try.ntmps29
        go_wp2
        go_ret
        exact HE.out _ rfl
      | false =>
        go_enter Try.func29, Try.ntmps29
        go_wp2
        go_ret
        exact HE.out _ rfl
    · cases bad with
      | true => 
        go_enter Try.func29, Try.ntmps29
        go_wp2
        go_ret
        exact HE.out _ rfl
      | false =>
        by_cases h0 : n < 0
        · omega
        · obtain ⟨m, rfl⟩ := Int.eq_ofNat_of_zero_le (show 0 ≤ n by omega)
          have h' : l.length < m := by omega
          clear h
          go_enter Try.func29, Try.ntmps29
          go_wp2
          go_ret
          exact HE.out _ rfl
  · have hv : rtake (l, bad) n = (l.take n.toNat, (l.drop n.toNat, false)) := by unfold rtake; rw [if_neg hbad]
    rw [hv]
    clear hv
    simp only [not_or, Bool.not_eq_true] at hbad
    obtain ⟨rfl, h0, h1⟩ := hbad
    obtain ⟨m, rfl⟩ := Int.eq_ofNat_of_zero_le (show 0 ≤ n by omega)
    have hml : m ≤ l.length := by omega
    obtain ⟨A', hcut, hcr⟩ := cut_lo (P := Try.prog) u8 22 5 Try.underlying22 size_u8 A l.length c m hml
    have HCR := Lib.hid hcr
    have hcut1 := fun W => hcut W .i64
    clear hcr hcut
    simp only [Int.toNat_natCast]
    go_enter Try.func29, Try.ntmps29
    go_wp2_with (with_reducible refine stop (N := 30) rfl ?_)
    refine Stop.go ?_
    refine wp_make enc8 0 rfl _ _ 22 rfl w.heap.size 5 1 Try.underlying22 info_u8 rfl _ _ _ _ m m rfl rfl rfl rfl (Nat.le_refl _) (by omega) (by omega) (by omega) ?_
    intro v1 w1 ho1 hs1 hb1 hz1 hv1
    subst hv1
    have HO1 := Lib.hid ho1
    have HS1 := Lib.hid hs1
    have hd0 := hs1.cell hc0 id
    clear ho1 hs1 hz1 hb1
    go_wp2_with (with_reducible refine stop (N := 36) rfl ?_)
    refine Stop.go ?_
    refine wp_copy enc8 (h1e := fun _ => rfl) rfl _ _ _ _ rfl 5 Try.underlying22 size_u8 HO1.out (HRD.out.stp0 HS1.out) rfl rfl ?_
    intro w2 ho2 hg2
    have HO2 := Lib.hid ho2
    have hs2 := HS1.out.own HO1.out hg2
    have hi0 := hs2.cell hc0 id
    have HG2 := Lib.hid (hs2.blk HG.out id)
    have hi1 := blk_free HG2.out 0
    have HS2 := Lib.hid hs2
    clear ho2 hg2 hs2
    have e0 : l.take (List.replicate m (0 : UInt8)).length ++ (List.replicate m (0 : UInt8)).drop l.length = l.take m := by
      rw [List.length_replicate, List.drop_eq_nil_of_le (by simpa using hml), List.append_nil]
    rw [e0] at HO2
    clear e0
    go_wp2
    go_ret
    refine ⟨_, rfl, HO2.out.step (S := fun k => k = g) ?_ ?_, ⟨hM, A', c - m, ?_, ?_⟩, ?_⟩
    · exact (Stp.refl _ _).setg 0 _
    · intro k hk hkg
      have := (HO2.out.lt k hk).1
      have := HR.out.lt
      omega
    · simpa using blk_set HG2.out 0 (.slice A' (l.length - m) (c - m))
    · have := (HCR.out _ _ _ (HRD.out.stp0 HS2.out)).step (S := fun k => k = g) ((Stp.refl _ _).setg 0 (.slice A' (l.length - m) (c - m))) (fun _ _ h => .inl h)
      simpa using this
    · exact HS2.out.to.setg 0 _
end Go.Proofs.Ytdmcmfjhlpnaeaa.L
