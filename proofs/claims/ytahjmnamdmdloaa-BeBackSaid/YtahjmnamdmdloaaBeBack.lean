/- BeBack: the walk. -/
import Derived.Test.YtahjmnamdmdloaaBe3
set_option linter.unusedVariables false
set_option linter.unusedSimpArgs false
namespace Go.Proofs.Ytahjmnamdmdloaa.L
open Go.RowKit Go.Proofs

def flat4 (l : List Int) : List UInt8 := (l.map fun n => be n 4).flatten
def flatV (l : List ByteArray) : List UInt8 := (l.map fun s => be (s.data.toList.length : Nat) 2 ++ s.data.toList).flatten

theorem flat4_snoc (l : List Int) (n : Int) : flat4 (l ++ [n]) = flat4 l ++ be n 4 := by simp [flat4]
theorem flatV_snoc (l : List ByteArray) (s : ByteArray) : flatV (l ++ [s]) = flatV l ++ (be (s.data.toList.length : Nat) 2 ++ s.data.toList) := by simp [flatV]
theorem flat4_cons (n : Int) (l : List Int) : flat4 (n :: l) = be n 4 ++ flat4 l := by simp [flat4]
theorem flatV_cons (s : ByteArray) (l : List ByteArray) : flatV (s :: l) = be (s.data.toList.length : Nat) 2 ++ s.data.toList ++ flatV l := by simp [flatV]
theorem strB_toList (s : ByteArray) : strB s.data.toList = s := by cases s; simp [strB]
theorem flat4_len (l : List Int) : (flat4 l).length = 4 * l.length := by
  induction l with
  | nil => rfl
  | cons n l ih =>
    have h : flat4 (n :: l) = be n 4 ++ flat4 l := by simp [flat4]
    rw [h, List.length_append, be_len, ih, List.length_cons]
    omega
theorem flatV_len (l : List ByteArray) (h : ∀ s ∈ l, s.size ≤ 300) : (flatV l).length ≤ 302 * l.length := by
  induction l with
  | nil => simp [flatV]
  | cons s l ih =>
    have h1 : flatV (s :: l) = be (s.data.toList.length : Nat) 2 ++ s.data.toList ++ flatV l := by simp [flatV]
    rw [h1, List.length_append, List.length_append, be_len, List.length_cons]
    have := ih (fun x hx => h x (List.mem_cons_of_mem _ hx))
    have h2 := h s List.mem_cons_self
    have h3 : s.data.toList.length = s.size := by simp
    omega
theorem rnum_app (n : Int) (rest : List UInt8) (h : 0 ≤ n ∧ n < 4294967296) : rnum (be n 4 ++ rest, false) 4 = (n, (rest, false)) := by
  have h1 := rnum_take (be n 4 ++ rest) 4 (by decide) (by decide) (by simp [be_len])
  have h2 : (be n 4 ++ rest).take 4 = be n 4 := by rw [List.take_append_of_le_length (by simp [be_len]), List.take_of_length_le (by simp [be_len])]
  have h3 : (be n 4 ++ rest).drop 4 = rest := by rw [List.drop_append_of_le_length (by simp [be_len]), List.drop_of_length_le (by simp [be_len])]; rfl
  rw [h2, h3, beNum_be] at h1
  rw [show (4 : Int) = ((4 : Nat) : Int) from rfl, h1]
  congr 1
  omega
theorem rvec_app (x rest : List UInt8) (h : x.length ≤ 300) : rvec (be (x.length : Nat) 2 ++ x ++ rest, false) 2 = (x, (rest, false)) := by
  have h1 := rnum_take (be (x.length : Nat) 2 ++ x ++ rest) 2 (by decide) (by decide) (by simp [be_len])
  have h2 : (be (x.length : Nat) 2 ++ x ++ rest).take 2 = be (x.length : Nat) 2 := by rw [List.append_assoc, List.take_append_of_le_length (by simp [be_len]), List.take_of_length_le (by simp [be_len])]
  have h3 : (be (x.length : Nat) 2 ++ x ++ rest).drop 2 = x ++ rest := by rw [List.append_assoc, List.drop_append_of_le_length (by simp [be_len]), List.drop_of_length_le (by simp [be_len])]; rfl
  rw [h2, h3, beNum_be] at h1
  have h4 : ((x.length : Nat) : Int) % 256 ^ 2 = (x.length : Nat) := by omega
  rw [h4] at h1
  unfold rvec
  rw [show (2 : Int) = ((2 : Nat) : Int) from rfl, h1]
  simp only [Bool.false_eq_true, if_false]
  unfold rtake
  rw [if_neg (by simp; omega)]
  simp
theorem vecB_small (b x : List UInt8) (h : x.length ≤ 300) : vecB b 2 x = (b ++ (be (x.length : Nat) 2 ++ x), true) := by
  unfold vecB
  rw [show clampN 2 = 2 by decide, if_pos (by omega), List.append_assoc]

theorem plain_cell2 {α : Type} {enc : α → Value} {h1 : ∀ x, (enc x).oneCell' = true} {M : Nat → Prop} {W : World} {xs : List α} {ad : Addr} {n c : Nat} (h : Rd (.plain enc h1) M W (.slice (some ad) n c) xs) (j : Nat) (hj : j < xs.length) : W.cell? (ad.add j) = some (enc xs[j]) := by
  obtain ⟨ad', h1, _, h2⟩ := plain_cell h j hj
  injection h1 with h1
  rw [h1]
  exact h2
theorem drop_cons {α : Type} (l : List α) (k : Nat) (h : k < l.length) : l.drop k = l[k] :: l.drop (k + 1) := List.drop_eq_getElem_cons h

set_option maxHeartbeats 4000000 in
theorem beBack_any (v0 v1 : Value) (l : List Int) (ss : List ByteArray) (w : World) (h0 : Rd (int .u32) (fun k => w.heap.size ≤ k) w v0 l) (hl : ∀ n ∈ l, 0 ≤ n ∧ n < 4294967296) (h1 : Rd str (fun k => w.heap.size ≤ k) w v1 ss) (hss : ∀ s ∈ ss, s.size ≤ 9223372036854775807) :
    Calls Try.prog 5 #[v0, v1] w fun e w' => e = .returned (.bool true) ∧ Stp (fun _ => False) w w' := by
  obtain ⟨A0, c0, rfl, hle0⟩ := h0.form
  obtain ⟨A1, c1, rfl, hle1⟩ := h1.form
  have H0 := Lib.hid h0
  have H1 := Lib.hid h1
  have HL := Lib.hid hl
  have HSS := Lib.hid hss
  clear h0 h1 hl hss
  by_cases hg1 : 100 < l.length
  · go_enter Try.func5, Try.ntmps5
    go_wp2_with (go_at_call 9; refine (small_any _).mono ?_; rintro e w1 ⟨rfl, hs⟩; have HS := Lib.hid hs; clear hs)
    go_ret
    exact ⟨rfl, HS.out⟩
  by_cases hg2 : 50 < ss.length
  · go_enter Try.func5, Try.ntmps5
    go_wp2_with (go_at_call 9; refine (small_any _).mono ?_; rintro e w1 ⟨rfl, hs⟩; have HS := Lib.hid hs; clear hs)
    go_ret
    exact ⟨rfl, HS.out⟩
  go_enter Try.func5, Try.ntmps5
  go_wp2_with (go_at_call 9; refine (small_any _).mono ?_; rintro e w1 ⟨rfl, hs⟩; have HS := Lib.hid hs; clear hs)
  go_loopw [6, 7] (fun b i wr => ∃ k : Nat, k ≤ l.length ∧ i = .int .i64 k ∧ Own enc8 5 w.heap.size wr b (flat4 (l.take k)) ∧ Stp (fun _ => False) w wr) (fun _ i _ => l.length - (intOf i).toNat)
  case atStart => exact ⟨0, Nat.zero_le _, rfl, Own.nil _ _ _ _, HS.out⟩
  case round =>
    obtain ⟨k, hk, rfl, ho, hs⟩ := hrel
    have HO := Lib.hid ho
    have HS2 := Lib.hid hs
    clear ho hs
    by_cases hlt : k < l.length
    · obtain ⟨ad, rfl, _, hcell⟩ := plain_cell (H0.out.step HS2.out (fun _ _ h => h.elim)) k hlt
      obtain ⟨hb1, hb2⟩ := HL.out l[k] (List.getElem_mem hlt)
      go_wp2_with (go_at_call 10; refine stopc ?_)
      refine Stop.go ?_
      have hfl := flat4_len (l.take k)
      rw [List.length_take] at hfl
      refine (put_any (fun _ => False) _ _ _ _ _ (HO.out.rd (h1 := fun _ => rfl) (fun _ _ => id)) (by omega)).mono ?_
      rw [show clampN 4 = 4 by decide, ← flat4_snoc, ← take_snoc _ _ hlt]
      rintro e w3 ⟨v3, rfl, ho3, hs3⟩
      have HO3 := Lib.hid (ho3.lower HS2.out.size)
      have HS3 := Lib.hid (HS2.out.trans hs3)
      clear ho3 hs3 hfl
      go_wp2
      go_roundw
      case rel => exact ⟨k + 1, by omega, by go_num, HO3.out, HS3.out⟩
      case measure => simp [intOf]; omega
    · obtain rfl : k = l.length := by omega
      rw [List.take_length] at HO
      have HF := Lib.hid (flat4_len l)
      go_wp2
      go_loopw [6, 8] (fun b i wr2 => ∃ k : Nat, k ≤ ss.length ∧ (∀ s ∈ ss.take k, s.size ≤ 300) ∧ i = .int .i64 k ∧ Own enc8 5 w.heap.size wr2 b (flat4 l ++ flatV (ss.take k)) ∧ Stp (fun _ => False) w wr2) (fun _ i _ => ss.length - (intOf i).toNat)
      case atStart => exact ⟨0, Nat.zero_le _, by simp, rfl, by simpa [flatV] using HO.out, HS2.out⟩
      case round =>
        clear HO HS2
        obtain ⟨k, hk, h300, rfl, ho, hs⟩ := hrel
        have HO := Lib.hid ho
        have HS2 := Lib.hid hs
        have H300 := Lib.hid h300
        clear ho hs h300
        by_cases hlt : k < ss.length
        · obtain ⟨ad, rfl, _, hcell⟩ := plain_cell (H1.out.step HS2.out (fun _ _ h => h.elim)) k hlt
          by_cases hbig : 300 < ss[k].size
          · go_wp2
            go_ret
            exact ⟨rfl, HS2.out⟩
          · go_wp2_with (with_reducible refine stop (N := 56) rfl ?_)
            refine Stop.go ?_
            refine wp_bytesOf rfl _ _ 5 _ rfl Try.underlying9 Try.underlying22 Try.underlying5 rfl (by omega) ?_
            rintro v3 w3 hr3 hs3 _ ⟨c3, rfl, hc3⟩ _
            have HR3 := Lib.hid hr3
            have HS3 := Lib.hid hs3
            clear hr3 hs3
            go_wp2_with (go_at_call 11; refine stopc ?_)
            refine Stop.go ?_
            have hfv := flatV_len (ss.take k) H300.out
            have hf4 := HF.out
            have htk : (ss.take k).length ≤ 50 := by rw [List.length_take]; omega
            have hsz : ss[k].data.toList.length = ss[k].size := by simp
            refine (vec_any (fun _ => False) _ _ (flat4 l ++ flatV (ss.take k)) ss[k].data.toList _ _ ((HO.out.stp0 HS3.out).rd (h1 := fun _ => rfl) (fun _ _ => id)) (HR3.out.weak (by decide) (fun _ _ h => h.elim)) (by rw [List.length_append]; omega)).mono ?_
            rw [vecB_small _ _ (by omega), List.append_assoc, ← flatV_snoc, ← take_snoc _ _ hlt]
            rintro e w4 ⟨v4, rfl, ho4, hs4⟩
            have HS4 := Lib.hid (HS2.out.trans (HS3.out.trans hs4))
            have HO4 := Lib.hid (ho4.lower (HS2.out.trans HS3.out).size)
            clear ho4 hs4 hfv hf4
            go_wp2
            go_roundw
            case rel =>
              refine ⟨k + 1, by omega, ?_, by go_num, HO4.out, HS4.out⟩
              rw [take_snoc _ _ hlt]
              intro s hs
              rcases List.mem_append.1 hs with h | h
              · exact H300.out s h
              · rw [List.mem_singleton.1 h]
                omega
            case measure => simp [intOf]; omega
        · obtain rfl : k = ss.length := by omega
          rw [List.take_length] at HO H300
          have hfv := flatV_len ss H300.out
          have htot : (flat4 l ++ flatV ss).length ≤ 20000 := by
            have := HF.out
            rw [List.length_append]
            omega
          have HTOT := Lib.hid htot
          clear hfv htot
          go_wp2_with (go_at_call 14; refine stopc ?_)
          refine Stop.go ?_
          refine (read_any (fun _ => False) _ (flat4 l ++ flatV ss) _ (HO.out.rd (h1 := fun _ => rfl) (fun _ _ => id)) (by have := HTOT.out; omega)).mono ?_
          rintro e w5 ⟨g, rfl, hi5, hs5⟩
          have HG := Lib.hid (Nat.le_trans HS2.out.size (Nat.not_lt.1 hi5.1))
          have HI5 := Lib.hid (hi5.weak (M' := fun _ => False) (fun _ _ h => h.elim))
          have HS5 := Lib.hid (HS2.out.trans hs5)
          clear hi5 hs5 HO
          go_wp2
          go_loopw [12] (fun i wr2 => ∃ k : Nat, k ≤ l.length ∧ i = .int .i64 k ∧ IsRd (fun _ => False) wr2 g (flat4 (l.drop k) ++ flatV ss, false) ∧ Stp (fun _ => False) w wr2) (fun i _ => l.length - (intOf i).toNat)
          case atStart => exact ⟨0, Nat.zero_le _, rfl, HI5.out, HS5.out⟩
          case round =>
            clear HI5 HS5 HS2
            obtain ⟨k, hk, rfl, hi, hs⟩ := hrel
            have HS2 := Lib.hid hs
            have HI := Lib.hid hi
            clear hs hi
            by_cases hlt : k < l.length
            · obtain ⟨ad, rfl, _, hcell⟩ := plain_cell (H0.out.step HS2.out (fun _ _ h => h.elim)) k hlt
              have hb := HL.out l[k] (List.getElem_mem hlt)
              rw [drop_cons l k hlt, flat4_cons, List.append_assoc] at HI
              have hrn := rnum_app l[k] (flat4 (l.drop (k + 1)) ++ flatV ss) hb
              have hln : (be l[k] 4 ++ (flat4 (l.drop (k + 1)) ++ flatV ss)).length ≤ 140737488355328 := by
                have h1 := HTOT.out
                rw [List.length_append] at h1
                have h2 := flat4_len (l.drop (k + 1))
                have h3 := flat4_len l
                rw [List.length_drop] at h2
                rw [List.length_append, List.length_append, be_len]
                omega
              have HRN := Lib.hid hrn
              have HLN := Lib.hid hln
              have hne : (l[k] != IntKind.i64.wrap l[k]) = false := by rw [show IntKind.i64.wrap l[k] = l[k] from IntWalk.i64_in _ (by omega)]; simp
              obtain ⟨hb1, hb2⟩ := hb
              clear hrn hln
              go_wp2_with fail
              refine wp_region_held_drew (S := (fun w' => w'.cell? (ad.add k) = some (.int .u32 l[k]))) (by kernel_rfl) (hcell) (fun hHeld => ?_)
              try (change wpAnyH _ _ _ _ _ _ _ _ (World.drew _))
              refine rg_take (i := 0) (o := { dst := some 73, op := Op.move (Operand.tmp 11), type := 29, pos := "law.go:110", after := #[], guard := none }) (v := ?rgv1) rfl (by kernel_rfl) (by kernel_rfl) (by kernel_rfl) (fun _ _ _ h => h) (by rfl) (fun w hSw => ?rgy1) hHeld ?_
              case rgy1 => (try dsimp only at hSw); first | (go_simp; done) | (go_simp; with_reducible rfl)
              try simp only [Act.put, List.setIfInBounds_toArray, List.set_cons_zero, List.set_cons_succ]
              refine rg_take (i := 2) (o := { dst := some 75, op := Op.move (Operand.tmp 0), type := 40, pos := "law.go:110", after := #[], guard := none }) (v := ?rgv2) rfl (by kernel_rfl) (by kernel_rfl) (by kernel_rfl) (fun _ _ _ h => h) (by rfl) (fun w hSw => ?rgy2) hHeld ?_
              case rgy2 => (try dsimp only at hSw); first | (go_simp; done) | (go_simp; with_reducible rfl)
              try simp only [Act.put, List.setIfInBounds_toArray, List.set_cons_zero, List.set_cons_succ]
              refine rg_take (i := 3) (o := { dst := some 76, op := Op.move (Operand.tmp 12), type := 3, pos := "law.go:110", after := #[], guard := none }) (v := ?rgv3) rfl (by kernel_rfl) (by kernel_rfl) (by kernel_rfl) (fun _ _ _ h => h) (by rfl) (fun w hSw => ?rgy3) hHeld ?_
              case rgy3 => (try dsimp only at hSw); first | (go_simp; done) | (go_simp; with_reducible rfl)
              try simp only [Act.put, List.setIfInBounds_toArray, List.set_cons_zero, List.set_cons_succ]
              refine rg_take (i := 4) (o := { dst := some 77, op := Op.indexAddr 40 (Operand.tmp 75) (Operand.tmp 76), type := 0, pos := "law.go:110", after := #[{ on := 2, ground := Ground.data }, { on := 3, ground := Ground.data }], guard := none }) (v := ?rgv4) rfl (by kernel_rfl) (by kernel_rfl) (by kernel_rfl) (fun _ _ _ h => h) (by rfl) (fun w hSw => ?rgy4) hHeld ?_
              case rgy4 => (try dsimp only at hSw); first | (go_simp; done) | (go_simp; with_reducible rfl)
              try simp only [Act.put, List.setIfInBounds_toArray, List.set_cons_zero, List.set_cons_succ]
              refine rg_take (i := 5) (o := { dst := some 78, op := Op.load 42 (Operand.tmp 77), type := 42, pos := "law.go:110", after := #[{ on := 4, ground := Ground.data }], guard := none }) (v := ?rgv5) rfl (by kernel_rfl) (by kernel_rfl) (by kernel_rfl) (fun _ _ _ h => h) (by rfl) (fun w hSw => ?rgy5) hHeld ?_
              case rgy5 => (try dsimp only at hSw); first | (go_simp; done) | (go_simp; with_reducible rfl)
              try simp only [Act.put, List.setIfInBounds_toArray, List.set_cons_zero, List.set_cons_succ]
              refine rg_take (i := 6) (o := { dst := some 79, op := Op.convert 42 3 (Operand.tmp 78), type := 3, pos := "law.go:110", after := #[{ on := 5, ground := Ground.data }], guard := none }) (v := ?rgv6) rfl (by kernel_rfl) (by kernel_rfl) (by kernel_rfl) (fun _ _ _ h => h) (by rfl) (fun w hSw => ?rgy6) hHeld ?_
              case rgy6 => (try dsimp only at hSw); first | (go_simp; done) | (go_simp; with_reducible rfl)
              try simp only [Act.put, List.setIfInBounds_toArray, List.set_cons_zero, List.set_cons_succ]
              refine wpAnyH_ready (rs := [1]) (by kernel_rfl) (by simp) ?_
              refine (AllReadyH.cons (o := { dst := some 74, op := Op.call { callee := Callee.value (Operand.func 15), args := #[Operand.tmp 73, Operand.const (Value.int IntKind.i64 4)], argTypes := #[29, 3] }, type := 3, pos := "law.go:110", after := #[{ on := 0, ground := Ground.data }], guard := none }) rfl (fun K hK => ?_) AllReadyH.nil)
              go_simp
              refine (num_any (fun _ => False) g _ _ _ (HI.out.stp0 ((Stp.refl _ _).drew)) HLN.out).mono ?_
              rw [HRN.out]
              rintro e w6 ⟨rfl, hi6, hs6⟩
              have HS6 := Lib.hid ((HS2.out.drew).new hs6 HG.out)
              have hc6 : w6.cell? (ad.add k) = some (.int .u32 l[k]) := plain_cell2 (H0.out.step HS6.out (fun _ _ h => h.elim)) k hlt
              have HI6 := Lib.hid hi6
              clear hi6 hs6
              show K _ _
              clear hHeld
              refine hK.out _ _ (hc6) (fun hHeld => ?_)
              clear hK K
              try simp only [Act.put, List.setIfInBounds_toArray, List.set_cons_zero, List.set_cons_succ]
              refine rg_take (i := 7) (o := { dst := some 80, op := Op.binOp BinOp.neq 3 (Operand.tmp 74) (Operand.tmp 79) 3, type := 4, pos := "law.go:110", after := #[{ on := 1, ground := Ground.data }, { on := 6, ground := Ground.data }], guard := none }) (v := ?rgv7) rfl (by kernel_rfl) (by kernel_rfl) (by kernel_rfl) (fun _ _ _ h => h) (by rfl) (fun w hSw => ?rgy7) hHeld ?_
              case rgy7 => (try dsimp only at hSw); first | (go_simp; done) | (go_simp; with_reducible rfl)
              try simp only [Act.put, List.setIfInBounds_toArray, List.set_cons_zero, List.set_cons_succ]
              clear hHeld
              refine wpAnyH_done (by kernel_rfl) ?_ _
              go_wp2
              go_roundw
              case rel => exact ⟨k + 1, by omega, by go_num, HI6.out, HS6.out⟩
              case measure => simp [intOf]; omega
            · obtain rfl : k = l.length := by omega
              rw [List.drop_length] at HI
              go_wp2
              go_loopw [13] (fun i wr2 => ∃ k : Nat, k ≤ ss.length ∧ i = .int .i64 k ∧ IsRd (fun _ => False) wr2 g (flatV (ss.drop k), false) ∧ Stp (fun _ => False) w wr2) (fun i _ => ss.length - (intOf i).toNat)
              case atStart => exact ⟨0, Nat.zero_le _, rfl, HI.out, HS2.out⟩
              case round =>
                clear HI HS2
                obtain ⟨k, hk, rfl, hi, hs⟩ := hrel
                have HS2 := Lib.hid hs
                have HI := Lib.hid hi
                clear hs hi
                by_cases hlt : k < ss.length
                · obtain ⟨ad, rfl, _, hcell⟩ := plain_cell (H1.out.step HS2.out (fun _ _ h => h.elim)) k hlt
                  have hb := H300.out ss[k] (List.getElem_mem hlt)
                  have hsz : ss[k].data.toList.length = ss[k].size := by simp
                  rw [drop_cons ss k hlt, flatV_cons] at HI
                  have hrn := rvec_app ss[k].data.toList (flatV (ss.drop (k + 1))) (by omega)
                  have hln : (be (ss[k].data.toList.length : Nat) 2 ++ ss[k].data.toList ++ flatV (ss.drop (k + 1))).length ≤ 140737488355328 := by
                    have h1 := flatV_len (ss.drop (k + 1)) (fun s hs => H300.out s (List.mem_of_mem_drop hs))
                    rw [List.length_drop] at h1
                    rw [List.length_append, List.length_append, be_len]
                    omega
                  have HRN := Lib.hid hrn
                  have HLN := Lib.hid hln
                  clear hrn hln hb hsz
                  go_wp2_with fail
                  refine wp_region_held_drew (S := (fun w' => w'.cell? (ad.add k) = some (.string ss[k]))) (by kernel_rfl) (hcell) (fun hHeld => ?_)
                  try (change wpAnyH _ _ _ _ _ _ _ _ (World.drew _))
                  refine rg_take (i := 0) (o := { dst := some 87, op := Op.move (Operand.tmp 11), type := 29, pos := "law.go:115", after := #[], guard := none }) (v := ?rgv8) rfl (by kernel_rfl) (by kernel_rfl) (by kernel_rfl) (fun _ _ _ h => h) (by rfl) (fun w hSw => ?rgy8) hHeld ?_
                  case rgy8 => (try dsimp only at hSw); first | (go_simp; done) | (go_simp; with_reducible rfl)
                  try simp only [Act.put, List.setIfInBounds_toArray, List.set_cons_zero, List.set_cons_succ]
                  refine rg_take (i := 3) (o := { dst := some 90, op := Op.move (Operand.tmp 1), type := 41, pos := "law.go:115", after := #[], guard := none }) (v := ?rgv9) rfl (by kernel_rfl) (by kernel_rfl) (by kernel_rfl) (fun _ _ _ h => h) (by rfl) (fun w hSw => ?rgy9) hHeld ?_
                  case rgy9 => (try dsimp only at hSw); first | (go_simp; done) | (go_simp; with_reducible rfl)
                  try simp only [Act.put, List.setIfInBounds_toArray, List.set_cons_zero, List.set_cons_succ]
                  refine rg_take (i := 4) (o := { dst := some 91, op := Op.move (Operand.tmp 13), type := 3, pos := "law.go:115", after := #[], guard := none }) (v := ?rgv10) rfl (by kernel_rfl) (by kernel_rfl) (by kernel_rfl) (fun _ _ _ h => h) (by rfl) (fun w hSw => ?rgy10) hHeld ?_
                  case rgy10 => (try dsimp only at hSw); first | (go_simp; done) | (go_simp; with_reducible rfl)
                  try simp only [Act.put, List.setIfInBounds_toArray, List.set_cons_zero, List.set_cons_succ]
                  refine rg_take (i := 5) (o := { dst := some 92, op := Op.indexAddr 41 (Operand.tmp 90) (Operand.tmp 91), type := 0, pos := "law.go:115", after := #[{ on := 3, ground := Ground.data }, { on := 4, ground := Ground.data }], guard := none }) (v := ?rgv11) rfl (by kernel_rfl) (by kernel_rfl) (by kernel_rfl) (fun _ _ _ h => h) (by rfl) (fun w hSw => ?rgy11) hHeld ?_
                  case rgy11 => (try dsimp only at hSw); first | (go_simp; done) | (go_simp; with_reducible rfl)
                  try simp only [Act.put, List.setIfInBounds_toArray, List.set_cons_zero, List.set_cons_succ]
                  refine rg_take (i := 6) (o := { dst := some 93, op := Op.load 9 (Operand.tmp 92), type := 9, pos := "law.go:115", after := #[{ on := 5, ground := Ground.data }], guard := none }) (v := ?rgv12) rfl (by kernel_rfl) (by kernel_rfl) (by kernel_rfl) (fun _ _ _ h => h) (by rfl) (fun w hSw => ?rgy12) hHeld ?_
                  case rgy12 => (try dsimp only at hSw); first | (go_simp; done) | (go_simp; with_reducible rfl)
                  try simp only [Act.put, List.setIfInBounds_toArray, List.set_cons_zero, List.set_cons_succ]
                  refine wpAnyH_ready (rs := [1]) (by kernel_rfl) (by simp) ?_
                  refine (AllReadyH.cons (o := { dst := some 88, op := Op.call { callee := Callee.value (Operand.func 19), args := #[Operand.tmp 87, Operand.const (Value.int IntKind.i64 2)], argTypes := #[29, 3] }, type := 22, pos := "law.go:115", after := #[{ on := 0, ground := Ground.data }], guard := none }) rfl (fun K hK => ?_) AllReadyH.nil)
                  go_simp
                  refine (rvec_any (fun _ => False) g _ _ _ (HI.out.stp0 ((Stp.refl _ _).drew)) HLN.out).mono ?_
                  rw [HRN.out]
                  rintro e w6 ⟨v6, rfl, ho6, hi6, hs6⟩
                  have HS6 := Lib.hid ((HS2.out.drew).new hs6 HG.out)
                  have hc6 : w6.cell? (ad.add k) = some (.string ss[k]) := plain_cell2 (H1.out.step HS6.out (fun _ _ h => h.elim)) k hlt
                  have HI6 := Lib.hid hi6
                  have hcv := conv_own ho6
                  unfold convB at hcv
                  rw [strB_toList] at hcv
                  have HCV := Lib.hid hcv
                  clear hi6 hs6 ho6 hcv
                  show K _ _
                  clear hHeld
                  refine hK.out _ _ (hc6) (fun hHeld => ?_)
                  clear hK K
                  try simp only [Act.put, List.setIfInBounds_toArray, List.set_cons_zero, List.set_cons_succ]
                  refine rg_more (T := (fun w' => (convert 22 9 v6).run Try.prog w' = .ok (.string ss[k]) w')) ?_
                  replace hHeld := And.intro hHeld (HCV.out)
                  refine rg_take (i := 2) (o := { dst := some 89, op := Op.convert 22 9 (Operand.tmp 88), type := 9, pos := "law.go:115", after := #[{ on := 1, ground := Ground.data }], guard := none }) (v := ?rgv13) rfl (by kernel_rfl) (by kernel_rfl) (by kernel_rfl) (fun _ _ _ h => h) (by rfl) (fun w hSw => ?rgy13) hHeld ?_
                  case rgy13 => (try dsimp only at hSw); first | (go_simp; done) | (go_simp; with_reducible rfl)
                  try simp only [Act.put, List.setIfInBounds_toArray, List.set_cons_zero, List.set_cons_succ]
                  refine rg_take (i := 7) (o := { dst := some 94, op := Op.binOp BinOp.neq 9 (Operand.tmp 89) (Operand.tmp 93) 9, type := 4, pos := "law.go:115", after := #[{ on := 2, ground := Ground.data }, { on := 6, ground := Ground.data }], guard := none }) (v := ?rgv14) rfl (by kernel_rfl) (by kernel_rfl) (by kernel_rfl) (fun _ _ _ h => h) (by rfl) (fun w hSw => ?rgy14) hHeld ?_
                  case rgy14 => (try dsimp only at hSw); first | (go_simp; done) | (go_simp; with_reducible rfl)
                  try simp only [Act.put, List.setIfInBounds_toArray, List.set_cons_zero, List.set_cons_succ]
                  clear hHeld
                  refine wpAnyH_done (by kernel_rfl) ?_ _
                  go_wp2
                  go_roundw
                  case rel => exact ⟨k + 1, by omega, by go_num, HI6.out, HS6.out⟩
                  case measure => simp [intOf]; omega
                · obtain rfl : k = ss.length := by omega
                  rw [List.drop_length] at HI
                  go_wp2_with (first
                    | (go_at_call 24; refine (done_any (fun _ => False) g _ _ HI.out (by decide)).mono ?_; rintro e w' ⟨rfl, rfl⟩)
                    | (go_at_call 23; refine (bad_any (fun _ => False) g _ _ HI.out).mono ?_; rintro e w' ⟨rfl, rfl⟩)
                    | (go_at_call 21; refine (left_any (fun _ => False) g _ _ HI.out (by decide)).mono ?_; rintro e w' ⟨rfl, rfl⟩))
                  go_ret
                  exact ⟨rfl, HS2.out⟩
end Go.Proofs.Ytahjmnamdmdloaa.L
