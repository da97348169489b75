/- Texts of the proof, joined: Rx. -/
import Derived.Test.YtligofmhbbgalaaGreatDoorG10
set_option linter.unusedVariables false
set_option linter.unusedSimpArgs false
/- Layer 11: the reference's cut at signs. -/
namespace Go.Proofs.YtligofmhbbgalaaGreatDoor.L
open Go.RowKit Go.Proofs

theorem info_string : (Tryz.prog.info? 9).map (fun i => (i.zero, i.size, i.bytes)) = some (some (.string ⟨#[]⟩), 1, 16) := by kernel_rfl
/-- x ahead of the first. -/
def glue (x : List UInt8) : List (List UInt8) → List (List UInt8)
  | [] => [x]
  | y :: ys => (x ++ y) :: ys
theorem glue_nil (l : List (List UInt8)) (h : l ≠ []) : glue [] l = l := by
  cases l with
  | nil => exact absurd rfl h
  | cons y ys => rfl
theorem glue_hit (x : List UInt8) (c : UInt8) (r : List UInt8) : glue x (splitC c (c :: r)) = x :: splitC c r := by
  rw [splitC, if_pos rfl]
  show (x ++ []) :: _ = _
  rw [List.append_nil]
theorem glue_miss (x : List UInt8) (c d : UInt8) (r : List UInt8) (h : d ≠ c) : glue x (splitC c (d :: r)) = glue (x ++ [d]) (splitC c r) := by
  rw [splitC, if_neg h]
  cases hs : splitC c r with
  | nil => exact absurd hs (splitC_ne c r)
  | cons y ys =>
    unfold glue
    simp
theorem drop_at (s : ByteArray) (k : Nat) (h : k < s.size) : s.data.toList.drop k = s[k] :: s.data.toList.drop (k + 1) := by
  have hl : k < s.data.toList.length := by rw [size_list]; exact h
  rw [List.drop_eq_getElem_cons hl]
  rfl

set_option maxRecDepth 100000 in
set_option maxHeartbeats 8000000 in
theorem cutR_any (s : ByteArray) (c : UInt8) (w : World) (hs : s.size < 4294967281) :
    Calls Tryz.prog 92 #[.string s, .int .u8 (c.toNat : Int)] w fun e w' => ∃ v X, e = .returned v ∧ X.map (fun x : ByteArray => x.data.toList) = splitC c s.data.toList ∧ Own Value.string 9 w.heap.size w' v X ∧ Stp (fun _ => False) w w' := by
  go_enter Tryz.func92, Tryz.ntmps92
  go_wp2
  go_loopg [5, 6] s.size (fun gf v i wx => ∃ (k : Nat) (pre : List ByteArray) (cur : ByteArray), k + gf = s.size ∧ i = .int .i64 k ∧ Own Value.string 9 w.heap.size wx v (pre ++ [cur]) ∧ splitC c s.data.toList = pre.map (fun x : ByteArray => x.data.toList) ++ glue cur.data.toList (splitC c (s.data.toList.drop k)) ∧ pre.length ≤ k ∧ cur.size ≤ k ∧ Stp (fun _ => False) w wx)
  case atStart =>
    refine ⟨0, [], (⟨#[]⟩ : ByteArray), by omega, rfl, Own.lit [(⟨#[]⟩ : ByteArray)] #[.string ⟨#[]⟩] rfl (Nat.le_refl _) (by decide), ?_, Nat.le_refl _, Nat.le_refl _, (Stp.refl _ w).alloc _⟩
    rw [List.drop_zero, List.map_nil, List.nil_append]
    exact (glue_nil _ (splitC_ne _ _)).symm
  case round =>
    obtain ⟨k, pre, cur, hk, rfl, ho, hsp, hpl, hcl, hst⟩ := hrel
    have HSP := Lib.hid hsp
    have HO := Lib.hid ho
    have HS := Lib.hid hst
    clear hsp hst ho
    obtain ⟨A, cp, rfl, hle⟩ := HO.out.form
    obtain ⟨xs, hxs⟩ : ∃ xs, xs = pre ++ [cur] := ⟨_, rfl⟩
    rw [← hxs] at HO hle
    have hxl : xs.length = pre.length + 1 := by rw [hxs]; simp
    rw [← hxs]
    have HX := Lib.hid hxs
    clear hxs
    by_cases hlt : k < s.size
    · obtain ⟨g', rfl⟩ : ∃ g', gk = g' + 1 := ⟨gk - 1, by omega⟩
      by_cases hc : s[k] = c
      · have hb : (((s[k]).toNat : Int) == (c.toNat : Int)) = true := by rw [hc]; simp
        have HC := Lib.hid hc
        clear hc
        go_wp2_with (with_reducible refine stop (N := 21) rfl ?_)
        refine Stop.go ?_
        refine wp_append1 Value.string ⟨#[]⟩ rfl rfl _ _ _ rfl Tryz.underlying26 info_string rfl (HO.out.stp0 ((Stp.refl _ _).alloc _)) rfl ⟨wr.heap.size, 0, none⟩ 1 rfl ?_ (by omega) (by omega) (by have := HS.out.size; simp; omega) ?_
        · exact blk_cell (j := 0) (heap_alloc_new _ _)
        · intro v3 w3 ho3 hg3
          have HO3 := Lib.hid ho3
          have HS3 := Lib.hid ((HS.out.alloc _).own (HO.out.stp0 ((Stp.refl _ _).alloc _)) hg3)
          clear ho3 hg3
          go_wp2
          go_roundg g'
          case measure => omega
          case rel =>
            refine ⟨k + 1, xs, ⟨#[]⟩, by omega, by go_num, HO3.out, ?_, by omega, Nat.zero_le _, HS3.out⟩
            rw [HSP.out, HX.out, drop_at s k hlt, HC.out, glue_hit, List.map_append]
            have := glue_nil (splitC c (s.data.toList.drop (k + 1))) (splitC_ne _ _)
            simp [this]
      · have hb : (((s[k]).toNat : Int) == (c.toNat : Int)) = false := by
          have : (s[k]).toNat ≠ c.toNat := fun e => hc (UInt8.toNat_inj.1 e)
          simp
          omega
        have HC := Lib.hid hc
        clear hc
        obtain ⟨m, hm⟩ : ∃ m, m = pre.length := ⟨_, rfl⟩
        rw [← hm] at hxl hpl
        obtain ⟨n, hn⟩ : ∃ n, n = xs.length := ⟨_, rfl⟩
        rw [← hn] at hxl hle
        obtain ⟨g, hA, -, hg1, hg2⟩ := HO.out.at_ (by omega)
        subst hA
        have hcur : xs[m]'(by omega) = cur := by
          have : xs[m]? = some cur := by rw [HX.out, hm]; simp
          exact (List.getElem?_eq_some_iff.1 this).2
        have k0 : wr.cell? ⟨g, m, none⟩ = some (.string cur) := by
          rw [← hcur]
          exact HO.out.cellAt m (by omega)
        have hf := HO.out.free m
        have HM := Lib.hid hm
        have HN := Lib.hid hn
        rw [← hn]
        have w1 : IntKind.i64.wrap (m : Int) = (m : Int) := IntWalk.i64_in _ (by omega)
        have w7 : (m : Int) < (m : Int) + 1 := by omega
        have w8 : ¬ 9223372036854775807 < cur.size + 1 := by omega
        have w2 : IntKind.i64.wrap ((k : Int) + 1) = (k : Int) + 1 := IntWalk.i64_in _ (by omega)
        have w3 : ((k : Int) + 1).toNat = k + 1 := by omega
        have w4 : (0 : Int) ≤ (k : Int) + 1 := by omega
        have w5 : (k : Int) ≤ (k : Int) + 1 := by omega
        have w6 : (k : Int) + 1 ≤ (s.size : Int) := by omega
        have b1 : (m : Int) < (n : Int) := by omega
        have b2 : k + 1 ≤ s.size := by omega
        clear hm hn hcur
        go_wp2_with fail
        refine wp_region_held_drew (S := (fun _ => True)) (by kernel_rfl) (trivial) (fun hHeld => ?_)
        try (change wpAnyH _ _ _ _ _ _ _ _ (World.drew _))
        refine rg_take (i := 0) (o := { dst := some 22, op := Op.move (Operand.tmp 5), type := 26, pos := "ref.go:48", after := #[], guard := none }) (v := ?rgv1) rfl (by kernel_rfl) (by kernel_rfl) (by kernel_rfl) (fun _ _ _ h => h) (by rfl) (fun w hSw => ?rgy1) hHeld ?_
        case rgy1 => (try dsimp only at hSw); first | (go_simp; done) | (go_simp; with_reducible rfl)
        try simp only [Act.put, List.setIfInBounds_toArray, List.set_cons_zero, List.set_cons_succ]
        refine rg_take (i := 1) (o := { dst := some 23, op := Op.move (Operand.tmp 5), type := 26, pos := "ref.go:48", after := #[], guard := none }) (v := ?rgv2) rfl (by kernel_rfl) (by kernel_rfl) (by kernel_rfl) (fun _ _ _ h => h) (by rfl) (fun w hSw => ?rgy2) hHeld ?_
        case rgy2 => (try dsimp only at hSw); first | (go_simp; done) | (go_simp; with_reducible rfl)
        try simp only [Act.put, List.setIfInBounds_toArray, List.set_cons_zero, List.set_cons_succ]
        refine rg_take (i := 2) (o := { dst := some 24, op := Op.call { callee := Callee.builtin Builtin.len, args := #[Operand.tmp 23], argTypes := #[26] }, type := 3, pos := "ref.go:48", after := #[{ on := 1, ground := Ground.data }], guard := none }) (v := ?rgv3) rfl (by kernel_rfl) (by kernel_rfl) (by kernel_rfl) (fun _ _ _ h => h) (by rfl) (fun w hSw => ?rgy3) hHeld ?_
        case rgy3 => (try dsimp only at hSw); first | (go_simp; done) | (go_simp; with_reducible rfl)
        try simp only [Act.put, List.setIfInBounds_toArray, List.set_cons_zero, List.set_cons_succ]
        refine rg_take (i := 3) (o := { dst := some 25, op := Op.binOp BinOp.sub 3 (Operand.tmp 24) (Operand.const (Value.int IntKind.i64 1)) 3, type := 3, pos := "ref.go:48", after := #[{ on := 2, ground := Ground.data }], guard := none }) (v := ?rgv4) rfl (by kernel_rfl) (by kernel_rfl) (by kernel_rfl) (fun _ _ _ h => h) (by rfl) (fun w hSw => ?rgy4) hHeld ?_
        case rgy4 => (try dsimp only at hSw); first | (go_simp; done) | (go_simp; with_reducible rfl)
        try simp only [Act.put, List.setIfInBounds_toArray, List.set_cons_zero, List.set_cons_succ]
        refine rg_take (i := 4) (o := { dst := some 26, op := Op.move (Operand.tmp 5), type := 26, pos := "ref.go:48", after := #[], guard := none }) (v := ?rgv5) rfl (by kernel_rfl) (by kernel_rfl) (by kernel_rfl) (fun _ _ _ h => h) (by rfl) (fun w hSw => ?rgy5) hHeld ?_
        case rgy5 => (try dsimp only at hSw); first | (go_simp; done) | (go_simp; with_reducible rfl)
        try simp only [Act.put, List.setIfInBounds_toArray, List.set_cons_zero, List.set_cons_succ]
        refine rg_take (i := 5) (o := { dst := some 27, op := Op.move (Operand.tmp 5), type := 26, pos := "ref.go:48", after := #[], guard := none }) (v := ?rgv6) rfl (by kernel_rfl) (by kernel_rfl) (by kernel_rfl) (fun _ _ _ h => h) (by rfl) (fun w hSw => ?rgy6) hHeld ?_
        case rgy6 => (try dsimp only at hSw); first | (go_simp; done) | (go_simp; with_reducible rfl)
        try simp only [Act.put, List.setIfInBounds_toArray, List.set_cons_zero, List.set_cons_succ]
        refine rg_take (i := 6) (o := { dst := some 28, op := Op.call { callee := Callee.builtin Builtin.len, args := #[Operand.tmp 27], argTypes := #[26] }, type := 3, pos := "ref.go:48", after := #[{ on := 5, ground := Ground.data }], guard := none }) (v := ?rgv7) rfl (by kernel_rfl) (by kernel_rfl) (by kernel_rfl) (fun _ _ _ h => h) (by rfl) (fun w hSw => ?rgy7) hHeld ?_
        case rgy7 => (try dsimp only at hSw); first | (go_simp; done) | (go_simp; with_reducible rfl)
        try simp only [Act.put, List.setIfInBounds_toArray, List.set_cons_zero, List.set_cons_succ]
        refine rg_take (i := 7) (o := { dst := some 29, op := Op.binOp BinOp.sub 3 (Operand.tmp 28) (Operand.const (Value.int IntKind.i64 1)) 3, type := 3, pos := "ref.go:48", after := #[{ on := 6, ground := Ground.data }], guard := none }) (v := ?rgv8) rfl (by kernel_rfl) (by kernel_rfl) (by kernel_rfl) (fun _ _ _ h => h) (by rfl) (fun w hSw => ?rgy8) hHeld ?_
        case rgy8 => (try dsimp only at hSw); first | (go_simp; done) | (go_simp; with_reducible rfl)
        try simp only [Act.put, List.setIfInBounds_toArray, List.set_cons_zero, List.set_cons_succ]
        refine rg_take (i := 8) (o := { dst := some 30, op := Op.indexAddr 26 (Operand.tmp 26) (Operand.tmp 29), type := 0, pos := "ref.go:48", after := #[{ on := 4, ground := Ground.data }, { on := 7, ground := Ground.data }], guard := none }) (v := ?rgv9) rfl (by kernel_rfl) (by kernel_rfl) (by kernel_rfl) (fun _ _ _ h => h) (by rfl) (fun w hSw => ?rgy9) hHeld ?_
        case rgy9 => (try dsimp only at hSw); first | (go_simp; done) | (go_simp; with_reducible rfl)
        try simp only [Act.put, List.setIfInBounds_toArray, List.set_cons_zero, List.set_cons_succ]
        refine rg_take (i := 10) (o := { dst := some 32, op := Op.move (Operand.tmp 0), type := 9, pos := "ref.go:48", after := #[], guard := none }) (v := ?rgv10) rfl (by kernel_rfl) (by kernel_rfl) (by kernel_rfl) (fun _ _ _ h => h) (by rfl) (fun w hSw => ?rgy10) hHeld ?_
        case rgy10 => (try dsimp only at hSw); first | (go_simp; done) | (go_simp; with_reducible rfl)
        try simp only [Act.put, List.setIfInBounds_toArray, List.set_cons_zero, List.set_cons_succ]
        refine rg_take (i := 11) (o := { dst := some 33, op := Op.move (Operand.tmp 6), type := 3, pos := "ref.go:48", after := #[], guard := none }) (v := ?rgv11) rfl (by kernel_rfl) (by kernel_rfl) (by kernel_rfl) (fun _ _ _ h => h) (by rfl) (fun w hSw => ?rgy11) hHeld ?_
        case rgy11 => (try dsimp only at hSw); first | (go_simp; done) | (go_simp; with_reducible rfl)
        try simp only [Act.put, List.setIfInBounds_toArray, List.set_cons_zero, List.set_cons_succ]
        refine rg_take (i := 12) (o := { dst := some 34, op := Op.move (Operand.tmp 6), type := 3, pos := "ref.go:48", after := #[], guard := none }) (v := ?rgv12) rfl (by kernel_rfl) (by kernel_rfl) (by kernel_rfl) (fun _ _ _ h => h) (by rfl) (fun w hSw => ?rgy12) hHeld ?_
        case rgy12 => (try dsimp only at hSw); first | (go_simp; done) | (go_simp; with_reducible rfl)
        try simp only [Act.put, List.setIfInBounds_toArray, List.set_cons_zero, List.set_cons_succ]
        refine rg_take (i := 13) (o := { dst := some 35, op := Op.binOp BinOp.add 3 (Operand.tmp 34) (Operand.const (Value.int IntKind.i64 1)) 3, type := 3, pos := "ref.go:48", after := #[{ on := 12, ground := Ground.data }], guard := none }) (v := ?rgv13) rfl (by kernel_rfl) (by kernel_rfl) (by kernel_rfl) (fun _ _ _ h => h) (by rfl) (fun w hSw => ?rgy13) hHeld ?_
        case rgy13 => (try dsimp only at hSw); first | (go_simp; done) | (go_simp; with_reducible rfl)
        try simp only [Act.put, List.setIfInBounds_toArray, List.set_cons_zero, List.set_cons_succ]
        refine rg_take (i := 14) (o := { dst := some 36, op := Op.slice 9 (Operand.tmp 32) (some (Operand.tmp 33)) (some (Operand.tmp 35)) none, type := 9, pos := "ref.go:48", after := #[{ on := 10, ground := Ground.data }, { on := 11, ground := Ground.data }, { on := 13, ground := Ground.data }], guard := none }) (v := ?rgv14) rfl (by kernel_rfl) (by kernel_rfl) (by kernel_rfl) (fun _ _ _ h => h) (by rfl) (fun w hSw => ?rgy14) hHeld ?_
        case rgy14 => (try dsimp only at hSw); first | (go_simp; done) | (go_simp; with_reducible rfl)
        try simp only [Act.put, List.setIfInBounds_toArray, List.set_cons_zero, List.set_cons_succ]
        refine wpAnyH_ready (rs := [9]) (by kernel_rfl) (by simp) ?_
        refine (AllReadyH.cons (o := { dst := some 31, op := Op.load 9 (Operand.tmp 30), type := 9, pos := "ref.go:48", after := #[{ on := 8, ground := Ground.data }], guard := none }) rfl (fun K hK => ?_) AllReadyH.nil)
        go_simp
        show K _ _
        clear hHeld
        refine hK.out _ _ (trivial) (fun hHeld => ?_)
        clear hK K
        try simp only [Act.put, List.setIfInBounds_toArray, List.set_cons_zero, List.set_cons_succ]
        refine rg_take (i := 15) (o := { dst := some 37, op := Op.binOp BinOp.add 9 (Operand.tmp 31) (Operand.tmp 36) 9, type := 9, pos := "ref.go:48", after := #[{ on := 9, ground := Ground.data }, { on := 14, ground := Ground.data }], guard := none }) (v := ?rgv15) rfl (by kernel_rfl) (by kernel_rfl) (by kernel_rfl) (fun _ _ _ h => h) (by rfl) (fun w hSw => ?rgy15) hHeld ?_
        case rgy15 => (try dsimp only at hSw); first | (go_simp; done) | (go_simp; with_reducible rfl)
        try simp only [Act.put, List.setIfInBounds_toArray, List.set_cons_zero, List.set_cons_succ]
        refine rg_take (i := 16) (o := { dst := some 38, op := Op.indexAddr 26 (Operand.tmp 22) (Operand.tmp 25), type := 0, pos := "ref.go:48", after := #[{ on := 0, ground := Ground.data }, { on := 3, ground := Ground.data }, { on := 0, ground := Ground.phase }, { on := 1, ground := Ground.phase }, { on := 2, ground := Ground.phase }, { on := 3, ground := Ground.phase }, { on := 4, ground := Ground.phase }, { on := 5, ground := Ground.phase }, { on := 6, ground := Ground.phase }, { on := 7, ground := Ground.phase }, { on := 8, ground := Ground.phase }, { on := 9, ground := Ground.phase }, { on := 10, ground := Ground.phase }, { on := 11, ground := Ground.phase }, { on := 12, ground := Ground.phase }, { on := 13, ground := Ground.phase }, { on := 14, ground := Ground.phase }, { on := 15, ground := Ground.phase }], guard := none }) (v := ?rgv16) rfl (by kernel_rfl) (by kernel_rfl) (by kernel_rfl) (fun _ _ _ h => h) (by rfl) (fun w hSw => ?rgy16) hHeld ?_
        case rgy16 => (try dsimp only at hSw); first | (go_simp; done) | (go_simp; with_reducible rfl)
        try simp only [Act.put, List.setIfInBounds_toArray, List.set_cons_zero, List.set_cons_succ]
        refine wpAnyH_ready (rs := [17]) (by kernel_rfl) (by simp) ?_
        refine (AllReadyH.cons (o := { dst := none, op := Op.store 9 (Operand.tmp 38) (Operand.tmp 37), type := 0, pos := "ref.go:48", after := #[{ on := 16, ground := Ground.data }, { on := 15, ground := Ground.data }, { on := 0, ground := Ground.phase }, { on := 1, ground := Ground.phase }, { on := 2, ground := Ground.phase }, { on := 3, ground := Ground.phase }, { on := 4, ground := Ground.phase }, { on := 5, ground := Ground.phase }, { on := 6, ground := Ground.phase }, { on := 7, ground := Ground.phase }, { on := 8, ground := Ground.phase }, { on := 9, ground := Ground.phase }, { on := 10, ground := Ground.phase }, { on := 11, ground := Ground.phase }, { on := 12, ground := Ground.phase }, { on := 13, ground := Ground.phase }, { on := 14, ground := Ground.phase }, { on := 15, ground := Ground.phase }], guard := none }) rfl (fun K hK => ?_) AllReadyH.nil)
        go_simp
        clear hHeld
        refine hK.out _ _ (trivial) (fun hHeld => ?_)
        clear hK K
        try simp only [Act.put, List.setIfInBounds_toArray, List.set_cons_zero, List.set_cons_succ]
        clear hHeld
        refine wpAnyH_done (by kernel_rfl) ?_ _
        skip
        go_wp2
        go_roundg g'
        case measure => omega
        case rel =>
          have hset : xs.set m (cur ++ s.extract k (k + 1)) = pre ++ [cur ++ s.extract k (k + 1)] := by
            rw [HX.out, HM.out, List.set_append_right _ _ (Nat.le_refl _), Nat.sub_self]
            rfl
          have hn1 : n = m + 1 := by omega
          have HO1 := HO.out
          rw [← HN.out, hn1] at HO1
          refine ⟨k + 1, pre, cur ++ s.extract k (k + 1), by omega, by go_num, ?_, ?_, by have := HM.out; omega, by simp; omega, ?_⟩
          · rw [← hset]
            first
            | exact (HO1.stp0 ((Stp.refl _ _).drew)).set_ m _
            | exact (HO1.set_ m _).stp0 ((Stp.refl _ _).drew)
          · rw [HSP.out, drop_at s k hlt, glue_miss _ _ _ _ HC.out]
            congr 2
            rw [extract_strB, show (s.data.toList.take (k + 1)).drop k = [s[k]] by
              rw [← List.take_append_drop k s.data.toList, drop_at s k hlt, List.take_append, List.take_of_length_le (by rw [List.length_take]; omega)]
              have e : (s.data.toList.take k).length = k := by rw [List.length_take, size_list]; omega
              rw [List.drop_append, e, List.drop_of_length_le (by rw [e]; exact Nat.le_refl _), show k + 1 - k = 1 by omega, show k - k = 0 by omega]
              rfl]
            simp [strB]
          · first
            | exact HS.out.new (((Stp.refl (fun k => k = g) wr).drew).setg m _) hg1
            | exact HS.out.new (((Stp.refl (fun k => k = g) wr).setg m _).drew) hg1
    · go_wp2
      go_ret
      have : k = s.size := by omega
      subst this
      refine ⟨_, xs, rfl, ?_, HO.out, HS.out⟩
      rw [HSP.out, List.drop_of_length_le (by rw [size_list]; exact Nat.le_refl _), HX.out]
      simp [splitC, glue]
end Go.Proofs.YtligofmhbbgalaaGreatDoor.L
