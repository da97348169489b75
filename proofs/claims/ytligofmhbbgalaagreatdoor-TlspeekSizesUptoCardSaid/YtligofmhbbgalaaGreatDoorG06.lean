/- Texts of the proof, joined: Se Sx El Wt Fw Om Eo Hw He. -/
import Derived.Test.YtligofmhbbgalaaGreatDoorG05
import Derived.Test.YtligofmhbbgalaaGreatDoorG01
import Derived.Test.YtligofmhbbgalaaGreatDoorG02
import Derived.Maps.OwnOps
import Derived.Maps.Views
import Derived.Maps.OwnSet
set_option linter.unusedVariables false
set_option linter.unusedSimpArgs false
/- What is seen is compared; whether a hello is short. -/
namespace Go.Proofs.YtligofmhbbgalaaGreatDoor.L
open Go.RowKit Go.Proofs

theorem iff_t {p : Prop} (h : p) : (true = true ↔ p) := ⟨fun _ => h, fun _ => rfl⟩
theorem iff_f {p : Prop} (h : ¬ p) : (false = true ↔ p) := ⟨fun e => (by cases e), fun e => absurd e h⟩
theorem protS_len (d : List UInt8) : (protS d).1.length ≤ d.length := by
  unfold protS
  split
  · exact walkS_len _ _
  · simp
theorem versS_len (d : List UInt8) : (versS d).1.length ≤ d.length := by
  unfold versS
  split
  · exact Nat.le_trans (twos_len _) (rvec_len1 (d, false) 1)
  · simp
theorem seeS_len (xs : List (Int × List UInt8)) (N : Nat) (h : ∀ x ∈ xs, x.2.length ≤ N) : (seeS xs).1.alpn.length ≤ N ∧ (seeS xs).1.vers.length ≤ N := by
  have h1 : (alP xs).1.length ≤ N := by
    unfold alP
    split
    · exact Nat.le_trans (protS_len _) (findS_len _ _ _ h)
    · simp
  have h2 : (vsP xs).1.length ≤ N := by
    unfold vsP
    split
    · exact Nat.le_trans (versS_len _) (findS_len _ _ _ h)
    · simp
  unfold seeS
  (repeat' split) <;> simp [Sn.zero, h1, h2]

set_option maxHeartbeats 4000000 in
theorem sameSn_any (M : Nat → Prop) (v0 v1 : Value) (s t : Sn) (w : World) (h0 : IsSn M w v0 s) (h1 : IsSn M w v1 t) (hl : s.alpn.length ≤ 1000000000 ∧ s.vers.length ≤ 1000000000) (hl2 : t.alpn.length ≤ 1000000000 ∧ t.vers.length ≤ 1000000000) (b : Bool) (hb : b = true ↔ s = t) :
    Calls Tryz.prog 19 #[v0, v1] w fun e w' => e = .returned (.bool b) ∧ Stp (fun _ => False) w w' := by
  obtain ⟨va, vv, rfl, ha, hv⟩ := h0
  obtain ⟨ua, uv, rfl, ka, kv⟩ := h1
  obtain ⟨A0, c0, rfl, hle0⟩ := ha.form
  obtain ⟨A1, c1, rfl, hle1⟩ := hv.form
  obtain ⟨A2, c2, rfl, hle2⟩ := ka.form
  obtain ⟨A3, c3, rfl, hle3⟩ := kv.form
  obtain ⟨sh, sn, sa, sv, se⟩ := s
  obtain ⟨th, tn, ta, tv, te⟩ := t
  simp only at ha hv ka kv hl hl2 hle0 hle1 hle2 hle3 ⊢
  obtain ⟨hl3, hl4⟩ := hl
  obtain ⟨hl5, hl6⟩ := hl2
  have HA := Lib.hid ha
  have HV := Lib.hid hv
  have KA := Lib.hid ka
  have KV := Lib.hid kv
  have HB := Lib.hid hb
  clear ha hv ka kv hb
  by_cases d1 : sh = th
  · have e1 : (sh == th) = true := by simpa using d1
    by_cases d2 : sn = tn
    · have e2 : (sn.toList == tn.toList) = true := by rw [d2]; simp
      have hse := (((Stp.refl (fun _ => False) w).alloc (.cells #[.bool sh, .string sn, .slice A0 sa.length c0, .slice A1 sv.length c1, .bool se] 29)).alloc (.cells #[.bool th, .string tn, .slice A2 ta.length c2, .slice A3 tv.length c3, .bool te] 29))
      have hk0 := (((Stp.refl (fun _ => False) (w.alloc (.cells #[.bool sh, .string sn, .slice A0 sa.length c0, .slice A1 sv.length c1, .bool se] 29)))).alloc (.cells #[.bool th, .string tn, .slice A2 ta.length c2, .slice A3 tv.length c3, .bool te] 29)).blk (heap_alloc_new w _) id
      have hk1 := heap_alloc_new (w.alloc (.cells #[.bool sh, .string sn, .slice A0 sa.length c0, .slice A1 sv.length c1, .bool se] 29)) (.cells #[.bool th, .string tn, .slice A2 ta.length c2, .slice A3 tv.length c3, .bool te] 29)
      have hsz : (w.alloc (.cells #[.bool sh, .string sn, .slice A0 sa.length c0, .slice A1 sv.length c1, .bool se] 29)).heap.size = w.heap.size + 1 := by simp
      rw [hsz] at hk1
      clear hsz
      have HSE := Lib.hid hse
      have HK0 := Lib.hid hk0
      have HK1 := Lib.hid hk1
      have D1 := Lib.hid d1
      have D2 := Lib.hid d2
      clear hse hk0 hk1 d1 d2
      by_cases d3 : sa = ta
      · have D3 := Lib.hid d3
        have D3' := Lib.hid d3
        clear d3
        by_cases d4 : sv = tv
        · have D4' := Lib.hid d4
          have hbb : b = (se == te) := by
            rw [Bool.eq_iff_iff, HB.out, D1.out, D2.out, D3.out, d4]
            simp
          have HBB := Lib.hid hbb
          clear hbb d4
          go_enter Tryz.func19, Tryz.ntmps19
          go_wp2_with (go_at_call 18; refine stopc ?_)
          refine Stop.go ?_
          refine (rows_any M _ _ _ _ _ (HA.out.stp0 HSE.out) (KA.out.stp0 HSE.out) hl3 hl5 true (iff_t D3'.out)).mono ?_
          rintro e w2 ⟨rfl, hs2⟩
          have hk0 := hs2.blk HK0.out id
          have hk1 := hs2.blk HK1.out id
          have hc03 := blk_cell (j := 3) hk0
          have hc13 := blk_cell (j := 3) hk1
          have HK0 := Lib.hid hk0
          have HK1 := Lib.hid hk1
          have HS2 := Lib.hid hs2
          clear hk0 hk1 hs2
          go_wp2_with (go_at_call 46; refine stopc ?_)
          refine Stop.go ?_
          refine (ints_any M _ _ _ _ _ (HV.out.stp0 (HSE.out.trans HS2.out)) (KV.out.stp0 (HSE.out.trans HS2.out)) hl4 hl6 true (iff_t D4'.out)).mono ?_
          rintro e w3 ⟨rfl, hs3⟩
          have hk0 := hs3.blk HK0.out id
          have hk1 := hs3.blk HK1.out id
          have hc04 := blk_cell (j := 4) hk0
          have hc14 := blk_cell (j := 4) hk1
          have HK0 := Lib.hid hk0
          have HK1 := Lib.hid hk1
          have HS3 := Lib.hid hs3
          clear hk0 hk1 hs3
          clear hc03 hc13
          go_wp2
          go_ret
          exact ⟨by rw [HBB.out]; rfl, HSE.out.trans (HS2.out.trans HS3.out)⟩
        · have D4' := Lib.hid d4
          have hbb : b = false := by
            rw [Bool.eq_false_iff]
            intro h
            have := HB.out.1 h
            injection this with _ _ _ h4
            exact d4 h4
          have HBB := Lib.hid hbb
          clear hbb d4
          go_enter Tryz.func19, Tryz.ntmps19
          go_wp2_with (go_at_call 18; refine stopc ?_)
          refine Stop.go ?_
          refine (rows_any M _ _ _ _ _ (HA.out.stp0 HSE.out) (KA.out.stp0 HSE.out) hl3 hl5 true (iff_t D3'.out)).mono ?_
          rintro e w2 ⟨rfl, hs2⟩
          have hk0 := hs2.blk HK0.out id
          have hk1 := hs2.blk HK1.out id
          have hc03 := blk_cell (j := 3) hk0
          have hc13 := blk_cell (j := 3) hk1
          have HK0 := Lib.hid hk0
          have HK1 := Lib.hid hk1
          have HS2 := Lib.hid hs2
          clear hk0 hk1 hs2
          go_wp2_with (go_at_call 46; refine stopc ?_)
          refine Stop.go ?_
          refine (ints_any M _ _ _ _ _ (HV.out.stp0 (HSE.out.trans HS2.out)) (KV.out.stp0 (HSE.out.trans HS2.out)) hl4 hl6 false (iff_f D4'.out)).mono ?_
          rintro e w3 ⟨rfl, hs3⟩
          have HS3 := Lib.hid hs3
          clear hs3
          clear hc03 hc13
          go_wp2
          go_ret
          exact ⟨by rw [HBB.out]; rfl, HSE.out.trans (HS2.out.trans HS3.out)⟩
      · have D3' := Lib.hid d3
        have hbb : b = false := by
          rw [Bool.eq_false_iff]
          intro h
          have := HB.out.1 h
          injection this with _ _ h3
          exact d3 h3
        have HBB := Lib.hid hbb
        clear hbb d3
        go_enter Tryz.func19, Tryz.ntmps19
        go_wp2_with (go_at_call 18; refine stopc ?_)
        refine Stop.go ?_
        refine (rows_any M _ _ _ _ _ (HA.out.stp0 HSE.out) (KA.out.stp0 HSE.out) hl3 hl5 false (iff_f D3'.out)).mono ?_
        rintro e w2 ⟨rfl, hs2⟩
        have HS2 := Lib.hid hs2
        clear hs2
        go_wp2
        go_ret
        exact ⟨by rw [HBB.out]; rfl, HSE.out.trans HS2.out⟩
    · have e2 : (sn.toList == tn.toList) = false := ba_ne d2
      have hbb : b = false := by
        rw [Bool.eq_false_iff]
        intro h
        have := HB.out.1 h
        injection this with _ h2
        exact d2 h2
      have HBB := Lib.hid hbb
      clear hbb d1 d2
      go_enter Tryz.func19, Tryz.ntmps19
      go_wp2
      go_ret
      exact ⟨by rw [HBB.out]; rfl, ((Stp.refl _ _).alloc _).alloc _⟩
  · have e1 : (sh == th) = false := by simpa using d1
    have hbb : b = false := by
      rw [Bool.eq_false_iff]
      intro h
      have := HB.out.1 h
      injection this with h1
      exact d1 h1
    have HBB := Lib.hid hbb
    clear hbb d1
    go_enter Tryz.func19, Tryz.ntmps19
    go_wp2
    go_ret
    exact ⟨by rw [HBB.out]; rfl, ((Stp.refl _ _).alloc _).alloc _⟩

/-- How much a hello holds. -/
def fewN (h : Hl) : Nat := h.ses.length + 2 * h.cip.length + h.met.length + (h.exs.map fun x => 4 + x.2.length).sum
theorem arr_get {cs : Array Value} {i : Nat} {v : Value} (hi : i < cs.size) (h : cs.toList[i]? = some v) : cs[i] = v := by
  rw [Array.getElem?_toList, Array.getElem?_eq_getElem hi] at h
  injection h
theorem hl_get {cs : Array Value} {h : Hl} {vs vc vm vx : Value} (e : cs.toList = hlV h vs vc vm vx) (hr : h.rnd.length = 32) :
    ∃ hs : cs.size = 38, cs[0] = .int .i64 h.ver ∧ cs[33] = vs ∧ cs[34] = vc ∧ cs[35] = vm ∧ cs[36] = .bool h.has ∧ cs[37] = vx := by
  have hs : cs.size = 38 := by
    rw [← Array.length_toList, e]
    simp [hlV, hr]
  refine ⟨hs, ?_, ?_, ?_, ?_, ?_, ?_⟩ <;> (apply arr_get; rw [e]; simp [hlV, List.getElem?_append, hr])

/-- None of a hello's parts is greater than a machine's memory. -/
structure HlFit (h : Hl) : Prop where
  ses : h.ses.length ≤ 140737488355328
  cip : h.cip.length ≤ 140737488355328
  met : h.met.length ≤ 140737488355328
  exs : h.exs.length ≤ 140737488355328
  dat : ∀ x ∈ h.exs, x.2.length ≤ 140737488355328
  ver : -9223372036854775808 ≤ h.ver ∧ h.ver ≤ 9223372036854775807
  knd : ∀ x ∈ h.exs, (Lit.int .i64 x.1).wf = true

end Go.Proofs.YtligofmhbbgalaaGreatDoor.L

/- ExtsReads, ExtsSees: the walks. -/
namespace Go.Proofs.YtligofmhbbgalaaGreatDoor.L
open Go.RowKit Go.Proofs

theorem IsSn.step {M S : Nat → Prop} {W W1 : World} {v : Value} {s : Sn} (h : IsSn M W v s) (hs : Stp S W W1) (hS : ∀ k, k < W.heap.size → S k → M k) : IsSn M W1 v s := by
  obtain ⟨va, vv, e, h1, h2⟩ := h
  exact ⟨va, vv, e, h1.step hs hS, h2.step hs hS⟩
theorem IsSn.stp0 {M : Nat → Prop} {W W1 : World} {v : Value} {s : Sn} (h : IsSn M W v s) (hs : Stp (fun _ => False) W W1) : IsSn M W1 v s := h.step hs (fun _ _ h => h.elim)
theorem IsSn.weak {M : Nat → Prop} {W : World} {v : Value} {s : Sn} (h : IsSn M W v s) (M' : Nat → Prop) (hM : ∀ k, k < W.heap.size → M' k → M k) : IsSn M' W v s := by
  obtain ⟨va, vv, e, h1, h2⟩ := h
  exact ⟨va, vv, e, h1.weak (by decide) hM, h2.weak (by decide) hM⟩
end Go.Proofs.YtligofmhbbgalaaGreatDoor.L

/- What an argument reads as, and that none of its parts is greater than a machine's memory: kinds alone. No function of the program. -/
namespace Go.Proofs.YtligofmhbbgalaaGreatDoor.L
open Go.RowKit Go.ChangeShapes Go.WideShapes Go.Deep
variable {P : Program} {α β : Type}

/-- What the kind's data tree reads as, if none of its parts is too great. -/
def FitW (P : Program) (e : TypeId) (d : Kind α) (ok : α → Prop) : Prop :=
  ∀ (H : Type) (enc : TypeId × Value → H) (W : World) (base : Nat) (sp : Nat → Bool) (held : Bool) (fuel : Nat) (cs : List Value) (x : DataW H × List MemPlace),
    DataW.trod enc P W base sp held fuel e cs = some x → (∀ n ∈ x.1.weights P e, n ≤ reachBytes) → ∃ a, d.K (newB W) W a cs ∧ ok a
theorem Fit.w {e : TypeId} {d : Kind α} {ok : α → Prop} (h : Fit P e d ok) : FitW P e d ok := fun _ enc W base sp held fuel cs x hx _ => h enc W base sp held fuel cs x hx

end Go.Proofs.YtligofmhbbgalaaGreatDoor.L

/- hello: what is wrong of one that is laid out. -/
namespace Go.Proofs.YtligofmhbbgalaaGreatDoor.L
open Go.RowKit Go.Proofs Go.Maps

theorem indexB_any (M : Nat → Prop) (v0 : Value) (x : UInt8) (ss : List UInt8) (w : World) (hd : Rd u8 M w v0 ss) (hl : ss.length ≤ 140737488355328) :
    Calls Tryz.prog 186 #[v0, .int .u8 x.toNat] w fun e w' => (∃ r : Int, e = .returned (.int .i64 r) ∧ (0 ≤ r ↔ x ∈ ss)) ∧ w = w' := by
  obtain ⟨A0, c0, rfl, hle0⟩ := hd.form
  have HD := Lib.hid hd
  clear hd
  go_enter Tryz.func186, Tryz.ntmps186
  go_wp2
  go_loop [5, 8] (fun _ i => ∃ k : Nat, k ≤ ss.length ∧ i = .int .i64 k ∧ ∀ j (hj : j < ss.length), j < k → ss[j] ≠ x) (fun _ i => ss.length - (intOf i).toNat)
  case atStart => exact ⟨0, Nat.zero_le _, rfl, fun j _ h => absurd h (by omega)⟩
  case round =>
    obtain ⟨k, hk, rfl, hall⟩ := hrel
    have HALL := Lib.hid hall
    clear hall
    by_cases hlt : k < ss.length
    · obtain ⟨ad, rfl, _, hcell⟩ := plain_cell HD.out k hlt
      simp only [enc8] at hcell
      by_cases he : ss[k] = x
      · have hb : ((x.toNat : Int) == (ss[k].toNat : Int)) = true := by rw [he]; simp
        go_wp2
        go_ret
        refine ⟨⟨_, rfl, ?_⟩, rfl⟩
        have : x ∈ ss := by rw [← he]; exact List.getElem_mem hlt
        simp [this]
      · have hb : ((x.toNat : Int) == (ss[k].toNat : Int)) = false := by
          rw [beq_eq_false_iff_ne]
          intro h
          exact he (UInt8.toNat_inj.1 (by omega))
        go_wp2
        go_round
        case rel =>
          refine ⟨k + 1, by omega, by go_num, fun j hj h => ?_⟩
          by_cases hjk : j = k
          · subst hjk
            exact he
          · exact HALL.out j hj (by omega)
        case measure => simp [intOf]; omega
    · obtain rfl : k = ss.length := by omega
      have hn : ¬ x ∈ ss := fun h => by
        obtain ⟨j, hj, rfl⟩ := List.mem_iff_getElem.1 h
        exact HALL.out j hj hj rfl
      have HN := Lib.hid hn
      clear hn
      go_wp2
      go_ret
      exact ⟨⟨_, rfl, by simp [HN.out]⟩, rfl⟩

theorem containsB_any (M : Nat → Prop) (v0 : Value) (x : UInt8) (ss : List UInt8) (w : World) (hd : Rd u8 M w v0 ss) (hl : ss.length ≤ 140737488355328) (b : Bool) (hb : b = true ↔ x ∈ ss) :
    Calls Tryz.prog 163 #[v0, .int .u8 x.toNat] w fun e w' => e = .returned (.bool b) ∧ w = w' := by
  obtain ⟨A0, c0, rfl, hle0⟩ := hd.form
  have HD := Lib.hid hd
  have HB := Lib.hid hb
  clear hd hb
  go_enter Tryz.func163, Tryz.ntmps163
  go_wp2_with (go_at_call 186; refine stopc ?_)
  refine Stop.go ?_
  refine (indexB_any M _ x ss _ HD.out hl).mono ?_
  rintro e w' ⟨⟨r, rfl, hr⟩, rfl⟩
  have hbb : decide (0 ≤ r) = b := by rw [Bool.eq_iff_iff, HB.out, decide_eq_true_eq]; exact hr
  have HBB := Lib.hid hbb
  have HR := Lib.hid hr
  clear hbb hr
  go_wp2
  go_ret
  exact ⟨by rw [← HBB.out]; rfl, rfl⟩

/-- Whether a kind stands there twice. -/
def dup (xs : List (Int × List UInt8)) : Bool := decide (¬ (xs.map (·.1)).Nodup)
/-- What is wrong of a hello. -/
def wrongH (h : Hl) : Int := if h.ver < 768 ∨ 1023 < h.ver then 5 else if 32 < h.ses.length then 6 else if (0 : UInt8) ∉ h.met then 8 else if dup h.exs = true then 7 else 0

theorem stopv {P : Program} {ops : Array Oper} {rest : List Oper} {o : Oper} {a : Act} {Q : Exit → Act → World → Prop} {W : World} (h : Stop (wpList P ops Q (o :: rest) a W)) : wpList P ops Q (o :: rest) a W := by
  unfold Stop at h
  exact h
theorem law_int : Keyed Tryz.prog 3 := int_keyed Tryz.underlying3
theorem zero_int (w : World) : (zeroValue 3).run Tryz.prog w = .ok (.int .i64 0) w := by kernel_rfl
theorem nodup_snoc {α : Type} [DecidableEq α] (l : List α) (x : α) : (l ++ [x]).Nodup ↔ l.Nodup ∧ x ∉ l := by
  rw [List.nodup_append]
  simp
  intro _
  constructor
  · intro h hx
    exact h x hx rfl
  · intro h a ha he
    subst he
    exact h ha

set_option maxRecDepth 100000 in
set_option maxHeartbeats 4000000 in
theorem twice_any (M : Nat → Prop) (v0 : Value) (xs : List (Int × List UInt8)) (w : World) (hd : Rd extK M w v0 xs) (hl : xs.length ≤ 1000000000) (hw : ∀ x ∈ xs, (Lit.int .i64 x.1).wf = true) :
    Calls Tryz.prog 164 #[v0] w fun e w' => e = .returned (.bool (dup xs)) ∧ Stp (fun _ => False) w w' := by
  obtain ⟨A0, c0, rfl, hle0⟩ := hd.form
  have HD := Lib.hid hd
  have HW := Lib.hid hw
  clear hd hw
  have hmm := @run_makeMap Tryz.prog
  go_enter Tryz.func164, Tryz.ntmps164
  go_wp2
  go_loopw [5, 9] (fun _ i wr => ∃ (k : Nat) (D : DataW Unit), k ≤ xs.length ∧ i = .int .i64 k ∧ ((xs.take k).map (·.1)).Nodup ∧ wr.ownsMap Tryz.prog 3 (plainElem (H := Unit) Tryz.prog 3) w.heap.size k D ∧ IsMap D ∧ (∀ n, D.atKey (.int .i64 n) (.lit (.int .i64 0)) = .lit (.int .i64 (if n ∈ (xs.take k).map (·.1) then 1 else 0))) ∧ Stp (fun _ => False) w wr) (fun _ i _ => xs.length - (intOf i).toNat)
  case atStart => exact ⟨0, _, Nat.zero_le _, rfl, by simp, World.ownsMap_made _ _ _ _, isMap_empty, fun n => by simp; rfl, (Stp.refl _ _).alloc _⟩
  case round =>
    obtain ⟨k, D, hk, rfl, hnd, hown, hmap, hat, hs⟩ := hrel
    have HND := Lib.hid hnd
    have HMAP := Lib.hid hmap
    have HAT := Lib.hid hat
    have HS := Lib.hid hs
    clear hnd hmap hat hs
    by_cases hlt : k < xs.length
    · obtain ⟨ad, v, rfl, hnM, hcell1, hcell2, hv⟩ := ext_cell (HD.out.stp0 HS.out) k hlt
      obtain ⟨Av, cv, rfl, hlev⟩ := hv.form
      clear hv
      have hwx := HW.out _ (List.getElem_mem hlt)
      have hkey := keyOf_int_mk (P := Tryz.prog) (k := 3) Tryz.underlying3 hwx
      have HKEY := Lib.hid hkey
      clear hkey hwx
      obtain ⟨x, hx⟩ : ∃ x, x = xs[k].1 := ⟨_, rfl⟩
      rw [← hx] at hcell1 HKEY
      have htk : ((xs.take (k + 1)).map (·.1)) = (xs.take k).map (·.1) ++ [x] := by rw [take_snoc _ _ hlt, List.map_append, hx]; rfl
      have HTK := Lib.hid htk
      clear htk
      clear hx
      go_wp2_with (with_reducible refine stop (N := 16) rfl ?_)
      refine Stop.go ?_
      have hown1 := hown.alloc (.cells #[.int .i64 x, .slice Av xs[k].2.length cv] 71)
      refine wpList_lookup_own_int _ rfl _ _ 202 rfl 3 3 .i64 law_int Tryz.underlying202 Tryz.underlying3 (zero_int _) w.heap.size k _ rfl hown1 _ _ rfl HKEY.out ?_
      intro c hc hwc
      rw [HAT.out x] at hc
      have hce : c = if x ∈ (xs.take k).map (·.1) then 1 else 0 := by injection hc with hc; injection hc with _ hc; exact hc.symm
      clear hc hwc
      by_cases hin : x ∈ (xs.take k).map (·.1)
      · rw [if_pos hin] at hce
        subst hce
        have hdup : dup xs = true := by
          unfold dup
          rw [decide_eq_true_eq]
          intro hn
          have h1 : ((xs.take (k + 1)).map (·.1)).Nodup := by rw [List.map_take]; exact hn.sublist (List.take_sublist _ _)
          rw [HTK.out, nodup_snoc] at h1
          exact h1.2 hin
        have HDUP := Lib.hid hdup
        clear hdup
        clear hin
        go_wp2_with (at_mapUpdate; refine stopv ?_)
        refine Stop.go ?_
        refine wpList_mapUpdate_own _ rfl _ _ _ 202 rfl 3 3 law_int Tryz.underlying202 _ w.heap.size k _ rfl hown1 (by unfold maxLen; omega) _ _ _ rfl rfl HKEY.out (.lit (.int .i64 2)) [] (plainElem_int Tryz.underlying3 (by decide)) ?_
        intro w1 hown2 hgrow
        have hblk := hgrow.block wr.heap.size (by simp) (by have := hown.lt; intro h; injection h with h; omega)
        have hb2 := hblk.trans (heap_alloc_new wr _)
        have hcn := blk_cell (j := 0) hb2
        have hstp : Stp (fun k => k = w.heap.size) wr w1 := ((Stp.refl _ _).alloc _).grown hgrow (fun k hk _ => by injection hk with hk; exact hk.symm)
        have HS1 := Lib.hid (HS.out.then_ hstp (fun k hk he => by omega))
        clear hblk hb2 hgrow hstp
        go_wp2_with (with_reducible refine stop (N := 21) rfl ?_)
        refine Stop.go ?_
        refine wpList_lookup_own_int _ rfl _ _ 202 rfl 3 3 .i64 law_int Tryz.underlying202 Tryz.underlying3 (zero_int _) w.heap.size (k + 1) _ rfl hown2 _ _ rfl HKEY.out ?_
        intro c hc hwc
        rw [atKey_put_same (k := .int .i64 x) HMAP.out trivial] at hc
        have hce : c = 2 := by injection hc with hc; injection hc with _ hc; exact hc.symm
        subst hce
        clear hc hwc
        go_wp2
        go_ret
        exact ⟨by rw [HDUP.out]; rfl, HS1.out⟩
      · rw [if_neg hin] at hce
        subst hce
        have HIN := Lib.hid hin
        clear hin
        go_wp2_with (at_mapUpdate; refine stopv ?_)
        refine Stop.go ?_
        refine wpList_mapUpdate_own _ rfl _ _ _ 202 rfl 3 3 law_int Tryz.underlying202 _ w.heap.size k _ rfl hown1 (by unfold maxLen; omega) _ _ _ rfl rfl HKEY.out (.lit (.int .i64 1)) [] (plainElem_int Tryz.underlying3 (by decide)) ?_
        intro w1 hown2 hgrow
        have hblk := hgrow.block wr.heap.size (by simp) (by have := hown.lt; intro h; injection h with h; omega)
        have hb2 := hblk.trans (heap_alloc_new wr _)
        have hcn := blk_cell (j := 0) hb2
        have hstp : Stp (fun k => k = w.heap.size) wr w1 := ((Stp.refl _ _).alloc _).grown hgrow (fun k hk _ => by injection hk with hk; exact hk.symm)
        have HS1 := Lib.hid (HS.out.then_ hstp (fun k hk he => by omega))
        clear hblk hb2 hgrow hstp
        go_wp2_with (with_reducible refine stop (N := 21) rfl ?_)
        refine Stop.go ?_
        refine wpList_lookup_own_int _ rfl _ _ 202 rfl 3 3 .i64 law_int Tryz.underlying202 Tryz.underlying3 (zero_int _) w.heap.size (k + 1) _ rfl hown2 _ _ rfl HKEY.out ?_
        intro c hc hwc
        rw [atKey_put_same (k := .int .i64 x) HMAP.out trivial] at hc
        have hce : c = 1 := by injection hc with hc; injection hc with _ hc; exact hc.symm
        subst hce
        clear hc hwc
        go_wp2
        go_roundw
        case rel =>
          refine ⟨k + 1, _, by omega, by go_num, by rw [HTK.out, nodup_snoc]; exact ⟨HND.out, HIN.out⟩, hown2, HMAP.out.put _ _, fun n => ?_, HS1.out⟩
          rw [HTK.out]
          by_cases hn : n = x
          · subst hn
            rw [atKey_put_same (k := .int .i64 n) HMAP.out trivial]
            simp
          · rw [atKey_put_other (by intro h; injection h with _ h; exact hn h), HAT.out n]
            simp [hn]
        case measure => simp [intOf]; omega
    · obtain rfl : k = xs.length := by omega
      rw [List.take_length] at HND
      go_wp2
      go_ret
      exact ⟨by simp [dup, HND.out], HS.out⟩

set_option maxRecDepth 100000 in
set_option maxHeartbeats 4000000 in
theorem wrongH_any (M : Nat → Prop) (cs : Array Value) (h : Hl) (w : World) (hh : IsHl M w cs h) (hf : HlFit h) (hl : h.exs.length ≤ 1000000000) :
    Calls Tryz.prog 140 #[.agg cs] w fun e w' => e = .returned (.int .i64 (wrongH h)) ∧ Stp (fun _ => False) w w' := by
  obtain ⟨ver, rnd, ses, cip, met, has, exs⟩ := h
  obtain ⟨vs, vc, vm, vx, e, hr, h1, h2, h3, h4⟩ := hh
  obtain ⟨f1, f2, f3, f4, f5, f6, hw⟩ := hf
  obtain ⟨hcs, hc0, hc33, hc34, hc35, -, hc37⟩ := hl_get e hr
  simp only at h1 h2 h3 h4 f1 f2 f3 f4 f5 f6 hl hc0 hw
  obtain ⟨A1, c1, rfl, hle1⟩ := h1.form
  obtain ⟨A2, c2, rfl, hle2⟩ := h2.form
  obtain ⟨A3, c3, rfl, hle3⟩ := h3.form
  obtain ⟨A4, c4, rfl, hle4⟩ := h4.form
  have hs := (Stp.refl (fun _ => False) w).alloc (.cells cs 69)
  have H3 := Lib.hid (h3.stp0 hs)
  have H4 := Lib.hid (h4.stp0 hs)
  have HS := Lib.hid hs
  have HW := Lib.hid hw
  have HWS := Lib.hid (show wrongH ⟨ver, rnd, ses, cip, met, has, exs⟩ = if ver < 768 ∨ 1023 < ver then 5 else if 32 < ses.length then 6 else if (0 : UInt8) ∉ met then 8 else if dup exs = true then 7 else 0 from rfl)
  clear e hr h1 h2 h3 h4 f5 hs hw f6
  by_cases hv : ver < 768 ∨ 1023 < ver
  · have e1 : (ver / 256 != 3) = true := by simp; omega
    rw [if_pos hv] at HWS
    clear hv
    go_enter Tryz.func140, Tryz.ntmps140
    go_wp2
    go_ret
    exact ⟨by rw [HWS.out]; rfl, HS.out⟩
  rw [if_neg hv] at HWS
  have e1 : (ver / 256 != 3) = false := by simp; omega
  clear hv
  by_cases hse : 32 < ses.length
  · have e2 : (32 : Int) < ses.length := by omega
    rw [if_pos hse] at HWS
    clear hse
    go_enter Tryz.func140, Tryz.ntmps140
    go_wp2
    go_ret
    exact ⟨by rw [HWS.out]; rfl, HS.out⟩
  rw [if_neg hse] at HWS
  have e2 : ¬ (32 : Int) < ses.length := by omega
  clear hse
  by_cases hm : (0 : UInt8) ∉ met
  · rw [if_pos hm] at HWS
    have HM := Lib.hid hm
    clear hm
    go_enter Tryz.func140, Tryz.ntmps140
    go_wp2_with (go_at_call 163; refine stopc ?_)
    refine Stop.go ?_
    refine (containsB_any M _ 0 met _ H3.out f3 false (iff_f HM.out)).mono ?_
    rintro e w' ⟨rfl, rfl⟩
    go_wp2
    go_ret
    exact ⟨by rw [HWS.out]; rfl, HS.out⟩
  rw [if_neg hm] at HWS
  have HM := Lib.hid (Decidable.not_not.1 hm)
  clear hm
  obtain ⟨b, hb⟩ : ∃ b, b = dup exs := ⟨_, rfl⟩
  rw [← hb] at HWS
  have HB := Lib.hid hb
  clear hb
  go_enter Tryz.func140, Tryz.ntmps140
  go_wp2_with (go_at_call 163; refine stopc ?_)
  refine Stop.go ?_
  refine (containsB_any M _ 0 met _ H3.out f3 true (iff_t HM.out)).mono ?_
  rintro e w' ⟨rfl, rfl⟩
  go_wp2_with (go_at_call 164; refine stopc ?_)
  refine Stop.go ?_
  refine (twice_any M _ exs _ H4.out hl HW.out).mono ?_
  rw [← HB.out]
  rintro e w2 ⟨rfl, hs2⟩
  have HS2 := Lib.hid (HS.out.trans hs2)
  clear hs2
  cases b with
  | true =>
    go_wp2
    go_ret
    exact ⟨by rw [HWS.out]; rfl, HS2.out⟩
  | false =>
    go_wp2
    go_ret
    exact ⟨by rw [HWS.out]; rfl, HS2.out⟩

/-- A bool tells whether. -/
def TellsH (b : Bool) (p : Prop) : Prop := b = true ↔ p
theorem TellsH.t {p : Prop} (h : p) : TellsH true p := ⟨fun _ => h, fun _ => rfl⟩
theorem TellsH.f {p : Prop} (h : ¬ p) : TellsH false p := ⟨fun e => (by cases e), fun e => absurd e h⟩
theorem TellsH.yes {p : Prop} (h : TellsH true p) : p := h.1 rfl
theorem TellsH.no {p : Prop} (h : TellsH false p) : ¬ p := fun e => by have := h.2 e; cases this
theorem TellsH.iff {b : Bool} {p : Prop} (h : TellsH b p) : b = true ↔ p := h
theorem tdiv3 (v : Int) (h : -9223372036854775808 ≤ v ∧ v ≤ 9223372036854775807) : (wrap64 (v.tdiv 256) != 3) = decide (v < 768 ∨ 1023 < v) := by
  have key : v.tdiv 256 = if 0 ≤ v then v / 256 else -((-v) / 256) := by
    split
    · exact Int.tdiv_eq_ediv_of_nonneg (by assumption)
    · have := Int.neg_tdiv (a := -v) (b := 256)
      rw [Int.neg_neg] at this
      rw [this, Int.tdiv_eq_ediv_of_nonneg (by omega)]
  have hw : wrap64 (v.tdiv 256) = v.tdiv 256 := by
    rw [key]
    unfold wrap64
    split <;> omega
  rw [hw, key, Bool.eq_iff_iff]
  simp
  split <;> omega
theorem kinds_get (xs : List (Int × List UInt8)) (k : Nat) (hk : k < xs.length) : ((xs.take (k + 1)).map (·.1)) = (xs.take k).map (·.1) ++ [xs[k].1] := by rw [take_snoc _ _ hk, List.map_append]; rfl

set_option maxRecDepth 100000 in
set_option maxHeartbeats 4000000 in
theorem wrongR_any (M : Nat → Prop) (cs : Array Value) (h : Hl) (w : World) (hh : IsHl M w cs h) (hf : HlFit h) (hl : h.exs.length ≤ 1000000000) :
    Calls Tryz.prog 84 #[.agg cs] w fun e w' => e = .returned (.int .i64 (wrongH h)) ∧ Stp (fun _ => False) w w' := by
  obtain ⟨ver, rnd, ses, cip, met, has, exs⟩ := h
  obtain ⟨vs, vc, vm, vx, e, hr, h1, h2, h3, h4⟩ := hh
  obtain ⟨f1, f2, f3, f4, f5, f6, hw⟩ := hf
  obtain ⟨hcs, hc0, hc33, hc34, hc35, -, hc37⟩ := hl_get e hr
  simp only at h1 h2 h3 h4 f1 f2 f3 f4 f5 f6 hl hc0
  obtain ⟨A1, c1, rfl, hle1⟩ := h1.form
  obtain ⟨A2, c2, rfl, hle2⟩ := h2.form
  obtain ⟨A3, c3, rfl, hle3⟩ := h3.form
  obtain ⟨A4, c4, rfl, hle4⟩ := h4.form
  have hs := (Stp.refl (fun _ => False) w).alloc (.cells cs 69)
  have H3 := Lib.hid (h3.stp0 hs)
  have H4 := Lib.hid (h4.stp0 hs)
  have HS := Lib.hid hs
  have hbk := heap_alloc_new w (.cells cs 69)
  have HBK := Lib.hid hbk
  have HWS := Lib.hid (show wrongH ⟨ver, rnd, ses, cip, met, has, exs⟩ = if ver < 768 ∨ 1023 < ver then 5 else if 32 < ses.length then 6 else if (0 : UInt8) ∉ met then 8 else if dup exs = true then 7 else 0 from rfl)
  clear e hr h1 h2 h3 h4 f5 hs hbk
  have hg33 : cs[33]? = some (.slice A1 ses.length c1) := by rw [Array.getElem?_eq_getElem (by omega), hc33]
  have hg35 : cs[35]? = some (.slice A3 met.length c3) := by rw [Array.getElem?_eq_getElem (by omega), hc35]
  have hg37 : cs[37]? = some (.slice A4 exs.length c4) := by rw [Array.getElem?_eq_getElem (by omega), hc37]
  have hg0 : cs[0]? = some (.int .i64 ver) := by rw [Array.getElem?_eq_getElem (by omega), hc0]
  have HG33 := Lib.hid hg33
  have HG35 := Lib.hid hg35
  have HG37 := Lib.hid hg37
  have HG0 := Lib.hid hg0
  clear hg33 hg35 hg37 hg0
  go_enter Tryz.func84, Tryz.ntmps84
  go_wp2
  go_loop [3, 4] (fun z i => ∃ (k : Nat) (b : Bool), k ≤ met.length ∧ i = .int .i64 k ∧ z = .bool b ∧ TellsH b ((0 : UInt8) ∈ met.take k)) (fun _ i => met.length - (intOf i).toNat)
  case atStart => exact ⟨0, false, Nat.zero_le _, rfl, rfl, TellsH.f (by simp)⟩
  case round =>
    obtain ⟨k, b, hk, rfl, rfl, hb⟩ := hrel
    have HB := Lib.hid hb
    clear hb
    by_cases hlt : k < met.length
    · have HTK := Lib.hid (take_snoc met k hlt)
      cases b with
      | true =>
        go_wp2
        go_round
        case rel => exact ⟨k + 1, true, by omega, by go_num, rfl, TellsH.t (by rw [HTK.out]; exact List.mem_append_left _ HB.out.yes)⟩
        case measure => simp [intOf]; omega
      | false =>
        have HN := Lib.hid HB.out.no
        obtain ⟨ad, rfl, _, hcell⟩ := plain_cell H3.out k hlt
        simp only [enc8] at hcell
        obtain ⟨m, hm⟩ : ∃ m, m = met[k] := ⟨_, rfl⟩
        rw [← hm] at hcell HTK
        clear hm
        obtain ⟨b2, hb2⟩ : ∃ b2, b2 = ((m.toNat : Int) == 0) := ⟨_, rfl⟩
        have HB2 := Lib.hid (show b2 = true ↔ m = 0 by
          rw [hb2, beq_iff_eq]
          constructor
          · intro h
            apply UInt8.toNat_inj.1
            simp
            omega
          · intro h
            rw [h]
            rfl)
        have hb2' := hb2.symm
        clear hb2
        go_wp2
        go_round
        case rel =>
          refine ⟨k + 1, b2, by omega, by go_num, rfl, ?_⟩
          unfold TellsH
          rw [HTK.out, HB2.out]
          simp [HN.out]
          exact ⟨fun h => h.symm, fun h => h.symm⟩
        case measure => simp [intOf]; omega
    · obtain rfl : k = met.length := by omega
      rw [List.take_length] at HB
      go_wp2
      go_loopw [5, 6, 7] (fun t i _ wr => ∃ (k : Nat) (b : Bool), k ≤ exs.length ∧ i = .int .i64 k ∧ t = .bool b ∧ TellsH b (¬ ((exs.take k).map (·.1)).Nodup) ∧ Stp (fun _ => False) (w.alloc (.cells cs 69)) wr) (fun _ i _ _ => exs.length - (intOf i).toNat)
      case atStart => exact ⟨0, false, Nat.zero_le _, rfl, rfl, TellsH.f (by simp), Stp.refl _ _⟩
      case round =>
        obtain ⟨wo, rfl⟩ : ∃ wo : World, wo = wr := ⟨_, rfl⟩
        obtain ⟨k, b2, hk2, rfl, rfl, hb2, hs2⟩ := hrel
        have hbo := hs2.blk HBK.out id
        have ho37 := blk_cell (j := 37) hbo
        have ho33 := blk_cell (j := 33) hbo
        have ho0 := blk_cell (j := 0) hbo
        rw [HG37.out] at ho37
        rw [HG33.out] at ho33
        rw [HG0.out] at ho0
        have HB2 := Lib.hid hb2
        have HS2 := Lib.hid hs2
        have HBO := Lib.hid hbo
        clear hb2 hs2 hbo
        by_cases hlt : k < exs.length
        · have HKG := Lib.hid (kinds_get exs k hlt)
          obtain ⟨x, hx⟩ : ∃ x, x = exs[k].1 := ⟨_, rfl⟩
          rw [← hx] at HKG
          have HX := Lib.hid hx
          clear hx
          go_wp2
          go_loopw [5, 7] (fun t i wx => ∃ (j : Nat) (b3 : Bool), j ≤ k ∧ i = .int .i64 j ∧ t = .bool b3 ∧ TellsH b3 (b2 = true ∨ x ∈ (exs.take j).map (·.1)) ∧ Stp (fun _ => False) (w.alloc (.cells cs 69)) wx) (fun _ i _ => k - (intOf i).toNat)
          case atStart => exact ⟨0, b2, Nat.zero_le _, rfl, rfl, by unfold TellsH; simp, HS2.out⟩
          case round =>
            obtain ⟨j, b3, hj, rfl, rfl, hb3, hs3⟩ := hrel
            have hbi := hs3.blk HBK.out id
            have hi37 := blk_cell (j := 37) hbi
            rw [HG37.out] at hi37
            have HB3 := Lib.hid hb3
            have HS3 := Lib.hid hs3
            have HBI := Lib.hid hbi
            clear hb3 hs3 hbi
            by_cases hjk : j < k
            · have hjl : j < exs.length := by omega
              have HKJ := Lib.hid (kinds_get exs j hjl)
              cases b3 with
              | true =>
                go_wp2_with fail
                go_quiet (fail)
                go_wp2
                go_roundw
                case rel => exact ⟨j + 1, true, by omega, by go_num, rfl, TellsH.t (by rcases HB3.out.yes with h | h; exact .inl h; exact .inr (by rw [HKJ.out]; exact List.mem_append_left _ h)), HS3.out.drewN _⟩
                case measure => simp [intOf]; omega
              | false =>
                have HN := Lib.hid HB3.out.no
                obtain ⟨ad, v, rfl, _, hcell1, _, _⟩ := ext_cell (H4.out.stp0 HS3.out) k hlt
                obtain ⟨ad', v', had, _, hcell2, _, _⟩ := ext_cell (H4.out.stp0 HS3.out) j hjl
                obtain rfl : ad = ad' := by injection had
                clear had
                rw [← HX.out] at hcell1
                obtain ⟨y, hy⟩ : ∃ y, y = exs[j].1 := ⟨_, rfl⟩
                rw [← hy] at hcell2 HKJ
                clear hy
                by_cases hxy : x = y
                · have he : (x == y) = true := by simpa using hxy
                  have HXY := Lib.hid hxy
                  clear hxy
                  go_wp2_with fail
                  go_quiet (fail)
                  go_wp2
                  go_roundw
                  case rel => exact ⟨j + 1, true, by omega, by go_num, rfl, TellsH.t (.inr (by rw [HKJ.out, HXY.out]; simp)), HS3.out.drewN _⟩
                  case measure => simp [intOf]; omega
                · have he : (x == y) = false := by simpa using hxy
                  have HXY := Lib.hid hxy
                  clear hxy
                  go_wp2_with fail
                  go_quiet (fail)
                  go_wp2
                  go_roundw
                  case rel =>
                    refine ⟨j + 1, false, by omega, by go_num, rfl, TellsH.f (fun h => ?_), HS3.out.drewN _⟩
                    rw [HKJ.out] at h
                    rcases h with h | h
                    · exact absurd (.inl h) HN.out
                    · rcases List.mem_append.1 h with h | h
                      · exact absurd (.inr h) HN.out
                      · exact absurd (List.mem_singleton.1 h) HXY.out
                  case measure => simp [intOf]; omega
            · obtain rfl : j = k := by omega
              go_wp2
              go_roundw
              case rel =>
                refine ⟨j + 1, b3, by omega, by go_num, rfl, ?_, HS3.out⟩
                have h2 := HB2.out.iff
                have h3 := HB3.out.iff
                unfold TellsH
                rw [h3, HKG.out, nodup_snoc, h2]
                exact ⟨fun h hn => h.elim (fun h => h hn.1) (fun h => hn.2 h), fun h => Classical.byContradiction fun hc => h ⟨Classical.byContradiction fun hd => hc (.inl hd), fun hd => hc (.inr hd)⟩⟩
              case measure => simp [intOf]; omega
        · obtain rfl : k = exs.length := by omega
          rw [List.take_length] at HB2
          have HDU := Lib.hid (show b2 = dup exs by rw [Bool.eq_iff_iff, HB2.out.iff]; simp [dup])
          rw [← HDU.out] at HWS
          by_cases hv : ver < 768 ∨ 1023 < ver
          · have e1 : (wrap64 (ver.tdiv 256) != 3) = true := by rw [tdiv3 ver f6]; simpa using hv
            rw [if_pos hv] at HWS
            clear hv f6
            go_wp2
            go_ret
            exact ⟨by rw [HWS.out]; rfl, HS.out.trans HS2.out⟩
          rw [if_neg hv] at HWS
          have e1 : (wrap64 (ver.tdiv 256) != 3) = false := by rw [tdiv3 ver f6]; simpa using hv
          clear hv f6
          by_cases hse : 32 < ses.length
          · have e2 : (32 : Int) < ses.length := by omega
            rw [if_pos hse] at HWS
            clear hse
            go_wp2
            go_ret
            exact ⟨by rw [HWS.out]; rfl, HS.out.trans HS2.out⟩
          rw [if_neg hse] at HWS
          have e2 : ¬ (32 : Int) < ses.length := by omega
          clear hse
          cases b with
          | false =>
            rw [if_pos HB.out.no] at HWS
            go_wp2
            go_ret
            exact ⟨by rw [HWS.out]; rfl, HS.out.trans HS2.out⟩
          | true =>
            rw [if_neg (fun h => h HB.out.yes)] at HWS
            cases b2 with
            | true =>
              go_wp2
              go_ret
              exact ⟨by rw [HWS.out]; rfl, HS.out.trans HS2.out⟩
            | false =>
              go_wp2
              go_ret
              exact ⟨by rw [HWS.out]; rfl, HS.out.trans HS2.out⟩
end Go.Proofs.YtligofmhbbgalaaGreatDoor.L

/- hello: the extensions of bytes, and the document's own. -/
namespace Go.Proofs.YtligofmhbbgalaaGreatDoor.L
open Go.RowKit Go.Proofs

/-- One extension. -/
def oneX (s : RSt) : (Int × List UInt8) × RSt := (((rnum s 2).1, (rvec (rnum s 2).2 2).1), (rvec (rnum s 2).2 2).2)
theorem oneX_lt (s : RSt) (hs : s.1.length ≠ 0) : (oneX s).2.1.length < s.1.length := Nat.lt_of_le_of_lt (rvec_len _ _) (rnum_lt s 2 hs)
def extS (d : List UInt8) : List (Int × List UInt8) × Bool := ((many oneX d.length (d, false)).1, !(many oneX d.length (d, false)).2.2)

set_option maxRecDepth 10000 in
set_option maxHeartbeats 4000000 in
theorem extsH_any (M : Nat → Prop) (v0 : Value) (d : List UInt8) (w : World) (hd : Rd u8 M w v0 d) (hl : d.length ≤ 1000000000) :
    Calls Tryz.prog 139 #[v0] w fun e w' => ∃ v, e = .returned (.tuple #[v, .bool (extS d).2]) ∧ Rd extK (fun k => k < w.heap.size) w' v (extS d).1 ∧ Stp (fun _ => False) w w' := by
  have HD := Lib.hid hd
  clear hd
  go_enter Tryz.func139, Tryz.ntmps139
  go_wp2_with (go_at_call 132; refine stopc ?_)
  refine Stop.go ?_
  refine (read_any M _ d _ HD.out (by omega)).mono ?_
  rintro e w3 ⟨gi, rfl, hi3, hs3⟩
  obtain ⟨Mi, hMi⟩ : ∃ M : Nat → Prop, M = fun k => k < w.heap.size ∨ w3.heap.size ≤ k := ⟨_, rfl⟩
  have HMI := Lib.hid hMi
  have HGI := Lib.hid (And.intro (Nat.not_lt.1 hi3.1) hi3.lt)
  have HI3 := Lib.hid (hi3.weak (M' := Mi) (by
    rw [hMi]
    intro k hk h
    omega))
  have HS3 := Lib.hid hs3
  have HX3 := Lib.hid hs3.size
  clear hMi hi3 hs3
  go_wp2
  go_loopg [4, 6] d.length (fun n o _ wr => ∃ xs s D, many oneX d.length (d, false) = (xs ++ (many oneX n s).1, (many oneX n s).2) ∧ s.1.length ≤ n ∧ xs.length + n ≤ d.length ∧ OwnK extK 71 w3.heap.size D wr o xs ∧ IsRd Mi wr gi s ∧ Stp (fun _ => False) w wr ∧ w3.heap.size ≤ wr.heap.size)
  case atStart => exact ⟨[], (d, false), fun _ => False, by simp, Nat.le_refl _, by simp, OwnK.nil _ _ _ _, HI3.out, HS3.out, Nat.le_refl _⟩
  case round =>
    obtain ⟨xs, s, D, hm, hsl, hxl, ho, hi, hs, hswr⟩ := hrel
    have HM := Lib.hid hm
    have HO := Lib.hid ho
    have HI := Lib.hid hi
    have HS := Lib.hid hs
    clear hm ho hi hs
    by_cases h0 : s.1.length = 0
    · have HW := Lib.hid (show extS d = (xs, !s.2) by unfold extS; rw [HM.out, many_nil _ _ _ h0]; simp)
      obtain ⟨A8, c8, rfl, hle8⟩ := HO.out.form
      go_wp2_with (first
        | (go_at_call 136; refine (bad_any Mi gi _ _ HI.out).mono ?_; rintro e w' ⟨rfl, rfl⟩)
        | (go_at_call 162; refine (left_any Mi gi _ _ HI.out (by omega)).mono ?_; rintro e w' ⟨rfl, rfl⟩))
      go_ret2
      refine ⟨_, by rw [HW.out]; rfl, ?_, HS.out⟩
      rw [HW.out]
      have hh := HX3.out
      exact HO.out.rd (fun k hk h hd => by have := (HO.out.lo k hd).1; omega) (fun k hk h => by have := (HO.out.lt k hk).1; omega)
    · obtain ⟨m, rfl⟩ : ∃ m, gk = m + 1 := ⟨gk - 1, by omega⟩
      have HMC := Lib.hid (many_cons oneX m s h0)
      have hpos : 0 < s.1.length := by omega
      have HLT := Lib.hid (oneX_lt s h0)
      have HL1 := Lib.hid (rnum_len s 2)
      go_wp2_with (first
        | (go_at_call 162; refine (left_any Mi gi _ _ HI.out (by omega)).mono ?_; rintro e w' ⟨rfl, rfl⟩)
        | (go_at_call 133; refine stopc ?_))
      refine Stop.go ?_
      refine (num_any Mi gi s _ _ HI.out (by omega)).mono ?_
      rintro e w4 ⟨rfl, hi4, hs4⟩
      have hh := HX3.out
      have hgi := HGI.out
      have hgi4 := hs4.size
      have HO4 := Lib.hid (HO.out.step hs4 (fun k hk he => ⟨fun hd => by have := (HO.out.lo k hd).1; omega, fun hv => by have := (HO.out.lt k hv).1; omega⟩))
      have HS4 := Lib.hid (HS.out.new hs4 (by omega))
      have HI4 := Lib.hid hi4
      clear hi4
      clear hs4
      go_wp2_with (go_at_call 135; refine stopc ?_)
      refine Stop.go ?_
      refine (rvec_any Mi gi _ _ _ HI4.out (by have := HL1.out; omega)).mono ?_
      rintro e w5 ⟨v5, rfl, ho5, hi5, hs5⟩
      obtain ⟨A5, c5, rfl, hle5⟩ := ho5.form
      have HO5 := Lib.hid ho5
      have HI5 := Lib.hid hi5
      have HS5 := Lib.hid hs5
      clear ho5 hi5 hs5
      go_wp2_with (with_reducible refine stop (N := 20) rfl ?_)
      refine Stop.go ?_
      have hh5 := HS5.out.size
      have hlo5 := HO5.out.lt
      have hOX := (HO4.out.step HS5.out (fun k hk he => ⟨fun hd => by have := (HO4.out.lo k hd).1; omega, fun hv => by have := (HO4.out.lt k hv).1; omega⟩))
      have hsw : w.heap.size ≤ w3.heap.size := HX3.out
      refine wp_append1K (D' := fun k => D k ∨ (Value.slice A5 (oneX s).1.2.length c5).ownBlock = some k) (oneX s).1 rfl _ _ _ rfl Tryz.underlying67 info_ext rfl (by decide) (hOX.stp0 ((Stp.refl _ _).alloc _)) rfl ⟨w5.heap.size, 0, none⟩ 1 [.int .i64 (oneX s).1.1, .slice A5 (oneX s).1.2.length c5] rfl (fun j u hu => alloc_at _ _ _ _ _ _ hu) ?_ (fun k h => .inl h) ?_ ?_ ?_ ?_ ?_
      · exact ⟨[_], [_], rfl, rfl, _, rfl, (HO5.out.rd (h1 := fun _ => rfl) (fun k hk hn => hn (.inr hk))).stp0 ((Stp.refl _ _).alloc _)⟩
      · intro k hk
        have hsz : ∀ o, (w5.alloc o).heap.size = w5.heap.size + 1 := by simp
        rw [hsz]
        rcases hk with hk | hk
        · have h1 := hOX.lo k hk
          exact ⟨h1.1, by omega, fun h => hOX.apart k h hk⟩
        · have h1 := hlo5 k hk
          refine ⟨by omega, by omega, fun h => ?_⟩
          have := (HO4.out.lt k h).2
          omega
      · omega
      · omega
      · simp
        omega
      · intro v6 w6 ho6 hg6
        have HS6 := Lib.hid ((((HS4.out.new HS5.out (by omega)).alloc _).ownK (hOX.stp0 ((Stp.refl _ _).alloc _)) hsw hg6))
        have HO6 := Lib.hid ho6
        have HI6 := Lib.hid ((HI5.out.stp0 ((Stp.refl _ _).alloc _)).step (Stp.of_grown hg6) (fun k hk he => by
          rw [HMI.out]
          have := (HO4.out.lt k he).1
          exact .inr (by omega)))
        have hw6 := hg6.size
        clear ho6 hg6
        go_wp2
        go_roundg m
        case measure => omega
        case rel =>
          refine ⟨xs ++ [(oneX s).1], (oneX s).2, _, ?_, ?_, ?_, HO6.out, HI6.out, HS6.out, by simp at hw6; omega⟩
          · rw [HM.out, HMC.out]
            simp
          · have := HLT.out
            omega
          · rw [List.length_append]
            simp
            omega

def ExtRet (w : World) (d : List UInt8) (e : Ending) (w' : World) : Prop :=
  ∃ v, e = .returned (.tuple #[v, .bool (extS d).2]) ∧ Rd extK (fun k => k < w.heap.size) w' v (if (extS d).2 = true then (extS d).1 else []) ∧ Stp (fun _ => False) w w'

set_option maxRecDepth 10000 in
set_option maxHeartbeats 4000000 in
theorem extR_any (M : Nat → Prop) (v0 : Value) (d : List UInt8) (w : World) (hd : Rd u8 M w v0 d) (hl : d.length ≤ 1000000000) :
    Calls Tryz.prog 123 #[v0] w (ExtRet w d) := by
  obtain ⟨A0, c0, rfl, hle0⟩ := hd.form
  have HD := Lib.hid hd
  clear hd
  go_enter Tryz.func123, Tryz.ntmps123
  have hr1 := newRf (M := fun k => w.heap.size + 1 ≤ k) (W := w) HD.out (by omega) (by omega) (fun k hk h => absurd h (by omega))
  have hsz1 : w.heap.size + 1 = (w.alloc (.cells #[.slice A0 d.length c0, .int .i64 0, .bool false] 159)).heap.size := by simp
  obtain ⟨w1, hw1⟩ : ∃ w1, w1 = w.alloc (.cells #[.slice A0 d.length c0, .int .i64 0, .bool false] 159) := ⟨_, rfl⟩
  have HS1 := Lib.hid (show Stp (fun _ => False) w w1 by rw [hw1]; exact (Stp.refl _ _).alloc _)
  rw [← hw1] at hr1 hsz1
  have HR1 := Lib.hid hr1
  clear hr1
  go_wp2
  rw [← hw1]
  clear hw1
  go_loopg [5, 6, 7] d.length (fun n o _ _ wr => ∃ xs s D, many oneX d.length (d, false) = (xs ++ (many oneX n s).1, (many oneX n s).2) ∧ s.2 = false ∧ s.1.length ≤ n ∧ xs.length + n ≤ d.length ∧ OwnK extK 71 (w.heap.size + 1) D wr o xs ∧ IsRf (fun k => w.heap.size + 1 ≤ k) wr w.heap.size s ∧ Stp (fun _ => False) w wr ∧ w1.heap.size ≤ wr.heap.size)
  case atStart => exact ⟨[], (d, false), fun _ => False, by simp, rfl, Nat.le_refl _, by simp, OwnK.nil _ _ _ _, HR1.out, HS1.out, Nat.le_refl _⟩
  case round =>
    obtain ⟨xs, s, D, hm, hsb, hsl, hxl, ho, hi, hs, hswr⟩ := hrel
    have HSB := Lib.hid hsb
    clear hsb
    have HM := Lib.hid hm
    have HO := Lib.hid ho
    have HI := Lib.hid hi
    have HS := Lib.hid hs
    clear hm ho hi hs
    by_cases h0 : s.1.length = 0
    · have HW := Lib.hid (show extS d = (xs, true) by unfold extS; rw [HM.out, many_nil _ _ _ h0, HSB.out]; simp)
      obtain ⟨A8, c8, rfl, hle8⟩ := HO.out.form
      have hz1 : ¬ 0 < s.1.length := by omega
      have hz0 : s.1 = [] := List.eq_nil_of_length_eq_zero h0
      go_wp2_with (go_at_call 122; with_reducible refine (leftR_any _ _ _ _ HI.out).mono ?_; rintro e w4 ⟨rfl, hs4⟩; have HS6 := Lib.hid (HS.out.trans hs4); have HO6 := Lib.hid (HO.out.stp0 hs4); clear hs4)
      go_ret2
      refine ⟨_, by rw [HW.out]; rfl, ?_, HS6.out⟩
      rw [HW.out, if_pos rfl]
      exact HO6.out.rd (fun k hk h hd => by have := (HO6.out.lo k hd).1; omega) (fun k hk h => by have := (HO6.out.lt k hk).1; omega)
    · obtain ⟨m, rfl⟩ : ∃ m, gk = m + 1 := ⟨gk - 1, by omega⟩
      have HMC := Lib.hid (many_cons oneX m s h0)
      have hpos : 0 < s.1.length := by omega
      have hz0 : ¬ s.1 = [] := fun h => h0 (by rw [h]; rfl)
      have HLT := Lib.hid (oneX_lt s h0)
      have hdl : (rvec (rnum s 2).2 2).1.length ≤ s.1.length := Nat.le_trans (rvec_len1 _ _) (rnum_len s 2)
      go_wp2_with (first
        | (go_at_call 122; with_reducible refine (leftR_any _ _ _ _ HI.out).mono ?_; rintro e w5 ⟨rfl, hs5⟩; have HS6 := Lib.hid (HS.out.trans hs5); have HI6 := Lib.hid (HI.out.stp0 hs5); have HO6 := Lib.hid (HO.out.stp0 hs5); have HZ6 := Lib.hid hs5.size; clear hs5)
        | (go_at_call 119; refine stopc ?_))
      refine Stop.go ?_
      refine (numR_any _ _ s _ _ HI6.out).mono ?_
      rintro e w7 ⟨rfl, hi7, hs7⟩
      have hz6 := HZ6.out
      have hz7 := hs7.size
      have HO7 := Lib.hid (HO6.out.step hs7 (fun k hk he => ⟨fun hd => by have := (HO6.out.lo k hd).1; omega, fun hv => by have := (HO6.out.lt k hv).1; omega⟩))
      have HS7 := Lib.hid (HS6.out.new hs7 (by omega))
      have HI7 := Lib.hid hi7
      clear hi7
      clear hs7
      go_wp2_with (go_at_call 121; refine stopc ?_)
      refine Stop.go ?_
      refine (rvecR_any _ _ _ _ _ HI7.out).mono ?_
      rintro e w5 ⟨v5, rfl, ho5, hi5, hs5⟩
      obtain ⟨A5, c5, rfl, hle5⟩ := ho5.form
      have hoff := hi5.off
      have HO5 := Lib.hid ho5
      have HI5 := Lib.hid hi5
      have HS5 := Lib.hid hs5
      clear ho5 hi5 hs5
      by_cases hb : (rvec (rnum s 2).2 2).2.2 = true
      · rw [hb] at hoff
        have HW := Lib.hid (show (extS d).2 = false by unfold extS; rw [HM.out, HMC.out]; show (!(many oneX m (oneX s).2).2.2) = false; rw [many_bad oneX m (oneX s).2 hb (rvec_bad _ _ hb)]; rfl)
        go_wp2
        go_ret2
        refine ⟨_, by rw [HW.out]; rfl, ?_, HS7.out.new HS5.out (Nat.le_refl _)⟩
        rw [HW.out]
        exact Rd.nil _ _ _
      · have hb' : (rvec (rnum s 2).2 2).2.2 = false := by simpa using hb
        rw [hb'] at hoff
        have HB' := Lib.hid hb'
        clear hb hb'
        go_wp2_with (with_reducible refine stop (N := 27) rfl ?_)
        refine Stop.go ?_
        have hh5 := HS5.out.size
        have hlo5 := HO5.out.lt
        have hOX := (HO7.out.step HS5.out (fun k hk he => ⟨fun hd => by have := (HO7.out.lo k hd).1; omega, fun hv => by have := (HO7.out.lt k hv).1; omega⟩))
        refine wp_append1K (D' := fun k => D k ∨ (Value.slice A5 (oneX s).1.2.length c5).ownBlock = some k) (oneX s).1 rfl _ _ _ rfl Tryz.underlying67 info_ext rfl (by decide) (hOX.stp0 ((Stp.refl _ _).alloc _)) rfl ⟨w5.heap.size, 0, none⟩ 1 [.int .i64 (oneX s).1.1, .slice A5 (oneX s).1.2.length c5] rfl (fun j u hu => alloc_at _ _ _ _ _ _ hu) ?_ (fun k h => .inl h) ?_ ?_ ?_ ?_ ?_
        · exact ⟨[_], [_], rfl, rfl, _, rfl, (HO5.out.rd (h1 := fun _ => rfl) (fun k hk hn => hn (.inr hk))).stp0 ((Stp.refl _ _).alloc _)⟩
        · intro k hk
          have hsz : ∀ o, (w5.alloc o).heap.size = w5.heap.size + 1 := by simp
          rw [hsz]
          rcases hk with hk | hk
          · have h1 := hOX.lo k hk
            exact ⟨h1.1, by omega, fun h => hOX.apart k h hk⟩
          · have h1 := hlo5 k hk
            refine ⟨by omega, by omega, fun h => ?_⟩
            have := (HO7.out.lt k h).2
            omega
        · omega
        · omega
        · simp
          omega
        · intro v6 w6 ho6 hg6
          have HS8 := Lib.hid ((((HS7.out.new HS5.out (Nat.le_refl _)).alloc _).ownK (hOX.stp0 ((Stp.refl _ _).alloc _)) (by omega) hg6))
          have HO8 := Lib.hid ho6
          have HI8 := Lib.hid ((HI5.out.stp0 ((Stp.refl _ _).alloc _)).step (Stp.of_grown hg6) (fun k hk he => (HO7.out.lt k he).1))
          have hw6 := hg6.size
          clear ho6 hg6
          go_wp2
          go_roundg m
          case measure => omega
          case rel =>
            refine ⟨xs ++ [(oneX s).1], (oneX s).2, _, ?_, HB'.out, ?_, ?_, HO8.out, HI8.out, HS8.out, by simp at hw6; omega⟩
            · rw [HM.out, HMC.out]
              simp
            · have := HLT.out
              omega
            · rw [List.length_append]
              simp
              omega
end Go.Proofs.YtligofmhbbgalaaGreatDoor.L
