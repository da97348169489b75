/- Texts of the proof, joined: Ez Hk Ey. -/
import Derived.Test.YtligofmhbbgalaaGreatDoorG04
import Derived.Deep.DeepCutAuto
import Derived.Deep.CutRange
import Derived.Deep.CutBlock
set_option linter.unusedVariables false
set_option linter.unusedSimpArgs false
/- exts.See, and the document's own. -/
namespace Go.Proofs.YtligofmhbbgalaaGreatDoor.L
open Go.RowKit Go.Proofs

/-- What is seen: a name, protocols, versions, whether more is hidden. -/
structure Sn where
  has : Bool
  name : ByteArray
  alpn : List ByteArray
  vers : List Int
  ech : Bool
def Sn.zero : Sn := ⟨false, ⟨#[]⟩, [], [], false⟩
def nmP (xs : List (Int × List UInt8)) : ByteArray × Int := if (findS xs 0).2 = true then nameS (findS xs 0).1 else (⟨#[]⟩, 0)
def alP (xs : List (Int × List UInt8)) : List ByteArray × Int := if (findS xs 16).2 = true then protS (findS xs 16).1 else ([], 0)
def vsP (xs : List (Int × List UInt8)) : List Int × Int := if (findS xs 43).2 = true then versS (findS xs 43).1 else ([], 0)
def seeS (xs : List (Int × List UInt8)) : Sn × Int :=
  if (nmP xs).2 ≠ 0 then (Sn.zero, (nmP xs).2) else if (alP xs).2 ≠ 0 then (Sn.zero, (alP xs).2) else if (vsP xs).2 ≠ 0 then (Sn.zero, (vsP xs).2)
  else (⟨(findS xs 0).2, (nmP xs).1, (alP xs).1, (vsP xs).1, (findS xs 65037).2⟩, 0)

theorem findS_len (xs : List (Int × List UInt8)) (kind : Int) (N : Nat) (h : ∀ x ∈ xs, x.2.length ≤ N) : (findS xs kind).1.length ≤ N := by
  unfold findS
  split
  · rename_i x hx
    exact h x (List.mem_of_find?_eq_some hx)
  · simp

theorem results_row9 {P : Program} {fn : Func} {p u : Tmp} {ty : TypeId} (h : fn.results = #[.cell p ty, .tmp u]) (tmps : Array Value) (w : World) (g : Nat) (t : TypeId) (cs : Array Value) (fr : Nat × Nat) (d : TypeDesc)
    (hp : tmps.getD p undef = .pointer (some ⟨g, 0, none⟩)) (hg : w.heap[g]? = some (.cells cs t fr))
    (hu : P.underlying ty = some d) (hd : (match d with | .struct _ | .array _ _ => true | _ => false) = true) (hi : (P.info? ty).map (·.size) = some cs.size) :
    (results fn tmps).run P w = .ok (.tuple #[.agg cs, tmps.getD u undef]) w := by
  rw [results_cell_tmp h, hp]
  simp [asAddr, Result.andThen, run_loadVar_row w g t ty cs fr d hg hu hd hi]

theorem wpList_val9 {P : Program} {ops : Array Oper} {rest : List Oper} {o : Oper} {a : Act} {Q : Exit → Act → World → Prop} {W : World} {v : Value} (hg : o.guard = none) (hy : (execOp a.eval o).run P W = .ok (.value v) W)
    (h : wpList P ops Q rest (a.put o.dst v) W) : wpList P ops Q (o :: rest) a W :=
  wpList_plain hg fun K hK => by
    unfold Oper.wp
    rw [hy]
    exact hK _ _ h
theorem idx_errs0 (x0 x1 x2 : Value) (w : World) : (Instr.index 169 (.agg #[x0, x1, x2]) (.int .i64 0)).run Tryz.prog w = .ok x0 w := by kernel_rfl
theorem idx_errs1 (x0 x1 x2 : Value) (w : World) : (Instr.index 169 (.agg #[x0, x1, x2]) (.int .i64 1)).run Tryz.prog w = .ok x1 w := by kernel_rfl
theorem idx_errs2 (x0 x1 x2 : Value) (w : World) : (Instr.index 169 (.agg #[x0, x1, x2]) (.int .i64 2)).run Tryz.prog w = .ok x2 w := by kernel_rfl

/-- What is seen, as a value: its strings and numbers lie in blocks that are new from B on. -/
def IsSn (M : Nat → Prop) (W : World) (v : Value) (s : Sn) : Prop :=
  ∃ va vv, v = .agg #[.bool s.has, .string s.name, va, vv, .bool s.ech] ∧ Rd str M W va s.alpn ∧ Rd (int .i64) M W vv s.vers

set_option maxRecDepth 10000 in
set_option maxHeartbeats 8000000 in
theorem see_any (M : Nat → Prop) (cs : Array Value) (A : Option Addr) (c : Nat) (xs : List (Int × List UInt8)) (w : World) (hcs : cs.size = 38) (hc : ∀ h : 37 < cs.size, cs[37] = .slice A xs.length c) (h : Rd extK M w (.slice A xs.length c) xs) (hl : xs.length ≤ 1000000000) (hd : ∀ x ∈ xs, x.2.length ≤ 1000000000) :
    Calls Tryz.prog 99 #[.agg cs] w fun e w' => ∃ v, e = .returned (.tuple #[v, .int .i64 (seeS xs).2]) ∧ IsSn (fun k => k < w.heap.size) w' v (seeS xs).1 ∧ Stp (fun _ => False) w w' := by
  have H := Lib.hid h
  have HD := Lib.hid hd
  have HC := Lib.hid hc
  clear h hc hd
  go_enter Tryz.func99, Tryz.ntmps99
  go_wp2_with (with_reducible refine stop (N := 14) rfl ?_)
  have hb0 := ((((Stp.refl (fun _ => False) (w.alloc (.cells cs 69))).alloc (.cells #[.bool false, .string ⟨#[]⟩, .slice none 0 0, .slice none 0 0, .bool false] 29)).alloc (.cells #[.bool false, .string ⟨#[]⟩, .slice none 0 0, .slice none 0 0, .bool false] 29)).alloc (.cells #[.int .i64 0, .int .i64 0, .int .i64 0] 169)).blk (heap_alloc_new w _) id
  generalize hW : (((w.alloc (Obj.cells cs 69)).alloc (Obj.cells #[.bool false, .string ⟨#[]⟩, .slice none 0 0, .slice none 0 0, .bool false] 29)).alloc (.cells #[.bool false, .string ⟨#[]⟩, .slice none 0 0, .slice none 0 0, .bool false] 29)).alloc (.cells #[.int .i64 0, .int .i64 0, .int .i64 0] 169) = w1 at hb0 ⊢
  have hs1 : Stp (fun _ => False) w w1 := by rw [← hW]; exact ((((Stp.refl _ _).alloc _).alloc _).alloc _).alloc _
  have hsz1 : w1.heap.size = w.heap.size + 4 := by rw [← hW]; simp
  have hb1 : w1.heap[w.heap.size + 1]? = some (.cells #[.bool false, .string ⟨#[]⟩, .slice none 0 0, .slice none 0 0, .bool false] 29 (0, 0)) := by
    rw [← hW]
    have h1 := ((Stp.refl (fun _ => False) ((w.alloc (.cells cs 69)).alloc (.cells #[.bool false, .string ⟨#[]⟩, .slice none 0 0, .slice none 0 0, .bool false] 29))).alloc (.cells #[.bool false, .string ⟨#[]⟩, .slice none 0 0, .slice none 0 0, .bool false] 29)).alloc (.cells #[.int .i64 0, .int .i64 0, .int .i64 0] 169) |>.blk (heap_alloc_new (w.alloc (.cells cs 69)) _) id
    simpa using h1
  have hb2 : w1.heap[w.heap.size + 1 + 1]? = some (.cells #[.bool false, .string ⟨#[]⟩, .slice none 0 0, .slice none 0 0, .bool false] 29 (0, 0)) := by
    rw [← hW]
    have h1 := (Stp.refl (fun _ => False) (((w.alloc (.cells cs 69)).alloc (.cells #[.bool false, .string ⟨#[]⟩, .slice none 0 0, .slice none 0 0, .bool false] 29)).alloc (.cells #[.bool false, .string ⟨#[]⟩, .slice none 0 0, .slice none 0 0, .bool false] 29))).alloc (.cells #[.int .i64 0, .int .i64 0, .int .i64 0] 169) |>.blk (heap_alloc_new ((w.alloc (.cells cs 69)).alloc (.cells #[.bool false, .string ⟨#[]⟩, .slice none 0 0, .slice none 0 0, .bool false] 29)) _) id
    simpa using h1
  have hb3 : w1.heap[w.heap.size + 1 + 1 + 1]? = some (.cells #[.int .i64 0, .int .i64 0, .int .i64 0] 169 (0, 0)) := by
    rw [← hW]
    have h1 := heap_alloc_new (((w.alloc (.cells cs 69)).alloc (.cells #[.bool false, .string ⟨#[]⟩, .slice none 0 0, .slice none 0 0, .bool false] 29)).alloc (.cells #[.bool false, .string ⟨#[]⟩, .slice none 0 0, .slice none 0 0, .bool false] 29)) (.cells #[.int .i64 0, .int .i64 0, .int .i64 0] 169)
    simpa using h1
  have HB0 := Lib.hid hb0
  have HB1 := Lib.hid hb1
  have HB2 := Lib.hid hb2
  have HB3 := Lib.hid hb3
  have HS1 := Lib.hid hs1
  clear hb0 hb1 hb2 hb3 hs1 hW
  refine Stop.go ?_
  refine wpList_load_row rfl _ _ rfl w.heap.size rfl _ cs (0, 0) _ HB0.out Tryz.underlying69 rfl (by rw [hcs]; kernel_rfl) ?_
  go_wp2_with (go_at_call 141; refine stopc ?_)
  refine Stop.go ?_
  refine (findH_any M cs A c xs _ _ hcs HC.out (H.out.stp0 HS1.out) hl HD.out).mono ?_
  rintro e w2 ⟨v2, rfl, hr2, hs2⟩
  generalize e1 : w.heap.size + 1 = b1 at *
  generalize e2 : b1 + 1 = b2 at *
  generalize e3 : b2 + 1 = b3 at *
  obtain ⟨A2, c2, rfl, hle2⟩ := hr2.form
  have HR2 := Lib.hid hr2
  have hq2 := hs2.blk HB2.out id
  have hq3 := hs2.blk HB3.out id
  have HQ0 := Lib.hid (hs2.blk HB0.out id)
  have HQ1 := Lib.hid (hs2.blk HB1.out id)
  have HQ2 := Lib.hid hq2
  have HQ3 := Lib.hid hq3
  have hc20 := blk_cell (j := 0) hq2
  have hf20 := blk_free hq2 0
  have HS2 := Lib.hid (HS1.out.trans hs2)
  clear hr2 hs2 hq2 hq3 HB0 HB1 HB2 HB3
  go_upto_if 20 with fail
  go_cut [6] (fun _ wx => Stp (fun _ => False) w wx ∧ wx.heap[w.heap.size]? = some (.cells cs 69 (0, 0)) ∧ wx.heap[b1]? = some (.cells #[.bool false, .string ⟨#[]⟩, .slice none 0 0, .slice none 0 0, .bool false] 29 (0, 0)) ∧ wx.heap[b2]? = some (.cells #[.bool (findS xs 0).2, .string (nmP xs).1, .slice none 0 0, .slice none 0 0, .bool false] 29 (0, 0)) ∧ wx.heap[b3]? = some (.cells #[.int .i64 (nmP xs).2, .int .i64 0, .int .i64 0] 169 (0, 0)))
  case first =>
    generalize hbn : (findS xs 0).2 = bn at *
    have hr3 := HR2.out.step (S := fun k => k = b2) ((Stp.refl _ _).setg 0 (.bool bn)) (fun k hk he => by omega)
    have hs3 := HS2.out.then_ ((Stp.refl (fun k => k = b2) _).setg 0 (.bool bn)) (fun k hk he => by omega)
    have hq2 := blk_set HQ2.out 0 (.bool bn)
    have hstp : Stp (fun k => k = b2) w2 (w2.setCell ⟨b2, 0, none⟩ (.bool bn)) := (Stp.refl _ _).setg 0 _
    have hq0 := hstp.blk HQ0.out (by omega)
    have hq1 := hstp.blk HQ1.out (by omega)
    have hq3 := hstp.blk HQ3.out (by omega)
    simp only [List.setIfInBounds_toArray, List.set_cons_zero] at hq2
    cases bn with
    | true =>
      have hnm : nmP xs = nameS (findS xs 0).1 := by unfold nmP; rw [if_pos hbn]
      go_wp2_with (go_at_call 142; refine stopc ?_)
      refine Stop.go ?_
      refine (name_any _ _ _ _ hr3 (findS_len _ _ _ HD.out)).mono ?_
      rw [← hnm]
      clear hnm
      rintro e w4 ⟨rfl, hs4⟩
      have hp2 := hs4.blk hq2 id
      have hp3 := hs4.blk hq3 id
      have HP0 := Lib.hid (hs4.blk hq0 id)
      have HP1 := Lib.hid (hs4.blk hq1 id)
      have HP2 := Lib.hid hp2
      have HP3 := Lib.hid hp3
      have hc21 := blk_cell (j := 1) hp2
      have hf21 := blk_free hp2 1
      have hc30 := blk_cell (j := 0) hp3
      have hf30 := blk_free hp3 0
      have HS4 := Lib.hid (hs3.trans hs4)
      have hne : ¬ b2 = b3 := by omega
      have hne' : ¬ b3 = b2 := by omega
      clear hp2 hp3 hs4 hs3 hr3 hstp hq0 hq1 hq2 hq3 hc20 hf20
      go_wp2
      go_meet
      have hstp : Stp (fun k => k = b2 ∨ k = b3) w4 ((w4.setCell ⟨b2, 1, none⟩ (.string (nmP xs).1)).setCell ⟨b3, 0, none⟩ (.int .i64 (nmP xs).2)) := ((Stp.refl _ _).setCell (fun _ => .inl rfl) _).setCell (fun _ => .inr rfl) _
      have h3a : Stp (fun k => k = b2) w4 (w4.setCell ⟨b2, 1, none⟩ (.string (nmP xs).1)) := (Stp.refl _ _).setg 1 _
      have h3b : Stp (fun k => k = b3) (w4.setCell ⟨b2, 1, none⟩ (.string (nmP xs).1)) ((w4.setCell ⟨b2, 1, none⟩ (.string (nmP xs).1)).setCell ⟨b3, 0, none⟩ (.int .i64 (nmP xs).2)) := (Stp.refl _ _).setg 0 _
      refine ⟨Stp.then_ (T := fun k => k = b2 ∨ k = b3) HS4.out hstp (fun k hk he => by omega), hstp.blk HP0.out (by omega), hstp.blk HP1.out (by omega), ?_, ?_⟩
      · simpa using h3b.blk (blk_set HP2.out 1 (.string (nmP xs).1)) hne
      · simpa using blk_set (h3a.blk HP3.out hne') 0 (.int .i64 (nmP xs).2)
    | false =>
      have hnm : nmP xs = (⟨#[]⟩, 0) := by unfold nmP; rw [if_neg (by rw [hbn]; decide)]
      go_wp2
      go_meet
      exact ⟨hs3, hq0, hq1, by rw [hnm]; exact hq2, by rw [hnm]; exact hq3⟩
  case rest =>
    clear HQ0 HQ1 HQ2 HQ3 HS2 hc20 hf20 HR2
    obtain ⟨hs, q0, q1, q2, q3⟩ := hcut
    have HQ0 := Lib.hid q0
    have HQ1 := Lib.hid q1
    have HQ2 := Lib.hid q2
    have HQ3 := Lib.hid q3
    have HS := Lib.hid hs
    clear hs q0 q1 q2 q3
    go_wp2_with (with_reducible refine stop (N := 29) rfl ?_)
    refine Stop.go ?_
    refine wpList_load_row rfl _ _ rfl w.heap.size rfl _ cs (0, 0) _ HQ0.out Tryz.underlying69 rfl (by rw [hcs]; kernel_rfl) ?_
    go_wp2_with (go_at_call 141; refine stopc ?_)
    refine Stop.go ?_
    have hsz2 := HS.out.size
    refine (findH_any M cs A c xs _ _ hcs HC.out (H.out.stp0 HS.out) hl HD.out).mono ?_
    rintro e w21 ⟨v2, rfl, hr2, hs2⟩
    obtain ⟨A2, c2, rfl, hle2⟩ := hr2.form
    have HR2 := Lib.hid hr2
    have HQ0 := Lib.hid (hs2.blk HQ0.out id)
    have HQ1 := Lib.hid (hs2.blk HQ1.out id)
    have HQ2 := Lib.hid (hs2.blk HQ2.out id)
    have HQ3 := Lib.hid (hs2.blk HQ3.out id)
    have HS2 := Lib.hid (HS.out.trans hs2)
    clear hr2 hs2
    go_upto_if 33 with fail
    go_cut [] (fun wx => Stp (fun _ => False) w wx ∧ wx.heap[w.heap.size]? = some (.cells cs 69 (0, 0)) ∧ wx.heap[b1]? = some (.cells #[.bool false, .string ⟨#[]⟩, .slice none 0 0, .slice none 0 0, .bool false] 29 (0, 0)) ∧ ∃ va, Rd str (fun k => k ≤ b3) wx va (alP xs).1 ∧ wx.heap[b2]? = some (.cells #[.bool (findS xs 0).2, .string (nmP xs).1, va, .slice none 0 0, .bool false] 29 (0, 0)) ∧ wx.heap[b3]? = some (.cells #[.int .i64 (nmP xs).2, .int .i64 (alP xs).2, .int .i64 0] 169 (0, 0)))
    case first =>
      generalize hbn : (findS xs 16).2 = bn at *
      cases bn with
      | true =>
        have hnm : alP xs = protS (findS xs 16).1 := by unfold alP; rw [if_pos hbn]
        go_wp2_with (go_at_call 143; refine stopc ?_)
        refine Stop.go ?_
        refine (prot_any _ _ _ _ HR2.out (findS_len _ _ _ HD.out)).mono ?_
        rw [← hnm]
        clear hnm
        rintro e w24 ⟨vn, rfl, hvn, hs4⟩
        obtain ⟨An, cn, rfl, hlen⟩ := hvn.form
        have hp2 := hs4.blk HQ2.out id
        have hp3 := hs4.blk HQ3.out id
        have HP0 := Lib.hid (hs4.blk HQ0.out id)
        have HP1 := Lib.hid (hs4.blk HQ1.out id)
        have HP2 := Lib.hid hp2
        have HP3 := Lib.hid hp3
        have hc2 := blk_cell (j := 2) hp2
        have hf2 := blk_free hp2 2
        have hc3 := blk_cell (j := 1) hp3
        have hf3 := blk_free hp3 1
        have HS4 := Lib.hid (HS2.out.trans hs4)
        have hsz4 := HS2.out.size
        have HVN := Lib.hid hvn
        have hb3lt : b3 < w21.heap.size := blk_lt HQ3.out
        have hne : ¬ b2 = b3 := by omega
        have hne' : ¬ b3 = b2 := by omega
        clear hp2 hp3 hs4 hvn
        go_wp2
        go_meet
        have hstp : Stp (fun k => k = b2 ∨ k = b3) w24 ((w24.setCell ⟨b2, 2, none⟩ (.slice An (alP xs).1.length cn)).setCell ⟨b3, 1, none⟩ (.int .i64 (alP xs).2)) := ((Stp.refl _ _).setCell (fun _ => .inl rfl) _).setCell (fun _ => .inr rfl) _
        have h3a : Stp (fun k => k = b2) w24 (w24.setCell ⟨b2, 2, none⟩ (.slice An (alP xs).1.length cn)) := (Stp.refl _ _).setg 2 _
        have h3b : Stp (fun k => k = b3) (w24.setCell ⟨b2, 2, none⟩ (.slice An (alP xs).1.length cn)) ((w24.setCell ⟨b2, 2, none⟩ (.slice An (alP xs).1.length cn)).setCell ⟨b3, 1, none⟩ (.int .i64 (alP xs).2)) := (Stp.refl _ _).setg 1 _
        refine ⟨Stp.then_ (T := fun k => k = b2 ∨ k = b3) HS4.out hstp (fun k hk he => by omega), hstp.blk HP0.out (by omega), hstp.blk HP1.out (by omega), _, (HVN.out.weak (M' := fun k => k ≤ b3) (by decide) (fun k hk h => by omega)).step hstp (fun k hk he => by omega), ?_, ?_⟩
        · simpa using h3b.blk (blk_set HP2.out 2 (.slice An (alP xs).1.length cn)) hne
        · simpa using blk_set (h3a.blk HP3.out hne') 1 (.int .i64 (alP xs).2)
      | false =>
        have hnm : alP xs = ([], 0) := by unfold alP; rw [if_neg (by rw [hbn]; decide)]
        go_wp2
        go_meet
        exact ⟨HS2.out, HQ0.out, HQ1.out, .slice none 0 0, by rw [hnm]; exact Rd.nil _ _ _, HQ2.out, by rw [hnm]; exact HQ3.out⟩
    case rest =>
      clear HQ0 HQ1 HQ2 HQ3 HS2 HR2
      obtain ⟨hs, q0, q1, va, hva, q2, q3⟩ := hcut
      obtain ⟨Aa, ca, rfl, hlea⟩ := hva.form
      have HVA := Lib.hid hva
      have HQ0 := Lib.hid q0
      have HQ1 := Lib.hid q1
      have HQ2 := Lib.hid q2
      have HQ3 := Lib.hid q3
      have HS := Lib.hid hs
      clear hs q0 q1 q2 q3 hva
      go_wp2_with (with_reducible refine stop (N := 42) rfl ?_)
      refine Stop.go ?_
      refine wpList_load_row rfl _ _ rfl w.heap.size rfl _ cs (0, 0) _ HQ0.out Tryz.underlying69 rfl (by rw [hcs]; kernel_rfl) ?_
      go_wp2_with (go_at_call 141; refine stopc ?_)
      refine Stop.go ?_
      have hsz3 := HS.out.size
      refine (findH_any M cs A c xs _ _ hcs HC.out (H.out.stp0 HS.out) hl HD.out).mono ?_
      rintro e w31 ⟨v3, rfl, hr2, hs2⟩
      obtain ⟨A3, c3, rfl, hle3⟩ := hr2.form
      have HR2 := Lib.hid hr2
      have HQ0 := Lib.hid (hs2.blk HQ0.out id)
      have HQ1 := Lib.hid (hs2.blk HQ1.out id)
      have HQ2 := Lib.hid (hs2.blk HQ2.out id)
      have HQ3 := Lib.hid (hs2.blk HQ3.out id)
      have HVA := Lib.hid (HVA.out.stp0 hs2)
      have HS2 := Lib.hid (HS.out.trans hs2)
      clear hr2 hs2
      go_upto_if 46 with fail
      go_cut [] (fun wx => Stp (fun _ => False) w wx ∧ wx.heap[w.heap.size]? = some (.cells cs 69 (0, 0)) ∧ wx.heap[b1]? = some (.cells #[.bool false, .string ⟨#[]⟩, .slice none 0 0, .slice none 0 0, .bool false] 29 (0, 0)) ∧ ∃ va vv, Rd str (fun k => k ≤ b3) wx va (alP xs).1 ∧ Rd (int .i64) (fun k => k ≤ b3) wx vv (vsP xs).1 ∧ wx.heap[b2]? = some (.cells #[.bool (findS xs 0).2, .string (nmP xs).1, va, vv, .bool false] 29 (0, 0)) ∧ wx.heap[b3]? = some (.cells #[.int .i64 (nmP xs).2, .int .i64 (alP xs).2, .int .i64 (vsP xs).2] 169 (0, 0)))
      case first =>
        generalize hbn : (findS xs 43).2 = bn at *
        cases bn with
        | true =>
          have hnm : vsP xs = versS (findS xs 43).1 := by unfold vsP; rw [if_pos hbn]
          go_wp2_with (go_at_call 144; refine stopc ?_)
          refine Stop.go ?_
          refine (vers_any _ _ _ _ HR2.out (findS_len _ _ _ HD.out)).mono ?_
          rw [← hnm]
          clear hnm
          rintro e w34 ⟨vn, rfl, hvn, hs4⟩
          obtain ⟨An, cn, rfl, hlen⟩ := hvn.form
          have hp2 := hs4.blk HQ2.out id
          have hp3 := hs4.blk HQ3.out id
          have HP0 := Lib.hid (hs4.blk HQ0.out id)
          have HP1 := Lib.hid (hs4.blk HQ1.out id)
          have HP2 := Lib.hid hp2
          have HP3 := Lib.hid hp3
          have hc2 := blk_cell (j := 3) hp2
          have hf2 := blk_free hp2 3
          have hc3 := blk_cell (j := 2) hp3
          have hf3 := blk_free hp3 2
          have HS4 := Lib.hid (HS2.out.trans hs4)
          have hsz4 := HS2.out.size
          have HVN := Lib.hid hvn
          have hb3lt : b3 < w31.heap.size := blk_lt HQ3.out
          have HVA := Lib.hid (HVA.out.stp0 hs4)
          have hne : ¬ b2 = b3 := by omega
          have hne' : ¬ b3 = b2 := by omega
          clear hp2 hp3 hs4 hvn
          go_wp2
          go_meet
          have hstp : Stp (fun k => k = b2 ∨ k = b3) w34 ((w34.setCell ⟨b2, 3, none⟩ (.slice An (vsP xs).1.length cn)).setCell ⟨b3, 2, none⟩ (.int .i64 (vsP xs).2)) := ((Stp.refl _ _).setCell (fun _ => .inl rfl) _).setCell (fun _ => .inr rfl) _
          have h3a : Stp (fun k => k = b2) w34 (w34.setCell ⟨b2, 3, none⟩ (.slice An (vsP xs).1.length cn)) := (Stp.refl _ _).setg 3 _
          have h3b : Stp (fun k => k = b3) (w34.setCell ⟨b2, 3, none⟩ (.slice An (vsP xs).1.length cn)) ((w34.setCell ⟨b2, 3, none⟩ (.slice An (vsP xs).1.length cn)).setCell ⟨b3, 2, none⟩ (.int .i64 (vsP xs).2)) := (Stp.refl _ _).setg 2 _
          refine ⟨Stp.then_ (T := fun k => k = b2 ∨ k = b3) HS4.out hstp (fun k hk he => by omega), hstp.blk HP0.out (by omega), hstp.blk HP1.out (by omega), _, _, HVA.out.step hstp (fun k hk he => by omega), (HVN.out.weak (M' := fun k => k ≤ b3) (by decide) (fun k hk h => by omega)).step hstp (fun k hk he => by omega), ?_, ?_⟩
          · simpa using h3b.blk (blk_set HP2.out 3 (.slice An (vsP xs).1.length cn)) hne
          · simpa using blk_set (h3a.blk HP3.out hne') 2 (.int .i64 (vsP xs).2)
        | false =>
          have hnm : vsP xs = ([], 0) := by unfold vsP; rw [if_neg (by rw [hbn]; decide)]
          go_wp2
          go_meet
          exact ⟨HS2.out, HQ0.out, HQ1.out, _, .slice none 0 0, HVA.out, by rw [hnm]; exact Rd.nil _ _ _, HQ2.out, by rw [hnm]; exact HQ3.out⟩
      case rest =>
        clear HQ0 HQ1 HQ2 HQ3 HS2 HR2 HVA
        obtain ⟨hs, q0, q1, va2, vv, hva, hvv, q2, q3⟩ := hcut
        obtain ⟨Ab, cb, rfl, hleb⟩ := hva.form
        obtain ⟨Av, cv, rfl, hlev⟩ := hvv.form
        have HVA := Lib.hid hva
        have HVV := Lib.hid hvv
        have HQ0 := Lib.hid q0
        have HQ1 := Lib.hid q1
        have HQ2 := Lib.hid q2
        have HQ3 := Lib.hid q3
        have HS := Lib.hid hs
        have hc30 := blk_cell (j := 0) q3
        have hc31 := blk_cell (j := 1) q3
        have hc32 := blk_cell (j := 2) q3
        have hc10 := blk_cell (j := 0) q1
        have hc11 := blk_cell (j := 1) q1
        have hc12 := blk_cell (j := 2) q1
        have hc13 := blk_cell (j := 3) q1
        have hc14 := blk_cell (j := 4) q1
        have hf10 := blk_free q1 0
        have hf11 := blk_free q1 1
        have hf12 := blk_free q1 2
        have hf13 := blk_free q1 3
        have hf14 := blk_free q1 4
        clear hs q0 q1 q2 q3 hva hvv
        go_wp2
        go_loop [12, 55] (fun _ i => ∃ k : Nat, k ≤ 3 ∧ i = .int .i64 k ∧ (1 ≤ k → (nmP xs).2 = 0) ∧ (2 ≤ k → (alP xs).2 = 0) ∧ (3 ≤ k → (vsP xs).2 = 0)) (fun _ i => 3 - (intOf i).toNat)
        case atStart => exact ⟨0, by omega, rfl, fun h => absurd h (by omega), fun h => absurd h (by omega), fun h => absurd h (by omega)⟩
        case round =>
          obtain ⟨k, hk, rfl, hk1, hk2, hk3⟩ := hrel
          match k, hk, hk1, hk2, hk3 with
          | 0, hk, hk1, hk2, hk3 =>
            clear hk1 hk2 hk3
            go_wp2_with (with_reducible refine stop (N := 57) rfl ?_)
            refine Stop.go ?_
            refine wpList_val9 (v := .int .i64 (nmP xs).2) rfl (by go_simp; rw [idx_errs0]; rfl) ?_
            by_cases he : (nmP xs).2 ≠ 0
            · have hb : ((nmP xs).2 != 0) = true := by simpa using he
              have hse : seeS xs = (Sn.zero, (nmP xs).2) := by
                unfold seeS
                rw [if_pos he]
              clear he
              go_wp2
              try simp only [Exit.inBlock, Exit.then]
              refine bodyPost_ret (results_row9 rfl _ _ b1 _ _ _ _ rfl (blk_set (blk_set (blk_set (blk_set (blk_set HQ1.out 0 _) 1 _) 2 _) 3 _) 4 _) Tryz.underlying29 rfl (by kernel_rfl)) rfl ⟨_, by rw [hse]; rfl, by rw [hse]; exact ⟨_, _, rfl, Rd.nil _ _ _, Rd.nil _ _ _⟩, ?_⟩
              exact Stp.then_ (T := fun k => k = b1) HS.out ((((((Stp.refl _ _).setg 0 _).setg 1 _).setg 2 _).setg 3 _).setg 4 _) (fun k hk he => by omega)
            · have hb : ((nmP xs).2 != 0) = false := by simpa using he
              have HE := Lib.hid (show (nmP xs).2 = 0 by simpa using he)
              clear he
              go_wp2
              go_round
              case rel => exact ⟨1, by omega, rfl, fun _ => HE.out, fun h => absurd h (by omega), fun h => absurd h (by omega)⟩
              case measure => simp [intOf]
          | 1, hk, hk1, hk2, hk3 =>
            have H0 := Lib.hid (hk1 (by omega))
            clear hk1 hk2 hk3
            go_wp2_with (with_reducible refine stop (N := 57) rfl ?_)
            refine Stop.go ?_
            refine wpList_val9 (v := .int .i64 (alP xs).2) rfl (by go_simp; rw [idx_errs1]; rfl) ?_
            by_cases he : (alP xs).2 ≠ 0
            · have hb : ((alP xs).2 != 0) = true := by simpa using he
              have hse : seeS xs = (Sn.zero, (alP xs).2) := by
                unfold seeS
                rw [if_neg (by rw [H0.out]; decide), if_pos he]
              clear he
              go_wp2
              try simp only [Exit.inBlock, Exit.then]
              refine bodyPost_ret (results_row9 rfl _ _ b1 _ _ _ _ rfl (blk_set (blk_set (blk_set (blk_set (blk_set HQ1.out 0 _) 1 _) 2 _) 3 _) 4 _) Tryz.underlying29 rfl (by kernel_rfl)) rfl ⟨_, by rw [hse]; rfl, by rw [hse]; exact ⟨_, _, rfl, Rd.nil _ _ _, Rd.nil _ _ _⟩, ?_⟩
              exact Stp.then_ (T := fun k => k = b1) HS.out ((((((Stp.refl _ _).setg 0 _).setg 1 _).setg 2 _).setg 3 _).setg 4 _) (fun k hk he => by omega)
            · have hb : ((alP xs).2 != 0) = false := by simpa using he
              have HE := Lib.hid (show (alP xs).2 = 0 by simpa using he)
              clear he
              go_wp2
              go_round
              case rel => exact ⟨2, by omega, rfl, fun _ => H0.out, fun _ => HE.out, fun h => absurd h (by omega)⟩
              case measure => simp [intOf]
          | 2, hk, hk1, hk2, hk3 =>
            have H0 := Lib.hid (hk1 (by omega))
            have H1 := Lib.hid (hk2 (by omega))
            clear hk1 hk2 hk3
            go_wp2_with (with_reducible refine stop (N := 57) rfl ?_)
            refine Stop.go ?_
            refine wpList_val9 (v := .int .i64 (vsP xs).2) rfl (by go_simp; rw [idx_errs2]; rfl) ?_
            by_cases he : (vsP xs).2 ≠ 0
            · have hb : ((vsP xs).2 != 0) = true := by simpa using he
              have hse : seeS xs = (Sn.zero, (vsP xs).2) := by
                unfold seeS
                rw [if_neg (by rw [H0.out]; decide), if_neg (by rw [H1.out]; decide), if_pos he]
              clear he
              go_wp2
              try simp only [Exit.inBlock, Exit.then]
              refine bodyPost_ret (results_row9 rfl _ _ b1 _ _ _ _ rfl (blk_set (blk_set (blk_set (blk_set (blk_set HQ1.out 0 _) 1 _) 2 _) 3 _) 4 _) Tryz.underlying29 rfl (by kernel_rfl)) rfl ⟨_, by rw [hse]; rfl, by rw [hse]; exact ⟨_, _, rfl, Rd.nil _ _ _, Rd.nil _ _ _⟩, ?_⟩
              exact Stp.then_ (T := fun k => k = b1) HS.out ((((((Stp.refl _ _).setg 0 _).setg 1 _).setg 2 _).setg 3 _).setg 4 _) (fun k hk he => by omega)
            · have hb : ((vsP xs).2 != 0) = false := by simpa using he
              have HE := Lib.hid (show (vsP xs).2 = 0 by simpa using he)
              clear he
              go_wp2
              go_round
              case rel => exact ⟨3, by omega, rfl, fun _ => H0.out, fun _ => H1.out, fun _ => HE.out⟩
              case measure => simp [intOf]
          | 3, hk, hk1, hk2, hk3 =>
            have h0 := hk1 (by omega)
            have h1 := hk2 (by omega)
            have h2 := hk3 (by omega)
            have hse : seeS xs = (⟨(findS xs 0).2, (nmP xs).1, (alP xs).1, (vsP xs).1, (findS xs 65037).2⟩, 0) := by
              unfold seeS
              rw [if_neg (by rw [h0]; decide), if_neg (by rw [h1]; decide), if_neg (by rw [h2]; decide)]
            have HSE := Lib.hid hse
            clear h0 h1 h2 hk1 hk2 hk3 hse
            go_wp2_with (with_reducible refine stop (N := 64) rfl ?_)
            refine Stop.go ?_
            refine wpList_load_row rfl _ _ rfl w.heap.size rfl _ cs (0, 0) _ HQ0.out Tryz.underlying69 rfl (by rw [hcs]; kernel_rfl) ?_
            go_wp2_with (go_at_call 141; refine stopc ?_)
            refine Stop.go ?_
            refine (findH_any M cs A c xs _ _ hcs HC.out (H.out.stp0 HS.out) hl HD.out).mono ?_
            rintro e w9 ⟨v9, rfl, hr9, hs9⟩
            obtain ⟨A9, c9, rfl, hle9⟩ := hr9.form
            have q1 := hs9.blk HQ1.out id
            have q2 := hs9.blk HQ2.out id
            have HT1 := Lib.hid q1
            have HT2 := Lib.hid q2
            have HT := Lib.hid (HS.out.trans hs9)
            have HVA := Lib.hid (HVA.out.stp0 hs9)
            have HVV := Lib.hid (HVV.out.stp0 hs9)
            clear hc10 hc11 hc12 hc13 hc14 hf10 hf11 hf12 hf13 hf14 hc30 hc31 hc32 hr9 hs9
            have hc10 := blk_cell (j := 0) q1
            have hc11 := blk_cell (j := 1) q1
            have hc12 := blk_cell (j := 2) q1
            have hc13 := blk_cell (j := 3) q1
            have hc14 := blk_cell (j := 4) q1
            have hf10 := blk_free q1 0
            have hf11 := blk_free q1 1
            have hf12 := blk_free q1 2
            have hf13 := blk_free q1 3
            have hf14 := blk_free q1 4
            have hc20 := blk_cell (j := 0) q2
            have hc21 := blk_cell (j := 1) q2
            have hc22 := blk_cell (j := 2) q2
            have hc23 := blk_cell (j := 3) q2
            have hc24 := blk_cell (j := 4) q2
            have hf24 := blk_free q2 4
            have hne : ¬ b2 = b1 := by omega
            have hne' : ¬ b1 = b2 := by omega
            clear q1 q2
            go_wp2
            try simp only [Exit.inBlock, Exit.then]
            have h2a : Stp (fun k => k = b2) w9 (w9.setCell ⟨b2, 4, none⟩ (.bool (findS xs 65037).2)) := (Stp.refl _ _).setg 4 _
            have hq1 := h2a.blk HT1.out hne'
            refine bodyPost_ret (results_row9 rfl _ _ b1 _ _ _ _ rfl (blk_set (blk_set (blk_set (blk_set (blk_set hq1 0 _) 1 _) 2 _) 3 _) 4 _) Tryz.underlying29 rfl (by kernel_rfl)) rfl ?_
            have hstp := (((((h2a.mono (T := fun k => k = b1 ∨ k = b2) (fun _ _ h => .inr h)).setCell (p := ⟨b1, 0, none⟩) (fun _ => .inl rfl) (.bool (findS xs 0).2)).setCell (p := ⟨b1, 1, none⟩) (fun _ => .inl rfl) (.string (nmP xs).1)).setCell (p := ⟨b1, 2, none⟩) (fun _ => .inl rfl) (.slice Ab (alP xs).1.length cb)).setCell (p := ⟨b1, 3, none⟩) (fun _ => .inl rfl) (.slice Av (vsP xs).1.length cv)).setCell (p := ⟨b1, 4, none⟩) (fun _ => .inl rfl) (.bool (findS xs 65037).2)
            refine ⟨_, by rw [HSE.out]; rfl, ?_, Stp.then_ (T := fun k => k = b1 ∨ k = b2) HT.out hstp (fun k hk he => by omega)⟩
            rw [HSE.out]
            exact ⟨_, _, rfl, (HVA.out.step hstp (fun k hk he => by omega)).weak (by decide) (fun k _ h => by omega), (HVV.out.step hstp (fun k hk he => by omega)).weak (by decide) (fun k _ h => by omega)⟩
end Go.Proofs.YtligofmhbbgalaaGreatDoor.L

/- Arrays; a struct that came in by value; a hello. No function of the program. -/
namespace Go.Proofs.YtligofmhbbgalaaGreatDoor.L
open Go.RowKit Go.ChangeShapes Go.WideShapes Go.Deep

section
variable {P : Program} {α β : Type}
end

/-- A hello. -/
structure Hl where
  ver : Int
  rnd : List UInt8
  ses : List UInt8
  cip : List Int
  met : List UInt8
  has : Bool
  exs : List (Int × List UInt8)

/-- A hello's cells. -/
def hlV (h : Hl) (vs vc vm vx : Value) : List Value := .int .i64 h.ver :: (h.rnd.map enc8 ++ [vs, vc, vm, .bool h.has, vx])
/-- Its cells, and what they lead to. -/
def IsHl (M : Nat → Prop) (W : World) (cs : Array Value) (h : Hl) : Prop :=
  ∃ vs vc vm vx, cs.toList = hlV h vs vc vm vx ∧ h.rnd.length = 32 ∧ Rd u8 M W vs h.ses ∧ Rd (int .i64) M W vc h.cip ∧ Rd u8 M W vm h.met ∧ Rd extK M W vx h.exs

theorem IsHl.step {M S : Nat → Prop} {W W1 : World} {cs : Array Value} {h : Hl} (hh : IsHl M W cs h) (hs : Stp S W W1) (hS : ∀ k, k < W.heap.size → S k → M k) : IsHl M W1 cs h := by
  obtain ⟨vs, vc, vm, vx, e, hr, h1, h2, h3, h4⟩ := hh
  exact ⟨vs, vc, vm, vx, e, hr, h1.step hs hS, h2.step hs hS, h3.step hs hS, h4.step hs hS⟩
theorem IsHl.stp0 {M : Nat → Prop} {W W1 : World} {cs : Array Value} {h : Hl} (hh : IsHl M W cs h) (hs : Stp (fun _ => False) W W1) : IsHl M W1 cs h := hh.step hs (fun _ _ h => h.elim)
theorem IsHl.weak {M M' : Nat → Prop} {W : World} {cs : Array Value} {h : Hl} (hh : IsHl M W cs h) (hM : ∀ k, k < W.heap.size → M' k → M k) : IsHl M' W cs h := by
  obtain ⟨vs, vc, vm, vx, e, hr, h1, h2, h3, h4⟩ := hh
  exact ⟨vs, vc, vm, vx, e, hr, h1.weak (by decide) hM, h2.weak (by decide) hM, h3.weak (by decide) hM, h4.weak (by decide) hM⟩
theorem IsHl.size {M : Nat → Prop} {W : World} {cs : Array Value} {h : Hl} (hh : IsHl M W cs h) : cs.size = 38 := by
  obtain ⟨vs, vc, vm, vx, e, hr, _⟩ := hh
  rw [← Array.length_toList, e]
  simp [hlV, hr]

end Go.Proofs.YtligofmhbbgalaaGreatDoor.L

/- The document's own See; what is seen is compared. -/
namespace Go.Proofs.YtligofmhbbgalaaGreatDoor.L
open Go.RowKit Go.Proofs

theorem alloc3 (w : World) (o0 o1 o2 : Obj) : ∃ W, ((w.alloc o0).alloc o1).alloc o2 = W ∧ W.heap.size = w.heap.size + 1 + 1 + 1 ∧ W.heap[w.heap.size]? = some o0 ∧ W.heap[w.heap.size + 1]? = some o1 ∧ W.heap[w.heap.size + 1 + 1]? = some o2 ∧ Stp (fun _ => False) w W := by
  refine ⟨_, rfl, by simp, ?_, ?_, ?_, (((Stp.refl _ _).alloc _).alloc _).alloc _⟩
  · exact (((Stp.refl (fun _ => False) (w.alloc o0)).alloc o1).alloc o2).blk (heap_alloc_new w o0) id
  · have := ((Stp.refl (fun _ => False) ((w.alloc o0).alloc o1)).alloc o2).blk (heap_alloc_new (w.alloc o0) o1) id
    simpa using this
  · have := heap_alloc_new ((w.alloc o0).alloc o1) o2
    simpa using this

set_option maxRecDepth 10000 in
set_option maxHeartbeats 8000000 in
theorem seeR_any (M : Nat → Prop) (cs : Array Value) (A : Option Addr) (c : Nat) (xs : List (Int × List UInt8)) (w : World) (hcs : cs.size = 38) (hc : ∀ h : 37 < cs.size, cs[37] = .slice A xs.length c) (h : Rd extK M w (.slice A xs.length c) xs) (hl : xs.length ≤ 1000000000) (hd : ∀ x ∈ xs, x.2.length ≤ 1000000000) (hM : ∀ k, w.heap.size ≤ k → ¬ M k) :
    Calls Tryz.prog 50 #[.agg cs] w fun e w' => ∃ v, e = .returned (.tuple #[v, .int .i64 (seeS xs).2]) ∧ IsSn (fun k => k < w.heap.size) w' v (seeS xs).1 ∧ Stp (fun _ => False) w w' := by
  have H := Lib.hid h
  have HD := Lib.hid hd
  have HC := Lib.hid hc
  have HM := Lib.hid hM
  clear h hd hc hM
  go_enter Tryz.func50, Tryz.ntmps50
  go_wp2_with (with_reducible refine stop (N := 14) rfl ?_)
  refine Stop.go ?_
  obtain ⟨w1, hW, hsz1, hb0, hb1, hb2, hs1⟩ := alloc3 w (.cells cs 69) (.cells #[.bool false, .string ⟨#[]⟩, .slice none 0 0, .slice none 0 0, .bool false] 29) (.cells #[.bool false, .string ⟨#[]⟩, .slice none 0 0, .slice none 0 0, .bool false] 29)
  rw [hW]
  clear hW
  generalize e1 : w.heap.size + 1 = b1 at *
  generalize e2 : b1 + 1 = b2 at *
  have HB0 := Lib.hid hb0
  have HB1 := Lib.hid hb1
  have HB2 := Lib.hid hb2
  have HS1 := Lib.hid hs1
  clear hb0 hb1 hb2 hs1
  refine wpList_load_row rfl _ _ rfl w.heap.size rfl _ cs (0, 0) _ HB0.out Tryz.underlying69 rfl (by rw [hcs]; kernel_rfl) ?_
  go_wp2_with (go_at_call 85; refine stopc ?_)
  refine Stop.go ?_
  refine (findRH_any M cs A c xs _ _ hcs HC.out (H.out.stp0 HS1.out) hl (HM.out _ (by omega))).mono ?_
  rintro e w2 ⟨v2, rfl, hr2, hs2⟩
  obtain ⟨A2, c2, rfl, hle2⟩ := hr2.form
  have HR2 := Lib.hid hr2
  have hq2 := hs2.blk HB2.out id
  have HQ0 := Lib.hid (hs2.blk HB0.out id)
  have HQ1 := Lib.hid (hs2.blk HB1.out id)
  have HQ2 := Lib.hid hq2
  have HS2 := Lib.hid (HS1.out.trans hs2)
  clear hr2 hs2 hq2 HB0 HB1 HB2
  go_upto_if 18 with fail
  go_cut [] (fun wx => Stp (fun _ => False) w wx ∧ wx.heap[w.heap.size]? = some (.cells cs 69 (0, 0)) ∧ wx.heap[b1]? = some (.cells #[.bool false, .string ⟨#[]⟩, .slice none 0 0, .slice none 0 0, .bool false] 29 (0, 0)) ∧ wx.heap[b2]? = some (.cells #[.bool (findS xs 0).2, .string (nmP xs).1, .slice none 0 0, .slice none 0 0, .bool false] 29 (0, 0)) ∧ (nmP xs).2 = 0)
  case first =>
    generalize hbn : (findS xs 0).2 = bn at *
    cases bn with
    | true =>
      have hnm : nmP xs = nameS (findS xs 0).1 := by unfold nmP; rw [if_pos hbn]
      go_wp2_with (go_at_call 86; refine stopc ?_)
      refine Stop.go ?_
      refine (nameR_any _ _ _ _ HR2.out (findS_len _ _ _ HD.out)).mono ?_
      rw [← hnm]
      clear hnm
      rintro e w4 ⟨rfl, hs4⟩
      have hp1 := hs4.blk HQ1.out id
      have hp2 := hs4.blk HQ2.out id
      have HP0 := Lib.hid (hs4.blk HQ0.out id)
      have HS4 := Lib.hid (HS2.out.trans hs4)
      clear hs4
      by_cases he : (nmP xs).2 ≠ 0
      · have hb : ((nmP xs).2 != 0) = true := by simpa using he
        have hse : seeS xs = (Sn.zero, (nmP xs).2) := by
          unfold seeS
          rw [if_pos he]
        have hc10 := blk_cell (j := 0) hp1
        have hc11 := blk_cell (j := 1) hp1
        have hc12 := blk_cell (j := 2) hp1
        have hc13 := blk_cell (j := 3) hp1
        have hc14 := blk_cell (j := 4) hp1
        have hf10 := blk_free hp1 0
        have hf11 := blk_free hp1 1
        have hf12 := blk_free hp1 2
        have hf13 := blk_free hp1 3
        have hf14 := blk_free hp1 4
        have HSE := Lib.hid hse
        have HP1 := Lib.hid hp1
        clear hse hp1
        clear he hp2
        go_wp2
        try simp only [Exit.inBlock, Exit.then]
        refine bodyPost_ret (results_row9 rfl _ _ b1 _ _ _ _ rfl (blk_set (blk_set (blk_set (blk_set (blk_set HP1.out 0 _) 1 _) 2 _) 3 _) 4 _) Tryz.underlying29 rfl (by kernel_rfl)) rfl ⟨_, by rw [HSE.out]; rfl, by rw [HSE.out]; exact ⟨_, _, rfl, Rd.nil _ _ _, Rd.nil _ _ _⟩, ?_⟩
        exact Stp.then_ (T := fun k => k = b1) HS4.out ((((((Stp.refl _ _).setg 0 _).setg 1 _).setg 2 _).setg 3 _).setg 4 _) (fun k hk he => by omega)
      · have hb : ((nmP xs).2 != 0) = false := by simpa using he
        have HE := Lib.hid (show (nmP xs).2 = 0 by simpa using he)
        have hc20 := blk_cell (j := 0) hp2
        have hc21 := blk_cell (j := 1) hp2
        have hf20 := blk_free hp2 0
        have hf21 := blk_free hp2 1
        have HP1 := Lib.hid hp1
        have HP2 := Lib.hid hp2
        clear hp1 hp2
        clear he
        have hne : ¬ b2 = b1 := by omega
        go_wp2
        go_meet
        have hstp : Stp (fun k => k = b2) w4 ((w4.setCell ⟨b2, 0, none⟩ (.bool true)).setCell ⟨b2, 1, none⟩ (.string (nmP xs).1)) := ((Stp.refl _ _).setg 0 _).setg 1 _
        refine ⟨Stp.then_ HS4.out hstp (fun k hk he => by omega), hstp.blk HP0.out (by omega), hstp.blk HP1.out (by omega), ?_, HE.out⟩
        simpa using blk_set (blk_set HP2.out 0 (.bool true)) 1 (.string (nmP xs).1)
    | false =>
      have hnm : nmP xs = (⟨#[]⟩, 0) := by unfold nmP; rw [if_neg (by rw [hbn]; decide)]
      go_wp2
      go_meet
      exact ⟨HS2.out, HQ0.out, HQ1.out, by rw [hnm]; exact HQ2.out, by rw [hnm]⟩
  case rest =>
    clear HQ0 HQ1 HQ2 HS2 HR2
    obtain ⟨hs, q0, q1, q2, hn0⟩ := hcut
    have HS := Lib.hid hs
    have Q0 := Lib.hid q0
    have Q1 := Lib.hid q1
    have Q2 := Lib.hid q2
    have HN0 := Lib.hid hn0
    clear hs q0 q1 q2 hn0
    go_wp2_with (with_reducible refine stop (N := 32) rfl ?_)
    refine Stop.go ?_
    refine wpList_load_row rfl _ _ rfl w.heap.size rfl _ cs (0, 0) _ Q0.out Tryz.underlying69 rfl (by rw [hcs]; kernel_rfl) ?_
    go_wp2_with (go_at_call 85; refine stopc ?_)
    refine Stop.go ?_
    have hsz2 := HS.out.size
    refine (findRH_any M cs A c xs _ _ hcs HC.out (H.out.stp0 HS.out) hl (HM.out _ (by omega))).mono ?_
    rintro e w3 ⟨v2, rfl, hr2, hs2⟩
    obtain ⟨A3, c3, rfl, hle3⟩ := hr2.form
    have HR2 := Lib.hid hr2
    have HQ0 := Lib.hid (hs2.blk Q0.out id)
    have HQ1 := Lib.hid (hs2.blk Q1.out id)
    have HQ2 := Lib.hid (hs2.blk Q2.out id)
    have HS2 := Lib.hid (HS.out.trans hs2)
    have hb2lt : b2 < w3.heap.size := blk_lt HQ2.out
    clear hr2 hs2
    go_upto_if 36 with fail
    go_cut [] (fun wx => Stp (fun _ => False) w wx ∧ wx.heap[w.heap.size]? = some (.cells cs 69 (0, 0)) ∧ wx.heap[b1]? = some (.cells #[.bool false, .string ⟨#[]⟩, .slice none 0 0, .slice none 0 0, .bool false] 29 (0, 0)) ∧ (∃ va, Rd str (fun k => k ≤ b2) wx va (alP xs).1 ∧ wx.heap[b2]? = some (.cells #[.bool (findS xs 0).2, .string (nmP xs).1, va, .slice none 0 0, .bool false] 29 (0, 0))) ∧ (alP xs).2 = 0)
    case first =>
      generalize hbn : (findS xs 16).2 = bn at *
      cases bn with
      | true =>
        have hnm : alP xs = protS (findS xs 16).1 := by unfold alP; rw [if_pos hbn]
        go_wp2_with (go_at_call 87; refine stopc ?_)
        refine Stop.go ?_
        refine (protR_any _ _ _ _ HR2.out (findS_len _ _ _ HD.out)).mono ?_
        rw [← hnm]
        clear hnm
        rintro e w4 ⟨vn, rfl, hvn, hs4⟩
        obtain ⟨An, cn, rfl, hlen⟩ := hvn.form
        have hp1 := hs4.blk HQ1.out id
        have hp2 := hs4.blk HQ2.out id
        have HP0 := Lib.hid (hs4.blk HQ0.out id)
        have HS4 := Lib.hid (HS2.out.trans hs4)
        have HVN := Lib.hid hvn
        clear hs4 hvn
        by_cases he : (alP xs).2 ≠ 0
        · have hb : ((alP xs).2 != 0) = true := by simpa using he
          have hse : seeS xs = (Sn.zero, (alP xs).2) := by
            unfold seeS
            rw [if_neg (by rw [HN0.out]; decide), if_pos he]
          have hc10 := blk_cell (j := 0) hp1
          have hc11 := blk_cell (j := 1) hp1
          have hc12 := blk_cell (j := 2) hp1
          have hc13 := blk_cell (j := 3) hp1
          have hc14 := blk_cell (j := 4) hp1
          have hf10 := blk_free hp1 0
          have hf11 := blk_free hp1 1
          have hf12 := blk_free hp1 2
          have hf13 := blk_free hp1 3
          have hf14 := blk_free hp1 4
          have HSE := Lib.hid hse
          have HP1 := Lib.hid hp1
          clear hse hp1
          clear he hp2
          go_wp2
          try simp only [Exit.inBlock, Exit.then]
          refine bodyPost_ret (results_row9 rfl _ _ b1 _ _ _ _ rfl (blk_set (blk_set (blk_set (blk_set (blk_set HP1.out 0 _) 1 _) 2 _) 3 _) 4 _) Tryz.underlying29 rfl (by kernel_rfl)) rfl ⟨_, by rw [HSE.out]; rfl, by rw [HSE.out]; exact ⟨_, _, rfl, Rd.nil _ _ _, Rd.nil _ _ _⟩, ?_⟩
          exact Stp.then_ (T := fun k => k = b1) HS4.out ((((((Stp.refl _ _).setg 0 _).setg 1 _).setg 2 _).setg 3 _).setg 4 _) (fun k hk he => by omega)
        · have hb : ((alP xs).2 != 0) = false := by simpa using he
          have HE := Lib.hid (show (alP xs).2 = 0 by simpa using he)
          have hc22 := blk_cell (j := 2) hp2
          have hf22 := blk_free hp2 2
          have HP1 := Lib.hid hp1
          have HP2 := Lib.hid hp2
          clear hp1 hp2
          clear he
          have hne : ¬ b2 = b1 := by omega
          go_wp2
          go_meet
          have hstp : Stp (fun k => k = b2) w4 (w4.setCell ⟨b2, 2, none⟩ (.slice An (alP xs).1.length cn)) := (Stp.refl _ _).setg 2 _
          refine ⟨Stp.then_ HS4.out hstp (fun k hk he => by omega), hstp.blk HP0.out (by omega), hstp.blk HP1.out (by omega), ⟨_, (HVN.out.weak (M' := fun k => k ≤ b2) (by decide) (fun k hk h => by omega)).step hstp (fun k hk he => by omega), ?_⟩, HE.out⟩
          simpa using blk_set HP2.out 2 (.slice An (alP xs).1.length cn)
      | false =>
        have hnm : alP xs = ([], 0) := by unfold alP; rw [if_neg (by rw [hbn]; decide)]
        go_wp2
        go_meet
        exact ⟨HS2.out, HQ0.out, HQ1.out, ⟨_, by rw [hnm]; exact Rd.nil _ _ _, HQ2.out⟩, by rw [hnm]⟩
    case rest =>
      clear HQ0 HQ1 HQ2 HS2 HR2 HS Q0 Q1 Q2
      obtain ⟨hs, q0, q1, ⟨va, hva, q2⟩, hn1⟩ := hcut
      obtain ⟨Aa, ca, rfl, hlea⟩ := hva.form
      have HS := Lib.hid hs
      have Q0 := Lib.hid q0
      have Q1 := Lib.hid q1
      have Q2 := Lib.hid q2
      have HN1 := Lib.hid hn1
      have HVA := Lib.hid hva
      clear hs q0 q1 q2 hn1 hva
      go_wp2_with (with_reducible refine stop (N := 49) rfl ?_)
      refine Stop.go ?_
      refine wpList_load_row rfl _ _ rfl w.heap.size rfl _ cs (0, 0) _ Q0.out Tryz.underlying69 rfl (by rw [hcs]; kernel_rfl) ?_
      go_wp2_with (go_at_call 85; refine stopc ?_)
      refine Stop.go ?_
      have hsz3 := HS.out.size
      refine (findRH_any M cs A c xs _ _ hcs HC.out (H.out.stp0 HS.out) hl (HM.out _ (by omega))).mono ?_
      rintro e w5 ⟨v2, rfl, hr2, hs2⟩
      obtain ⟨A4, c4, rfl, hle4⟩ := hr2.form
      have HR2 := Lib.hid hr2
      have HQ0 := Lib.hid (hs2.blk Q0.out id)
      have HQ1 := Lib.hid (hs2.blk Q1.out id)
      have HQ2 := Lib.hid (hs2.blk Q2.out id)
      have HS2 := Lib.hid (HS.out.trans hs2)
      have HVA := Lib.hid (HVA.out.stp0 hs2)
      have hb2lt : b2 < w5.heap.size := blk_lt HQ2.out
      clear hr2 hs2
      go_upto_if 53 with fail
      go_cut [] (fun wx => Stp (fun _ => False) w wx ∧ wx.heap[w.heap.size]? = some (.cells cs 69 (0, 0)) ∧ wx.heap[b1]? = some (.cells #[.bool false, .string ⟨#[]⟩, .slice none 0 0, .slice none 0 0, .bool false] 29 (0, 0)) ∧ (∃ va vv, Rd str (fun k => k ≤ b2) wx va (alP xs).1 ∧ Rd (int .i64) (fun k => k ≤ b2) wx vv (vsP xs).1 ∧ wx.heap[b2]? = some (.cells #[.bool (findS xs 0).2, .string (nmP xs).1, va, vv, .bool false] 29 (0, 0))) ∧ (vsP xs).2 = 0)
      case first =>
        generalize hbn : (findS xs 43).2 = bn at *
        cases bn with
        | true =>
          have hnm : vsP xs = versS (findS xs 43).1 := by unfold vsP; rw [if_pos hbn]
          go_wp2_with (go_at_call 88; refine stopc ?_)
          refine Stop.go ?_
          refine (versR_any _ _ _ _ HR2.out (findS_len _ _ _ HD.out)).mono ?_
          rw [← hnm]
          clear hnm
          rintro e w4 ⟨vn, rfl, hvn, hs4⟩
          obtain ⟨An, cn, rfl, hlen⟩ := hvn.form
          have hp1 := hs4.blk HQ1.out id
          have hp2 := hs4.blk HQ2.out id
          have HP0 := Lib.hid (hs4.blk HQ0.out id)
          have HS4 := Lib.hid (HS2.out.trans hs4)
          have HVN := Lib.hid hvn
          have HVA := Lib.hid (HVA.out.stp0 hs4)
          clear hs4 hvn
          by_cases he : (vsP xs).2 ≠ 0
          · have hb : ((vsP xs).2 != 0) = true := by simpa using he
            have hse : seeS xs = (Sn.zero, (vsP xs).2) := by
              unfold seeS
              rw [if_neg (by rw [HN0.out]; decide), if_neg (by rw [HN1.out]; decide), if_pos he]
            have hc10 := blk_cell (j := 0) hp1
            have hc11 := blk_cell (j := 1) hp1
            have hc12 := blk_cell (j := 2) hp1
            have hc13 := blk_cell (j := 3) hp1
            have hc14 := blk_cell (j := 4) hp1
            have hf10 := blk_free hp1 0
            have hf11 := blk_free hp1 1
            have hf12 := blk_free hp1 2
            have hf13 := blk_free hp1 3
            have hf14 := blk_free hp1 4
            have HSE := Lib.hid hse
            have HP1 := Lib.hid hp1
            clear hse hp1
            clear he hp2
            go_wp2
            try simp only [Exit.inBlock, Exit.then]
            refine bodyPost_ret (results_row9 rfl _ _ b1 _ _ _ _ rfl (blk_set (blk_set (blk_set (blk_set (blk_set HP1.out 0 _) 1 _) 2 _) 3 _) 4 _) Tryz.underlying29 rfl (by kernel_rfl)) rfl ⟨_, by rw [HSE.out]; rfl, by rw [HSE.out]; exact ⟨_, _, rfl, Rd.nil _ _ _, Rd.nil _ _ _⟩, ?_⟩
            exact Stp.then_ (T := fun k => k = b1) HS4.out ((((((Stp.refl _ _).setg 0 _).setg 1 _).setg 2 _).setg 3 _).setg 4 _) (fun k hk he => by omega)
          · have hb : ((vsP xs).2 != 0) = false := by simpa using he
            have HE := Lib.hid (show (vsP xs).2 = 0 by simpa using he)
            have hc23 := blk_cell (j := 3) hp2
            have hf23 := blk_free hp2 3
            have HP1 := Lib.hid hp1
            have HP2 := Lib.hid hp2
            clear hp1 hp2
            clear he
            have hne : ¬ b2 = b1 := by omega
            go_wp2
            go_meet
            have hstp : Stp (fun k => k = b2) w4 (w4.setCell ⟨b2, 3, none⟩ (.slice An (vsP xs).1.length cn)) := (Stp.refl _ _).setg 3 _
            refine ⟨Stp.then_ HS4.out hstp (fun k hk he => by omega), hstp.blk HP0.out (by omega), hstp.blk HP1.out (by omega), ⟨_, _, HVA.out.step hstp (fun k hk he => by omega), (HVN.out.weak (M' := fun k => k ≤ b2) (by decide) (fun k hk h => by omega)).step hstp (fun k hk he => by omega), ?_⟩, HE.out⟩
            simpa using blk_set HP2.out 3 (.slice An (vsP xs).1.length cn)
        | false =>
          have hnm : vsP xs = ([], 0) := by unfold vsP; rw [if_neg (by rw [hbn]; decide)]
          go_wp2
          go_meet
          exact ⟨HS2.out, HQ0.out, HQ1.out, ⟨_, _, HVA.out, by rw [hnm]; exact Rd.nil _ _ _, HQ2.out⟩, by rw [hnm]⟩
      case rest =>
        clear HQ0 HQ1 HQ2 HS2 HR2 HS Q0 Q1 Q2 HVA
        obtain ⟨hs, q0, q1, ⟨va2, vv, hva, hvv, q2⟩, hn2⟩ := hcut
        obtain ⟨Ab, cb, rfl, hleb⟩ := hva.form
        obtain ⟨Av, cv, rfl, hlev⟩ := hvv.form
        have hse : seeS xs = (⟨(findS xs 0).2, (nmP xs).1, (alP xs).1, (vsP xs).1, (findS xs 65037).2⟩, 0) := by
          unfold seeS
          rw [if_neg (by rw [HN0.out]; decide), if_neg (by rw [HN1.out]; decide), if_neg (by rw [hn2]; decide)]
        have HS := Lib.hid hs
        have Q0 := Lib.hid q0
        have Q1 := Lib.hid q1
        have Q2 := Lib.hid q2
        have HN2 := Lib.hid hn2
        have HVA := Lib.hid hva
        have HVV := Lib.hid hvv
        have HSE := Lib.hid hse
        clear hs q0 q1 q2 hn2 hva hvv hse
        go_wp2_with (with_reducible refine stop (N := 66) rfl ?_)
        refine Stop.go ?_
        refine wpList_load_row rfl _ _ rfl w.heap.size rfl _ cs (0, 0) _ Q0.out Tryz.underlying69 rfl (by rw [hcs]; kernel_rfl) ?_
        go_wp2_with (go_at_call 85; refine stopc ?_)
        refine Stop.go ?_
        have hsz4 := HS.out.size
        refine (findRH_any M cs A c xs _ _ hcs HC.out (H.out.stp0 HS.out) hl (HM.out _ (by omega))).mono ?_
        rintro e w9 ⟨v9, rfl, hr9, hs9⟩
        obtain ⟨A9, c9, rfl, hle9⟩ := hr9.form
        have q1 := hs9.blk Q1.out id
        have q2 := hs9.blk Q2.out id
        have HT1 := Lib.hid q1
        have HT2 := Lib.hid q2
        have HT := Lib.hid (HS.out.trans hs9)
        have HVA := Lib.hid (HVA.out.stp0 hs9)
        have HVV := Lib.hid (HVV.out.stp0 hs9)
        have hc10 := blk_cell (j := 0) q1
        have hc11 := blk_cell (j := 1) q1
        have hc12 := blk_cell (j := 2) q1
        have hc13 := blk_cell (j := 3) q1
        have hc14 := blk_cell (j := 4) q1
        have hf10 := blk_free q1 0
        have hf11 := blk_free q1 1
        have hf12 := blk_free q1 2
        have hf13 := blk_free q1 3
        have hf14 := blk_free q1 4
        have hc20 := blk_cell (j := 0) q2
        have hc21 := blk_cell (j := 1) q2
        have hc22 := blk_cell (j := 2) q2
        have hc23 := blk_cell (j := 3) q2
        have hc24 := blk_cell (j := 4) q2
        have hf24 := blk_free q2 4
        have hne : ¬ b2 = b1 := by omega
        have hne' : ¬ b1 = b2 := by omega
        clear q1 q2 hr9 hs9
        go_wp2
        try simp only [Exit.inBlock, Exit.then]
        have h2a : Stp (fun k => k = b2) w9 (w9.setCell ⟨b2, 4, none⟩ (.bool (findS xs 65037).2)) := (Stp.refl _ _).setg 4 _
        have hq1 := h2a.blk HT1.out hne'
        refine bodyPost_ret (results_row9 rfl _ _ b1 _ _ _ _ rfl (blk_set (blk_set (blk_set (blk_set (blk_set hq1 0 _) 1 _) 2 _) 3 _) 4 _) Tryz.underlying29 rfl (by kernel_rfl)) rfl ?_
        have hstp := (((((h2a.mono (T := fun k => k = b1 ∨ k = b2) (fun _ _ h => .inr h)).setCell (p := ⟨b1, 0, none⟩) (fun _ => .inl rfl) (.bool (findS xs 0).2)).setCell (p := ⟨b1, 1, none⟩) (fun _ => .inl rfl) (.string (nmP xs).1)).setCell (p := ⟨b1, 2, none⟩) (fun _ => .inl rfl) (.slice Ab (alP xs).1.length cb)).setCell (p := ⟨b1, 3, none⟩) (fun _ => .inl rfl) (.slice Av (vsP xs).1.length cv)).setCell (p := ⟨b1, 4, none⟩) (fun _ => .inl rfl) (.bool (findS xs 65037).2)
        refine ⟨_, by rw [HSE.out]; rfl, ?_, Stp.then_ (T := fun k => k = b1 ∨ k = b2) HT.out hstp (fun k hk he => by omega)⟩
        rw [HSE.out]
        exact ⟨_, _, rfl, (HVA.out.step hstp (fun k hk he => by omega)).weak (by decide) (fun k _ h => by omega), (HVV.out.step hstp (fun k hk he => by omega)).weak (by decide) (fun k _ h => by omega)⟩
end Go.Proofs.YtligofmhbbgalaaGreatDoor.L
