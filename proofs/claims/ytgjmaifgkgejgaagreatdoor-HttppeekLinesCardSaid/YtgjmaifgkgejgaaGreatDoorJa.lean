/- Layer 16: one that looks at bytes. -/
import Derived.Test.YtgjmaifgkgejgaaGreatDoorNp
import Derived.Test.YtgjmaifgkgejgaaGreatDoorNa
import Derived.Test.YtgjmaifgkgejgaaGreatDoorFk
import Derived.Test.YtgjmaifgkgejgaaGreatDoorRw
import Derived.Deep.MidRow
import Derived.Test.YtgjmaifgkgejgaaGreatDoorVi
set_option linter.unusedVariables false
set_option linter.unusedSimpArgs false
namespace Go.Proofs.YtgjmaifgkgejgaaGreatDoor.L
open Go.RowKit Go.Proofs

def fsB (fs : List (List UInt8 × List UInt8)) : List (ByteArray × ByteArray) := fs.map fun x => (strB x.1, strB x.2)
theorem flS_fsB (fs : List (List UInt8 × List UInt8)) : flS (fsB fs) = fs := by
  unfold flS fsB
  rw [List.map_map]
  conv => rhs; rw [← List.map_id fs]
  exact List.map_congr_left fun x _ => by simp [strB]
/-- The cells of one that looks. -/
def pkRow (lv fv : Value) (b f : Bool) (m t : ByteArray) (n st u rs : Int) (ho : ByteArray) (po : Int) : Array Value :=
  #[lv, .bool b, .bool f, .string m, .string t, .int .i64 n, fv, .int .i64 st, .int .i64 2, .int .i64 u, .int .i64 rs, .string ho, .int .i64 po, .bool false, .string ⟨#[]⟩, .slice none 0 0, .slice none 0 0, .bool false]
/-- Its line, and its fields. -/
structure PkO (w : World) (g : Nat) (lv fv : Value) (line : List UInt8) (fs : List (List UInt8 × List UInt8)) : Prop where
  ln : Own enc8 5 (g + 1) w lv line
  fl : OwnM fldK 46 (g + 1) (fun _ => True) w fv (fsB fs)
theorem own_typed {e e' B B' sz sz' n n' : Nat} {w : World} {v v' : Value} {cs cs' : List Value} (h : w.ownsRow B e sz v n cs) (h' : w.ownsRow B' e' sz' v' n' cs') (he : e ≠ e') : ∀ k, v.ownBlock = some k → v'.ownBlock ≠ some k := by
  intro k hk hk'
  rcases h.2 with ⟨rfl, _⟩ | ⟨b, cap, cur, rfl, _, hb, _⟩
  · cases hk
  · rcases h'.2 with ⟨rfl, _⟩ | ⟨b', cap', cur', rfl, _, hb', _⟩
    · cases hk'
    · injection hk with hk
      injection hk' with hk'
      simp only at hk hk'
      rw [hk] at hb
      rw [hk', hb] at hb'
      injection hb' with hb'
      injection hb' with _ h2 _
      exact he h2
theorem PkO.ne {w : World} {g : Nat} {lv fv : Value} {line : List UInt8} {fs : List (List UInt8 × List UInt8)} (h : PkO w g lv fv line fs) : ∀ k, lv.ownBlock = some k → fv.ownBlock ≠ some k := by
  obtain ⟨cs, _, hr⟩ := h.fl.row
  exact own_typed h.ln hr (by decide)
theorem PkO.step {S : Nat → Prop} {w w1 : World} {g : Nat} {lv fv : Value} {line : List UInt8} {fs : List (List UInt8 × List UInt8)} (h : PkO w g lv fv line fs) (hs : Stp S w w1) (hS : ∀ k, g + 1 ≤ k → k < w.heap.size → ¬ S k) : PkO w1 g lv fv line fs :=
  ⟨h.ln.step hs fun k hk => hS k (h.ln.lt k hk).1 (h.ln.lt k hk).2, h.fl.step hs fun k hk hSk => ⟨trivial, fun e => hS k (h.fl.lt k e).1 (h.fl.lt k e).2 hSk⟩⟩
theorem PkO.stp0 {w w1 : World} {g : Nat} {lv fv : Value} {line : List UInt8} {fs : List (List UInt8 × List UInt8)} (h : PkO w g lv fv line fs) (hs : Stp (fun _ => False) w w1) : PkO w1 g lv fv line fs := h.step hs fun _ _ _ h => h
theorem PkO.atg {w w1 : World} {g : Nat} {lv fv : Value} {line : List UInt8} {fs : List (List UInt8 × List UInt8)} (h : PkO w g lv fv line fs) (hs : Stp (fun k => k = g) w w1) : PkO w1 g lv fv line fs := h.step hs fun k h1 _ h2 => by omega
def pkObj (lv fv : Value) (s : Hs) (v : Vd) (u : Nat) : Array Value := pkRow lv fv s.back s.first (strB s.rq.m) (strB s.rq.t) s.rq.n v.st (u : Int) v.rs (strB v.ho) v.po
/-- One that looks lies at g, its line at lv. -/
def PkE (w : World) (g : Nat) (lv : Value) (s : Hs) (v : Vd) (u : Nat) : Prop := ∃ fv, w.heap[g]? = some (.cells (pkObj lv fv s v u) 55 (0, 0)) ∧ PkO w g lv fv s.line s.fs
def PkF (w : World) (g : Nat) (lv fv : Value) (s : Hs) (v : Vd) (u : Nat) : Prop := w.heap[g]? = some (.cells (pkObj lv fv s v u) 55 (0, 0)) ∧ PkO w g lv fv s.line s.fs
def PkB (w : World) (g : Nat) (s : Hs) (v : Vd) (u : Nat) : Prop := ∃ lv, PkE w g lv s v u
theorem PkE.step {S : Nat → Prop} {w w1 : World} {g : Nat} {lv : Value} {s : Hs} {v : Vd} {u : Nat} (h : PkE w g lv s v u) (hs : Stp S w w1) (hS : ∀ k, g ≤ k → k < w.heap.size → ¬ S k) : PkE w1 g lv s v u := by
  obtain ⟨fv, hg, ho⟩ := h
  exact ⟨fv, hs.blk hg (hS g (Nat.le_refl _) (blk_lt hg)), ho.step hs fun k h1 h2 => hS k (by omega) h2⟩
theorem PkE.stp0 {w w1 : World} {g : Nat} {lv : Value} {s : Hs} {v : Vd} {u : Nat} (h : PkE w g lv s v u) (hs : Stp (fun _ => False) w w1) : PkE w1 g lv s v u := h.step hs fun _ _ _ h => h
theorem PkB.stp0 {w w1 : World} {g : Nat} {s : Hs} {v : Vd} {u : Nat} (h : PkB w g s v u) (hs : Stp (fun _ => False) w w1) : PkB w1 g s v u := by
  obtain ⟨lv, h⟩ := h
  exact ⟨lv, h.stp0 hs⟩
theorem PkE.lt {w : World} {g : Nat} {lv : Value} {s : Hs} {v : Vd} {u : Nat} (h : PkE w g lv s v u) : g < w.heap.size := by
  obtain ⟨fv, hg, ho⟩ := h
  exact blk_lt hg
/-- What a call of one that looks leaves. -/
def PkP (w : World) (g : Nat) (lv : Value) (s : Hs) (v : Vd) (u : Nat) (e : Ending) (w' : World) : Prop := e = .returned (.tuple #[]) ∧ PkE w' g lv s v u ∧ Stp (fun k => k = g) w w'
theorem Stp.upto {w w1 : World} {g : Nat} (h : Stp (fun k => k = g) w w1) : Stp (fun k => g ≤ k) w w1 := h.mono fun k _ e => by omega

theorem bp_none {P : Program} {fn : Func} (h : fn.results = #[]) {R : Ending → World → Prop} {t : Array Value} {w : World} (hR : R (.returned (.tuple #[])) w) : bodyPost P fn R .normal { tmps := t, defers := [] } w :=
  ⟨rfl, _, by simp [results, h], hR⟩
theorem bp_noneR {P : Program} {fn : Func} (h : fn.results = #[]) {R : Ending → World → Prop} {t : Array Value} {w : World} (hR : R (.returned (.tuple #[])) w) : bodyPost P fn R .ret { tmps := t, defers := [] } w :=
  ⟨rfl, _, by simp [results, h], hR⟩
set_option maxRecDepth 100000 in
set_option maxHeartbeats 4000000 in
theorem pbad_any (g : Nat) (lv : Value) (s : Hs) (u : Nat) (er : Int) (w : World) (h : PkE w g lv s .open_ u) : Calls Tryz.prog 24 #[.pointer (some ⟨g, 0, none⟩), .int .i64 er] w (PkP w g lv s (.bad er) u) := by
  obtain ⟨R, hR⟩ : ∃ R, R = PkP w g lv s (.bad er) u := ⟨_, rfl⟩
  rw [← hR]
  have HR := Lib.hid hR
  obtain ⟨fv, hg, ho⟩ := h
  have HO := Lib.hid ho
  have HG := Lib.hid hg
  have hc7 := blk_cell (j := 7) hg
  have hc10 := blk_cell (j := 10) hg
  have hf7 := blk_free hg 7
  have hf10 := blk_free hg 10
  simp [pkObj, pkRow] at hc7 hc10
  clear hR ho hg
  go_enter Tryz.func24, Tryz.ntmps24
  go_wp2
  refine bp_none rfl ?_
  rw [HR.out]
  have hs1 : Stp (fun k => k = g) w ((w.setCell ⟨g, 7, none⟩ (.int .i64 2)).setCell ⟨g, 10, none⟩ (.int .i64 er)) := ((Stp.refl _ w).setg 7 _).setg 10 _
  have hb1 := blk_set (blk_set HG.out 7 (.int .i64 2)) 10 (.int .i64 er)
  exact ⟨rfl, ⟨fv, hb1, HO.out.atg hs1⟩, hs1⟩

/-! ### a field's line -/
def hdrE (s : Hs) (l : List UInt8) : Int := if (parseF l).2.2 ≠ 0 then (parseF l).2.2 else if s.fs.length = 100 then 2 else 0
def hdrS (s : Hs) (l : List UInt8) : Hs := if (parseF l).2.2 ≠ 0 then s else if s.fs.length = 100 then s else ⟨s.line, s.back, s.first, s.rq, s.fs ++ [((parseF l).1, (parseF l).2.1)]⟩
def AtF (g : Nat) (fv : Value) (k : Nat) : Prop := k = g ∨ fv.ownBlock = some k
theorem Stp.atF {w w1 : World} {g : Nat} {fv : Value} (h : Stp (fun k => k = g) w w1) : Stp (AtF g fv) w w1 := h.mono fun k _ e => Or.inl e
theorem PkO.atF {w : World} {g : Nat} {lv fv : Value} {line : List UInt8} {fs : List (List UInt8 × List UInt8)} (h : PkO w g lv fv line fs) : ∀ k, AtF g fv k → g ≤ k := by
  intro k hk
  rcases hk with rfl | hk
  · exact Nat.le_refl _
  · exact Nat.le_of_succ_le (h.fl.lt k hk).1
def HdP (w : World) (g : Nat) (lv fv : Value) (s : Hs) (u : Nat) (l : List UInt8) (e : Ending) (w' : World) : Prop := e = .returned (.int .i64 (hdrE s l)) ∧ PkE w' g lv (hdrS s l) .open_ u ∧ Stp (AtF g fv) w w'
theorem fsB_len (fs : List (List UInt8 × List UInt8)) : (fsB fs).length = fs.length := List.length_map _
theorem fsB_snoc (fs : List (List UInt8 × List UInt8)) (n t : List UInt8) : fsB (fs ++ [(n, t)]) = fsB fs ++ [(strB n, strB t)] := by simp [fsB]
set_option maxRecDepth 100000 in
set_option maxHeartbeats 8000000 in
theorem header_any (g : Nat) (lv fv : Value) (s : Hs) (u : Nat) (l : ByteArray) (w : World) (h : PkF w g lv fv s .open_ u) (hl : l.size < 4294967281) (hm : MaxL w) (hn : s.fs.length ≤ 100) :
    Calls Tryz.prog 55 #[.pointer (some ⟨g, 0, none⟩), .string l] w (HdP w g lv fv s u l.data.toList) := by
  obtain ⟨R, hR⟩ : ∃ R, R = HdP w g lv fv s u l.data.toList := ⟨_, rfl⟩
  rw [← hR]
  have HR := Lib.hid hR
  have cp := fun W hW => fparse_any l W hl hW
  obtain ⟨q, hq⟩ : ∃ q, q = parseF l.data.toList := ⟨_, rfl⟩
  rw [← hq] at cp
  have HQ := Lib.hid hq
  obtain ⟨n, t, er⟩ := q
  obtain ⟨N, hN⟩ : ∃ N, N = strB n := ⟨_, rfl⟩
  obtain ⟨T, hT⟩ : ∃ T, T = strB t := ⟨_, rfl⟩
  simp only [← hN, ← hT] at cp
  have HNT := Lib.hid (And.intro hN hT)
  obtain ⟨hg, ho⟩ := h
  obtain ⟨A, c, hfv, hle⟩ := ho.fl.form
  subst hfv
  have HO := Lib.hid ho
  have HG := Lib.hid hg
  obtain ⟨k, hk⟩ : ∃ k, k = (fsB s.fs).length := ⟨_, rfl⟩
  have hk2 : k = s.fs.length := by rw [hk, fsB_len]
  rw [← hk] at HO HG hle
  have HK := Lib.hid hk
  have HK2 := Lib.hid hk2
  have HM := Lib.hid hm
  have HLT := Lib.hid (blk_lt hg)
  have hk100 : k ≤ 100 := by omega
  clear hR hq hN hT ho hg hk hk2 hm hn
  go_enter Tryz.func55, Tryz.ntmps55
  go_wp2_with (go_at_call 97; refine stopc ?_)
  refine Stop.go ?_
  refine (cp _ HM.out).mono ?_
  rintro e w1 ⟨rfl, hs1⟩
  have HS1 := Lib.hid hs1
  have hg1 := hs1.blk HG.out id
  have HG1 := Lib.hid hg1
  have hc6 := blk_cell (j := 6) hg1
  simp [pkObj, pkRow] at hc6
  have ltg := blk_lt hg1
  clear hs1 hg1
  by_cases he : er = 0
  · subst he
    by_cases hk1 : k = 100
    · subst hk1
      go_wp2
      rw [HR.out]
      have e1 : hdrE s l.data.toList = 2 := by unfold hdrE; rw [← HQ.out, if_neg (by simp), if_pos HK2.out.symm]
      have e2 : hdrS s l.data.toList = s := by unfold hdrS; rw [← HQ.out, if_neg (by simp), if_pos HK2.out.symm]
      refine ⟨by rw [e1]; rfl, by rw [e2]; exact ⟨_, ((Stp.refl (fun _ => False) w1).alloc _).blk HG1.out id, (HO.out.stp0 HS1.out).stp0 ((Stp.refl (fun _ => False) w1).alloc _)⟩, (HS1.out.alloc _).to⟩
    · have hk3 : ((k : Int) == 100) = false := by simp; omega
      go_wp2_with fail
      have hT0 : Stp (fun _ => False) (w1.alloc (.cells #[.string N, .string T] 46)) (w1.alloc (.cells #[.string N, .string T] 46)).drew := (Stp.refl _ _).drew
      have HFA := Lib.hid (FAt.alloc w1 N T)
      have HNB := Lib.hid (ne_own (HO.out.stp0 HS1.out).fl)
      have HGB : Hid (g ≠ w1.heap.size) := Lib.hid (by omega)
      have HO1 := Lib.hid ((HO.out.stp0 HS1.out).stp0 ((Stp.refl (fun _ => False) w1).alloc (.cells #[.string N, .string T] 46)))
      have HB1 := Lib.hid (((Stp.refl (fun _ => False) w1).alloc (.cells #[.string N, .string T] 46)).blk HG1.out id)
      have HS2 := Lib.hid (HS1.out.alloc (.cells #[.string N, .string T] 46))
      generalize w1.alloc (.cells #[.string N, .string T] 46) = w2 at *
      obtain ⟨b, hb⟩ : ∃ b, b = w1.heap.size := ⟨_, rfl⟩
      rw [← hb] at HFA HNB HGB
      simp only [← hb]
      clear hb
      refine wp_region_held_drew (S := FAt b N T) (by kernel_rfl) (HFA.out.step hT0) (fun hHeld => ?_)
      try (change wpAnyH _ _ _ _ _ _ _ _ (World.drew _))
      generalize w2.drew = W0 at hT0 hHeld ⊢
      have HFS := Lib.hid (HFA.out.step hT0)
      have HT := Lib.hid (HS2.out.trans hT0)
      have HOW := Lib.hid (HO1.out.stp0 hT0)
      have HB := Lib.hid (hT0.blk HB1.out id)
      have HLIT : True := trivial
      have HLN : True := trivial
      have HFL : True := trivial
      have HNE : True := trivial
      clear hT0
      refine rg_take (i := 0) (o := { dst := some 21, op := Op.move (Operand.tmp 0), type := 34, pos := "httppeek.go:58", after := #[], guard := none }) (v := ?rgv1) rfl (by kernel_rfl) (by kernel_rfl) (by kernel_rfl) (fun _ _ _ h => h) (by rfl) (fun w hSw => ?rgy1) hHeld ?_
      case rgy1 => (try dsimp only at hSw); first | (go_simp; done) | (go_simp; with_reducible rfl)
      try simp only [Act.put, List.setIfInBounds_toArray, List.set_cons_zero, List.set_cons_succ]
      refine rg_take (i := 1) (o := { dst := some 22, op := Op.move (Operand.tmp 0), type := 34, pos := "httppeek.go:58", after := #[], guard := none }) (v := ?rgv2) rfl (by kernel_rfl) (by kernel_rfl) (by kernel_rfl) (fun _ _ _ h => h) (by rfl) (fun w hSw => ?rgy2) hHeld ?_
      case rgy2 => (try dsimp only at hSw); first | (go_simp; done) | (go_simp; with_reducible rfl)
      try simp only [Act.put, List.setIfInBounds_toArray, List.set_cons_zero, List.set_cons_succ]
      refine rg_take (i := 2) (o := { dst := some 23, op := Op.nilCheck (Operand.tmp 22), type := 0, pos := "httppeek.go:58", after := #[{ on := 1, ground := Ground.data }], guard := none }) (v := ?rgv3) rfl (by kernel_rfl) (by kernel_rfl) (by kernel_rfl) (fun _ _ _ h => h) (by rfl) (fun w hSw => ?rgy3) hHeld ?_
      case rgy3 => (try dsimp only at hSw); first | (go_simp; done) | (go_simp; with_reducible rfl)
      try simp only [Act.put, List.setIfInBounds_toArray, List.set_cons_zero, List.set_cons_succ]
      refine rg_take (i := 3) (o := { dst := some 24, op := Op.fieldAddr 55 (Operand.tmp 23) 4, type := 0, pos := "httppeek.go:58", after := #[{ on := 2, ground := Ground.data }], guard := none }) (v := ?rgv4) rfl (by kernel_rfl) (by kernel_rfl) (by kernel_rfl) (fun _ _ _ h => h) (by rfl) (fun w hSw => ?rgy4) hHeld ?_
      case rgy4 => (try dsimp only at hSw); first | (go_simp; done) | (go_simp; with_reducible rfl)
      try simp only [Act.put, List.setIfInBounds_toArray, List.set_cons_zero, List.set_cons_succ]
      refine rg_take (i := 5) (o := { dst := some 26, op := Op.load 46 (Operand.tmp 5), type := 46, pos := "httppeek.go:58", after := #[], guard := none }) (v := ?rgv5) rfl (by kernel_rfl) (by kernel_rfl) (by kernel_rfl) (fun _ _ _ h => h) (by rfl) (fun w hSw => ?rgy5) hHeld ?_
      case rgy5 => (have hk0 := hSw.1; have hk1 := hSw.2; go_simp; with_reducible rfl)
      try simp only [Act.put, List.setIfInBounds_toArray, List.set_cons_zero, List.set_cons_succ]
      refine wpAnyH_ready (rs := [4, 6]) (by kernel_rfl) (by simp) ?_
      refine (AllReadyH.cons (o := { dst := some 25, op := Op.load 41 (Operand.tmp 24), type := 41, pos := "httppeek.go:58", after := #[{ on := 3, ground := Ground.data }], guard := none }) rfl (fun K hK => ?_) (AllReadyH.cons (o := { dst := some 27, op := Op.buildSlice 41 1 #[(0, Operand.tmp 26)], type := 41, pos := "httppeek.go:58", after := #[{ on := 5, ground := Ground.data }], guard := none }) rfl (fun K hK => ?_) AllReadyH.nil))
      · skip
        obtain ⟨W1, rfl⟩ : ∃ W : World, W = W0 := ⟨_, rfl⟩
        have hk6 := blk_cell (j := 6) HB.out
        simp [pkObj, pkRow] at hk6
        go_simp
        clear hk6
        show K _ _
        clear hHeld
        refine hK.out _ _ (HFS.out) (fun hHeld => ?_)
        clear hK K
        try simp only [Act.put, List.setIfInBounds_toArray, List.set_cons_zero, List.set_cons_succ]
        refine wpAnyH_ready (rs := [6]) (by kernel_rfl) (by simp) ?_
        refine (AllReadyH.cons (o := { dst := some 27, op := Op.buildSlice 41 1 #[(0, Operand.tmp 26)], type := 41, pos := "httppeek.go:58", after := #[{ on := 5, ground := Ground.data }], guard := none }) rfl (fun K hK => ?_) AllReadyH.nil)
        go_simp
        have o1 := FAt.alloc W1 N T
        have p1 := (Stp.refl (fun _ => False) W1).alloc (.cells #[.string N, .string T] 46)
        generalize W1.alloc (.cells #[.string N, .string T] 46) = W2 at o1 p1 ⊢
        replace HFS := Lib.hid (HFS.out.step p1)
        replace HNE := Lib.hid (ne_own HOW.out.fl)
        replace HOW := Lib.hid (HOW.out.stp0 p1)
        replace HB := Lib.hid (p1.blk HB.out id)
        replace HLIT := Lib.hid o1
        replace HT := Lib.hid (HT.out.trans p1)
        clear o1 p1
        show K _ _
        clear hHeld
        refine hK.out _ _ (HFS.out) (fun hHeld => ?_)
        clear hK K
        try simp only [Act.put, List.setIfInBounds_toArray, List.set_cons_zero, List.set_cons_succ]
        refine wpAnyH_ready (rs := [7]) (by kernel_rfl) (by simp) ?_
        refine (AllReadyH.cons (o := { dst := some 28, op := Op.call { callee := Callee.builtin Builtin.append, args := #[Operand.tmp 25, Operand.tmp 27], argTypes := #[41, 41] }, type := 41, pos := "httppeek.go:58", after := #[{ on := 4, ground := Ground.data }, { on := 6, ground := Ground.data }], guard := none }) rfl (fun K hK => ?_) AllReadyH.nil)
        refine op_appendRdM (d := fldK) (B := g + 1) (M := fun _ => True) (ys := [(N, T)]) _ _ _ (by rfl) Tryz.underlying41 info_fld (by rfl) (by decide) HOW.out.fl (HLIT.out.now _) (fun k hk => trivial) (by rfl) (by rfl) (by have := HK.out; simp; omega) (by have := HK.out; simp; omega) (by have := HT.out.size; have := HLT.out; omega) ?_
        intro vB W3 ho hg
        have q1 := HOW.out.ln.step (Stp.of_grown hg) (fun k h1 h2 => HOW.out.ne k h1 h2)
        have p1 : Stp (AtF g (.slice A k c)) W2 W3 := (Stp.of_grown hg).mono (fun _ _ h => Or.inr h)
        have b1 := (Stp.of_grown hg).blk HB.out (fun h => by have := (HOW.out.fl.lt g h).1; omega)
        have f1 : FAt b N T W3 := HFS.out.grown hg (fun h => HNB.out _ h rfl)
        have hf6 := blk_free b1 6
        have hk6 := blk_cell (j := 6) b1
        simp [pkObj, pkRow] at hk6
        obtain ⟨Y, hY⟩ : ∃ Y, Y = fsB s.fs ++ [(N, T)] := ⟨_, rfl⟩
        rw [← hY] at ho
        obtain ⟨A2, c2, rfl, hle2⟩ := ho.form
        have HYY := Lib.hid hY
        clear hY
        replace HFS := Lib.hid f1
        replace HT := Lib.hid (HT.out.to.trans p1)
        replace HLN := Lib.hid q1
        replace HFL := Lib.hid ho
        replace HB := Lib.hid b1
        clear ho hg q1 p1 b1 f1
        show K _ _
        clear hHeld
        refine hK.out _ _ (HFS.out) (fun hHeld => ?_)
        clear hK K
        try simp only [Act.put, List.setIfInBounds_toArray, List.set_cons_zero, List.set_cons_succ]
        refine rg_take (i := 8) (o := { dst := some 29, op := Op.nilCheck (Operand.tmp 21), type := 0, pos := "httppeek.go:58", after := #[{ on := 0, ground := Ground.data }, { on := 0, ground := Ground.phase }, { on := 1, ground := Ground.phase }, { on := 2, ground := Ground.phase }, { on := 3, ground := Ground.phase }, { on := 4, ground := Ground.phase }, { on := 5, ground := Ground.phase }, { on := 6, ground := Ground.phase }, { on := 7, ground := Ground.phase }], guard := none }) (v := ?rgv6) rfl (by kernel_rfl) (by kernel_rfl) (by kernel_rfl) (fun _ _ _ h => h) (by rfl) (fun w hSw => ?rgy6) hHeld ?_
        case rgy6 => (try dsimp only at hSw); first | (go_simp; done) | (go_simp; with_reducible rfl)
        try simp only [Act.put, List.setIfInBounds_toArray, List.set_cons_zero, List.set_cons_succ]
        refine rg_take (i := 9) (o := { dst := some 30, op := Op.fieldAddr 55 (Operand.tmp 29) 4, type := 0, pos := "httppeek.go:58", after := #[{ on := 8, ground := Ground.data }, { on := 0, ground := Ground.phase }, { on := 1, ground := Ground.phase }, { on := 2, ground := Ground.phase }, { on := 3, ground := Ground.phase }, { on := 4, ground := Ground.phase }, { on := 5, ground := Ground.phase }, { on := 6, ground := Ground.phase }, { on := 7, ground := Ground.phase }], guard := none }) (v := ?rgv7) rfl (by kernel_rfl) (by kernel_rfl) (by kernel_rfl) (fun _ _ _ h => h) (by rfl) (fun w hSw => ?rgy7) hHeld ?_
        case rgy7 => (try dsimp only at hSw); first | (go_simp; done) | (go_simp; with_reducible rfl)
        try simp only [Act.put, List.setIfInBounds_toArray, List.set_cons_zero, List.set_cons_succ]
        refine wpAnyH_ready (rs := [10]) (by kernel_rfl) (by simp) ?_
        refine (AllReadyH.cons (o := { dst := none, op := Op.store 41 (Operand.tmp 30) (Operand.tmp 28), type := 0, pos := "httppeek.go:58", after := #[{ on := 9, ground := Ground.data }, { on := 7, ground := Ground.data }, { on := 7, ground := Ground.chain }, { on := 0, ground := Ground.phase }, { on := 1, ground := Ground.phase }, { on := 2, ground := Ground.phase }, { on := 3, ground := Ground.phase }, { on := 4, ground := Ground.phase }, { on := 5, ground := Ground.phase }, { on := 6, ground := Ground.phase }, { on := 7, ground := Ground.phase }], guard := none }) rfl (fun K hK => ?_) AllReadyH.nil)
        go_simp
        have p2 := (Stp.refl (fun k => k = g) W3).setg 6 (.slice A2 Y.length c2)
        have b2 := blk_set HB.out 6 (.slice A2 Y.length c2)
        generalize W3.setCell ⟨g, 6, none⟩ (.slice A2 Y.length c2) = W4 at p2 b2 ⊢
        replace HFS := Lib.hid (show FAt b N T W4 from ⟨p2.cell HFS.out.1 (fun h => HGB.out h.symm), p2.cell HFS.out.2 (fun h => HGB.out h.symm)⟩)
        replace HT := Lib.hid (HT.out.trans p2.atF)
        replace HLN := Lib.hid (HLN.out.step p2 (fun k h1 h2 => by have := (HLN.out.lt k h1).1; omega))
        replace HFL := Lib.hid (HFL.out.step p2 (fun k _ h2 => ⟨trivial, fun h1 => by have := (HFL.out.lt k h1).1; omega⟩))
        replace HB := Lib.hid b2
        clear p2 b2
        show K _ _
        clear hHeld
        refine hK.out _ _ (HFS.out) (fun hHeld => ?_)
        clear hK K
        try simp only [Act.put, List.setIfInBounds_toArray, List.set_cons_zero, List.set_cons_succ]
        clear hHeld
        refine wpAnyH_done (by kernel_rfl) ?_ _
        go_wp2
        rw [HR.out]
        have hn100 : ¬ s.fs.length = 100 := by have := HK2.out; omega
        have e1 : hdrE s l.data.toList = 0 := by unfold hdrE; rw [← HQ.out, if_neg (by simp), if_neg hn100]
        have e2 : hdrS s l.data.toList = ⟨s.line, s.back, s.first, s.rq, s.fs ++ [(n, t)]⟩ := by unfold hdrS; rw [← HQ.out, if_neg (by simp), if_neg hn100]
        refine ⟨by rw [e1]; rfl, ?_, by rw [← HK.out]; exact HT.out⟩
        rw [e2]
        refine ⟨_, HB.out, HLN.out, ?_⟩
        show OwnM _ _ _ _ _ _ (fsB (s.fs ++ [(n, t)]))
        rw [fsB_snoc, ← HNT.out.1, ← HNT.out.2, ← HYY.out]
        exact HFL.out
      · skip
        go_simp
        have o1 := FAt.alloc W0 N T
        have p1 := (Stp.refl (fun _ => False) W0).alloc (.cells #[.string N, .string T] 46)
        generalize W0.alloc (.cells #[.string N, .string T] 46) = W1 at o1 p1 ⊢
        replace HFS := Lib.hid (HFS.out.step p1)
        replace HNE := Lib.hid (ne_own HOW.out.fl)
        replace HOW := Lib.hid (HOW.out.stp0 p1)
        replace HB := Lib.hid (p1.blk HB.out id)
        replace HLIT := Lib.hid o1
        replace HT := Lib.hid (HT.out.trans p1)
        clear o1 p1
        show K _ _
        clear hHeld
        refine hK.out _ _ (HFS.out) (fun hHeld => ?_)
        clear hK K
        try simp only [Act.put, List.setIfInBounds_toArray, List.set_cons_zero, List.set_cons_succ]
        refine wpAnyH_ready (rs := [4]) (by kernel_rfl) (by simp) ?_
        refine (AllReadyH.cons (o := { dst := some 25, op := Op.load 41 (Operand.tmp 24), type := 41, pos := "httppeek.go:58", after := #[{ on := 3, ground := Ground.data }], guard := none }) rfl (fun K hK => ?_) AllReadyH.nil)
        obtain ⟨W2, rfl⟩ : ∃ W : World, W = W1 := ⟨_, rfl⟩
        have hk6 := blk_cell (j := 6) HB.out
        simp [pkObj, pkRow] at hk6
        go_simp
        clear hk6
        show K _ _
        clear hHeld
        refine hK.out _ _ (HFS.out) (fun hHeld => ?_)
        clear hK K
        try simp only [Act.put, List.setIfInBounds_toArray, List.set_cons_zero, List.set_cons_succ]
        refine wpAnyH_ready (rs := [7]) (by kernel_rfl) (by simp) ?_
        refine (AllReadyH.cons (o := { dst := some 28, op := Op.call { callee := Callee.builtin Builtin.append, args := #[Operand.tmp 25, Operand.tmp 27], argTypes := #[41, 41] }, type := 41, pos := "httppeek.go:58", after := #[{ on := 4, ground := Ground.data }, { on := 6, ground := Ground.data }], guard := none }) rfl (fun K hK => ?_) AllReadyH.nil)
        refine op_appendRdM (d := fldK) (B := g + 1) (M := fun _ => True) (ys := [(N, T)]) _ _ _ (by rfl) Tryz.underlying41 info_fld (by rfl) (by decide) HOW.out.fl (HLIT.out.now _) (fun k hk => trivial) (by rfl) (by rfl) (by have := HK.out; simp; omega) (by have := HK.out; simp; omega) (by have := HT.out.size; have := HLT.out; omega) ?_
        intro vB W3 ho hg
        have q1 := HOW.out.ln.step (Stp.of_grown hg) (fun k h1 h2 => HOW.out.ne k h1 h2)
        have p1 : Stp (AtF g (.slice A k c)) W2 W3 := (Stp.of_grown hg).mono (fun _ _ h => Or.inr h)
        have b1 := (Stp.of_grown hg).blk HB.out (fun h => by have := (HOW.out.fl.lt g h).1; omega)
        have f1 : FAt b N T W3 := HFS.out.grown hg (fun h => HNB.out _ h rfl)
        have hf6 := blk_free b1 6
        have hk6 := blk_cell (j := 6) b1
        simp [pkObj, pkRow] at hk6
        obtain ⟨Y, hY⟩ : ∃ Y, Y = fsB s.fs ++ [(N, T)] := ⟨_, rfl⟩
        rw [← hY] at ho
        obtain ⟨A2, c2, rfl, hle2⟩ := ho.form
        have HYY := Lib.hid hY
        clear hY
        replace HFS := Lib.hid f1
        replace HT := Lib.hid (HT.out.to.trans p1)
        replace HLN := Lib.hid q1
        replace HFL := Lib.hid ho
        replace HB := Lib.hid b1
        clear ho hg q1 p1 b1 f1
        show K _ _
        clear hHeld
        refine hK.out _ _ (HFS.out) (fun hHeld => ?_)
        clear hK K
        try simp only [Act.put, List.setIfInBounds_toArray, List.set_cons_zero, List.set_cons_succ]
        refine rg_take (i := 8) (o := { dst := some 29, op := Op.nilCheck (Operand.tmp 21), type := 0, pos := "httppeek.go:58", after := #[{ on := 0, ground := Ground.data }, { on := 0, ground := Ground.phase }, { on := 1, ground := Ground.phase }, { on := 2, ground := Ground.phase }, { on := 3, ground := Ground.phase }, { on := 4, ground := Ground.phase }, { on := 5, ground := Ground.phase }, { on := 6, ground := Ground.phase }, { on := 7, ground := Ground.phase }], guard := none }) (v := ?rgv8) rfl (by kernel_rfl) (by kernel_rfl) (by kernel_rfl) (fun _ _ _ h => h) (by rfl) (fun w hSw => ?rgy8) hHeld ?_
        case rgy8 => (try dsimp only at hSw); first | (go_simp; done) | (go_simp; with_reducible rfl)
        try simp only [Act.put, List.setIfInBounds_toArray, List.set_cons_zero, List.set_cons_succ]
        refine rg_take (i := 9) (o := { dst := some 30, op := Op.fieldAddr 55 (Operand.tmp 29) 4, type := 0, pos := "httppeek.go:58", after := #[{ on := 8, ground := Ground.data }, { on := 0, ground := Ground.phase }, { on := 1, ground := Ground.phase }, { on := 2, ground := Ground.phase }, { on := 3, ground := Ground.phase }, { on := 4, ground := Ground.phase }, { on := 5, ground := Ground.phase }, { on := 6, ground := Ground.phase }, { on := 7, ground := Ground.phase }], guard := none }) (v := ?rgv9) rfl (by kernel_rfl) (by kernel_rfl) (by kernel_rfl) (fun _ _ _ h => h) (by rfl) (fun w hSw => ?rgy9) hHeld ?_
        case rgy9 => (try dsimp only at hSw); first | (go_simp; done) | (go_simp; with_reducible rfl)
        try simp only [Act.put, List.setIfInBounds_toArray, List.set_cons_zero, List.set_cons_succ]
        refine wpAnyH_ready (rs := [10]) (by kernel_rfl) (by simp) ?_
        refine (AllReadyH.cons (o := { dst := none, op := Op.store 41 (Operand.tmp 30) (Operand.tmp 28), type := 0, pos := "httppeek.go:58", after := #[{ on := 9, ground := Ground.data }, { on := 7, ground := Ground.data }, { on := 7, ground := Ground.chain }, { on := 0, ground := Ground.phase }, { on := 1, ground := Ground.phase }, { on := 2, ground := Ground.phase }, { on := 3, ground := Ground.phase }, { on := 4, ground := Ground.phase }, { on := 5, ground := Ground.phase }, { on := 6, ground := Ground.phase }, { on := 7, ground := Ground.phase }], guard := none }) rfl (fun K hK => ?_) AllReadyH.nil)
        go_simp
        have p2 := (Stp.refl (fun k => k = g) W3).setg 6 (.slice A2 Y.length c2)
        have b2 := blk_set HB.out 6 (.slice A2 Y.length c2)
        generalize W3.setCell ⟨g, 6, none⟩ (.slice A2 Y.length c2) = W4 at p2 b2 ⊢
        replace HFS := Lib.hid (show FAt b N T W4 from ⟨p2.cell HFS.out.1 (fun h => HGB.out h.symm), p2.cell HFS.out.2 (fun h => HGB.out h.symm)⟩)
        replace HT := Lib.hid (HT.out.trans p2.atF)
        replace HLN := Lib.hid (HLN.out.step p2 (fun k h1 h2 => by have := (HLN.out.lt k h1).1; omega))
        replace HFL := Lib.hid (HFL.out.step p2 (fun k _ h2 => ⟨trivial, fun h1 => by have := (HFL.out.lt k h1).1; omega⟩))
        replace HB := Lib.hid b2
        clear p2 b2
        show K _ _
        clear hHeld
        refine hK.out _ _ (HFS.out) (fun hHeld => ?_)
        clear hK K
        try simp only [Act.put, List.setIfInBounds_toArray, List.set_cons_zero, List.set_cons_succ]
        clear hHeld
        refine wpAnyH_done (by kernel_rfl) ?_ _
        go_wp2
        rw [HR.out]
        have hn100 : ¬ s.fs.length = 100 := by have := HK2.out; omega
        have e1 : hdrE s l.data.toList = 0 := by unfold hdrE; rw [← HQ.out, if_neg (by simp), if_neg hn100]
        have e2 : hdrS s l.data.toList = ⟨s.line, s.back, s.first, s.rq, s.fs ++ [(n, t)]⟩ := by unfold hdrS; rw [← HQ.out, if_neg (by simp), if_neg hn100]
        refine ⟨by rw [e1]; rfl, ?_, by rw [← HK.out]; exact HT.out⟩
        rw [e2]
        refine ⟨_, HB.out, HLN.out, ?_⟩
        show OwnM _ _ _ _ _ _ (fsB (s.fs ++ [(n, t)]))
        rw [fsB_snoc, ← HNT.out.1, ← HNT.out.2, ← HYY.out]
        exact HFL.out
  · have hne : (er != 0) = true := by simpa using he
    have e1 : hdrE s l.data.toList = er := by unfold hdrE; rw [← HQ.out, if_pos he]
    have e2 : hdrS s l.data.toList = s := by unfold hdrS; rw [← HQ.out, if_pos he]
    have HE := Lib.hid (And.intro e1 e2)
    clear e1 e2 he
    go_wp2
    rw [HR.out]
    refine ⟨by rw [HE.out.1]; rfl, by rw [HE.out.2]; exact ⟨_, ((Stp.refl (fun _ => False) w1).alloc _).blk HG1.out id, (HO.out.stp0 HS1.out).stp0 ((Stp.refl (fun _ => False) w1).alloc _)⟩, (HS1.out.alloc _).to⟩
end Go.Proofs.YtgjmaifgkgejgaaGreatDoor.L

/-! Layer 16: a head's end, a line, a byte. -/
namespace Go.Proofs.YtgjmaifgkgejgaaGreatDoor.L
open Go.RowKit Go.Proofs

/-- The cells from the request on, in block g. -/
def ReqC (g : Nat) (m t : ByteArray) (n : Int) (fv : Value) (w : World) : Prop := w.cell? ⟨g, 3, none⟩ = some (.string m) ∧ w.cell? ⟨g, 4, none⟩ = some (.string t) ∧ w.cell? ⟨g, 5, none⟩ = some (.int .i64 n) ∧ w.cell? ⟨g, 6, none⟩ = some fv
theorem ReqC.step {g : Nat} {m t : ByteArray} {n : Int} {fv : Value} {w w1 : World} (h : ReqC g m t n fv w) (hs : Stp (fun _ => False) w w1) : ReqC g m t n fv w1 := ⟨hs.cell h.1 id, hs.cell h.2.1 id, hs.cell h.2.2.1 id, hs.cell h.2.2.2 id⟩
set_option maxRecDepth 100000 in
set_option maxHeartbeats 8000000 in
theorem finish_any (g : Nat) (lv : Value) (s : Hs) (u : Nat) (w : World) (h : PkE w g lv s .open_ u) (he : EnvP w) (hok : HsOk s u) (hu : u ≤ 1000000) :
    Calls Tryz.prog 54 #[.pointer (some ⟨g, 0, none⟩)] w (PkP w g lv s (judgeH s.rq s.fs) u) := by
  obtain ⟨R, hR⟩ : ∃ R, R = PkP w g lv s (judgeH s.rq s.fs) u := ⟨_, rfl⟩
  rw [← hR]
  have HR := Lib.hid hR
  have HV := Lib.hid he
  obtain ⟨fv, hg, ho⟩ := h
  have hG := hg
  have hfl := fsB_len s.fs
  have hf1 := hok.fs
  have hz : (findF hostL (flS (fsB s.fs))).1.length ≤ 1000000 := by
    rw [flS_fsB]
    exact findF_tx _ _ _ fun x hx => by have := (hok.tx x hx).2; omega
  obtain ⟨m, hm⟩ : ∃ m, m = strB s.rq.m := ⟨_, rfl⟩
  obtain ⟨t, ht⟩ : ∃ t, t = strB s.rq.t := ⟨_, rfl⟩
  have htz : t.size < 4294967280 := by
    rw [ht, strB_size]
    have := hok.rq
    omega
  have hmd : m.data.toList = s.rq.m := by rw [hm]; simp [strB]
  have htd : t.data.toList = s.rq.t := by rw [ht]; simp [strB]
  obtain ⟨n, hn⟩ : ∃ n, n = s.rq.n := ⟨_, rfl⟩
  have hrc : ReqC g m t n fv w := by
    rw [hm, ht, hn]
    exact ⟨by rw [blk_cell hg]; rfl, by rw [blk_cell hg]; rfl, by rw [blk_cell hg]; rfl, by rw [blk_cell hg]; rfl⟩
  have hrd : Rd fldK (fun _ => False) w fv (fsB s.fs) := ho.fl.rd (fun _ _ _ => trivial) (fun _ _ h => h)
  have cO := fun W hs hW => of_any (fun _ => False) fv (fsB s.fs) m t n W (hrd.stp0 hs) (by omega) (by omega) htz hW
  rw [hmd, htd, flS_fsB] at cO
  have hol : (ofS s.rq.m s.rq.t s.fs).1.length ≤ 1000000 + 200 := ofS_len _ _ _ _ (by rw [flS_fsB] at hz; exact hz) (by have := hok.rq; omega)
  obtain ⟨q, hq⟩ : ∃ q, q = ofS s.rq.m s.rq.t s.fs := ⟨_, rfl⟩
  unfold HpP at cO
  rw [← hq] at cO hol
  have HQ := Lib.hid hq
  obtain ⟨h0, p0, e0⟩ := q
  obtain ⟨H0, hH0⟩ : ∃ H, H = strB h0 := ⟨_, rfl⟩
  have hH0d : H0.data.toList = h0 := by rw [hH0]; simp [strB]
  have hH0s : H0.size < 4294967280 := by rw [hH0, strB_size]; simp only at hol; omega
  simp only [← hH0] at cO
  have cN := fun W hW => norm_any H0 W hH0s hW
  rw [hH0d] at cN
  obtain ⟨r, hr⟩ : ∃ r, r = normN h0 := ⟨_, rfl⟩
  unfold NormP at cN
  rw [← hr] at cN
  have HRR := Lib.hid hr
  obtain ⟨n1, e1⟩ := r
  obtain ⟨N1, hN1⟩ : ∃ H, H = strB n1 := ⟨_, rfl⟩
  simp only [← hN1] at cN
  have HN1 := Lib.hid hN1
  have HG := Lib.hid hG
  have HO := Lib.hid ho
  have HRC := Lib.hid hrc
  have ltg := blk_lt hg
  obtain ⟨A, c, rfl, hle⟩ := hrd.form
  clear hR he hg ho hG hfl hf1 hz hm ht htz hmd htd hn hrd hol hq hH0 hH0d hH0s hr hN1 hrc hok
  go_enter Tryz.func54, Tryz.ntmps54
  go_wp2_with fail
  have hT0 : Stp (fun _ => False) w w.drew := (Stp.refl _ _).drew
  refine wp_region_held_drew (S := ReqC g m t n (.slice A (fsB s.fs).length c)) (by kernel_rfl) (HRC.out.step hT0) (fun hHeld => ?_)
  try (change wpAnyH _ _ _ _ _ _ _ _ (World.drew _))
  generalize w.drew = W0 at hT0 hHeld ⊢
  have HT := Lib.hid hT0
  have HRS := Lib.hid (HRC.out.step hT0)
  clear hT0
  refine rg_take (i := 0) (o := { dst := some 6, op := Op.move (Operand.tmp 0), type := 34, pos := "httppeek.go:38", after := #[], guard := none }) (v := ?rgv10) rfl (by kernel_rfl) (by kernel_rfl) (by kernel_rfl) (fun _ _ _ h => h) (by rfl) (fun w hSw => ?rgy10) hHeld ?_
  case rgy10 => (try dsimp only at hSw); first | (go_simp; done) | (go_simp; with_reducible rfl)
  try simp only [Act.put, List.setIfInBounds_toArray, List.set_cons_zero, List.set_cons_succ]
  refine rg_take (i := 1) (o := { dst := some 7, op := Op.nilCheck (Operand.tmp 6), type := 0, pos := "httppeek.go:38", after := #[{ on := 0, ground := Ground.data }], guard := none }) (v := ?rgv11) rfl (by kernel_rfl) (by kernel_rfl) (by kernel_rfl) (fun _ _ _ h => h) (by rfl) (fun w hSw => ?rgy11) hHeld ?_
  case rgy11 => (try dsimp only at hSw); first | (go_simp; done) | (go_simp; with_reducible rfl)
  try simp only [Act.put, List.setIfInBounds_toArray, List.set_cons_zero, List.set_cons_succ]
  refine rg_take (i := 2) (o := { dst := some 8, op := Op.fieldAddr 55 (Operand.tmp 7) 3, type := 0, pos := "httppeek.go:38", after := #[{ on := 1, ground := Ground.data }], guard := none }) (v := ?rgv12) rfl (by kernel_rfl) (by kernel_rfl) (by kernel_rfl) (fun _ _ _ h => h) (by rfl) (fun w hSw => ?rgy12) hHeld ?_
  case rgy12 => (try dsimp only at hSw); first | (go_simp; done) | (go_simp; with_reducible rfl)
  try simp only [Act.put, List.setIfInBounds_toArray, List.set_cons_zero, List.set_cons_succ]
  refine rg_take (i := 3) (o := { dst := some 9, op := Op.load 40 (Operand.tmp 8), type := 40, pos := "httppeek.go:38", after := #[{ on := 2, ground := Ground.data }], guard := none }) (v := ?rgv13) rfl (by kernel_rfl) (by kernel_rfl) (by kernel_rfl) (fun _ _ _ h => h) (by rfl) (fun w hSw => ?rgy13) hHeld ?_
  case rgy13 => (have hk0 := hSw.1; have hk1 := hSw.2.1; have hk2 := hSw.2.2.1; go_simp; with_reducible rfl)
  try simp only [Act.put, List.setIfInBounds_toArray, List.set_cons_zero, List.set_cons_succ]
  refine rg_take (i := 4) (o := { dst := some 10, op := Op.move (Operand.tmp 0), type := 34, pos := "httppeek.go:38", after := #[], guard := none }) (v := ?rgv14) rfl (by kernel_rfl) (by kernel_rfl) (by kernel_rfl) (fun _ _ _ h => h) (by rfl) (fun w hSw => ?rgy14) hHeld ?_
  case rgy14 => (try dsimp only at hSw); first | (go_simp; done) | (go_simp; with_reducible rfl)
  try simp only [Act.put, List.setIfInBounds_toArray, List.set_cons_zero, List.set_cons_succ]
  refine rg_take (i := 5) (o := { dst := some 11, op := Op.nilCheck (Operand.tmp 10), type := 0, pos := "httppeek.go:38", after := #[{ on := 4, ground := Ground.data }], guard := none }) (v := ?rgv15) rfl (by kernel_rfl) (by kernel_rfl) (by kernel_rfl) (fun _ _ _ h => h) (by rfl) (fun w hSw => ?rgy15) hHeld ?_
  case rgy15 => (try dsimp only at hSw); first | (go_simp; done) | (go_simp; with_reducible rfl)
  try simp only [Act.put, List.setIfInBounds_toArray, List.set_cons_zero, List.set_cons_succ]
  refine rg_take (i := 6) (o := { dst := some 12, op := Op.fieldAddr 55 (Operand.tmp 11) 4, type := 0, pos := "httppeek.go:38", after := #[{ on := 5, ground := Ground.data }], guard := none }) (v := ?rgv16) rfl (by kernel_rfl) (by kernel_rfl) (by kernel_rfl) (fun _ _ _ h => h) (by rfl) (fun w hSw => ?rgy16) hHeld ?_
  case rgy16 => (try dsimp only at hSw); first | (go_simp; done) | (go_simp; with_reducible rfl)
  try simp only [Act.put, List.setIfInBounds_toArray, List.set_cons_zero, List.set_cons_succ]
  refine rg_take (i := 7) (o := { dst := some 13, op := Op.load 41 (Operand.tmp 12), type := 41, pos := "httppeek.go:38", after := #[{ on := 6, ground := Ground.data }], guard := none }) (v := ?rgv17) rfl (by kernel_rfl) (by kernel_rfl) (by kernel_rfl) (fun _ _ _ h => h) (by rfl) (fun w hSw => ?rgy17) hHeld ?_
  case rgy17 => (have hk0 := hSw.2.2.2; go_simp; with_reducible rfl)
  try simp only [Act.put, List.setIfInBounds_toArray, List.set_cons_zero, List.set_cons_succ]
  refine wpAnyH_ready (rs := [8]) (by kernel_rfl) (by simp) ?_
  refine (AllReadyH.cons (o := { dst := some 14, op := Op.call { callee := Callee.value (Operand.func 17), args := #[Operand.tmp 9, Operand.tmp 13], argTypes := #[40, 41] }, type := 47, pos := "httppeek.go:38", after := #[{ on := 3, ground := Ground.data }, { on := 7, ground := Ground.data }], guard := none }) rfl (fun K hK => ?_) AllReadyH.nil)
  go_simp
  refine (cO _ HT.out (HV.out.step HT.out)).mono ?_
  rintro e W1 ⟨rfl, hs1⟩
  replace HT := Lib.hid (HT.out.trans hs1)
  replace HRS := Lib.hid (HRS.out.step hs1)
  clear hs1
  show K _ _
  clear hHeld
  refine hK.out _ _ (HRS.out) (fun hHeld => ?_)
  clear hK K
  try simp only [Act.put, List.setIfInBounds_toArray, List.set_cons_zero, List.set_cons_succ]
  refine rg_take (i := 9) (o := { dst := some 5, op := Op.move (Operand.tmp 14), type := 47, pos := "httppeek.go:38", after := #[{ on := 8, ground := Ground.data }], guard := none }) (v := ?rgv18) rfl (by kernel_rfl) (by kernel_rfl) (by kernel_rfl) (fun _ _ _ h => h) (by rfl) (fun w hSw => ?rgy18) hHeld ?_
  case rgy18 => (try dsimp only at hSw); first | (go_simp; done) | (go_simp; with_reducible rfl)
  try simp only [Act.put, List.setIfInBounds_toArray, List.set_cons_zero, List.set_cons_succ]
  refine rg_take (i := 10) (o := { dst := some 15, op := Op.extract (Operand.tmp 5) 0, type := 9, pos := "httppeek.go:38", after := #[{ on := 9, ground := Ground.data }], guard := none }) (v := ?rgv19) rfl (by kernel_rfl) (by kernel_rfl) (by kernel_rfl) (fun _ _ _ h => h) (by rfl) (fun w hSw => ?rgy19) hHeld ?_
  case rgy19 => (try dsimp only at hSw); first | (go_simp; done) | (go_simp; with_reducible rfl)
  try simp only [Act.put, List.setIfInBounds_toArray, List.set_cons_zero, List.set_cons_succ]
  refine rg_take (i := 11) (o := { dst := some 16, op := Op.extract (Operand.tmp 5) 1, type := 3, pos := "httppeek.go:38", after := #[{ on := 9, ground := Ground.data }, { on := 13, ground := Ground.gcOnly Departure.lateStores }], guard := none }) (v := ?rgv20) rfl (by kernel_rfl) (by kernel_rfl) (by kernel_rfl) (fun _ _ _ h => h) (by rfl) (fun w hSw => ?rgy20) hHeld ?_
  case rgy20 => (try dsimp only at hSw); first | (go_simp; done) | (go_simp; with_reducible rfl)
  try simp only [Act.put, List.setIfInBounds_toArray, List.set_cons_zero, List.set_cons_succ]
  refine rg_take (i := 12) (o := { dst := some 17, op := Op.extract (Operand.tmp 5) 2, type := 25, pos := "httppeek.go:38", after := #[{ on := 9, ground := Ground.data }, { on := 14, ground := Ground.gcOnly Departure.lateStores }], guard := none }) (v := ?rgv21) rfl (by kernel_rfl) (by kernel_rfl) (by kernel_rfl) (fun _ _ _ h => h) (by rfl) (fun w hSw => ?rgy21) hHeld ?_
  case rgy21 => (try dsimp only at hSw); first | (go_simp; done) | (go_simp; with_reducible rfl)
  try simp only [Act.put, List.setIfInBounds_toArray, List.set_cons_zero, List.set_cons_succ]
  refine rg_take (i := 13) (o := { dst := some 2, op := Op.assign (Operand.tmp 15), type := 9, pos := "httppeek.go:38", after := #[{ on := 10, ground := Ground.data }, { on := 8, ground := Ground.chain }, { on := 0, ground := Ground.phase }, { on := 1, ground := Ground.phase }, { on := 2, ground := Ground.phase }, { on := 3, ground := Ground.phase }, { on := 4, ground := Ground.phase }, { on := 5, ground := Ground.phase }, { on := 6, ground := Ground.phase }, { on := 7, ground := Ground.phase }, { on := 8, ground := Ground.phase }, { on := 9, ground := Ground.phase }, { on := 10, ground := Ground.phase }, { on := 11, ground := Ground.textOnly Departure.lateStores }, { on := 12, ground := Ground.textOnly Departure.lateStores }], guard := none }) (v := ?rgv22) rfl (by kernel_rfl) (by kernel_rfl) (by kernel_rfl) (fun _ _ _ h => h) (by rfl) (fun w hSw => ?rgy22) hHeld ?_
  case rgy22 => (try dsimp only at hSw); first | (go_simp; done) | (go_simp; with_reducible rfl)
  try simp only [Act.put, List.setIfInBounds_toArray, List.set_cons_zero, List.set_cons_succ]
  refine rg_take (i := 14) (o := { dst := some 3, op := Op.assign (Operand.tmp 16), type := 3, pos := "httppeek.go:38", after := #[{ on := 11, ground := Ground.data }, { on := 13, ground := Ground.chain }, { on := 0, ground := Ground.phase }, { on := 1, ground := Ground.phase }, { on := 2, ground := Ground.phase }, { on := 3, ground := Ground.phase }, { on := 4, ground := Ground.phase }, { on := 5, ground := Ground.phase }, { on := 6, ground := Ground.phase }, { on := 7, ground := Ground.phase }, { on := 8, ground := Ground.phase }, { on := 9, ground := Ground.phase }, { on := 10, ground := Ground.phase }, { on := 11, ground := Ground.phase }, { on := 12, ground := Ground.textOnly Departure.lateStores }, { on := 13, ground := Ground.phase }], guard := none }) (v := ?rgv23) rfl (by kernel_rfl) (by kernel_rfl) (by kernel_rfl) (fun _ _ _ h => h) (by rfl) (fun w hSw => ?rgy23) hHeld ?_
  case rgy23 => (try dsimp only at hSw); first | (go_simp; done) | (go_simp; with_reducible rfl)
  try simp only [Act.put, List.setIfInBounds_toArray, List.set_cons_zero, List.set_cons_succ]
  refine rg_take (i := 15) (o := { dst := some 4, op := Op.assign (Operand.tmp 17), type := 25, pos := "httppeek.go:38", after := #[{ on := 12, ground := Ground.data }, { on := 14, ground := Ground.chain }, { on := 0, ground := Ground.phase }, { on := 1, ground := Ground.phase }, { on := 2, ground := Ground.phase }, { on := 3, ground := Ground.phase }, { on := 4, ground := Ground.phase }, { on := 5, ground := Ground.phase }, { on := 6, ground := Ground.phase }, { on := 7, ground := Ground.phase }, { on := 8, ground := Ground.phase }, { on := 9, ground := Ground.phase }, { on := 10, ground := Ground.phase }, { on := 11, ground := Ground.phase }, { on := 12, ground := Ground.phase }, { on := 13, ground := Ground.phase }, { on := 14, ground := Ground.phase }], guard := none }) (v := ?rgv24) rfl (by kernel_rfl) (by kernel_rfl) (by kernel_rfl) (fun _ _ _ h => h) (by rfl) (fun w hSw => ?rgy24) hHeld ?_
  case rgy24 => (try dsimp only at hSw); first | (go_simp; done) | (go_simp; with_reducible rfl)
  try simp only [Act.put, List.setIfInBounds_toArray, List.set_cons_zero, List.set_cons_succ]
  clear hHeld
  refine wpAnyH_done (by kernel_rfl) ?_ _
  have HG1 := Lib.hid (HT.out.blk HG.out id)
  have HO1 := Lib.hid (HO.out.stp0 HT.out)
  generalize W1 = w1 at *
  by_cases h0e : e0 = 0
  · subst h0e
    have HJ : Hid (judgeH s.rq s.fs = if e1 ≠ 0 then .bad e1 else ⟨1, 0, n1, p0⟩) := Lib.hid (by
      unfold judgeH
      rw [← HQ.out]
      simp only
      rw [if_neg (by decide), ← HRR.out])
    go_wp2_with (go_at_call 18; refine stopc ?_)
    refine Stop.go ?_
    refine (cN _ (HV.out.step HT.out)).mono ?_
    rintro e w2 ⟨rfl, hs2⟩
    have HS2 := Lib.hid (HT.out.trans hs2)
    have HG2 := Lib.hid (hs2.blk HG1.out id)
    have HO2 := Lib.hid (HO1.out.stp0 hs2)
    have ltg2 := blk_lt (hs2.blk HG1.out id)
    clear hs2
    by_cases h1e : e1 = 0
    · subst h1e
      have HJ2 : Hid (judgeH s.rq s.fs = ⟨1, 0, n1, p0⟩) := Lib.hid (by rw [HJ.out, if_neg (by decide)])
      have hc7 := blk_cell (j := 7) HG2.out
      have hc11 := blk_cell (j := 11) HG2.out
      have hc12 := blk_cell (j := 12) HG2.out
      have hf7 := blk_free HG2.out 7
      have hf11 := blk_free HG2.out 11
      have hf12 := blk_free HG2.out 12
      simp [pkObj, pkRow] at hc7 hc11 hc12
      go_wp2
      refine bp_none rfl ?_
      rw [HR.out, HJ2.out]
      have hs3 : Stp (fun k => k = g) w2 (((w2.setCell ⟨g, 7, none⟩ (.int .i64 1)).setCell ⟨g, 11, none⟩ (.string N1)).setCell ⟨g, 12, none⟩ (.int .i64 p0)) := (((Stp.refl _ w2).setg 7 _).setg 11 _).setg 12 _
      have hb3 := blk_set (blk_set (blk_set HG2.out 7 (.int .i64 1)) 11 (.string N1)) 12 (.int .i64 p0)
      rw [HN1.out] at hb3 hs3 ⊢
      exact ⟨rfl, ⟨_, hb3, HO2.out.atg hs3⟩, HS2.out.to.trans hs3⟩
    · have hne : (e1 != 0) = true := by simpa using h1e
      have HJ2 : Hid (judgeH s.rq s.fs = .bad e1) := Lib.hid (by rw [HJ.out, if_pos h1e])
      have cB := pbad_any g lv s u e1 w2 ⟨_, HG2.out, HO2.out⟩
      clear h1e
      go_wp2_with (go_at_call 24; refine stopc ?_)
      refine Stop.go ?_
      refine cB.mono ?_
      rintro e w3 ⟨rfl, hb3, hs3⟩
      have HB3 := Lib.hid hb3
      have HS3 := Lib.hid hs3
      clear hb3 hs3
      go_wp2
      refine bp_noneR rfl ?_
      rw [HR.out, HJ2.out]
      exact ⟨rfl, HB3.out, HS2.out.to.trans HS3.out⟩
  · have hne : (e0 != 0) = true := by simpa using h0e
    have hne2 : (e0 == 0) = false := by simpa using h0e
    have HJ2 : Hid (judgeH s.rq s.fs = .bad e0) := Lib.hid (by unfold judgeH; rw [← HQ.out]; exact if_pos h0e)
    have cB := pbad_any g lv s u e0 w1 ⟨_, HG1.out, HO1.out⟩
    clear h0e
    go_wp2_with (go_at_call 24; refine stopc ?_)
    refine Stop.go ?_
    refine cB.mono ?_
    rintro e w3 ⟨rfl, hb3, hs3⟩
    have HB3 := Lib.hid hb3
    have HS3 := Lib.hid hs3
    clear hb3 hs3
    go_wp2
    refine bp_noneR rfl ?_
    rw [HR.out, HJ2.out]
    exact ⟨rfl, HB3.out, HT.out.to.trans HS3.out⟩

/-- The library's variables, whatever becomes of blocks from g on. -/
def EnvB (g : Nat) (w : World) : Prop := ∃ w0, EnvP w0 ∧ w0.heap.size ≤ g ∧ Stp (fun _ => False) w0 w
theorem EnvB.step {g : Nat} {w w1 : World} (h : EnvB g w) (hs : Stp (fun k => g ≤ k) w w1) : EnvB g w1 := by
  obtain ⟨w0, h1, h2, h3⟩ := h
  exact ⟨w0, h1, h2, h3.then_ hs fun k hk h => by omega⟩
theorem EnvB.env {g : Nat} {w : World} (h : EnvB g w) : EnvP w := by
  obtain ⟨w0, h1, h2, h3⟩ := h
  exact h1.step h3
theorem line2_hdr (l : List UInt8) (rq : Rq) (fs : List (List UInt8 × List UInt8)) (h : l ≠ []) : lineH2 ⟨l, true, true, rq, fs⟩ = (hdrS ⟨[], false, true, rq, fs⟩ l, if hdrE ⟨[], false, true, rq, fs⟩ l = 0 then .open_ else .bad (hdrE ⟨[], false, true, rq, fs⟩ l)) := by
  unfold lineH2 hdrS hdrE
  rw [if_neg (by simp), if_neg h]
  by_cases h1 : (parseF l).2.2 ≠ 0
  · rw [if_pos h1, if_pos h1, if_pos h1, if_neg h1]
  · rw [if_neg h1, if_neg h1, if_neg h1]
    by_cases h2 : fs.length = 100
    · simp only [if_pos h2]
      rw [if_neg (by decide)]
    · simp only [if_neg h2]
      rw [if_pos trivial]
def EdP (w : World) (g : Nat) (lv fv : Value) (s : Hs) (v : Vd) (u : Nat) (e : Ending) (w' : World) : Prop := e = .returned (.tuple #[]) ∧ PkE w' g lv s v u ∧ Stp (AtF g fv) w w'
set_option maxRecDepth 100000 in
set_option maxHeartbeats 8000000 in
theorem ended_any (g : Nat) (fv : Value) (f : Bool) (rq : Rq) (fs : List (List UInt8 × List UInt8)) (u : Nat) (l : ByteArray) (w : World) (h : PkF w g (.slice none 0 0) fv ⟨[], false, f, rq, fs⟩ .open_ u) (he : EnvB g w) (hok : HsOk ⟨[], false, f, rq, fs⟩ u) (hu : u ≤ 1000000) (hl : l.size ≤ 1000000) :
    Calls Tryz.prog 23 #[.pointer (some ⟨g, 0, none⟩), .string l] w (EdP w g (.slice none 0 0) fv (lineH2 ⟨l.data.toList, true, f, rq, fs⟩).1 (lineH2 ⟨l.data.toList, true, f, rq, fs⟩).2 u) := by
  obtain ⟨R, hR⟩ : ∃ R, R = EdP w g (.slice none 0 0) fv (lineH2 ⟨l.data.toList, true, f, rq, fs⟩).1 (lineH2 ⟨l.data.toList, true, f, rq, fs⟩).2 u := ⟨_, rfl⟩
  rw [← hR]
  have HR := Lib.hid hR
  have HV := Lib.hid he
  have HH := Lib.hid h
  have HOK := Lib.hid hok
  obtain ⟨hg, ho⟩ := h
  have HO := Lib.hid ho
  have HG := Lib.hid hg
  have hc2 := blk_cell (j := 2) hg
  simp [pkObj, pkRow] at hc2
  cases f with
  | false =>
    have cp := fun W hW => qparse_any l W (by omega) hW
    obtain ⟨q, hq⟩ : ∃ q, q = parseRq l.data.toList := ⟨_, rfl⟩
    rw [← hq] at cp
    have HQ := Lib.hid hq
    obtain ⟨r, er⟩ := q
    unfold ReqE ReqV at cp
    obtain ⟨m, hm⟩ : ∃ m, m = strB r.m := ⟨_, rfl⟩
    obtain ⟨t, ht⟩ : ∃ t, t = strB r.t := ⟨_, rfl⟩
    obtain ⟨n, hn⟩ : ∃ n, n = r.n := ⟨_, rfl⟩
    simp only [← hm, ← ht, ← hn] at cp
    have HMT := Lib.hid (And.intro hm (And.intro ht hn))
    have hf2 := blk_free hg 2
    have hs1 : Stp (fun k => k = g) w (w.setCell ⟨g, 2, none⟩ (.bool true)) := (Stp.refl _ w).setg 2 _
    have hb1 := blk_set hg 2 (.bool true)
    have HS1 := Lib.hid hs1
    have HB1 := Lib.hid hb1
    have HJ : Hid (lineH2 ⟨l.data.toList, true, false, rq, fs⟩ = (⟨[], false, true, r, fs⟩, if er = 0 then .open_ else .bad er)) := Lib.hid (by unfold lineH2; rw [if_pos rfl]; simp only; rw [← HQ.out])
    have hv2 : EnvP (w.setCell ⟨g, 2, none⟩ (.bool true)) := (he.step hs1.upto).env
    have HV2 := Lib.hid hv2
    clear hR he hok ho hg hq hm ht hn hs1 hb1 hv2
    go_enter Tryz.func23, Tryz.ntmps23
    go_wp2_with (go_at_call 53; refine stopc ?_)
    refine Stop.go ?_
    refine (cp _ HV2.out.1).mono ?_
    rintro e w2 ⟨rfl, hs2⟩
    have hb2 := hs2.blk HB1.out id
    have hc3 := blk_cell (j := 3) hb2
    have hc4 := blk_cell (j := 4) hb2
    have hc5 := blk_cell (j := 5) hb2
    have hf3 := blk_free hb2 3
    have hf4 := blk_free hb2 4
    have hf5 := blk_free hb2 5
    simp [pkObj, pkRow] at hc3 hc4 hc5
    have HB2 := Lib.hid hb2
    have HS2 := Lib.hid (HS1.out.trans hs2.to)
    clear hs2 hb2
    have hs3 : Stp (fun k => k = g) w2 (((w2.setCell ⟨g, 3, none⟩ (.string m)).setCell ⟨g, 4, none⟩ (.string t)).setCell ⟨g, 5, none⟩ (.int .i64 n)) := (((Stp.refl _ w2).setg 3 _).setg 4 _).setg 5 _
    have hb3 := blk_set (blk_set (blk_set HB2.out 3 (.string m)) 4 (.string t)) 5 (.int .i64 n)
    have he3 : PkE (((w2.setCell ⟨g, 3, none⟩ (.string m)).setCell ⟨g, 4, none⟩ (.string t)).setCell ⟨g, 5, none⟩ (.int .i64 n)) g (.slice none 0 0) ⟨[], false, true, r, fs⟩ .open_ u := by
      refine ⟨fv, ?_, (HO.out.step HS2.out (fun k h1 _ h2 => by omega)).atg hs3⟩
      rw [HMT.out.1, HMT.out.2.1, HMT.out.2.2] at hb3
      rw [HMT.out.1, HMT.out.2.1, HMT.out.2.2]
      exact hb3
    have HE3 := Lib.hid he3
    have HS3 := Lib.hid (HS2.out.trans hs3)
    clear hs3 hb3 he3
    by_cases h0 : er = 0
    · subst h0
      have HJ2 : Hid (lineH2 ⟨l.data.toList, true, false, rq, fs⟩ = (⟨[], false, true, r, fs⟩, .open_)) := Lib.hid HJ.out
      go_wp2
      refine bp_none rfl ?_
      rw [HR.out, HJ2.out]
      exact ⟨rfl, HE3.out, HS3.out.atF⟩
    · have hne : (er != 0) = true := by simpa using h0
      have HJ2 : Hid (lineH2 ⟨l.data.toList, true, false, rq, fs⟩ = (⟨[], false, true, r, fs⟩, .bad er)) := Lib.hid (by rw [HJ.out, if_neg h0])
      have cB := pbad_any g (.slice none 0 0) ⟨[], false, true, r, fs⟩ u er _ HE3.out
      clear h0
      go_wp2_with (go_at_call 24; refine stopc ?_)
      refine Stop.go ?_
      refine cB.mono ?_
      rintro e w4 ⟨rfl, hb4, hs4⟩
      have HB4 := Lib.hid hb4
      have HS4 := Lib.hid hs4
      clear hb4 hs4
      go_wp2
      refine bp_none rfl ?_
      rw [HR.out, HJ2.out]
      exact ⟨rfl, HB4.out, (HS3.out.trans HS4.out).atF⟩
  | true =>
    by_cases h0 : l.data.toList = []
    · have ht : (l.toList == []) = true := by rw [list_eqb]; simp [h0]
      have HJ : Hid (lineH2 ⟨l.data.toList, true, true, rq, fs⟩ = (⟨[], false, true, rq, fs⟩, judgeH rq fs)) := Lib.hid (by unfold lineH2; rw [if_neg (by simp), if_pos h0])
      have cF := finish_any g (.slice none 0 0) ⟨[], false, true, rq, fs⟩ u w ⟨fv, HH.out⟩ HV.out.env HOK.out hu
      clear hR he hok ho hg h0
      go_enter Tryz.func23, Tryz.ntmps23
      go_wp2_with (go_at_call 54; refine stopc ?_)
      refine Stop.go ?_
      refine cF.mono ?_
      rintro e w4 ⟨rfl, hb4, hs4⟩
      have HB4 := Lib.hid hb4
      have HS4 := Lib.hid hs4
      clear hb4 hs4
      go_wp2
      refine bp_noneR rfl ?_
      rw [HR.out, HJ.out]
      exact ⟨rfl, HB4.out, HS4.out.atF⟩
    · have ht : (l.toList == []) = false := by rw [list_eqb]; simp [h0]
      have hj := line2_hdr l.data.toList rq fs h0
      have cH := header_any g (.slice none 0 0) fv ⟨[], false, true, rq, fs⟩ u l w HH.out (by omega) HV.out.env.1 HOK.out.fs
      unfold HdP at cH
      obtain ⟨er, her⟩ : ∃ er, er = hdrE ⟨[], false, true, rq, fs⟩ l.data.toList := ⟨_, rfl⟩
      rw [← her] at cH hj
      have HJ := Lib.hid hj
      clear hR he hok ho hg h0 her hj
      by_cases h0 : er = 0
      · subst h0
        have HJ2 : Hid (lineH2 ⟨l.data.toList, true, true, rq, fs⟩ = (hdrS ⟨[], false, true, rq, fs⟩ l.data.toList, .open_)) := Lib.hid HJ.out
        go_enter Tryz.func23, Tryz.ntmps23
        go_wp2_with (go_at_call 55; refine stopc ?_)
        refine Stop.go ?_
        refine cH.mono ?_
        rintro e w4 ⟨rfl, hb4, hs4⟩
        have HB4 := Lib.hid hb4
        have HS4 := Lib.hid hs4
        clear hb4 hs4
        go_wp2
        refine bp_none rfl ?_
        rw [HR.out, HJ2.out]
        exact ⟨rfl, HB4.out, HS4.out⟩
      · have hne : (er != 0) = true := by simpa using h0
        have HJ2 : Hid (lineH2 ⟨l.data.toList, true, true, rq, fs⟩ = (hdrS ⟨[], false, true, rq, fs⟩ l.data.toList, .bad er)) := Lib.hid (by rw [HJ.out, if_neg h0])
        clear h0
        go_enter Tryz.func23, Tryz.ntmps23
        go_wp2_with (go_at_call 55; refine stopc ?_)
        refine Stop.go ?_
        refine cH.mono ?_
        rintro e w4 ⟨rfl, hb4, hs4⟩
        have HS4 := Lib.hid hs4
        have cB := pbad_any g (.slice none 0 0) _ u er _ hb4
        clear hb4 hs4
        go_wp2_with (go_at_call 24; refine stopc ?_)
        refine Stop.go ?_
        refine cB.mono ?_
        rintro e w5 ⟨rfl, hb5, hs5⟩
        have HB5 := Lib.hid hb5
        have HS5 := Lib.hid hs5
        clear hb5 hs5
        go_wp2
        refine bp_none rfl ?_
        rw [HR.out, HJ2.out]
        exact ⟨rfl, HB5.out, HS4.out.trans HS5.out.atF⟩
end Go.Proofs.YtgjmaifgkgejgaaGreatDoor.L

/-! Layer 16: a byte, all bytes. -/
namespace Go.Proofs.YtgjmaifgkgejgaaGreatDoor.L
open Go.RowKit Go.Proofs

/-- The cells of a verdict on a head. -/
def vdC (v : Vd) (u : Nat) : List Value := [.int .i64 v.st, .int .i64 2, .int .i64 (u : Int), .int .i64 v.rs, .string (strB v.ho), .int .i64 v.po, .bool false, .string ⟨#[]⟩, .slice none 0 0, .slice none 0 0, .bool false]
def vdV (v : Vd) (u : Nat) : Value := .agg (vdC v u).toArray
def vd0 : Array Value := #[.int .i64 0, .int .i64 0, .int .i64 0, .int .i64 0, .string ⟨#[]⟩, .int .i64 0, .bool false, .string ⟨#[]⟩, .slice none 0 0, .slice none 0 0, .bool false]
theorem pk_mid {w : World} {g : Nat} {lv fv : Value} {s : Hs} {v : Vd} {u : Nat} (h : w.heap[g]? = some (.cells (pkObj lv fv s v u) 55 (0, 0))) : w.rangeAt g 7 (vdC v u) := World.rangeAt_of_block h 7 11
theorem vdC_one (v : Vd) (u : Nat) : (vdC v u).toArray.all (·.oneCell') = true := by simp [vdC, Value.oneCell']
theorem size_vd : (Tryz.prog.info? 31).map (·.size) = some 11 := by kernel_rfl
theorem row_blk {w : World} {g : Nat} {old : Array Value} {ty : TypeId} (h : w.heap[g]? = some (.cells old ty (0, 0))) (cs : Array Value) : (w.setRow g cs).heap[g]? = some (.cells cs ty (0, 0)) := setRow_heap w g _ _ ty _ h
theorem PkO.nb {w : World} {g b : Nat} {lv fv : Value} {line : List UInt8} {fs : List (List UInt8 × List UInt8)} {cs : Array Value} {fr : Nat × Nat} (h : PkO w g lv fv line fs) (hb : w.heap[b]? = some (.cells cs 31 fr)) : lv.ownBlock ≠ some b ∧ fv.ownBlock ≠ some b := by
  constructor
  · intro e
    rcases h.ln.2 with ⟨rfl, _⟩ | ⟨b', cap, cur, rfl, _, hb', _⟩
    · cases e
    · injection e with e
      simp only at e
      rw [e, hb] at hb'
      injection hb' with hb'
      injection hb' with _ h2 _
      exact absurd h2 (by decide)
  · intro e
    obtain ⟨cs', _, hr⟩ := h.fl.row
    rcases hr.2 with ⟨rfl, _⟩ | ⟨b', cap, cur, rfl, _, hb', _⟩
    · cases e
    · injection e with e
      simp only at e
      rw [e, hb] at hb'
      injection hb' with hb'
      injection hb' with _ h2 _
      exact absurd h2 (by decide)
theorem PkO.atb {w w1 : World} {g b : Nat} {lv fv : Value} {line : List UInt8} {fs : List (List UInt8 × List UInt8)} {cs : Array Value} {fr : Nat × Nat} (h : PkO w g lv fv line fs) (hb : w.heap[b]? = some (.cells cs 31 fr)) (hs : Stp (fun k => k = b) w w1) : PkO w1 g lv fv line fs :=
  ⟨h.ln.step hs fun k hk e => (h.nb hb).1 (by rw [← e]; exact hk), h.fl.step hs fun k _ e => ⟨trivial, fun hk => (h.nb hb).2 (by rw [← e]; exact hk)⟩⟩
/-- A block that holds a verdict. -/
def VdBlk (w : World) (k : Nat) : Prop := ∃ cs fr, w.heap[k]? = some (.cells cs 31 fr)
/-- What a call of one that looks at g may turn: no verdict. -/
def NoVd (g : Nat) (w : World) (k : Nat) : Prop := g ≤ k ∧ ¬ VdBlk w k
def TkP (w : World) (g : Nat) (s : Hs) (v : Vd) (u : Nat) (e : Ending) (w' : World) : Prop := e = .returned (vdV v u) ∧ PkB w' g s v u ∧ Stp (NoVd g w) w w'
def AtO (g : Nat) (lv fv : Value) (k : Nat) : Prop := k = g ∨ lv.ownBlock = some k ∨ fv.ownBlock = some k
theorem Stp.atO {w w1 : World} {g : Nat} {lv fv : Value} (h : Stp (fun k => k = g) w w1) : Stp (AtO g lv fv) w w1 := h.mono fun k _ e => Or.inl e
theorem PkO.atO {w : World} {g : Nat} {lv fv : Value} {line : List UInt8} {fs : List (List UInt8 × List UInt8)} (h : PkO w g lv fv line fs) : ∀ k, AtO g lv fv k → g ≤ k := by
  intro k hk
  rcases hk with rfl | hk | hk
  · exact Nat.le_refl _
  · exact Nat.le_of_succ_le (h.ln.lt k hk).1
  · exact Nat.le_of_succ_le (h.fl.lt k hk).1
theorem PkO.noVd {w : World} {g : Nat} {lv fv : Value} {s : Hs} {v : Vd} {u : Nat} (hg : w.heap[g]? = some (.cells (pkObj lv fv s v u) 55 (0, 0))) (h : PkO w g lv fv s.line s.fs) : ∀ k, AtO g lv fv k → NoVd g w k := by
  intro k hk
  refine ⟨h.atO k hk, ?_⟩
  rintro ⟨cs, fr, hb⟩
  rcases hk with rfl | hk | hk
  · rw [hg] at hb
    injection hb with hb
    injection hb with _ h2 _
    exact absurd h2 (by decide)
  · exact (h.nb hb).1 hk
  · exact (h.nb hb).2 hk
set_option maxRecDepth 100000 in
set_option maxHeartbeats 8000000 in
theorem take_known (g : Nat) (s : Hs) (v : Vd) (u : Nat) (c : UInt8) (w : World) (h : PkB w g s v u) (hv : v.st ≠ 0) :
    Calls Tryz.prog 14 #[.pointer (some ⟨g, 0, none⟩), .int .u8 (c.toNat : Int)] w (TkP w g s v u) := by
  obtain ⟨R, hR⟩ : ∃ R, R = TkP w g s v u := ⟨_, rfl⟩
  rw [← hR]
  have HR := Lib.hid hR
  obtain ⟨lv, fv, hg, ho⟩ := h
  have HO := Lib.hid ho
  have HG := Lib.hid hg
  have ltg := blk_lt hg
  have hc7 := blk_cell (j := 7) hg
  simp [pkObj, pkRow] at hc7
  have hne : (v.st != 0) = true := by simpa using hv
  clear hR ho hg hv
  go_enter Tryz.func14, Tryz.ntmps14
  go_wp2_with (with_reducible refine stop (N := 15) rfl ?_)
  refine Stop.go ?_
  have hs1 := (Stp.refl (fun _ => False) w).alloc (.cells vd0 31)
  refine wpList_load_mid rfl _ _ rfl g 7 rfl (vdC v u) _ (pk_mid (hs1.blk HG.out id)) Tryz.underlying31 rfl size_vd ?_
  refine wpList_store_row rfl _ _ _ rfl w.heap.size _ rfl rfl _ vd0 (heap_alloc_new w _) size_vd rfl (vdC_one v u) ?_
  have hb2 := row_blk (heap_alloc_new w (.cells vd0 31)) (vdC v u).toArray
  have hs2 := hs1.rowA (g := w.heap.size) (fun h => absurd h (by omega)) (vdC v u).toArray
  have HB2 := Lib.hid hb2
  have HS2 := Lib.hid hs2
  clear hb2 hs1 hs2
  go_wp2
  refine bodyPost_ret (results_cell_row rfl _ _ w.heap.size _ _ _ _ rfl HB2.out Tryz.underlying31 rfl size_vd) rfl ?_
  rw [HR.out]
  exact ⟨rfl, ⟨lv, fv, HS2.out.blk HG.out id, HO.out.stp0 HS2.out⟩, HS2.out.to⟩

abbrev convT (W : World) (v : Value) (l : List UInt8) : Prop := (convert 22 9 v).run Tryz.prog W = .ok (.string (strB l)) W
theorem convt_own {B e : Nat} {W : World} {v : Value} {l : List UInt8} (h : Own enc8 e B W v l) : convT W v l :=
  run_strOf (P := Tryz.prog) 22 9 5 (h.rd (h1 := fun _ => rfl) (M := fun _ => False) (fun _ _ => id)) Tryz.underlying22 Tryz.underlying5 Tryz.underlying9
set_option maxRecDepth 100000 in
set_option maxHeartbeats 8000000 in
theorem take_open (g : Nat) (s : Hs) (u : Nat) (c : UInt8) (w : World) (h : PkB w g s .open_ u) (he : EnvB g w) (hok : HsOk s u) (hu : u < 1000000) :
    Calls Tryz.prog 14 #[.pointer (some ⟨g, 0, none⟩), .int .u8 (c.toNat : Int)] w (TkP w g (stepH s c).1 (stepH s c).2 (u + 1)) := by
  obtain ⟨R, hR⟩ : ∃ R, R = TkP w g (stepH s c).1 (stepH s c).2 (u + 1) := ⟨_, rfl⟩
  rw [← hR]
  have HR := Lib.hid hR
  have HV := Lib.hid he
  have HOK := Lib.hid hok
  obtain ⟨line, bk, f, rq, fs⟩ := s
  obtain ⟨lv, fv, hg, ho⟩ := h
  have HO := Lib.hid ho
  have HG := Lib.hid hg
  have ltg := blk_lt hg
  have hc7 := blk_cell (j := 7) hg
  have hc9 := blk_cell (j := 9) hg
  have hf9 := blk_free hg 9
  simp [pkObj, pkRow, Vd.open_] at hc7 hc9
  have hw : IntKind.i64.wrap ((u : Int) + 1) = (u : Int) + 1 := IntWalk.i64_in _ (by omega)
  have hll : line.length ≤ u := hok.line
  have HNV := Lib.hid (PkO.noVd (s := ⟨line, bk, f, rq, fs⟩) hg ho)
  have HAO := Lib.hid ho.atO
  clear hR ho hg he hok
  go_enter Tryz.func14, Tryz.ntmps14
  go_wp2_with (with_reducible refine stop (N := 28) rfl ?_)
  refine Stop.go ?_
  have hsg : Stp (fun k => k = g) w (w.setCell ⟨g, 9, none⟩ (.int .i64 ((u : Int) + 1))) := (Stp.refl _ _).setg 9 _
  have hs0 := (Stp.refl (fun _ => False) (w.setCell ⟨g, 9, none⟩ (.int .i64 ((u : Int) + 1)))).alloc (.cells vd0 31)
  have hnew := heap_alloc_new (w.setCell ⟨g, 9, none⟩ (.int .i64 ((u : Int) + 1))) (.cells vd0 31)
  rw [show (w.setCell ⟨g, 9, none⟩ (.int .i64 ((u : Int) + 1))).heap.size = w.heap.size by simp [World.setCell]] at hnew
  refine wpl_gen (fun W => PkF W g lv fv ⟨line, bk, f, rq, fs⟩ .open_ (u + 1) ∧ W.heap[w.heap.size]? = some (.cells vd0 31 (0, 0)) ∧ Stp (AtO g lv fv) w W) ⟨⟨hs0.blk (blk_set HG.out 9 _) id, (HO.out.atg hsg).stp0 hs0⟩, hnew, hsg.atO.trans hs0.to⟩ ?_
  rintro W1 ⟨⟨hg1, ho1⟩, hb1, hs1⟩
  obtain ⟨b, hb⟩ : ∃ b, b = w.heap.size := ⟨_, rfl⟩
  rw [← hb] at hb1
  simp only [← hb]
  have hgb : g < b := by omega
  have HGB := Lib.hid hgb
  have HG1 := Lib.hid hg1
  have HO1 := Lib.hid ho1
  have HB1 := Lib.hid hb1
  have HS1 := Lib.hid hs1
  have HV1 := Lib.hid (HV.out.step (hs1.mono fun k _ h => HAO.out k h))
  have HBW := Lib.hid hb
  have HOK1 := Lib.hid (HOK.out.step c)
  have hc1 := blk_cell (j := 1) hg1
  have hf1 := blk_free hg1 1
  simp [pkObj, pkRow] at hc1
  clear hc7 hc9 hf9 hw hs0 hsg hnew hb1 hs1 hb ho1 ltg HG HO HV
  have ltg := blk_lt hg1
  cases bk with
  | true =>
    by_cases hc : c = 10
    · subst hc
      have HJ : Hid (stepH ⟨line, true, f, rq, fs⟩ 10 = lineH2 ⟨line, true, f, rq, fs⟩) := Lib.hid (by unfold stepH; rw [if_pos ⟨rfl, rfl⟩])
      have hc0 := blk_cell (j := 0) hg1
      have hf0 := blk_free hg1 0
      simp [pkObj, pkRow] at hc0
      have hcv := convt_own HO1.out.ln
      clear hg1
      obtain ⟨W2, hW2⟩ : ∃ W, W = (W1.setCell ⟨g, 0, none⟩ (.slice none 0 0)).setCell ⟨g, 1, none⟩ (.bool false) := ⟨_, rfl⟩
      have hs2 : Stp (fun k => k = g) W1 W2 := by rw [hW2]; exact ((Stp.refl _ W1).setg 0 _).setg 1 _
      have hg2 : W2.heap[g]? = some (.cells (pkObj (.slice none 0 0) fv ⟨[], false, f, rq, fs⟩ .open_ (u + 1)) 55 (0, 0)) := by rw [hW2]; exact blk_set (blk_set HG1.out 0 (.slice none 0 0)) 1 (.bool false)
      have ho2 : PkO W2 g (.slice none 0 0) fv [] fs := ⟨Own.nil _ _ _ _, (HO1.out.atg hs2).fl⟩
      have cE := ended_any g fv f rq fs (u + 1) (strB line) W2 ⟨hg2, ho2⟩ (HV1.out.step hs2.upto) ⟨Nat.zero_le _, HOK.out.rq, HOK.out.fs, fun x hx => by have := HOK.out.tx x hx; omega⟩ (by omega) (by rw [strB_size]; omega)
      unfold EdP at cE
      rw [sB_data] at cE
      obtain ⟨q, hq⟩ : ∃ q, q = lineH2 ⟨line, true, f, rq, fs⟩ := ⟨_, rfl⟩
      rw [← hq] at cE
      replace HJ := Lib.hid (HJ.out.trans hq.symm)
      obtain ⟨s9, v9⟩ := q
      simp only at cE
      have HW2 := Lib.hid hW2
      have HS2 := Lib.hid hs2
      have HF2 := Lib.hid (And.intro (ho2.nb (hs2.blk HB1.out (by omega))).2 (PkO.atF ho2))
      clear hW2 hs2 hg2 ho2 hq
      go_wp2_with (go_at_call 23; refine stopc ?_)
      refine Stop.go ?_
      rw [← HW2.out]
      refine cE.mono ?_
      rintro e W9 ⟨rfl, he9, hs9⟩
      have HE9 := Lib.hid he9
      have HB9 := Lib.hid (hs9.blk (HS2.out.blk HB1.out (by omega)) (fun h => h.elim (fun h => by omega) HF2.out.1))
      have HS9 := Lib.hid ((HS1.out.trans HS2.out.atO).trans (hs9.mono (T := AtO g lv fv) fun k _ h => h.elim Or.inl (fun h => Or.inr (Or.inr h))))
      clear he9 hs9 hc0 hf0 hcv hc1 hf1 cE
      obtain ⟨fv9, hg9, ho9⟩ := HE9.out
      have HG9 := Lib.hid hg9
      have HO9 := Lib.hid ho9
      clear hg9 ho9
      go_wp2_with (with_reducible refine stop (N := 77) rfl ?_)
      refine Stop.go ?_
      refine wpList_load_mid rfl _ _ rfl g 7 rfl (vdC v9 (u + 1)) _ (pk_mid HG9.out) Tryz.underlying31 rfl size_vd ?_
      refine wpList_store_row rfl _ _ _ rfl b _ rfl rfl _ vd0 HB9.out size_vd rfl (vdC_one _ _) ?_
      have hs9 := (Stp.refl (fun k => k = b) W9).rowA (g := b) (fun _ => rfl) (vdC v9 (u + 1)).toArray
      have HR9 := Lib.hid (row_blk HB9.out (vdC v9 (u + 1)).toArray)
      have HP9 := Lib.hid (show PkB _ g _ v9 (u + 1) from ⟨_, fv9, hs9.blk HG9.out (by omega), HO9.out.atb HB9.out hs9⟩)
      have HZ9 := Lib.hid ((HS9.out.then_ hs9 fun k hk e => by have := HBW.out; omega).mono fun k _ h => HNV.out k h)
      clear hs9
      go_wp2
      refine bodyPost_ret (results_cell_row rfl _ _ b _ _ _ _ rfl HR9.out Tryz.underlying31 rfl size_vd) rfl ?_
      rw [HR.out, HJ.out]
      exact ⟨rfl, HP9.out, HZ9.out⟩
    · have e10 : ((c.toNat : Int) == 10) = false := by
        have : c.toNat ≠ 10 := fun e => hc (UInt8.toNat_inj.1 e)
        simp
        omega
      have HJ : Hid (stepH ⟨line, true, f, rq, fs⟩ c = (⟨line, true, f, rq, fs⟩, .bad 3)) := Lib.hid (by unfold stepH; rw [if_neg (fun h => hc h.2), if_pos (Or.inl rfl)])
      have cB := pbad_any g lv ⟨line, true, f, rq, fs⟩ (u + 1) 3 W1 ⟨fv, HG1.out, HO1.out⟩
      clear hg1 hc
      go_wp2_with (go_at_call 24; refine stopc ?_)
      refine Stop.go ?_
      refine cB.mono ?_
      rintro e W9 ⟨rfl, he9, hs9⟩
      have HE9 := Lib.hid he9
      have HB9 := Lib.hid (hs9.blk HB1.out (by omega))
      have HS9 := Lib.hid (HS1.out.trans hs9.atO)
      clear he9 hs9 hc1 hf1 cB
      obtain ⟨fv9, hg9, ho9⟩ := HE9.out
      have HG9 := Lib.hid hg9
      have HO9 := Lib.hid ho9
      clear hg9 ho9
      go_wp2_with (with_reducible refine stop (N := 77) rfl ?_)
      refine Stop.go ?_
      refine wpList_load_mid rfl _ _ rfl g 7 rfl (vdC (.bad 3) (u + 1)) _ (pk_mid HG9.out) Tryz.underlying31 rfl size_vd ?_
      refine wpList_store_row rfl _ _ _ rfl b _ rfl rfl _ vd0 HB9.out size_vd rfl (vdC_one _ _) ?_
      have hs9 := (Stp.refl (fun k => k = b) W9).rowA (g := b) (fun _ => rfl) (vdC (.bad 3) (u + 1)).toArray
      have HR9 := Lib.hid (row_blk HB9.out (vdC (.bad 3) (u + 1)).toArray)
      have HP9 := Lib.hid (show PkB _ g _ (.bad 3) (u + 1) from ⟨_, fv9, hs9.blk HG9.out (by omega), HO9.out.atb HB9.out hs9⟩)
      have HZ9 := Lib.hid ((HS9.out.then_ hs9 fun k hk e => by have := HBW.out; omega).mono fun k _ h => HNV.out k h)
      clear hs9
      go_wp2
      refine bodyPost_ret (results_cell_row rfl _ _ b _ _ _ _ rfl HR9.out Tryz.underlying31 rfl size_vd) rfl ?_
      rw [HR.out, HJ.out]
      exact ⟨rfl, HP9.out, HZ9.out⟩
  | false =>
    by_cases hc : c = 10
    · subst hc
      have HJ : Hid (stepH ⟨line, false, f, rq, fs⟩ 10 = (⟨line, false, f, rq, fs⟩, .bad 3)) := Lib.hid (by unfold stepH; rw [if_neg (by simp), if_pos (Or.inr rfl)])
      have cB := pbad_any g lv ⟨line, false, f, rq, fs⟩ (u + 1) 3 W1 ⟨fv, HG1.out, HO1.out⟩
      clear hg1
      go_wp2_with (go_at_call 24; refine stopc ?_)
      refine Stop.go ?_
      refine cB.mono ?_
      rintro e W9 ⟨rfl, he9, hs9⟩
      have HE9 := Lib.hid he9
      have HB9 := Lib.hid (hs9.blk HB1.out (by omega))
      have HS9 := Lib.hid (HS1.out.trans hs9.atO)
      clear he9 hs9 hc1 hf1 cB
      obtain ⟨fv9, hg9, ho9⟩ := HE9.out
      have HG9 := Lib.hid hg9
      have HO9 := Lib.hid ho9
      clear hg9 ho9
      go_wp2_with (with_reducible refine stop (N := 77) rfl ?_)
      refine Stop.go ?_
      refine wpList_load_mid rfl _ _ rfl g 7 rfl (vdC (.bad 3) (u + 1)) _ (pk_mid HG9.out) Tryz.underlying31 rfl size_vd ?_
      refine wpList_store_row rfl _ _ _ rfl b _ rfl rfl _ vd0 HB9.out size_vd rfl (vdC_one _ _) ?_
      have hs9 := (Stp.refl (fun k => k = b) W9).rowA (g := b) (fun _ => rfl) (vdC (.bad 3) (u + 1)).toArray
      have HR9 := Lib.hid (row_blk HB9.out (vdC (.bad 3) (u + 1)).toArray)
      have HP9 := Lib.hid (show PkB _ g _ (.bad 3) (u + 1) from ⟨_, fv9, hs9.blk HG9.out (by omega), HO9.out.atb HB9.out hs9⟩)
      have HZ9 := Lib.hid ((HS9.out.then_ hs9 fun k hk e => by have := HBW.out; omega).mono fun k _ h => HNV.out k h)
      clear hs9
      go_wp2
      refine bodyPost_ret (results_cell_row rfl _ _ b _ _ _ _ rfl HR9.out Tryz.underlying31 rfl size_vd) rfl ?_
      rw [HR.out, HJ.out]
      exact ⟨rfl, HP9.out, HZ9.out⟩
    · have e10 : ((c.toNat : Int) == 10) = false := by
        have : c.toNat ≠ 10 := fun e => hc (UInt8.toNat_inj.1 e)
        simp
        omega
      by_cases hd : c = 13
      · subst hd
        have HJ : Hid (stepH ⟨line, false, f, rq, fs⟩ 13 = (⟨line, true, f, rq, fs⟩, .open_)) := Lib.hid (by unfold stepH; rw [if_neg (by simp), if_neg (by simp), if_pos rfl])
        have hs2 : Stp (fun k => k = g) W1 (W1.setCell ⟨g, 1, none⟩ (.bool true)) := (Stp.refl _ W1).setg 1 _
        have HE9 := Lib.hid (show PkE (W1.setCell ⟨g, 1, none⟩ (.bool true)) g lv ⟨line, true, f, rq, fs⟩ .open_ (u + 1) from ⟨fv, blk_set HG1.out 1 _, HO1.out.atg hs2⟩)
        have HB9 := Lib.hid (hs2.blk HB1.out (by omega))
        have HS9 := Lib.hid (HS1.out.trans hs2.atO)
        clear hg1 hs2 hc
        obtain ⟨fv9, hg9, ho9⟩ := HE9.out
        have HG9 := Lib.hid hg9
        have HO9 := Lib.hid ho9
        clear hg9 ho9
        go_wp2_with (with_reducible refine stop (N := 77) rfl ?_)
        refine Stop.go ?_
        refine wpList_load_mid rfl _ _ rfl g 7 rfl (vdC .open_ (u + 1)) _ (pk_mid HG9.out) Tryz.underlying31 rfl size_vd ?_
        refine wpList_store_row rfl _ _ _ rfl b _ rfl rfl _ vd0 HB9.out size_vd rfl (vdC_one _ _) ?_
        have hs9 := (Stp.refl (fun k => k = b) (W1.setCell ⟨g, 1, none⟩ (.bool true))).rowA (g := b) (fun _ => rfl) (vdC .open_ (u + 1)).toArray
        have HR9 := Lib.hid (row_blk HB9.out (vdC .open_ (u + 1)).toArray)
        have HP9 := Lib.hid (show PkB _ g _ .open_ (u + 1) from ⟨_, fv9, hs9.blk HG9.out (by omega), HO9.out.atb HB9.out hs9⟩)
        have HZ9 := Lib.hid ((HS9.out.then_ hs9 fun k hk e => by have := HBW.out; omega).mono fun k _ h => HNV.out k h)
        clear hs9
        go_wp2
        refine bodyPost_ret (results_cell_row rfl _ _ b _ _ _ _ rfl HR9.out Tryz.underlying31 rfl size_vd) rfl ?_
        rw [HR.out, HJ.out]
        exact ⟨rfl, HP9.out, HZ9.out⟩
      · have e13 : ((c.toNat : Int) == 13) = false := by
          have : c.toNat ≠ 13 := fun e => hd (UInt8.toNat_inj.1 e)
          simp
          omega
        have HJ : Hid (stepH ⟨line, false, f, rq, fs⟩ c = (⟨line ++ [c], false, f, rq, fs⟩, .open_)) := Lib.hid (step_plain _ c rfl hc hd)
        have hc0 := blk_cell (j := 0) hg1
        have hf0 := blk_free hg1 0
        simp [pkObj, pkRow] at hc0
        obtain ⟨A, cp, rfl, hle⟩ := HO1.out.ln.form
        clear hg1 hc hd
        go_wp2_with (with_reducible refine stop (N := 71) rfl ?_)
        refine Stop.go ?_
        refine wp_append1 enc8 c rfl rfl _ _ _ rfl Tryz.underlying22 info_u8 rfl (HO1.out.ln.stp0 ((Stp.refl _ _).alloc _)) rfl ⟨W1.heap.size, 0, none⟩ 1 rfl ?_ (by omega) (by omega) (by simp; omega) ?_
        · exact blk_cell (j := 0) (heap_alloc_new _ _)
        · intro v2 W2 ho2 hg2
          obtain ⟨Y, hY⟩ : ∃ Y, Y = line ++ [c] := ⟨_, rfl⟩
          rw [← hY] at ho2 HJ
          obtain ⟨A2, c2, rfl, hle2⟩ := ho2.form
          have hA : Stp (fun _ => False) W1 (W1.alloc (.cells #[enc8 c] 5)) := (Stp.refl _ _).alloc _
          have hoA := HO1.out.stp0 hA
          have hB := Stp.of_grown hg2
          have hgn : ¬ (Value.slice A line.length cp).ownBlock = some g := fun h => by have := (hoA.ln.lt g h).1; omega
          have hg3 := hB.blk (hA.blk HG1.out id) hgn
          have hk0 := blk_cell (j := 0) hg3
          have hfr := blk_free hg3 0
          simp [pkObj, pkRow] at hk0
          have hsB : Stp (AtO g (.slice A line.length cp) fv) W1 W2 := hA.to.trans (hB.mono fun k _ h => Or.inr (Or.inl h))
          have hC : Stp (fun k => k = g) W2 (W2.setCell ⟨g, 0, none⟩ (.slice A2 Y.length c2)) := (Stp.refl _ _).setg 0 _
          have ho3 : PkO W2 g (.slice A2 Y.length c2) fv Y fs := ⟨ho2, hoA.fl.step hB (fun k _ h => ⟨trivial, fun e => hoA.ne k h e⟩)⟩
          have HE9 := Lib.hid (show PkE (W2.setCell ⟨g, 0, none⟩ (.slice A2 Y.length c2)) g (.slice A2 Y.length c2) ⟨Y, false, f, rq, fs⟩ .open_ (u + 1) from ⟨fv, blk_set hg3 0 _, ho3.atg hC⟩)
          have HB9 := Lib.hid (hC.blk (hB.blk (hA.blk HB1.out id) (fun h => (HO1.out.nb HB1.out).1 h)) (by omega))
          have HS9 := Lib.hid ((HS1.out.trans hsB).trans hC.atO)
          clear hY hA hoA hB hgn hg3 hsB hC ho3 ho2 hg2 hc0 hf0 hc1 hf1
          obtain ⟨fv9, hg9, ho9⟩ := HE9.out
          have HG9 := Lib.hid hg9
          have HO9 := Lib.hid ho9
          clear hg9 ho9
          go_wp2_with (with_reducible refine stop (N := 77) rfl ?_)
          refine Stop.go ?_
          refine wpList_load_mid rfl _ _ rfl g 7 rfl (vdC .open_ (u + 1)) _ (pk_mid HG9.out) Tryz.underlying31 rfl size_vd ?_
          refine wpList_store_row rfl _ _ _ rfl b _ rfl rfl _ vd0 HB9.out size_vd rfl (vdC_one _ _) ?_
          have hs9 := (Stp.refl (fun k => k = b) (W2.setCell ⟨g, 0, none⟩ (.slice A2 Y.length c2))).rowA (g := b) (fun _ => rfl) (vdC .open_ (u + 1)).toArray
          have HR9 := Lib.hid (row_blk HB9.out (vdC .open_ (u + 1)).toArray)
          have HP9 := Lib.hid (show PkB _ g _ .open_ (u + 1) from ⟨_, fv9, hs9.blk HG9.out (by omega), HO9.out.atb HB9.out hs9⟩)
          have HZ9 := Lib.hid ((HS9.out.then_ hs9 fun k hk e => by have := HBW.out; omega).mono fun k _ h => HNV.out k h)
          clear hs9
          go_wp2
          refine bodyPost_ret (results_cell_row rfl _ _ b _ _ _ _ rfl HR9.out Tryz.underlying31 rfl size_vd) rfl ?_
          rw [HR.out, HJ.out]
          exact ⟨rfl, HP9.out, HZ9.out⟩
end Go.Proofs.YtgjmaifgkgejgaaGreatDoor.L

/-! Layer 16: all bytes. -/
namespace Go.Proofs.YtgjmaifgkgejgaaGreatDoor.L
open Go.RowKit Go.Proofs

def NewP (w : World) (e : Ending) (w' : World) : Prop := ∃ g, e = .returned (.pointer (some ⟨g, 0, none⟩)) ∧ w.heap.size ≤ g ∧ PkE w' g (.slice none 0 0) .new .open_ 0 ∧ Stp (fun _ => False) w w'
theorem pnew_any (w : World) : Calls Tryz.prog 13 #[] w (NewP w) := by
  obtain ⟨R, hR⟩ : ∃ R, R = NewP w := ⟨_, rfl⟩
  rw [← hR]
  have HR := Lib.hid hR
  clear hR
  go_enter Tryz.func13, Tryz.ntmps13
  go_wp2
  rw [HR.out]
  exact ⟨_, rfl, Nat.le_refl _, ⟨_, heap_alloc_new w _, Own.nil _ _ _ _, OwnM.nil _ _ _ _ _⟩, (Stp.refl _ _).alloc _⟩

def AllP (w : World) (b : List UInt8) (e : Ending) (w' : World) : Prop := e = .returned (vdV (allH b).1 (allH b).2) ∧ Stp (fun _ => False) w w'
set_option maxRecDepth 100000 in
set_option maxHeartbeats 8000000 in
theorem pall_any (M : Nat → Prop) (vb : Value) (b : List UInt8) (w : World) (hb : Rd u8 M w vb b) (hl : b.length ≤ 1000000) (he : EnvP w) : Calls Tryz.prog 11 #[vb] w (AllP w b) := by
  obtain ⟨R, hR⟩ : ∃ R, R = AllP w b := ⟨_, rfl⟩
  rw [← hR]
  have HR := Lib.hid hR
  have HV := Lib.hid he
  have HX := Lib.hid hb
  obtain ⟨A, cp, rfl, hle⟩ := hb.form
  clear hR he hb
  go_enter Tryz.func11, Tryz.ntmps11
  go_wp2_with (go_at_call 13; refine stopc ?_)
  refine Stop.go ?_
  refine (pnew_any _).mono ?_
  rintro e w1 ⟨g, rfl, hgw, hp1, hs1⟩
  have hsA := (Stp.refl (fun _ => False) w).alloc (.cells vd0 31)
  have hgw' : w.heap.size < g := by
    have := hgw
    simp at this
    omega
  have hb1 := hs1.blk (heap_alloc_new w (.cells vd0 31)) id
  have HS1 := Lib.hid (hsA.trans hs1)
  have HB1 := Lib.hid hb1
  have HP1 := Lib.hid hp1
  have hlt := hp1.lt
  obtain ⟨fv, hg, ho⟩ := hp1
  have HG1 := Lib.hid hg
  have hc7 := blk_cell (j := 7) hg
  simp [pkObj, pkRow] at hc7
  have HGW := Lib.hid hgw'
  clear hgw hgw' hsA hs1 hb1 hg ho
  go_wp2_with (with_reducible refine stop (N := 11) rfl ?_)
  refine Stop.go ?_
  refine wpList_load_mid rfl _ _ rfl g 7 rfl (vdC .open_ 0) _ (pk_mid HG1.out) Tryz.underlying31 rfl size_vd ?_
  go_wp2_with (refine wpList_store_row rfl _ _ _ rfl w1.heap.size _ rfl rfl _ vd0 (heap_alloc_new w1 _) size_vd rfl (vdC_one _ _) ?_; refine stopw ?_)
  refine Stop.go ?_
  have hsB := (Stp.refl (fun _ => False) w1).alloc (.cells vd0 31)
  have hsC : Stp (fun k => k = w1.heap.size) (w1.alloc (.cells vd0 31)) ((w1.alloc (.cells vd0 31)).setRow w1.heap.size (vdC .open_ 0).toArray) := (Stp.refl (fun k => k = w1.heap.size) _).rowA (g := w1.heap.size) (fun _ => rfl) _
  have hsD : Stp (fun _ => False) w1 ((w1.alloc (.cells vd0 31)).setRow w1.heap.size (vdC .open_ 0).toArray) := hsB.then_ hsC (fun k hk e => by omega)
  refine wpl_gen (fun W => PkB W g .new .open_ 0 ∧ W.heap[w1.heap.size]? = some (.cells (vdC .open_ 0).toArray 31 (0, 0)) ∧ W.heap[w.heap.size]? = some (.cells vd0 31 (0, 0)) ∧ Stp (fun _ => False) w W) ⟨⟨_, HP1.out.stp0 hsD⟩, row_blk (heap_alloc_new w1 _) _, hsD.blk HB1.out id, HS1.out.trans hsD⟩ ?_
  rintro W2 ⟨hp2, ho2, hr2, hs2⟩
  obtain ⟨bo, hbo⟩ : ∃ n, n = w1.heap.size := ⟨_, rfl⟩
  obtain ⟨br, hbr⟩ : ∃ n, n = w.heap.size := ⟨_, rfl⟩
  rw [← hbo] at ho2
  rw [← hbr] at hr2
  simp only [← hbo, ← hbr]
  have hgo : g < bo := by omega
  have HBR := Lib.hid hbr
  have hbg : br < g := by have := HGW.out; omega
  have HP2 := Lib.hid hp2
  have HO2 := Lib.hid ho2
  have HR2 := Lib.hid hr2
  have HS2 := Lib.hid hs2
  clear hp2 ho2 hr2 hs2
  clear hbo hbr hsB hsC hsD hc7 hlt HB1 HP1 HG1 HS1
  have hb63 : (b.length : Int) ≤ 1000000 := by omega
  go_wp2
  go_loopg [6, 14] b.length (fun gf _ i wr => ∃ (k : Nat) (s : Hs), k + gf = b.length ∧ i = .int .i64 k ∧ allH b = runH s k (b.drop k) ∧ HsOk s k ∧ PkB wr g s .open_ k ∧ wr.heap[bo]? = some (.cells (vdC .open_ k).toArray 31 (0, 0)) ∧ wr.heap[br]? = some (.cells vd0 31 (0, 0)) ∧ Stp (fun _ => False) w wr)
  case atStart => exact ⟨0, .new, by omega, rfl, rfl, HsOk.new, HP2.out, HO2.out, HR2.out, HS2.out⟩
  case round =>
    obtain ⟨k, s, hk, rfl, hrun, hok, hp, ho, hrb, hs⟩ := hrel
    have HRUN := Lib.hid hrun
    have HOK := Lib.hid hok
    have HP := Lib.hid hp
    have HO := Lib.hid ho
    have HRB := Lib.hid hrb
    have HS := Lib.hid hs
    clear hrun hok hp ho hrb hs
    by_cases hlt : k < b.length
    · obtain ⟨ad, rfl, -, hc⟩ := plain_cell (HX.out.stp0 HS.out) k hlt
      obtain ⟨c, hcc⟩ : ∃ c, c = b[k] := ⟨_, rfl⟩
      rw [← hcc] at hc
      simp only [enc8] at hc
      have hstep : allH b = if (stepH s c).2.st = 0 then runH (stepH s c).1 (k + 1) (b.drop (k + 1)) else ((stepH s c).2, k + 1) := by
        rw [HRUN.out, drop_cons' b k hlt, run_cons, ← hcc]
      have cT := take_open g s k c wr HP.out ⟨w, HV.out, by have := HBR.out; omega, HS.out⟩ HOK.out (by omega)
      have hok2 := HOK.out.step c
      have hop : (stepH s c).2.st = 0 → (stepH s c).2 = .open_ := step_open
      obtain ⟨q, hq⟩ : ∃ q, q = stepH s c := ⟨_, rfl⟩
      rw [← hq] at hstep cT hok2 hop
      obtain ⟨s', v'⟩ := q
      simp only at hstep cT hok2 hop
      unfold TkP vdV at cT
      have HST := Lib.hid hstep
      have HOK2 := Lib.hid hok2
      have HOP := Lib.hid hop
      have hin : (k : Int) < (b.length : Int) := by omega
      have hw : IntKind.i64.wrap ((k : Int) + 1) = (k : Int) + 1 := IntWalk.i64_in _ (by omega)
      clear hstep hok2 hop hq hcc
      go_wp2_with (go_at_call 14; refine stopc ?_)
      refine Stop.go ?_
      refine cT.mono ?_
      rintro e W3 ⟨rfl, hp3, hs3⟩
      have HP3 := Lib.hid hp3
      have HB3 := Lib.hid (hs3.blk HO.out (fun h => h.2 ⟨_, _, HO.out⟩))
      have HR3 := Lib.hid (hs3.blk HRB.out (fun h => h.2 ⟨_, _, HRB.out⟩))
      have HS3 := Lib.hid (HS.out.then_ hs3 (fun j hj h => by have := h.1; have := HBR.out; omega))
      clear hp3 hs3 cT
      go_wp2_with (refine wpList_store_row rfl _ _ _ rfl bo _ rfl rfl _ _ HB3.out size_vd rfl (vdC_one _ _) ?_; refine stopw ?_)
      refine Stop.go ?_
      obtain ⟨W4, hW4⟩ : ∃ W, W = W3.setRow bo (vdC v' (k + 1)).toArray := ⟨_, rfl⟩
      have hs4 : Stp (fun k => k = bo) W3 W4 := by rw [hW4]; exact (Stp.refl (fun k => k = bo) W3).rowA (g := bo) (fun _ => rfl) _
      have hb4 : W4.heap[bo]? = some (.cells (vdC v' (k + 1)).toArray 31 (0, 0)) := by rw [hW4]; exact row_blk HB3.out _
      have HP4 : Hid (PkB W4 g s' v' (k + 1)) := Lib.hid (by
        obtain ⟨lv, fv, hg, ho⟩ := HP3.out
        exact ⟨lv, fv, hs4.blk hg (by omega), ho.atb HB3.out hs4⟩)
      have HR4 := Lib.hid (hs4.blk HR3.out (by omega))
      have HS4 := Lib.hid (HS3.out.then_ hs4 (fun j hj h => by have := HBR.out; omega))
      have HB4 := Lib.hid hb4
      have hc0 : W4.cell? ⟨bo, 0, none⟩ = some (.int .i64 v'.st) := by rw [blk_cell hb4]; rfl
      rw [← hW4]
      clear hW4 hs4 hb4
      by_cases h0 : v'.st = 0
      · have hop := HOP.out h0
        subst hop
        have HRU := Lib.hid (HST.out.trans (if_pos rfl))
        obtain ⟨g', rfl⟩ : ∃ g', gk = g' + 1 := ⟨gk - 1, by omega⟩
        clear h0
        simp only [Vd.open_] at hc0
        go_wp2
        go_roundg g'
        case measure => omega
        case rel => exact ⟨k + 1, s', by omega, by go_num, HRU.out, HOK2.out, HP4.out, HB4.out, HR4.out, HS4.out⟩
      · have hne : (v'.st != 0) = true := by simpa using h0
        have HRU := Lib.hid (HST.out.trans (if_neg h0))
        clear h0
        go_wp2_with (with_reducible refine stop (N := 25) rfl ?_)
        refine Stop.go ?_
        refine wpList_load_row rfl _ _ rfl bo rfl _ _ (0, 0) _ HB4.out Tryz.underlying31 rfl size_vd ?_
        go_wp2_with (refine wpList_store_row rfl _ _ _ rfl br _ rfl rfl _ vd0 HR4.out size_vd rfl (vdC_one _ _) ?_; refine stopw ?_)
        refine Stop.go ?_
        have HS8 := Lib.hid (HS4.out.then_ ((Stp.refl (fun k => k = br) W4).rowA (g := br) (fun _ => rfl) (vdC v' (k + 1)).toArray) (fun j hj h => by have := HBR.out; omega))
        have HR8 := Lib.hid (row_blk HR4.out (vdC v' (k + 1)).toArray)
        go_wp2
        refine bodyPost_ret (results_cell_row rfl _ _ br _ _ _ _ rfl HR8.out Tryz.underlying31 rfl size_vd) rfl ?_
        rw [HR.out]
        exact ⟨by rw [HRU.out]; rfl, HS8.out⟩
    · obtain rfl : k = b.length := by omega
      have HRU : Hid (allH b = (.open_, b.length)) := Lib.hid (by rw [HRUN.out, List.drop_length]; rfl)
      go_wp2_with (with_reducible refine stop (N := 25) rfl ?_)
      refine Stop.go ?_
      refine wpList_load_row rfl _ _ rfl bo rfl _ _ (0, 0) _ HO.out Tryz.underlying31 rfl size_vd ?_
      go_wp2_with (refine wpList_store_row rfl _ _ _ rfl br _ rfl rfl _ vd0 HRB.out size_vd rfl (vdC_one _ _) ?_; refine stopw ?_)
      refine Stop.go ?_
      have HS8 := Lib.hid (HS.out.then_ ((Stp.refl (fun k => k = br) wr).rowA (g := br) (fun _ => rfl) (vdC .open_ b.length).toArray) (fun j hj h => by have := HBR.out; omega))
      have HR8 := Lib.hid (row_blk HRB.out (vdC .open_ b.length).toArray)
      go_wp2
      refine bodyPost_ret (results_cell_row rfl _ _ br _ _ _ _ rfl HR8.out Tryz.underlying31 rfl size_vd) rfl ?_
      rw [HR.out]
      exact ⟨by rw [HRU.out]; rfl, HS8.out⟩
end Go.Proofs.YtgjmaifgkgejgaaGreatDoor.L
