/- What an argument reads as, and that none of its parts is greater than a machine's memory: kinds alone. No function of the program. -/
import Derived.Test.YtgjmaifgkgejgaaGreatDoorOpen
set_option linter.unusedVariables false
set_option linter.unusedSimpArgs false
namespace Go.Proofs.YtgjmaifgkgejgaaGreatDoor.L
open Go.RowKit Go.ChangeShapes Go.WideShapes Go.Deep
variable {P : Program} {α β : Type}

/-- What the kind's data tree reads as, if none of its parts is too great. -/
def FitW (P : Program) (e : TypeId) (d : Kind α) (ok : α → Prop) : Prop :=
  ∀ (H : Type) (enc : TypeId × Value → H) (W : World) (base : Nat) (sp : Nat → Bool) (held : Bool) (fuel : Nat) (cs : List Value) (x : DataW H × List MemPlace),
    DataW.trod enc P W base sp held fuel e cs = some x → (∀ n ∈ x.1.weights P e, n ≤ reachBytes) → ∃ a, d.K (newB W) W a cs ∧ ok a
theorem Fit.w {e : TypeId} {d : Kind α} {ok : α → Prop} (h : Fit P e d ok) : FitW P e d ok := fun _ enc W base sp held fuel cs x hx _ => h enc W base sp held fuel cs x hx

theorem weightsAll_mem {H : Type} {e : TypeId} {d : DataW H} {l : List (DataW H)} (h : d ∈ l) {n : Nat} (hn : n ∈ d.weights P e) : n ∈ DataW.weightsAll P e l := by
  induction l with
  | nil => cases h
  | cons y l ih =>
    unfold DataW.weightsAll
    rcases List.mem_cons.1 h with rfl | h
    · exact List.mem_append_left _ hn
    · exact List.mem_append_right _ (ih h)

theorem fitW_slice {t e : TypeId} {d : Kind α} {ok : α → Prop} (ht : P.underlying t = some (.slice e)) (hc : P.cellsOf e = d.sz) (hd : 0 < d.sz) (hf : FitW P e d ok) :
    FitW P t (slK d hd) (fun xs => xs.length * P.bytesOf e ≤ reachBytes ∧ ∀ a ∈ xs, ok a) := by
  intro H enc W base sp held fuel cs x h hw
  rcases open_slice ht h with ⟨rfl, _⟩ | ⟨a, len, cap, m, n, D, Pl, rfl, hb, hl, hm, hmm, rfl, hx⟩
  · exact ⟨[], ⟨_, rfl, Rd.nil _ _ _⟩, by simp, by simp⟩
  · have hlm : len ≤ m := by rw [hmm]; split <;> omega
    have hws : len * P.bytesOf e ≤ reachBytes ∧ ∀ i, i < len → ∀ n ∈ (D i).weights P e, n ≤ reachBytes := by
      simp only [DataW.weights, ht] at hw
      refine ⟨?_, fun i hi n hn => hw n (List.mem_cons_of_mem _ (List.mem_append_left _ (weightsAll_mem (List.mem_map.2 ⟨i, List.mem_range.2 hi, rfl⟩) hn)))⟩
      have := hw _ List.mem_cons_self
      simp only [List.length_map, List.length_range] at this
      exact Nat.le_trans (Nat.mul_le_mul_right _ (by omega)) this
    have each : ∀ i, i < len → ∃ q : α × List Value, (∀ j u, q.2[j]? = some u → W.cell? (a.add (i * d.sz + j)) = some u) ∧ d.K (newB W) W q.1 q.2 ∧ ok q.1 := by
      intro i hi
      obtain ⟨cs', h1, h2⟩ := hx i (by omega)
      obtain ⟨_, hlen, hcell⟩ := World.cells?_some h1
      obtain ⟨y, hK, hok⟩ := hf _ enc W base sp held n cs' _ h2 (hws.2 i hi)
      refine ⟨(y, cs'), fun j u hj => ?_, hK, hok⟩
      have hj' : j < cs'.length := (List.getElem?_eq_some_iff.1 hj).1
      have := hcell j (by omega)
      rw [hc, addr_add_add] at this
      rw [this]
      exact hj
    have hws1 := hws.1
    obtain ⟨V, hVl, hV⟩ : ∃ V : List (α × List Value), V.length = len ∧ ∀ i q, V[i]? = some q → (∀ j u, q.2[j]? = some u → W.cell? (a.add (i * d.sz + j)) = some u) ∧ d.K (newB W) W q.1 q.2 ∧ ok q.1 := by
      clear hlm hmm hx h hm hl hws hws1 hw
      induction len with
      | zero => exact ⟨[], rfl, by simp⟩
      | succ k ih =>
        obtain ⟨V, hl, hV⟩ := ih (fun i hi => each i (by omega))
        obtain ⟨q, hq⟩ := each k (by omega)
        refine ⟨V ++ [q], by simp [hl], fun i r hr => ?_⟩
        rw [List.getElem?_append] at hr
        split at hr
        · exact hV i r hr
        · rename_i hge
          have : i = k := by
            have := (List.getElem?_eq_some_iff.1 hr).1
            simp at this
            omega
          subst this
          rw [hl] at hr
          simp at hr
          subst hr
          exact hq
    refine ⟨V.map (·.1), ⟨_, rfl, some a, cap, by rw [List.length_map, hVl], by rw [List.length_map, hVl]; exact hl, hm, fun hp => ⟨a, rfl, ?_, ?_⟩⟩, by rw [List.length_map, hVl]; exact hws1, ?_⟩
    · have hp' : 0 < V.length := by simpa using hp
      obtain ⟨h1, h2, _⟩ := hV 0 _ (List.getElem?_eq_getElem hp')
      have hl0 := d.len h2
      have := World.block_lt_of_cell? W _ (h1 0 _ (List.getElem?_eq_getElem (by omega)))
      rw [add_block] at this
      simp only [newB]
      omega
    · intro j p hj
      rw [List.getElem?_map, Option.map_eq_some_iff] at hj
      obtain ⟨q, hq, rfl⟩ := hj
      obtain ⟨h1, h2, _⟩ := hV j q hq
      exact ⟨q.2, h2, h1⟩
    · intro y hy
      obtain ⟨q, hq, rfl⟩ := List.mem_map.1 hy
      obtain ⟨i, hi⟩ := List.getElem?_of_mem hq
      exact (hV i q hi).2.2

theorem fitW_str {e : TypeId} (he : P.underlying e = some .string) : FitW P e str (fun s => s.size ≤ reachBytes) := by
  intro H enc W base sp held fuel cs x h hw
  obtain ⟨s, rfl, hx, _⟩ := DataW.trod_string he h
  subst hx
  exact ⟨s, rfl, by simpa [DataW.weights] using hw⟩

/-- The fields of a struct, from a cell on. -/
def FitFW (P : Program) (fs : List Field) (off : Nat) (d : Kind α) (ok : α → Prop) : Prop :=
  ∀ (H : Type) (enc : TypeId × Value → H) (W : World) (base : Nat) (sp : Nat → Bool) (held : Bool) (n : Nat) (cs : List Value),
    (∀ f ∈ fs, ∃ x, DataW.trod enc P W base sp held n f.type ((cs.drop f.offset).take (P.cellsOf f.type)) = some x ∧ ∀ m ∈ x.1.weights P f.type, m ≤ reachBytes) → ∃ a, d.K (newB W) W a ((cs.drop off).take d.sz) ∧ ok a
theorem fitFW_one {f : Field} {off : Nat} {d : Kind α} {ok : α → Prop} (hf : FitW P f.type d ok) (ho : f.offset = off) (hc : P.cellsOf f.type = d.sz) : FitFW P [f] off d ok := by
  intro H enc W base sp held n cs h
  obtain ⟨x, hx, hw⟩ := h f List.mem_cons_self
  rw [ho, hc] at hx
  exact hf _ enc W base sp held n _ x hx hw
theorem fitFW_cons {f : Field} {fs : List Field} {off : Nat} {d : Kind α} {e : Kind β} {ok : α → Prop} {ok2 : β → Prop} (hf : FitW P f.type d ok) (ho : f.offset = off) (hc : P.cellsOf f.type = d.sz) (hr : FitFW P fs (off + d.sz) e ok2) :
    FitFW P (f :: fs) off (pairK d e) (fun x => ok x.1 ∧ ok2 x.2) := by
  intro H enc W base sp held n cs h
  obtain ⟨a, h1, h2⟩ := fitFW_one hf ho hc _ enc W base sp held n cs (fun f' hf' => h f' (by rw [List.mem_singleton.1 hf']; exact List.mem_cons_self))
  obtain ⟨b, h3, h4⟩ := hr _ enc W base sp held n cs (fun f' hf' => h f' (List.mem_cons_of_mem _ hf'))
  refine ⟨(a, b), ⟨_, _, ?_, h1, h3⟩, h2, h4⟩
  show (cs.drop off).take (d.sz + e.sz) = _
  rw [List.take_add, List.drop_drop]

theorem weightsEach_mem {H : Type} (ts : List TypeId) (ds : List (DataW H)) (i : Nat) (t : TypeId) (d : DataW H) (ht : ts[i]? = some t) (hd : ds[i]? = some d) {n : Nat} (hn : n ∈ d.weights P t) : n ∈ DataW.weightsEach P ts ds := by
  induction ts generalizing ds i with
  | nil => simp at ht
  | cons u ts ih =>
    cases ds with
    | nil => simp at hd
    | cons e ds =>
      unfold DataW.weightsEach
      cases i with
      | zero =>
        simp at ht hd
        subst ht
        subst hd
        exact List.mem_append_left _ hn
      | succ i => exact List.mem_append_right _ (ih ds i (by simpa using ht) (by simpa using hd))

theorem fitW_struct {t : TypeId} {fs : Array Field} {d : Kind α} {ok : α → Prop} (ht : P.underlying t = some (.struct fs)) (hc : P.cellsOf t = d.sz) (hf : FitFW P fs.toList 0 d ok) : FitW P t d ok := by
  intro H enc W base sp held fuel cs x h hw
  obtain ⟨xs, n, _, hxe, hl, hxl, hx⟩ := DataW.trod_struct ht h
  subst hxe
  simp only [DataW.weights, ht] at hw
  obtain ⟨a, h1, h2⟩ := hf _ enc W base sp held n cs (fun f hf' => by
    obtain ⟨i, hi⟩ := List.getElem?_of_mem hf'
    have hi' := hi
    rw [Array.getElem?_toList] at hi
    have := hx i f hi
    have hlt := (Array.getElem?_eq_some_iff.1 hi).1
    rw [List.getElem?_eq_getElem (by omega)] at this
    refine ⟨_, this, fun m hm => hw m (weightsEach_mem _ _ i f.type (xs[i]'(by omega)).1 ?_ ?_ hm)⟩
    · rw [List.getElem?_map, hi']
      rfl
    · rw [List.getElem?_map, List.getElem?_eq_getElem (by omega)]
      rfl)
  rw [List.drop_zero, List.take_of_length_le (by omega)] at h1
  exact ⟨a, h1, h2⟩

theorem weights_at {H : Type} {t : TypeId} {ts : List TypeId} {d : DataW H} {ds : List (DataW H)} (h : ∀ n ∈ DataW.weightsEach P (t :: ts) (d :: ds), n ≤ reachBytes) :
    (∀ n ∈ d.weights P t, n ≤ reachBytes) ∧ ∀ n ∈ DataW.weightsEach P ts ds, n ≤ reachBytes := by
  unfold DataW.weightsEach at h
  exact ⟨fun n hn => h n (List.mem_append_left _ hn), fun n hn => h n (List.mem_append_right _ hn)⟩
theorem weights_all {l : List Nat} (h : l.all (· ≤ reachBytes) = true) : ∀ n ∈ l, n ≤ reachBytes := fun n hn => by simpa using List.all_eq_true.1 h n hn

/-- A struct that came in by value. -/
theorem argW_struct {H : Type} {enc : TypeId × Value → H} {W : World} {base b0 : Nat} {r : Reach} {sp : Nat → Bool} {held : Bool} {dd : DataW H} {ps : List MemPlace} {t : TypeId} {fs : Array Field} {d : Kind α} {ok : α → Prop} {v : Value}
    (ht : P.underlying t = some (.struct fs)) (hf : FitW P t d ok) (hv : Value.okWide P W r b0 t v) (h : DataW.Trod enc P W base sp held t v dd ps) (hw : ∀ n ∈ dd.weights P t, n ≤ reachBytes) :
    ∃ cs a, v = .agg cs ∧ d.K (newB W) W a cs.toList ∧ ok a := by
  unfold Value.okWide at hv
  rw [ht] at hv
  obtain ⟨cs, rfl, hs, _⟩ := hv
  obtain ⟨fuel, h⟩ := h
  obtain ⟨a, h1, h2⟩ := hf _ enc W base sp held fuel cs.toList _ h hw
  exact ⟨cs, a, rfl, h1, h2⟩

theorem argW_slice {H : Type} {enc : TypeId × Value → H} {W : World} {base b0 : Nat} {r : Reach} {sp : Nat → Bool} {held : Bool} {dd : DataW H} {ps : List MemPlace} {t e : TypeId} {d : Kind α} {ok : α → Prop} {v : Value}
    (ht : P.underlying t = some (.slice e)) (hc : P.cellsOf e = d.sz) (hd : 0 < d.sz) (hf : FitW P e d ok) (hv : Value.okWide P W r b0 t v) (h : DataW.Trod enc P W base sp held t v dd ps) (hw : ∀ n ∈ dd.weights P t, n ≤ reachBytes) :
    ∃ xs, Rd d (newB W) W v xs ∧ xs.length * P.bytesOf e ≤ reachBytes ∧ ∀ a ∈ xs, ok a := by
  obtain ⟨A, n, c, rfl⟩ := okWide_slice ht hv
  obtain ⟨fuel, h⟩ := h
  obtain ⟨xs, ⟨v, hv1, hr⟩, h2, h3⟩ := fitW_slice ht hc hd hf _ enc W base sp held fuel _ _ h hw
  injection hv1 with hv1
  rw [hv1]
  exact ⟨xs, hr, h2, h3⟩
end Go.Proofs.YtgjmaifgkgejgaaGreatDoor.L
