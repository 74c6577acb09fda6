/- From the statement's reading of a value to our own readings, with the sizes that the statement's reach allows. -/
import Derived.Test.YtmmioinglmeoiaaLibV
namespace Go.X
open Go.ChangeShapes Go.RowKit

/-- Whatever the statement's reading reads at the type t, within the reach, R reads too, and Q holds of it. -/
def OpnS {α : Type} (P : Program) (t : TypeId) (R : Rp α) (Q : α → Prop) : Prop :=
  ∀ {H : Type} {enc : TypeId × Value → H} {W : World} {base : Nat} {spare : Nat → Bool} {held : Bool} {fuel : Nat} {cs : List Value} {x : DataW H × List MemPlace},
    DataW.trod enc P W base spare held fuel t cs = some x → (∀ n ∈ x.1.weights P t, n ≤ reachBytes) → ∃ a : α, R (hm W) cs a ∧ Q a

section
variable {P : Program} {t : TypeId}
theorem s_int {k : IntKind} (ht : P.underlying t = some (.int k)) : OpnS P t (pI k) (InR k) := fun h _ => by
  obtain ⟨a, ha⟩ := o_int ht h
  exact ⟨a, ha, ha.2⟩
theorem s_bool (ht : P.underlying t = some .bool) : OpnS P t pB (fun _ => True) := fun h _ => by
  obtain ⟨a, ha⟩ := o_bool ht h
  exact ⟨a, ha, trivial⟩
theorem s_str (ht : P.underlying t = some .string) : OpnS P t pS (fun s => s.length ≤ reachBytes) := fun h hz => by
  obtain ⟨s, rfl, rfl, hs⟩ := DataW.trod_string ht h
  refine ⟨s.data.toList, ⟨rfl, hs⟩, hz _ ?_⟩
  simp [DataW.weights]
theorem weightsAll_mem {H : Type} {e : TypeId} : ∀ {l : List (DataW H)} {d : DataW H}, d ∈ l → ∀ n ∈ d.weights P e, n ∈ DataW.weightsAll P e l
  | d0 :: l, d, h, n, hn => by
    simp only [DataW.weightsAll, List.mem_append]
    rcases List.mem_cons.1 h with rfl | h
    · exact .inl hn
    · exact .inr (weightsAll_mem h n hn)
  | [], _, h, _, _ => by cases h
theorem s_slice {α : Type} {e : TypeId} {n : Nat} {R : Rp α} {Q : α → Prop} (ht : P.underlying t = some (.slice e)) (hc : P.cellsOf e = n) (hn : 0 < n) (hb : 0 < P.bytesOf e) (he : OpnS P e R Q) : OpnS P t (pL n R) (fun xs => xs.length ≤ reachBytes ∧ ∀ y ∈ xs, Q y) := fun {H enc W base spare held fuel cs x} h hz => by
  rcases Go.Deep.open_slice ht h with ⟨rfl, _⟩ | ⟨a, len, cap, m, fu, D, Pl, rfl, _, hl, hm', hm2, rfl, hel⟩
  · exact ⟨[], ⟨none, 0, rfl, Nat.le_refl _, Nat.zero_le _, Nat.zero_le _, fun h => absurd rfl h⟩, Nat.zero_le _, fun _ h => by cases h⟩
  · rw [hc] at hel
    have hlm : len ≤ m := by rw [hm2]; split <;> omega
    have hlen : len ≤ reachBytes := by
      have h1 := hz (((List.range len).map D).length + ((List.range (m - len)).map fun j => D (len + j)).length |> (· * P.bytesOf e)) (by simp [DataW.weights, ht])
      simp only [List.length_map, List.length_range] at h1
      have h2 : len * 1 ≤ (len + (m - len)) * P.bytesOf e := Nat.mul_le_mul (by omega) hb
      omega
    have key : ∀ i, i < len → ∃ y : α, (∃ es : List Value, es.length = n ∧ (∀ j v, es[j]? = some v → W.cell? (a.add (i * n + j)) = some v) ∧ R (hm W) es y) ∧ Q y := by
      intro i hi
      obtain ⟨cs', h1, h2⟩ := hel i (by omega)
      obtain ⟨y, hy, hq⟩ := he h2 (fun k hk => hz k (by
        simp only [DataW.weights, ht, List.mem_cons, List.mem_append]
        exact .inr (.inl (weightsAll_mem (List.mem_map.2 ⟨i, List.mem_range.2 hi, rfl⟩) k hk))))
      obtain ⟨_, hlen, hcell⟩ := World.cells?_some h1
      refine ⟨y, ⟨cs', hlen, fun j v hj => ?_, hy⟩, hq⟩
      have hjn : j < n := by rw [← hlen]; exact (List.getElem?_eq_some_iff.1 hj).1
      have := hcell j hjn
      rw [hj] at this
      rw [add_add]
      exact this
    have pick : ∃ f : Fin len → α, ∀ i : Fin len, (∃ es : List Value, es.length = n ∧ (∀ j v, es[j]? = some v → W.cell? (a.add (i.1 * n + j)) = some v) ∧ R (hm W) es (f i)) ∧ Q (f i) :=
      ⟨fun i => (key i.1 i.2).choose, fun i => (key i.1 i.2).choose_spec⟩
    obtain ⟨f, hf⟩ := pick
    refine ⟨List.ofFn f, ⟨some a, cap, by rw [List.length_ofFn], by rw [List.length_ofFn]; exact hl, hm', ?_, fun h0 => ?_⟩, by rw [List.length_ofFn]; exact hlen, fun y hy => ?_⟩
    · rw [List.length_ofFn]; unfold maxLen at hm'; unfold LIMS; omega
    · rw [List.length_ofFn] at h0
      obtain ⟨b, off, spot⟩ := a
      have hs : spot = none := by
        obtain ⟨⟨es, e1, e2, _⟩, _⟩ := hf ⟨0, by omega⟩
        have hv : es[0]? = some (es[0]'(by omega)) := by simp
        have := e2 0 _ hv
        simpa [Addr.add] using World.cell?_spot this
      subst hs
      refine ⟨b, off, rfl, fun i y hy => ?_⟩
      obtain ⟨hi, rfl⟩ := List.getElem?_eq_some_iff.1 hy
      have hi' : i < len := by simpa using hi
      obtain ⟨⟨es, e1, e2, e3⟩, _⟩ := hf ⟨i, hi'⟩
      refine ⟨es, e1, fun j v hj => ?_, by simpa using e3⟩
      have := e2 j v hj
      refine hm_cell ?_
      rw [add_none] at this
      rw [Nat.add_assoc]
      exact this
    · obtain ⟨i, rfl⟩ := List.mem_ofFn.1 hy
      exact (hf i).2
theorem s_struct {fs : Array Field} (ht : P.underlying t = some (.struct fs)) {H : Type} {enc : TypeId × Value → H} {W : World} {base : Nat} {spare : Nat → Bool} {held : Bool} {fuel : Nat} {cs : List Value} {x : DataW H × List MemPlace}
    (h : DataW.trod enc P W base spare held fuel t cs = some x) (hz : ∀ n ∈ x.1.weights P t, n ≤ reachBytes) :
    cs.length = P.cellsOf t ∧ ∀ {α : Type} {R : Rp α} {Q : α → Prop} (i : Nat) (f : Field) (n : Nat), fs[i]? = some f → P.cellsOf f.type = n → OpnS P f.type R Q → ∃ a, R (hm W) ((cs.drop f.offset).take n) a ∧ Q a := by
  obtain ⟨xs, n, _, hx, hl, hlen, hf⟩ := DataW.trod_struct ht h
  refine ⟨hl, fun {α R Q} i f n hi hn ho => ?_⟩
  have hi' : i < xs.length := by rw [hlen]; exact (Array.getElem?_eq_some_iff.1 hi).1
  have := hf i f hi
  rw [List.getElem?_eq_getElem hi', hn] at this
  refine ho this fun k hk => hz k ?_
  subst hx
  simp only [DataW.weights, ht]
  refine DataW.weights_mem_each (j := i) (t := f.type) (d := xs[i].1) ?_ ?_ k hk
  · simp [hi]
  · simp [hi']
end

section
variable {H : Type} {enc : TypeId × Value → H}
theorem returns_and_sized {a : Assume} {C : Checked} {os : Os} {f : FuncId} {fn : Func} {s : ChangeSpec} {conds : List PathCond} {apart fresh handsOn again : Bool} {X : World → Array Value → Prop}
    (own : ownKnob C.prog.godebug = none) (started : os.Started) (noInit : C.prog.inits.idxOf? f = none) (hfn : C.prog.funcs[f]? = some fn)
    (witness : ∃ (w : World) (tape : Tape) (i : Input), w.os = os ∧ (w.forCall tape i).Shaped C.prog ∧ i.vars = [] ∧ Input.okWide C.prog (w.forCall tape i) .any w.heap.size f i ∧
      ((s.pre enc C.prog fn conds apart (w.forCall tape i).memory i.args ∧ X (w.forCall tape i).memory i.args) ∧ sizedMet enc C.prog fn (OpenSpec.ofChange s) apart (w.forCall tape i).memory i.args) ∧ a.holds C.prog (lone (Frame.enter C.prog f i.args .normal) [] (w.forCall tape i)))
    (contract : ∀ (W : World) (base : Nat) (args : Array Value) (ds gs : List (DataW H)) (before : List MemPlace),
      (∀ (j : Nat) t v, fn.params[j]? = some t → args[j]? = some v → Value.okWide C.prog W .any base t v) →
      DataW.Whole enc C.prog fn.params.toList s.vars apart W args.toList ds gs before → W.ShapedOpen C.prog →
      (DataW.weightsEach C.prog (fn.params.toList ++ s.plain.varTypes C.prog) (ds ++ gs)).all (· ≤ reachBytes) = true →
      Calls C.prog f args W fun e W' => ∃ v, e = .returned v ∧ s.post enc C.prog fn apart fresh handsOn again W args v W') :
    ReturnsInHanded a C os f .any (fun w args => (s.pre enc C.prog fn conds apart w args ∧ X w args) ∧ sizedMet enc C.prog fn (OpenSpec.ofChange s) apart w args) (s.post enc C.prog fn apart fresh handsOn again) := by
  refine returnsInHanded_of_calls own started noInit witness ?_
  intro w tape i _ hsh _ hok hpre _
  obtain ⟨_, _, _, fn', hfn', _, _, _, _, hval⟩ := hok
  have e : fn' = fn := Option.some.inj (hfn'.symm.trans hfn)
  subst e
  obtain ⟨⟨⟨ds, gs, before, hw, _⟩, _⟩, hz⟩ := hpre
  have hw' := DataW.Whole.of_heap (w' := w.forCall tape i) (by rfl) hw
  refine (contract (w.forCall tape i) w.heap.size i.args ds gs before hval hw' hsh (hz.weights hw)).mono fun e W' ⟨v, he, hp⟩ => ?_
  subst he
  exact ChangeSpec.post_blind hp
theorem returns_sized6 {a : Assume} {C : Checked} {os : Os} {f : FuncId} {fn : Func} {s : ChangeSpec} {conds : List PathCond} {apart fresh handsOn again : Bool}
    (own : ownKnob C.prog.godebug = none) (started : os.Started) (noInit : C.prog.inits.idxOf? f = none) (hfn : C.prog.funcs[f]? = some fn)
    (witness : ∃ (w : World) (tape : Tape) (i : Input), w.os = os ∧ (w.forCall tape i).Shaped C.prog ∧ i.vars = [] ∧ Input.okWide C.prog (w.forCall tape i) .any w.heap.size f i ∧
      s.pre6 enc C.prog fn conds apart (w.forCall tape i).memory i.args ∧ a.holds C.prog (lone (Frame.enter C.prog f i.args .normal) [] (w.forCall tape i)))
    (contract : ∀ (W : World) (base : Nat) (args : Array Value) (ds gs : List (DataW H)) (before : List MemPlace),
      (∀ (j : Nat) t v, fn.params[j]? = some t → args[j]? = some v → Value.okWide C.prog W .any base t v) →
      DataW.Whole enc C.prog fn.params.toList s.vars apart W args.toList ds gs before → W.ShapedOpen C.prog →
      (DataW.weightsEach C.prog (fn.params.toList ++ s.plain.varTypes C.prog) (ds ++ gs)).all (· ≤ reachBytes) = true →
      Calls C.prog f args W fun e W' => ∃ v, e = .returned v ∧ s.post enc C.prog fn apart fresh handsOn again W args v W') :
    ReturnsInHanded a C os f .any (s.pre6 enc C.prog fn conds apart) (s.post enc C.prog fn apart fresh handsOn again) := by
  refine returnsInHanded_of_calls own started noInit witness ?_
  intro w tape i _ hsh _ hok hpre _
  obtain ⟨_, _, _, fn', hfn', _, _, _, _, hval⟩ := hok
  have e : fn' = fn := Option.some.inj (hfn'.symm.trans hfn)
  subst e
  obtain ⟨⟨ds, gs, before, hw, _⟩, hz⟩ := hpre
  have hw' := DataW.Whole.of_heap (w' := w.forCall tape i) (by rfl) hw
  refine (contract (w.forCall tape i) w.heap.size i.args ds gs before hval hw' hsh (hz.weights hw)).mono fun e W' ⟨v, he, hp⟩ => ?_
  subst he
  exact ChangeSpec.post_blind hp
end
end Go.X
