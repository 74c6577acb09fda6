/- Automata in plain Lean: languages, numberings by a search, and that a reduced automaton with such a numbering is the only one with its language. -/
import Derived.Test.YtdlaobjbjmecnaaPure09b
namespace Go.Proofs.Ytdlaobjbjmecnaa
open Go.X

/-- As ValidP, with more states. -/
structure WF (d : DFA) : Prop where
  one : 1 ≤ d.Next.length
  most : d.Next.length ≤ 5000000
  acc : d.Accept.length = d.Next.length
  lo : 0 ≤ d.Start
  hi : d.Start < d.Next.length
  rows : ∀ i, i < d.Next.length → ∃ row, d.Next[i]? = some row ∧ OkRow d.Next.length row
theorem ValidP.wf {d : DFA} (v : ValidP d) : WF d := ⟨v.one, by have := v.most; omega, v.acc, v.lo, v.hi, v.rows⟩
theorem WF.valid {d : DFA} (v : WF d) (h : d.Next.length ≤ 2000) : ValidP d := ⟨v.one, h, v.acc, v.lo, v.hi, v.rows⟩

abbrev sz (d : DFA) : Nat := d.Next.length
abbrev st0 (d : DFA) : Nat := d.Start.toNat
def Acc (d : DFA) (s : Nat) : Bool := d.Accept[s]?.getD false
def runs (d : DFA) : Nat → List Nat → Nat
  | s, [] => s
  | s, c :: w => runs d (stp d s c) w
def lang (d : DFA) (s : Nat) (w : List Nat) : Bool := Acc d (runs d s w)
def Word (w : List Nat) : Prop := ∀ c ∈ w, c < 11
/-- State s of a and state t of b accept the same words. -/
def Sim (a : DFA) (s : Nat) (b : DFA) (t : Nat) : Prop := ∀ w, Word w → lang a s w = lang b t w

theorem Word.cons {c : Nat} {w : List Nat} (hc : c < 11) (h : Word w) : Word (c :: w) := fun x hx => by
  rcases List.mem_cons.1 hx with rfl | hx
  · exact hc
  · exact h x hx
theorem Word.tail {c : Nat} {w : List Nat} (h : Word (c :: w)) : c < 11 ∧ Word w := ⟨h c (List.mem_cons_self ..), fun x hx => h x (List.mem_cons_of_mem _ hx)⟩
theorem Word.nil : Word [] := fun _ h => by cases h
theorem Sim.refl (a : DFA) (s : Nat) : Sim a s a s := fun _ _ => rfl
theorem Sim.symm {a b : DFA} {s t : Nat} (h : Sim a s b t) : Sim b t a s := fun w hw => (h w hw).symm
theorem Sim.trans {a b c : DFA} {s t u : Nat} (h : Sim a s b t) (k : Sim b t c u) : Sim a s c u := fun w hw => (h w hw).trans (k w hw)
theorem Sim.step {a b : DFA} {s t : Nat} (h : Sim a s b t) {c : Nat} (hc : c < 11) : Sim a (stp a s c) b (stp b t c) := fun w hw => h (c :: w) (hw.cons hc)
theorem Sim.acc {a b : DFA} {s t : Nat} (h : Sim a s b t) : Acc a s = Acc b t := h [] Word.nil

theorem WF.step {d : DFA} (v : WF d) {s c : Nat} (hs : s < sz d) (hc : c < 11) :
    ∃ row, d.Next[s]? = some row ∧ row[c]? = some (stp d s c : Int) ∧ stp d s c < sz d := by
  obtain ⟨row, h1, h2, h3⟩ := v.rows s hs
  obtain ⟨x, h4, h5, h6⟩ := h3 c hc
  refine ⟨row, h1, ?_, ?_⟩ <;> simp only [stp, h1, h4, Option.getD_some]
  · rw [Int.toNat_of_nonneg h5]
  · unfold sz; omega
theorem WF.stp_lt {d : DFA} (v : WF d) {s c : Nat} (hs : s < sz d) (hc : c < 11) : stp d s c < sz d := by
  obtain ⟨_, _, _, h⟩ := v.step hs hc; exact h
theorem WF.st0_lt {d : DFA} (v : WF d) : st0 d < sz d := by have := v.hi; have := v.lo; unfold st0 sz; omega
theorem WF.st0_eq {d : DFA} (v : WF d) : d.Start = (st0 d : Int) := (Int.toNat_of_nonneg v.lo).symm
theorem WF.Acc_some {d : DFA} (v : WF d) {s : Nat} (hs : s < sz d) : d.Accept[s]? = some (Acc d s) := by
  unfold Acc
  rw [List.getElem?_eq_getElem (by rw [v.acc]; exact hs)]; rfl

/-- A relation that respects acceptance and steps: related states accept the same words. -/
theorem sim_of {a b : DFA} (R : Nat → Nat → Prop) (ha : ∀ s t, R s t → Acc a s = Acc b t) (hs : ∀ s t, R s t → ∀ c, c < 11 → R (stp a s c) (stp b t c)) {s t : Nat} (h : R s t) : Sim a s b t := by
  intro w
  induction w generalizing s t with
  | nil => intro _; exact ha s t h
  | cons c w ih =>
    intro hw
    obtain ⟨hc, hw⟩ := hw.tail
    exact ih (hs s t h c hc) hw

/-! ### numbered as a search finds the states -/
def pos (d : DFA) (p : Nat) : Nat := stp d (p / 11) (p % 11)
/-- Each state but the first is found at a place in front of its own row, and no place before leads to it or to a later one. -/
structure Numbered (d : DFA) : Prop where
  st : st0 d = 0
  fst : ∀ j, 0 < j → j < sz d → ∃ p, p < 11 * j ∧ pos d p = j ∧ ∀ q, q < p → pos d q < j
def Reduced (d : DFA) : Prop := ∀ s t, s < sz d → t < sz d → Sim d s d t → s = t
structure Canon (d : DFA) : Prop where
  wf : WF d
  num : Numbered d
  red : Reduced d

theorem pos_at (d : DFA) (i c : Nat) (hc : c < 11) : pos d (11 * i + c) = stp d i c := by
  unfold pos
  rw [show (11 * i + c) / 11 = i by omega, show (11 * i + c) % 11 = c by omega]

section
variable {A B : DFA}
/-- Where all places in front of row i agree, state i accepts the same words in both. -/
theorem sim_row (ca : Canon A) (h0 : Sim A 0 B 0) : ∀ i, i < sz A → (∀ q, q < 11 * i → pos A q = pos B q) → Sim A i B i := by
  intro i
  induction i using Nat.strongRecOn with
  | ind i ih =>
    intro hi hq
    by_cases hz : i = 0
    · subst hz; exact h0
    · obtain ⟨p, hp, he, _⟩ := ca.num.fst i (by omega) hi
      have hs := ih (p / 11) (by omega) (by omega) (fun q hq' => hq q (by omega))
      have := hs.step (c := p % 11) (by omega)
      have e2 := hq p hp
      rw [he] at e2
      unfold pos at he e2
      rw [he, ← e2] at this
      exact this

theorem pos_lt {A B : DFA} (ca : Canon A) (cb : Canon B) (h0 : Sim A 0 B 0) (p : Nat) (hpA : p < 11 * sz A) (hpB : p < 11 * sz B) (hag : ∀ q, q < p → pos A q = pos B q) : ¬ pos A p < pos B p := by
  intro hlt
  have hA : p / 11 < sz A := by omega
  have hB : p / 11 < sz B := by omega
  have hs : Sim A (pos A p) B (pos B p) := (sim_row ca h0 (p / 11) hA (fun q hq => hag q (by omega))).step (by omega)
  have xA : pos A p < sz A := ca.wf.stp_lt hA (by omega)
  have yB : pos B p < sz B := cb.wf.stp_lt hB (by omega)
  obtain ⟨g, hg1, hg2, hg3⟩ := cb.num.fst (pos B p) (by omega) yB
  have hgp : g ≤ p := by
    rcases Nat.lt_or_ge p g with h | h
    · have := hg3 p h; omega
    · exact h
  -- a state that both find at a place in front of p
  have known : ∀ q, q < p → Sim A (pos A q) B (pos B q) := fun q hq => (sim_row ca h0 (q / 11) (by omega) (fun r hr => hag r (by omega))).step (by omega)
  rcases Nat.lt_or_eq_of_le hgp with hgp | hgp
  · have k1 := known g hgp
    have k2 := hag g hgp
    rw [hg2] at k1 k2
    have hA' : pos A g < sz A := ca.wf.stp_lt (by omega) (by omega)
    have := ca.red (pos A p) (pos A g) xA hA' (hs.trans k1.symm)
    omega
  · subst hgp
    have hxB : Sim A (pos A g) B (pos A g) → False := fun h => by
      have := cb.red (pos A g) (pos B g) (by omega) yB (h.symm.trans hs)
      omega
    by_cases hx0 : pos A g = 0
    · rw [hx0] at hxB; exact hxB h0
    obtain ⟨f, hf1, hf2, hf3⟩ := ca.num.fst (pos A g) (by omega) xA
    have hfp : f ≤ g := by
      rcases Nat.lt_or_ge g f with h | h
      · have := hf3 g h; omega
      · exact h
    rcases Nat.lt_or_eq_of_le hfp with hfp | hfp
    · have k1 := known f hfp
      have k2 := hag f hfp
      rw [← k2, hf2] at k1
      exact hxB k1
    · obtain ⟨e, he1, he2, he3⟩ := cb.num.fst (pos A g) (by omega) (by omega)
      rcases Nat.lt_trichotomy e g with h | h | h
      · have := hag e h
        rw [he2] at this
        have := hf3 e (by omega)
        omega
      · subst h; omega
      · have := he3 g h; omega

theorem pos_eq (ca : Canon A) (cb : Canon B) (h0 : Sim A 0 B 0) : ∀ p, p < 11 * sz A → p < 11 * sz B → pos A p = pos B p := by
  intro p
  induction p using Nat.strongRecOn with
  | ind p ih =>
    intro hA hB
    have hag : ∀ q, q < p → pos A q = pos B q := fun q hq => ih q hq (by omega) (by omega)
    have h1 := pos_lt ca cb h0 p hA hB hag
    have h2 := pos_lt cb ca h0.symm p hB hA (fun q hq => (hag q hq).symm)
    omega

theorem size_le (ca : Canon A) (cb : Canon B) (h0 : Sim A 0 B 0) : sz B ≤ sz A := by
  rcases Nat.lt_or_ge (sz A) (sz B) with h | h
  · have h1 := ca.wf.one
    have h1 : 1 ≤ sz A := h1
    obtain ⟨f, hf1, hf2, _⟩ := cb.num.fst (sz A) (by omega) h
    have := pos_eq ca cb h0 f hf1 (by omega)
    have hl : pos A f < sz A := ca.wf.stp_lt (by omega) (by omega)
    omega
  · exact h

theorem WF.ext (va : WF A) (vb : WF B) (hs : st0 A = st0 B) (hk : sz A = sz B) (hn : ∀ i c, i < sz A → c < 11 → stp A i c = stp B i c) (hc : ∀ i, i < sz A → Acc A i = Acc B i) : A = B := by
  have e1 : A.Start = B.Start := by rw [va.st0_eq, vb.st0_eq, hs]
  have e2 : A.Next = B.Next := by
    apply List.ext_getElem? 
    intro i
    by_cases hi : i < sz A
    · obtain ⟨r, h1, h2, _⟩ := va.rows i hi
      obtain ⟨r', h1', h2', _⟩ := vb.rows i (by unfold sz at *; omega)
      rw [h1, h1']
      congr 1
      apply List.ext_getElem?
      intro c
      by_cases hcc : c < 11
      · obtain ⟨s, g1, g2, _⟩ := va.step hi hcc
        obtain ⟨s', g1', g2', _⟩ := vb.step (show i < sz B by omega) hcc
        rw [h1] at g1; cases g1
        rw [h1'] at g1'; cases g1'
        rw [g2, g2', hn i c hi hcc]
      · rw [List.getElem?_eq_none (by omega), List.getElem?_eq_none (by omega)]
    · rw [List.getElem?_eq_none (by simpa using hi), List.getElem?_eq_none (by unfold sz at *; omega)]
  have e3 : A.Accept = B.Accept := by
    apply List.ext_getElem? 
    intro i
    by_cases hi : i < sz A
    · rw [va.Acc_some hi, vb.Acc_some (by omega), hc i hi]
    · rw [List.getElem?_eq_none (by rw [va.acc]; simpa using hi), List.getElem?_eq_none (by rw [vb.acc]; unfold sz at *; omega)]
  cases A; cases B
  simp only at e1 e2 e3
  rw [e1, e2, e3]

/-- There is just one reduced and numbered automaton of a language. -/
theorem Canon.unique (ca : Canon A) (cb : Canon B) (h : Sim A (st0 A) B (st0 B)) : A = B := by
  have h0 : Sim A 0 B 0 := by rw [ca.num.st, cb.num.st] at h; exact h
  have hk : sz A = sz B := Nat.le_antisymm (size_le cb ca h0.symm) (size_le ca cb h0)
  have hp := pos_eq ca cb h0
  refine ca.wf.ext cb.wf (by rw [ca.num.st, cb.num.st]) hk (fun i c hi hc => ?_) (fun i hi => ?_)
  · have := hp (11 * i + c) (by omega) (by omega)
    rwa [pos_at A i c hc, pos_at B i c hc] at this
  · exact (sim_row ca h0 i hi (fun q hq => hp q (by omega) (by omega))).acc
end

/-! ### partitions -/
/-- i is the first with its label. -/
def isFst (f : Nat → Nat) (i : Nat) : Bool := (List.range i).all fun j => f j != f i
theorem isFst_iff {f : Nat → Nat} {i : Nat} : isFst f i = true ↔ ∀ j, j < i → f j ≠ f i := by
  unfold isFst; simp
def fsts (f : Nat → Nat) (k : Nat) : List Nat := (List.range k).filter (isFst f)
theorem fsts_succ (f : Nat → Nat) (k : Nat) : fsts f (k + 1) = fsts f k ++ (if isFst f k then [k] else []) := by
  unfold fsts
  rw [List.range_succ, List.filter_append]
  congr 1
  by_cases h : isFst f k = true
  · simp [h]
  · simp [h]
theorem fsts_len (f : Nat → Nat) (k : Nat) : (fsts f k).length ≤ k := by
  have := List.length_filter_le (isFst f) (List.range k)
  simpa [fsts] using this
theorem fsts_mem {f : Nat → Nat} {k i : Nat} : i ∈ fsts f k ↔ i < k ∧ ∀ j, j < i → f j ≠ f i := by
  unfold fsts; rw [List.mem_filter, List.mem_range, isFst_iff]
theorem fst_ex (f : Nat → Nat) (i : Nat) : ∃ j, j ≤ i ∧ f j = f i ∧ ∀ l, l < j → f l ≠ f j := by
  induction i using Nat.strongRecOn with
  | ind i ih =>
    by_cases h : ∀ l, l < i → f l ≠ f i
    · exact ⟨i, Nat.le_refl _, rfl, h⟩
    · obtain ⟨l, h1, h2, _⟩ := first_not h
      have h2 : f l = f i := by simpa using h2
      obtain ⟨j, h3, h4, h5⟩ := ih l h1
      exact ⟨j, by omega, h4.trans h2, h5⟩
/-- g is finer than f. -/
def Finer (k : Nat) (g f : Nat → Nat) : Prop := ∀ i j, i < k → j < k → g i = g j → f i = f j
theorem Finer.sub {k : Nat} {g f : Nat → Nat} (h : Finer k g f) : fsts f k = (fsts g k).filter (isFst f) := by
  unfold fsts
  rw [List.filter_filter]
  apply List.filter_congr
  intro i hi
  have hi := List.mem_range.1 hi
  by_cases hf : isFst f i = true
  · have : isFst g i = true := isFst_iff.2 fun j hj e => isFst_iff.1 hf j hj (h j i (by omega) hi e)
    rw [hf, this]; rfl
  · simp at hf; simp [hf]
theorem Finer.len {k : Nat} {g f : Nat → Nat} (h : Finer k g f) : (fsts f k).length ≤ (fsts g k).length := by
  rw [h.sub]; exact List.length_filter_le _ _
theorem Finer.same {k : Nat} {g f : Nat → Nat} (h : Finer k g f) (he : (fsts g k).length ≤ (fsts f k).length) : Finer k f g := by
  have hs : List.Sublist (fsts f k) (fsts g k) := by rw [h.sub]; exact List.filter_sublist
  have e := hs.eq_of_length_le he
  have first : ∀ i, i < k → ∀ a, a ≤ i → f a = f i → (∀ l, l < a → f l ≠ f a) → g i = g a := by
    intro i hi a ha hfa hla
    obtain ⟨b, hb1, hb2, hb3⟩ := fst_ex g i
    have hm : b ∈ fsts f k := by rw [e]; exact fsts_mem.2 ⟨by omega, hb3⟩
    obtain ⟨_, hb4⟩ := fsts_mem.1 hm
    have hfb : f b = f i := h b i (by omega) hi hb2
    have : a = b := by
      rcases Nat.lt_trichotomy a b with hlt | he | hlt
      · exact absurd (hfa.trans hfb.symm) (hb4 a hlt)
      · exact he
      · exact absurd (hfb.trans hfa.symm) (hla b hlt)
    rw [this, hb2]
  intro i j hi hj hij
  obtain ⟨a, ha1, ha2, ha3⟩ := fst_ex f i
  have h1 := first i hi a ha1 ha2 ha3
  rcases Nat.le_total a j with haj | haj
  · have h2 := first j hj a haj (ha2.trans hij) ha3
    rw [h1, h2]
  · by_cases haj' : a = j
    · subst haj'; exact h1
    · exact absurd (hij.symm.trans ha2.symm) (ha3 j (by omega))

/-- One step of refining. -/
def Refines (d : DFA) (g f : Nat → Nat) : Prop := ∀ i j, i < sz d → j < sz d → (g i = g j ↔ f i = f j ∧ ∀ c, c < 11 → f (stp d i c) = f (stp d j c))
theorem Refines.finer {d : DFA} {g f : Nat → Nat} (h : Refines d g f) : Finer (sz d) g f := fun i j hi hj e => ((h i j hi hj).1 e).1
/-- What labels are good for: equivalent states have the same, and states with the same label accept alike. -/
structure Good (d : DFA) (f : Nat → Nat) : Prop where
  acc : ∀ i j, i < sz d → j < sz d → f i = f j → Acc d i = Acc d j
  eqv : ∀ i j, i < sz d → j < sz d → Sim d i d j → f i = f j
theorem Good.step {d : DFA} (v : WF d) {g f : Nat → Nat} (h : Good d f) (r : Refines d g f) : Good d g :=
  ⟨fun i j hi hj e => h.acc i j hi hj (r.finer i j hi hj e), fun i j hi hj s => (r i j hi hj).2 ⟨h.eqv i j hi hj s, fun _ hc => h.eqv _ _ (v.stp_lt hi hc) (v.stp_lt hj hc) (s.step hc)⟩⟩
/-- Labels that are equal just for equivalent states. -/
def Classes (d : DFA) (f : Nat → Nat) : Prop := ∀ i j, i < sz d → j < sz d → (f i = f j ↔ Sim d i d j)
theorem Good.done {d : DFA} (v : WF d) {g f : Nat → Nat} (h : Good d f) (r : Refines d g f) (he : (fsts g (sz d)).length ≤ (fsts f (sz d)).length) : Classes d g := by
  have hs := r.finer.same he
  have hg := h.step v r
  intro i j hi hj
  refine ⟨fun e => ?_, hg.eqv i j hi hj⟩
  refine sim_of (fun s t => s < sz d ∧ t < sz d ∧ g s = g t) (fun s t h => hg.acc s t h.1 h.2.1 h.2.2) (fun s t h c hc => ?_) ⟨hi, hj, e⟩
  exact ⟨v.stp_lt h.1 hc, v.stp_lt h.2.1 hc, hs _ _ (v.stp_lt h.1 hc) (v.stp_lt h.2.1 hc) (((r s t h.1 h.2.1).1 h.2.2).2 c hc)⟩
theorem Good.of_acc (d : DFA) {f : Nat → Nat} (hf : ∀ i j, i < sz d → j < sz d → (f i = f j ↔ Acc d i = Acc d j)) : Good d f :=
  ⟨fun i j hi hj e => (hf i j hi hj).1 e, fun i j hi hj s => (hf i j hi hj).2 s.acc⟩
end Go.Proofs.Ytdlaobjbjmecnaa
