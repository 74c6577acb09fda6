/- The pure laws of AutomatonWords and AutomatonMorgan. -/
import Derived.Test.YtdlaobjbjmecnaaMinG
import Derived.Test.YtdlaobjbjmecnaaPure09c
set_option linter.unusedVariables false
namespace Go.Proofs.Ytdlaobjbjmecnaa
open Go.X

theorem syms_some : ∀ (w : List UInt8), (∀ c ∈ w, (sym c).isSome = true) → ∃ l, symsOf w = some l
  | [], _ => ⟨[], rfl⟩
  | c :: w, h => by
    obtain ⟨l, hl⟩ := syms_some w fun x hx => h x (List.mem_cons_of_mem _ hx)
    have hc := h c (List.mem_cons_self ..)
    cases hs : sym c with
    | none => rw [hs] at hc; cases hc
    | some k => exact ⟨k :: l, by simp only [symsOf, hs, hl]⟩

open Classical in
theorem words_loop (M : Nat) (w : List UInt8) (N : Nat) (hN : w.length < N) : iter (fun s => calquelaw09_AutomatonWords_b1 M w s) N 0 = some (if ∀ i, i < w.length → (w[i]?.bind sym).isSome = true then .inl () else .inr true) := by
  have hst : ∀ i : Nat, (hi : i < w.length) → calquelaw09_AutomatonWords_b1 M w (i : Int) = some (if (w[i]?.bind sym).isSome = true then .inl ((i : Int) + 1) else .inr (.inr true)) := by
    intro i hi
    simp only [calquelaw09_AutomatonWords_b1]
    rw [cond_pos (by omega), idx_lt w hi]
    simp only [Option.bind_some]
    rw [rSym]
    simp only [Option.bind_some, List.getElem?_eq_getElem hi]
    cases sym w[i] with
    | none => rfl
    | some k =>
      simp only []
      rw [cond_neg (by omega)]
      rfl
  have hend : calquelaw09_AutomatonWords_b1 M w ((w.length : Nat) : Int) = some (.inr (.inl ())) := by
    simp only [calquelaw09_AutomatonWords_b1]
    rw [cond_neg (by omega)]
  exact iter_all w.length (fun i => (w[i]?.bind sym).isSome = true) (fun s => calquelaw09_AutomatonWords_b1 M w s) true (fun i hi e => by rw [hst i hi, if_pos e]) (fun i hi e => by rw [hst i hi, if_neg e]) hend N hN

theorem acc_prod {f : Bool → Bool → Bool} {a b D R : DFA} (h : ProdOk f a b D) (r : MinOk D R) {w : List UInt8} {l : List Nat} (hw : symsOf w = some l) : acc R w = f (acc a w) (acc b w) := by
  have := h.lang l (symsOf_word hw)
  have e := acc_sim r.sim w
  rw [e, acc_eq, acc_eq, acc_eq, hw]
  exact this
theorem acc_cmp {d R : DFA} (v : WF d) (r : MinOk (cmp d) R) {w : List UInt8} {l : List Nat} (hw : symsOf w = some l) : acc R w = !acc d w := by
  have e := acc_sim r.sim w
  rw [e, acc_eq, acc_eq, hw]
  exact lang_cmp v (symsOf_word hw) v.st0_lt

theorem mul_le {m n : Nat} (h1 : m ≤ 12) (h2 : n ≤ 12) : m * n ≤ 144 := by
  have := Nat.mul_le_mul h1 h2
  omega

theorem automatonWords_pure (a b : DFA) (w : List UInt8) : ∃ N, calquelaw09_AutomatonWords N a b w = some true := by
  refine ⟨(sz a + sz b + w.length + 200) + 100, ?_⟩
  unfold calquelaw09_AutomatonWords
  rw [awake_true]
  obtain ⟨fa, hfa⟩ := few_some (sz a + sz b + w.length + 200 + 100) a 12 (by unfold sz; omega)
  obtain ⟨fb, hfb⟩ := few_some (sz a + sz b + w.length + 200 + 100) b 12 (by unfold sz; omega)
  rw [hfa, hfb]
  simp only [Option.bind_some, Bool.not_true, cond_false]
  cases fa
  · rfl
  cases fb
  · rfl
  have la := few_le _ a 12 (by unfold sz; omega) hfa
  have lb := few_le _ b 12 (by unfold sz; omega) hfb
  have lab := mul_le la lb
  simp only [Bool.not_true, cond_false, calquelaw09_to, Option.bind_some]
  rw [cond_dec]
  split
  · rfl
  open Classical in
  rw [rValid _ a (by omega) (by unfold sz at *; omega), rValid _ b (by omega) (by unfold sz at *; omega)]
  by_cases va : ValidP a
  case neg => rw [decide_eq_false va]; rfl
  by_cases vb : ValidP b
  case neg => rw [decide_eq_true va, decide_eq_false vb]; rfl
  rw [decide_eq_true va, decide_eq_true vb]
  simp only [Option.bind_some, Bool.not_true, cond_false]
  rw [words_loop _ w _ (by omega)]
  by_cases hw : ∀ i, i < w.length → (w[i]?.bind sym).isSome = true
  case neg => rw [if_neg hw]; rfl
  rw [if_pos hw]
  obtain ⟨l, hl⟩ := syms_some w fun c hc => by
    obtain ⟨i, hi⟩ := List.getElem?_of_mem hc
    have := hw i (get_lt hi)
    rw [hi] at this
    exact this
  simp only [Option.bind_some, Sum.elim_inl]
  obtain ⟨C, c1, c2⟩ := aCompl a va _ (show sz a + 12 < sz a + sz b + w.length + 200 + 100 by omega)
  obtain ⟨D, R, d1, d2, d3⟩ := aAnd va vb (by omega) _ (show sz a + sz b + sz a * sz b + 20 < sz a + sz b + w.length + 200 + 100 by omega)
  obtain ⟨D', R', e1, e2, e3⟩ := aOr va vb (by omega) _ (show sz a + sz b + sz a * sz b + 20 < sz a + sz b + w.length + 200 + 100 by omega)
  have lC : sz C ≤ sz a := c2.le
  have lR := Nat.le_trans d3.le d2.le
  have lR' := Nat.le_trans e3.le e2.le
  have vC : ValidP C := c2.can.wf.valid (by unfold sz at *; omega)
  have vR : ValidP R := d3.can.wf.valid (by unfold sz at *; omega)
  have vR' : ValidP R' := e3.can.wf.valid (by unfold sz at *; omega)
  rw [c1, d1, e1]
  open Classical in
  rw [aRun _ a w (by omega) (by unfold sz at *; omega) (by omega), aRun _ b w (by omega) (by unfold sz at *; omega) (by omega), decide_eq_true va, decide_eq_true vb]
  simp only [Option.bind_some, beq_self_eq_true, cond_true, Bool.true_and]
  open Classical in
  rw [aRun _ C w (by omega) (by unfold sz at *; omega) (by omega), aRun _ R w (by omega) (by unfold sz at *; omega) (by omega), aRun _ R' w (by omega) (by unfold sz at *; omega) (by omega), decide_eq_true vC, decide_eq_true vR, decide_eq_true vR']
  rw [acc_cmp va.wf c2 hl, acc_prod d2 d3 hl, acc_prod e2 e3 hl]
  cases acc a w <;> cases acc b w <;> rfl

theorem shortest_err (d : DFA) (v : ValidP d) (N : Nat) (hN : d.Next.length + 12 < N) : ∃ w s, automaton_Shortest N d = some (w, s, 0) ∧ (s = true → ∃ w', acc d w' = true) := by
  obtain ⟨k, h0, h1, h2, hI⟩ := stops v
  have h3 : ∀ i, i ≤ k → Inv d i (G d i) := by
    intro i hi
    refine inv_G v i ?_
    rcases Nat.lt_or_eq_of_le hi with h | rfl
    · obtain ⟨x, hx, _⟩ := h2 i h
      exact Nat.le_of_lt (List.getElem?_eq_some_iff.1 hx).1
    · cases i with
      | zero => exact Nat.zero_le _
      | succ i =>
        obtain ⟨x, hx, _⟩ := h2 i (Nat.lt_succ_self i)
        have hi' : Inv d i (G d i) := inv_G v i (Nat.le_of_lt (List.getElem?_eq_some_iff.1 hx).1)
        have hm := Mid.all v (hi'.mid hx) 11 (Nat.le_refl _)
        simp only [G, hx]
        exact (List.getElem?_eq_some_iff.1 hm.yi).1
  rw [aShort v N k (by omega) (by omega) h0 h1 h2 h3]
  cases hx : (G d k)[k]? with
  | none => exact ⟨[], false, by simp [shortest, hx], fun h => by cases h⟩
  | some x =>
    have hxm := List.mem_of_getElem? hx
    have hlt := hI.lt x hxm
    have hrun := hI.run x hxm
    have hacc : d.Accept[x.1]? = some true := by
      rw [List.getElem?_eq_getElem (by rw [v.acc]; exact hlt)]
      cases e : d.Accept[x.1]'(by rw [v.acc]; exact hlt) with
      | true => rfl
      | false => exact absurd ⟨x, hx, by rw [List.getElem?_eq_getElem (by rw [v.acc]; exact hlt), e]⟩ h1
    have hax : acc d x.2 = true := by unfold acc; rw [hrun]; simp [hacc]
    exact ⟨x.2, true, by simp [shortest, hx], fun _ => ⟨x.2, hax⟩⟩

theorem automatonMorgan_pure (a b : DFA) : ∃ N, calquelaw09_AutomatonMorgan N a b = some true := by
  refine ⟨(sz a + sz b + 400) + 100, ?_⟩
  unfold calquelaw09_AutomatonMorgan
  rw [awake_true]
  obtain ⟨fa, hfa⟩ := few_some (sz a + sz b + 400 + 100) a 12 (by unfold sz; omega)
  obtain ⟨fb, hfb⟩ := few_some (sz a + sz b + 400 + 100) b 12 (by unfold sz; omega)
  rw [hfa, hfb]
  simp only [Option.bind_some, Bool.not_true, cond_false]
  cases fa
  · rfl
  cases fb
  · rfl
  have la := few_le _ a 12 (by unfold sz; omega) hfa
  have lb := few_le _ b 12 (by unfold sz; omega) hfb
  have lab := mul_le la lb
  simp only [Bool.not_true, cond_false, calquelaw09_to, calquelaw09_from, Option.bind_some]
  open Classical in
  rw [rValid _ a (by omega) (by unfold sz at *; omega), rValid _ b (by omega) (by unfold sz at *; omega)]
  by_cases va : ValidP a
  case neg => rw [decide_eq_false va]; rfl
  by_cases vb : ValidP b
  case neg => rw [decide_eq_true va, decide_eq_false vb]; rfl
  rw [decide_eq_true va, decide_eq_true vb]
  simp only [Option.bind_some, Bool.not_true, cond_false]
  obtain ⟨X, x1, x2⟩ := aCompl a va _ (show sz a + 12 < sz a + sz b + 400 + 100 by omega)
  obtain ⟨Y, y1, y2⟩ := aCompl b vb _ (show sz b + 12 < sz a + sz b + 400 + 100 by omega)
  have lX : sz X ≤ sz a := x2.le
  have lY : sz Y ≤ sz b := y2.le
  have vX := x2.valid (by unfold sz at *; unfold cmp; simp; omega)
  have vY := y2.valid (by unfold sz at *; unfold cmp; simp; omega)
  have lxy := mul_le (Nat.le_trans lX la) (Nat.le_trans lY lb)
  have lax := mul_le la (Nat.le_trans lX la)
  obtain ⟨D, R, d1, d2, d3⟩ := aOr va vb (by omega) _ (show sz a + sz b + sz a * sz b + 20 < sz a + sz b + 400 + 100 by omega)
  have lR := Nat.le_trans d3.le d2.le
  have vR : ValidP R := d3.can.wf.valid (show sz R ≤ 2000 by omega)
  obtain ⟨P, p1, p2⟩ := aCompl R vR (sz a + sz b + 400 + 100) (by omega)
  obtain ⟨E, Q, q1, q2, q3⟩ := aAnd vX vY (by omega) (sz a + sz b + 400 + 100) (by omega)
  obtain ⟨G, O, o1, o2, o3⟩ := aAnd va vX (by omega) (sz a + sz b + 400 + 100) (by omega)
  have lO := Nat.le_trans o3.le o2.le
  have vO : ValidP O := o3.can.wf.valid (show sz O ≤ 2000 by omega)
  obtain ⟨w, s, s1, s2⟩ := shortest_err O vO (sz a + sz b + 400 + 100) (by unfold sz at *; omega)
  have hs : s = false := by
    cases hs : s with
    | false => rfl
    | true =>
      obtain ⟨w', hw'⟩ := s2 hs
      have e := acc_sim o3.sim w'
      rw [e, acc_eq] at hw'
      cases hl : symsOf w' with
      | none => rw [hl] at hw'; cases hw'
      | some l =>
        rw [hl] at hw'
        have h1 := o2.lang l (symsOf_word hl)
        have h2 := x2.sim l (symsOf_word hl)
        have h3 := lang_cmp va.wf (symsOf_word hl) va.wf.st0_lt
        have e0 : st0 (cmp a) = st0 a := rfl
        rw [e0] at h2
        simp only [] at hw'
        rw [h1, h2, h3] at hw'
        cases lang a (st0 a) l <;> simp at hw'
  have hPQ : P = Q := by
    refine p2.unique q3 fun l hl => ?_
    have e0 : st0 (cmp R) = st0 R := rfl
    have ea : st0 (cmp a) = st0 a := rfl
    have eb : st0 (cmp b) = st0 b := rfl
    rw [e0, lang_cmp vR.wf hl vR.wf.st0_lt, d3.sim l hl, d2.lang l hl, q2.lang l hl, x2.sim l hl, y2.sim l hl, ea, eb, lang_cmp va.wf hl va.wf.st0_lt, lang_cmp vb.wf hl vb.wf.st0_lt]
    cases lang a (st0 a) l <;> cases lang b (st0 b) l <;> rfl
  subst hPQ
  subst hs
  have lP : sz P ≤ sz R := p2.le
  rw [x1, y1, d1]
  simp only [Option.bind_some]
  rw [p1, q1]
  simp only [Option.bind_some]
  rw [o1]
  simp only [Option.bind_some]
  rw [s1]
  simp only [Option.bind_some, beq_self_eq_true, cond_true]
  open Classical in
  rw [rEqual p2.can.wf p2.can.wf _ (by omega), decide_eq_true rfl]
  rfl
end Go.Proofs.Ytdlaobjbjmecnaa
