/- Equality of automata, words; the pure laws of AutomatonMinimal and AutomatonSame. -/
import Derived.Test.YtdlaobjbjmecnaaMinD
set_option linter.unusedVariables false
namespace Go.Proofs.Ytdlaobjbjmecnaa
open Go.X

section
variable {A B : DFA}
open Classical in
theorem rEq_in (va : WF A) (vb : WF B) (M : Nat) {i : Nat} (hi : i < sz A) (hi' : i < sz B) (N : Nat) (hN : 12 ≤ N) :
    iter (fun s => calqueref09_Equal_b2 M A B (i : Int) s) N 0 = some (if ∀ c, c < 11 → stp A i c = stp B i c then .inl () else .inr false) := by
  obtain ⟨ra, a1, a2, _⟩ := va.rows i hi
  obtain ⟨rb, b1, b2, _⟩ := vb.rows i hi'
  have hst : ∀ c : Nat, c < 11 → calqueref09_Equal_b2 M A B (i : Int) (c : Int) = some (if stp A i c = stp B i c then .inl ((c : Int) + 1) else .inr (.inr false)) := by
    intro c hc
    obtain ⟨_, c1, c2, c3⟩ := va.step hi hc
    rw [a1] at c1; cases c1
    obtain ⟨_, d1, d2, d3⟩ := vb.step hi' hc
    rw [b1] at d1; cases d1
    simp only [calqueref09_Equal_b2]
    rw [idx_some a1]
    simp only [Option.bind_some]
    rw [cond_pos (by omega), idx_some c2]
    simp only [Option.bind_some]
    rw [idx_some b1]
    simp only [Option.bind_some]
    rw [idx_some d2]
    simp only [Option.bind_some]
    rw [cond_bne]
    by_cases e : stp A i c = stp B i c
    · rw [if_pos (by omega), if_pos e]
    · rw [if_neg (by omega), if_neg e]
  have hend : calqueref09_Equal_b2 M A B (i : Int) ((11 : Nat) : Int) = some (.inr (.inl ())) := by
    simp only [calqueref09_Equal_b2]
    rw [idx_some a1]
    simp only [Option.bind_some]
    rw [cond_neg (by omega)]
  rw [iter_all 11 (fun c => stp A i c = stp B i c) (fun s => calqueref09_Equal_b2 M A B (i : Int) s) false (fun c hc e => by rw [hst c hc, if_pos e]) (fun c hc e => by rw [hst c hc, if_neg e]) hend N (by omega)]
  by_cases hh : ∀ c, c < 11 → stp A i c = stp B i c
  · rw [if_pos hh, if_pos hh]
  · rw [if_neg hh, if_neg hh]

open Classical in
theorem aEq_in (va : WF A) (vb : WF B) (M : Nat) {i : Nat} (hi : i < sz A) (hi' : i < sz B) {ra : List Int} (a1 : A.Next[i]? = some ra) (N : Nat) (hN : 12 ≤ N) :
    iter (fun s => automaton_equal_b2 M B (i : Int) ra s) N 0 = some (if ∀ c, c < 11 → stp A i c = stp B i c then .inl () else .inr false) := by
  have a2 : ra.length = 11 := by obtain ⟨r, g1, g2, _⟩ := va.rows i hi; rw [a1] at g1; cases g1; exact g2
  obtain ⟨rb, b1, b2, _⟩ := vb.rows i hi'
  have hst : ∀ c : Nat, c < 11 → automaton_equal_b2 M B (i : Int) ra (c : Int) = some (if stp A i c = stp B i c then .inl ((c : Int) + 1) else .inr (.inr false)) := by
    intro c hc
    obtain ⟨_, c1, c2, c3⟩ := va.step hi hc
    rw [a1] at c1; cases c1
    obtain ⟨_, d1, d2, d3⟩ := vb.step hi' hc
    rw [b1] at d1; cases d1
    simp only [automaton_equal_b2]
    rw [cond_pos (by omega), idx_some c2]
    simp only [Option.bind_some]
    rw [idx_some b1]
    simp only [Option.bind_some]
    rw [idx_some d2]
    simp only [Option.bind_some]
    rw [cond_bne]
    by_cases e : stp A i c = stp B i c
    · rw [if_pos (by omega), if_pos e]
    · rw [if_neg (by omega), if_neg e]
  have hend : automaton_equal_b2 M B (i : Int) ra ((11 : Nat) : Int) = some (.inr (.inl ())) := by
    simp only [automaton_equal_b2]
    rw [cond_neg (by omega)]
  rw [iter_all 11 (fun c => stp A i c = stp B i c) (fun s => automaton_equal_b2 M B (i : Int) ra s) false (fun c hc e => by rw [hst c hc, if_pos e]) (fun c hc e => by rw [hst c hc, if_neg e]) hend N (by omega)]
  by_cases hh : ∀ c, c < 11 → stp A i c = stp B i c
  · rw [if_pos hh, if_pos hh]
  · rw [if_neg hh, if_neg hh]

open Classical in
theorem rEqual (va : WF A) (vb : WF B) (N : Nat) (hN : sz A + 12 < N) : calqueref09_Equal N A B = some (decide (A = B)) := by
  have accA := va.acc
  have accB := vb.acc
  unfold calqueref09_Equal
  rw [cond_bne]
  by_cases h1 : A.Start = B.Start
  case neg => rw [if_neg h1, decide_eq_false (fun e => h1 (by rw [e]))]
  rw [if_pos h1, cond_bne]
  by_cases h2 : sz A = sz B
  case neg => rw [if_neg (by unfold sz at h2; omega), decide_eq_false (fun e => h2 (by rw [e]))]
  rw [if_pos (by unfold sz at h2; omega), cond_bne, if_pos (by unfold sz at h2; omega)]
  rw [iter_all (sz A) (fun i => ∀ c, c < 11 → stp A i c = stp B i c) (fun s => calqueref09_Equal_b1 N A B s) false ?_ ?_ ?_ N (by omega)]
  · by_cases h3 : ∀ i, i < sz A → ∀ c, c < 11 → stp A i c = stp B i c
    case neg =>
      rw [if_neg h3]
      simp only [Option.bind_some, Sum.elim_inr]
      rw [decide_eq_false (fun e => h3 fun i _ c _ => by rw [e])]
    rw [if_pos h3]
    simp only [Option.bind_some, Sum.elim_inl]
    rw [iter_all (sz A) (fun i => Acc A i = Acc B i) (fun s => calqueref09_Equal_b3 N A B s) false ?_ ?_ ?_ N (by omega)]
    · by_cases h4 : ∀ i, i < sz A → Acc A i = Acc B i
      · rw [if_pos h4]
        simp only [Option.bind_some, Sum.elim_inl]
        rw [decide_eq_true (va.ext vb (by unfold st0; rw [h1]) h2 (fun i c hi hc => h3 i hi c hc) h4)]
      · rw [if_neg h4]
        simp only [Option.bind_some, Sum.elim_inr]
        rw [decide_eq_false (fun e => h4 fun i _ => by rw [e])]
    · intro i hi h
      simp only [calqueref09_Equal_b3]
      rw [cond_pos (by unfold sz at hi; omega), idx_some (va.Acc_some hi)]
      simp only [Option.bind_some]
      rw [idx_some (vb.Acc_some (by omega))]
      simp only [Option.bind_some]
      rw [cond_bne, if_pos h]
    · intro i hi h
      simp only [calqueref09_Equal_b3]
      rw [cond_pos (by unfold sz at hi; omega), idx_some (va.Acc_some hi)]
      simp only [Option.bind_some]
      rw [idx_some (vb.Acc_some (by omega))]
      simp only [Option.bind_some]
      rw [cond_bne, if_neg h]
    · simp only [calqueref09_Equal_b3]
      rw [cond_neg (by unfold sz; omega)]
  · intro i hi h
    obtain ⟨ra, a1, a2, _⟩ := va.rows i hi
    obtain ⟨rb, b1, b2, _⟩ := vb.rows i (by unfold sz at *; omega)
    simp only [calqueref09_Equal_b1]
    rw [cond_pos (by unfold sz at hi; omega), idx_some a1]
    simp only [Option.bind_some]
    rw [idx_some b1]
    simp only [Option.bind_some]
    rw [cond_bne, if_pos (by omega), rEq_in va vb N hi (by omega) N (by omega), if_pos h]
    rfl
  · intro i hi h
    obtain ⟨ra, a1, a2, _⟩ := va.rows i hi
    obtain ⟨rb, b1, b2, _⟩ := vb.rows i (by unfold sz at *; omega)
    simp only [calqueref09_Equal_b1]
    rw [cond_pos (by unfold sz at hi; omega), idx_some a1]
    simp only [Option.bind_some]
    rw [idx_some b1]
    simp only [Option.bind_some]
    rw [cond_bne, if_pos (by omega), rEq_in va vb N hi (by omega) N (by omega), if_neg h]
    rfl
  · simp only [calqueref09_Equal_b1]
    rw [cond_neg (by unfold sz; omega)]

open Classical in
theorem aEqual (va : WF A) (vb : WF B) (N : Nat) (hN : sz A + 12 < N) : automaton_equal N A B = some (decide (A = B)) := by
  have accA := va.acc
  have accB := vb.acc
  unfold automaton_equal
  rw [cond_bne]
  by_cases h1 : A.Start = B.Start
  case neg => rw [if_neg h1, decide_eq_false (fun e => h1 (by rw [e]))]
  rw [if_pos h1, cond_bne]
  by_cases h2 : sz A = sz B
  case neg => rw [if_neg (by unfold sz at h2; omega), decide_eq_false (fun e => h2 (by rw [e]))]
  rw [if_pos (by unfold sz at h2; omega)]
  rw [iter_all (sz A) (fun i => Acc A i = Acc B i ∧ ∀ c, c < 11 → stp A i c = stp B i c) (fun s => automaton_equal_b1 N A B s) false ?_ ?_ ?_ N (by omega)]
  · by_cases h3 : ∀ i, i < sz A → Acc A i = Acc B i ∧ ∀ c, c < 11 → stp A i c = stp B i c
    · rw [if_pos h3]
      simp only [Option.bind_some, Sum.elim_inl]
      rw [decide_eq_true (va.ext vb (by unfold st0; rw [h1]) h2 (fun i c hi hc => (h3 i hi).2 c hc) (fun i hi => (h3 i hi).1))]
    · rw [if_neg h3]
      simp only [Option.bind_some, Sum.elim_inr]
      rw [decide_eq_false (fun e => h3 fun i _ => by rw [e]; exact ⟨rfl, fun _ _ => rfl⟩)]
  · rintro i hi ⟨h, h'⟩
    obtain ⟨ra, a1, a2, _⟩ := va.rows i hi
    simp only [automaton_equal_b1]
    rw [cond_pos (by unfold sz at hi; omega), idx_some a1]
    simp only [Option.bind_some]
    rw [idx_some (va.Acc_some hi)]
    simp only [Option.bind_some]
    rw [idx_some (vb.Acc_some (by omega))]
    simp only [Option.bind_some]
    rw [cond_bne, if_pos h, aEq_in va vb N hi (by omega) a1 N (by omega), if_pos h']
    rfl
  · intro i hi h
    obtain ⟨ra, a1, a2, _⟩ := va.rows i hi
    simp only [automaton_equal_b1]
    rw [cond_pos (by unfold sz at hi; omega), idx_some a1]
    simp only [Option.bind_some]
    rw [idx_some (va.Acc_some hi)]
    simp only [Option.bind_some]
    rw [idx_some (vb.Acc_some (by omega))]
    simp only [Option.bind_some]
    rw [cond_bne]
    by_cases ha : Acc A i = Acc B i
    · rw [if_pos ha, aEq_in va vb N hi (by omega) a1 N (by omega), if_neg (fun h' => h ⟨ha, h'⟩)]
      rfl
    · rw [if_neg ha]
  · simp only [automaton_equal_b1]
    rw [cond_neg (by unfold sz; omega)]
end

/-! ### words -/
def symsOf : List UInt8 → Option (List Nat)
  | [] => some []
  | c :: w => match sym c, symsOf w with
    | some k, some l => some (k :: l)
    | _, _ => none
theorem symsOf_word : ∀ {w : List UInt8} {l : List Nat}, symsOf w = some l → Word l
  | [], l, h => by cases h; exact Word.nil
  | c :: w, l, h => by
    simp only [symsOf] at h
    cases hc : sym c with
    | none => rw [hc] at h; cases h
    | some k =>
      cases hw : symsOf w with
      | none => rw [hc, hw] at h; cases h
      | some l' =>
        rw [hc, hw] at h
        cases h
        exact (symsOf_word hw).cons (sym_lt hc)
theorem go_runs (d : DFA) : ∀ (w : List UInt8) (s : Nat), go d s w = (symsOf w).map (runs d s)
  | [], s => rfl
  | c :: w, s => by
    simp only [go, symsOf]
    cases sym c with
    | none => rfl
    | some k =>
      simp only []
      rw [go_runs d w]
      cases symsOf w <;> rfl
theorem acc_eq (d : DFA) (w : List UInt8) : acc d w = match symsOf w with | none => false | some l => lang d (st0 d) l := by
  unfold acc
  rw [go_runs]
  cases symsOf w <;> rfl
theorem acc_sim {a b : DFA} (h : Sim a (st0 a) b (st0 b)) (w : List UInt8) : acc a w = acc b w := by
  rw [acc_eq, acc_eq]
  cases hw : symsOf w with
  | none => rfl
  | some l => exact h l (symsOf_word hw)

theorem MinOk.valid {d R : DFA} (h : MinOk d R) (hd : sz d ≤ 2000) : ValidP R := h.can.wf.valid (Nat.le_trans h.le hd)
theorem MinOk.self {d R : DFA} (h : MinOk d R) : MinOk R R := ⟨h.can, Sim.refl _ _, Nat.le_refl _⟩

theorem equal_nil (n : Nat) : calqueref09_Equal (n + 100) ⟨0, [], []⟩ ⟨0, [], []⟩ = some true := by kernel_rfl

open Classical in
theorem aMin_all (d : DFA) (N : Nat) (hN : sz d + 12 < N) : (¬ ValidP d ∧ automaton_Minimal N d = some (⟨0, [], []⟩, 1)) ∨ ∃ R, ValidP d ∧ automaton_Minimal N d = some (R, 0) ∧ MinOk d R := by
  unfold automaton_Minimal
  rw [aValid N d (by omega) (by unfold sz at hN; omega)]
  by_cases v : ValidP d
  · right
    obtain ⟨R, h1, h2⟩ := aMinimal d v.wf N hN
    rw [decide_eq_true v]
    simp only [Option.bind_some, Bool.not_true, cond_false]
    rw [h1]
    exact ⟨R, v, rfl, h2⟩
  · left
    rw [decide_eq_false v]
    exact ⟨v, rfl⟩
open Classical in
theorem rMin_all (d : DFA) (N : Nat) (hN : sz d + 12 < N) : (¬ ValidP d ∧ calqueref09_Minimal N d = some (⟨0, [], []⟩, 1)) ∨ ∃ R, ValidP d ∧ calqueref09_Minimal N d = some (R, 0) ∧ MinOk d R := by
  unfold calqueref09_Minimal
  rw [rValid N d (by omega) (by unfold sz at hN; omega)]
  by_cases v : ValidP d
  · right
    obtain ⟨R, h1, h2⟩ := rMinimal d v.wf N hN
    rw [decide_eq_true v]
    simp only [Option.bind_some, Bool.not_true, cond_false]
    rw [h1]
    exact ⟨R, v, rfl, h2⟩
  · left
    rw [decide_eq_false v]
    exact ⟨v, rfl⟩

theorem automatonMinimal_pure (d : DFA) (w : List UInt8) : ∃ N, calquelaw09_AutomatonMinimal N d w = some true := by
  refine ⟨(sz d + w.length + 1) + 100, ?_⟩
  have hN : sz d + 12 < sz d + w.length + 1 + 100 := by omega
  unfold calquelaw09_AutomatonMinimal
  rw [awake_true]
  obtain ⟨b, hb⟩ := few_some (sz d + w.length + 1 + 100) d 40 (by unfold sz; omega)
  rw [hb]
  simp only [Option.bind_some, Bool.not_true, cond_false]
  cases b
  · rfl
  simp only [Bool.not_true, cond_false, calquelaw09_to, Option.bind_some, calquelaw09_from]
  rw [cond_dec]
  split
  · rfl
  rcases aMin_all d _ hN with ⟨v, h1⟩ | ⟨R, v, h1, h2⟩
  · rcases rMin_all d _ hN with ⟨v', g1⟩ | ⟨R', v', g1, g2⟩
    · rw [h1, g1]
      simp only [Option.bind_some]
      rw [equal_nil]
      rfl
    · exact absurd v' v
  · rcases rMin_all d _ hN with ⟨v', g1⟩ | ⟨R', v', g1, g2⟩
    · exact absurd v v'
    have e := h2.unique g2 (Sim.refl _ _)
    subst e
    have hle := h2.le
    rw [h1, g1]
    simp only [Option.bind_some, bne_self_eq_false, cond_false]
    open Classical in
    rw [rEqual h2.can.wf h2.can.wf _ (by omega), decide_eq_true rfl]
    simp only [Option.bind_some, Bool.not_true, cond_false]
    have vR := h2.valid v.most
    rcases aMin_all R (sz d + w.length + 1 + 100) (by omega) with ⟨v3, _⟩ | ⟨R3, _, f1, f2⟩
    · exact absurd vR v3
    have e3 := f2.unique h2.self (Sim.refl _ _)
    subst e3
    rw [f1]
    simp only [Option.bind_some, beq_self_eq_true, cond_true]
    open Classical in
    rw [rEqual f2.can.wf f2.can.wf _ (by omega), decide_eq_true rfl]
    simp only [Option.bind_some, cond_true]
    open Classical in
    rw [aRun _ R3 w (by omega) (by unfold sz at *; omega) (by omega), aRun _ d w (by omega) (by unfold sz; omega) (by omega), decide_eq_true v, decide_eq_true vR, acc_sim h2.sim w]
    simp only [Option.bind_some, beq_self_eq_true, cond_true]
    rw [decide_eq_true (by unfold sz at hle; omega)]

theorem automatonSame_pure (a b : DFA) (w : List UInt8) : ∃ N, calquelaw09_AutomatonSame N a b w = some true := by
  refine ⟨(sz a + sz b + w.length + 1) + 100, ?_⟩
  have hNa : sz a + 12 < sz a + sz b + w.length + 1 + 100 := by omega
  have hNb : sz b + 12 < sz a + sz b + w.length + 1 + 100 := by omega
  unfold calquelaw09_AutomatonSame
  rw [awake_true]
  obtain ⟨fa, hfa⟩ := few_some (sz a + sz b + w.length + 1 + 100) a 30 (by unfold sz; omega)
  obtain ⟨fb, hfb⟩ := few_some (sz a + sz b + w.length + 1 + 100) b 30 (by unfold sz; omega)
  rw [hfa, hfb]
  simp only [Option.bind_some, Bool.not_true, cond_false]
  cases fa
  · rfl
  cases fb
  · rfl
  simp only [Bool.not_true, cond_false, calquelaw09_to, Option.bind_some, calquelaw09_from]
  rw [cond_dec]
  split
  · rfl
  unfold automaton_Same calqueref09_Same
  open Classical in
  rw [aValid _ a (by omega) (by unfold sz at *; omega), aValid _ b (by omega) (by unfold sz at *; omega), rValid _ a (by omega) (by unfold sz at *; omega), rValid _ b (by omega) (by unfold sz at *; omega)]
  by_cases va : ValidP a
  case neg => rw [decide_eq_false va]; rfl
  by_cases vb : ValidP b
  case neg => rw [decide_eq_true va, decide_eq_false vb]; rfl
  rw [decide_eq_true va, decide_eq_true vb]
  obtain ⟨A, a1, a2⟩ := aMinimal a va.wf _ hNa
  obtain ⟨A', a1', a2'⟩ := rMinimal a va.wf _ hNa
  obtain ⟨B, b1, b2⟩ := aMinimal b vb.wf _ hNb
  obtain ⟨B', b1', b2'⟩ := rMinimal b vb.wf _ hNb
  have eA := a2.unique a2' (Sim.refl _ _)
  have eB := b2.unique b2' (Sim.refl _ _)
  subst eA; subst eB
  have hla := a2.le
  have hlb := b2.le
  simp only [Option.bind_some, Bool.not_true, cond_false]
  rw [a1, b1, a1', b1']
  simp only [Option.bind_some]
  open Classical in
  rw [rEqual a2.can.wf b2.can.wf _ (by omega), aEqual a2.can.wf b2.can.wf _ (by omega)]
  simp only [Option.bind_some, bne_self_eq_false, cond_false]
  unfold automaton_Minimal
  open Classical in
  rw [aValid _ a (by omega) (by unfold sz at *; omega), aValid _ b (by omega) (by unfold sz at *; omega), decide_eq_true va, decide_eq_true vb]
  simp only [Option.bind_some, Bool.not_true, cond_false]
  rw [a1, b1]
  simp only [Option.bind_some, beq_self_eq_true, cond_true]
  open Classical in
  rw [rEqual a2.can.wf b2.can.wf _ (by omega)]
  simp only [Option.bind_some, beq_self_eq_true, cond_true]
  by_cases e : A = B
  case neg => rw [decide_eq_false e]; rfl
  rw [decide_eq_true e]
  simp only [Bool.not_true, cond_false]
  open Classical in
  rw [aRun _ a w (by omega) (by unfold sz at *; omega) (by omega), aRun _ b w (by omega) (by unfold sz at *; omega) (by omega), decide_eq_true va, decide_eq_true vb]
  subst e
  rw [← acc_sim a2.sim w, ← acc_sim b2.sim w]
  simp only [Option.bind_some, beq_self_eq_true]
end Go.Proofs.Ytdlaobjbjmecnaa
