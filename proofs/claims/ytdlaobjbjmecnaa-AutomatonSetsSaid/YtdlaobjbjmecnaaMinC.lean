/- What automaton.minimal computes: the one automaton of the language that is reduced and numbered by a search. -/
import Derived.Test.YtdlaobjbjmecnaaMinB
set_option linter.unusedVariables false
namespace Go.Proofs.Ytdlaobjbjmecnaa
open Go.X

theorem reach_sim {d R : DFA} {F : List Nat} (v : WF d) (hs : SeaD d F (11 * F.length)) (f : FoundD d F R) (ha : ∀ i y, F[i]? = some y → Acc R i = Acc d y) {i y : Nat} (hy : F[i]? = some y) : Sim R i d y :=
  f.sim (g := fun a => a) hs ha (fun a b _ _ e => by have e : a = b := e; rw [e]; exact Sim.refl _ _) (fun a c h hc => v.stp_lt h hc) (fun _ _ _ _ => rfl) hy

/-- R is the minimal automaton of d. -/
structure MinOk (d R : DFA) : Prop where
  can : Canon R
  sim : Sim R (st0 R) d (st0 d)
  le : sz R ≤ sz d

theorem MinOk.unique {d e A B : DFA} (a : MinOk d A) (b : MinOk e B) (h : Sim d (st0 d) e (st0 e)) : A = B := a.can.unique b.can ((a.sim.trans h).trans b.sim.symm)

/-- The automaton of the classes, as far as it is written. -/
structure QFill (R : DFA) (g : Nat → Nat) (n : Nat) (i P : Nat) (out : DFA) : Prop where
  len : out.Next.length = n
  acc : out.Accept.length = n
  st : out.Start = (g (st0 R) : Int)
  row : ∀ j, j < n → ∃ row, out.Next[j]? = some row ∧ row.length = 11
  cell : ∀ j e row, j < sz R → e < 11 → 11 * j + e < P → out.Next[g j]? = some row → row[e]? = some (g (stp R j e) : Int)
  ac : ∀ j, j < sz R → j < i → out.Accept[g j]? = some (Acc R j)

section
variable {R : DFA} {g : Nat → Nat} {n : Nat}
theorem QFill.setAcc (hg : Classes R g) (hlt : ∀ j, j < sz R → g j < n) {i P : Nat} {out : DFA} (h : QFill R g n i P out) (hi : i < sz R) : QFill R g n (i + 1) P { out with Accept := out.Accept.set (g i) (Acc R i) } := by
  refine ⟨h.len, by simpa using h.acc, h.st, h.row, h.cell, fun j hj hji => ?_⟩
  simp only []
  rw [get_set (by rw [h.acc]; exact hlt i hi)]
  by_cases e : g j = g i
  · rw [if_pos e, ((hg j i hj hi).1 e).acc]
  · rw [if_neg e]
    exact h.ac j hj (by have : j ≠ i := fun e' => e (by rw [e']); omega)

theorem QFill.setCell (v : WF R) (hg : Classes R g) (hlt : ∀ j, j < sz R → g j < n) {i c i' : Nat} {out : DFA} (h : QFill R g n i' (11 * i + c) out) (hi : i < sz R) {row : List Int} (hr : out.Next[g i]? = some row) (hc : c < 11) :
    QFill R g n i' (11 * i + (c + 1)) { out with Next := out.Next.set (g i) (row.set c (g (stp R i c) : Int)) } := by
  obtain ⟨row', g1, g2⟩ := h.row (g i) (hlt i hi)
  rw [hr] at g1; cases g1
  have hget : ∀ j, (out.Next.set (g i) (row.set c (g (stp R i c) : Int)))[j]? = if j = g i then some (row.set c (g (stp R i c) : Int)) else out.Next[j]? := fun j => get_set (by rw [h.len]; exact hlt i hi)
  refine ⟨by simpa using h.len, h.acc, h.st, fun j hj => ?_, fun j e r hj he hP hr' => ?_, h.ac⟩
  · simp only [hget]
    by_cases e : j = g i
    · rw [if_pos e]; exact ⟨_, rfl, by simpa using g2⟩
    · rw [if_neg e]; exact h.row j hj
  · simp only [hget] at hr'
    by_cases e' : g j = g i
    · rw [if_pos e'] at hr'
      cases hr'
      rw [get_set (by omega)]
      by_cases e'' : e = c
      · subst e''
        rw [if_pos rfl]
        have := (hg _ _ (v.stp_lt hi he) (v.stp_lt hj he)).2 ((((hg j i hj hi).1 e').step he).symm)
        rw [this]
      · rw [if_neg e'']
        rw [← e'] at hr
        exact h.cell j e row hj he (by
          by_cases e3 : j = i
          · subst e3; omega
          · omega) hr
    · rw [if_neg e'] at hr'
      exact h.cell j e r hj he (by
        by_cases e3 : j = i
        · exact absurd (by rw [e3]) e'
        · omega) hr'

theorem aQ_in (v : WF R) (M : Nat) (hg : Classes R g) (hlt : ∀ j, j < sz R → g j < n) {l : List Int} (hl : Lab (sz R) l g) (m : Int) {i : Nat} (hi : i < sz R) {row : List Int} (hrow : R.Next[i]? = some row) {out : DFA} (hR : QFill R g n (i + 1) (11 * i) out) (N : Nat) (hN : 12 ≤ N) :
    ∃ o, iter (fun s => automaton_minimal_b2 M (l, m) (i : Int) row s.1 s.2) N (0, out) = some o ∧ QFill R g n (i + 1) (11 * i + 11) o := by
  have hlr : row.length = 11 := by obtain ⟨r, g1, g2, _⟩ := v.rows i hi; rw [hrow] at g1; cases g1; exact g2
  refine iter_ind (fun c s => ∃ R', s = ((c : Int), R') ∧ QFill R g n (i + 1) (11 * i + c) R') 11 _ ?_ ?_ N _ (by omega) ⟨out, rfl, hR⟩
  · rintro c s hc ⟨R', rfl, h⟩
    obtain ⟨row', h1, h2, h3⟩ := v.step hi hc
    rw [hrow] at h1; cases h1
    obtain ⟨r, g1, g2⟩ := h.row (g i) (hlt i hi)
    simp only [automaton_minimal_b2]
    rw [cond_pos (by rw [hlr]; omega), idx_some h2]
    simp only [Option.bind_some]
    rw [idx_some (hl.2 i hi)]
    simp only [Option.bind_some]
    rw [idx_some g1]
    simp only [Option.bind_some]
    rw [idx_some (hl.2 _ h3)]
    simp only [Option.bind_some]
    rw [idx_lt r (by omega)]
    simp only [Option.bind_some]
    rw [setI_nat (by omega)]
    simp only [Option.bind_some]
    rw [setI_nat (by rw [h.len]; exact hlt i hi)]
    simp only [Option.bind_some]
    exact ⟨_, rfl, _, by simp, h.setCell v hg hlt hi g1 hc⟩
  · rintro s ⟨R', rfl, h⟩
    simp only [automaton_minimal_b2]
    rw [cond_neg (by rw [hlr]; omega)]
    exact ⟨_, rfl, h⟩

theorem aQ (v : WF R) (M : Nat) (hM : 12 ≤ M) (hg : Classes R g) (hlt : ∀ j, j < sz R → g j < n) {l : List Int} (hl : Lab (sz R) l g) (m : Int) {out : DFA} (hR : QFill R g n 0 0 out) (N : Nat) (hN : sz R < N) :
    ∃ o, iter (fun s => automaton_minimal_b1 M R (l, m) s.1 s.2) N (0, out) = some o ∧ QFill R g n (sz R) (11 * sz R) o := by
  refine iter_ind (fun i s => ∃ R', s = ((i : Int), R') ∧ QFill R g n i (11 * i) R') (sz R) _ ?_ ?_ N _ hN ⟨out, rfl, hR⟩
  · rintro i s hi ⟨R', rfl, h⟩
    obtain ⟨row, h1, _⟩ := v.rows i hi
    simp only [automaton_minimal_b1]
    rw [cond_pos (by unfold sz at hi; omega), idx_some h1]
    simp only [Option.bind_some]
    rw [idx_some (hl.2 i hi)]
    simp only [Option.bind_some]
    rw [idx_some (v.Acc_some hi)]
    simp only [Option.bind_some]
    rw [idx_lt R'.Accept (by rw [h.acc]; exact hlt i hi)]
    simp only [Option.bind_some]
    rw [setI_nat (by rw [h.acc]; exact hlt i hi)]
    simp only [Option.bind_some]
    obtain ⟨o, h2, h3⟩ := aQ_in v M hg hlt hl m hi h1 (h.setAcc hg hlt hi) M hM
    rw [h2]
    simp only [Option.bind_some]
    exact ⟨_, rfl, o, by simp, by rw [show 11 * (i + 1) = 11 * i + 11 by omega]; exact h3⟩
  · rintro s ⟨R', rfl, h⟩
    simp only [automaton_minimal_b1]
    rw [cond_neg (by unfold sz; omega)]
    exact ⟨_, rfl, h⟩

theorem QFill.stp {out : DFA} (hlt : ∀ j, j < sz R → g j < n) (h : QFill R g n (sz R) (11 * sz R) out) {j c : Nat} (hj : j < sz R) (hc : c < 11) : Go.Proofs.Ytdlaobjbjmecnaa.stp out (g j) c = g (Go.Proofs.Ytdlaobjbjmecnaa.stp R j c) := by
  obtain ⟨row, h1, h2⟩ := h.row (g j) (hlt j hj)
  have := h.cell j c row hj hc (by omega) h1
  simp [Go.Proofs.Ytdlaobjbjmecnaa.stp, h1, this]

theorem QFill.wf {out : DFA} (v : WF R) (hlt : ∀ j, j < sz R → g j < n) (onto : ∀ m, m < n → ∃ j, j < sz R ∧ g j = m) (hn : n ≤ sz R) (h : QFill R g n (sz R) (11 * sz R) out) : WF out := by
  have h0 := hlt _ v.st0_lt
  have hm := v.most
  refine ⟨by rw [h.len]; omega, by rw [h.len]; unfold sz at hn; omega, by rw [h.acc, h.len], by rw [h.st]; omega, by rw [h.st, h.len]; omega, fun i hi => ?_⟩
  rw [h.len] at hi
  obtain ⟨j, hj, rfl⟩ := onto i hi
  obtain ⟨row, h1, h2⟩ := h.row _ hi
  refine ⟨row, h1, h2, fun c hc => ⟨_, h.cell j c row hj hc (by omega) h1, by omega, ?_⟩⟩
  have := hlt _ (v.stp_lt hj hc)
  rw [h.len]; omega

theorem QFill.sim {out : DFA} (v : WF R) (hlt : ∀ j, j < sz R → g j < n) (h : QFill R g n (sz R) (11 * sz R) out) {j : Nat} (hj : j < sz R) : Sim out (g j) R j := by
  refine sim_of (fun s t => t < sz R ∧ s = g t) (fun s t ⟨h1, h2⟩ => ?_) (fun s t ⟨h1, h2⟩ c hc => ?_) ⟨hj, rfl⟩
  · subst h2
    unfold Acc
    rw [h.ac t h1 h1]; rfl
  · subst h2
    exact ⟨v.stp_lt h1 hc, h.stp hlt h1 hc⟩
end

theorem aMinimal (d : DFA) (v : WF d) (N : Nat) (hN : sz d + 12 < N) : ∃ R, automaton_minimal N d = some R ∧ MinOk d R := by
  have hmost := v.most
  obtain ⟨R, F, h1, h2, h3, h4, h5⟩ := aReach d v N hN
  have vR := h3.wf h2 (by unfold sz at h4; omega)
  have hRl : sz R = F.length := h3.len
  obtain ⟨l, n, g, g1, g2, g3, g4, g5, g6⟩ := aClasses vR N (by omega)
  unfold automaton_minimal
  rw [h1]
  simp only [Option.bind_some]
  rw [g1]
  simp only [Option.bind_some]
  rw [vR.st0_eq, idx_some (g2.2 _ vR.st0_lt)]
  simp only [Option.bind_some]
  unfold automaton_grid
  rw [grid_some (by unfold sz at *; omega)]
  simp only [Option.bind_some]
  rw [mk_some (by unfold sz at *; omega)]
  simp only [Option.bind_some]
  have h0 : QFill R g n 0 0 ⟨(g (st0 R) : Int), List.replicate n (List.replicate 11 0), List.replicate n false⟩ :=
    ⟨by simp, by simp, rfl, fun j hj => ⟨List.replicate 11 0, by simp [hj], by simp⟩, fun j e row _ _ h => by omega, fun j _ h => by omega⟩
  obtain ⟨out, e1, e2⟩ := aQ vR N (by omega) g3 g4 g2 (n : Int) h0 N (by omega)
  rw [e1]
  simp only [Option.bind_some]
  have vo := e2.wf vR g4 g5 g6
  have hol : sz out = n := e2.len
  obtain ⟨R2, F2, f1, f2, f3, f4, f5⟩ := aReach out vo N (by omega)
  rw [f1]
  refine ⟨R2, rfl, ⟨f3.wf f2 (by unfold sz at *; omega), f3.numbered f2, fun s t hs ht h => ?_⟩, ?_, ?_⟩
  · have hs' : s < F2.length := by rw [← f3.len]; exact hs
    have ht' : t < F2.length := by rw [← f3.len]; exact ht
    have es : F2[s]? = some F2[s] := List.getElem?_eq_getElem hs'
    have et : F2[t]? = some F2[t] := List.getElem?_eq_getElem ht'
    have hsim := ((reach_sim vo f2 f3 f5 es).symm.trans h).trans (reach_sim vo f2 f3 f5 et)
    have os := f2.ok _ (List.mem_of_getElem? es)
    have ot := f2.ok _ (List.mem_of_getElem? et)
    obtain ⟨a, ha, ea⟩ := g5 F2[s] (by omega)
    obtain ⟨b, hb, eb⟩ := g5 F2[t] (by omega)
    have : F2[s] = F2[t] := by
      rw [← ea, ← eb] at hsim
      rw [← ea, ← eb]
      exact (g3 a b ha hb).2 (((e2.sim vR g4 ha).symm.trans hsim).trans (e2.sim vR g4 hb))
    have hnod := f2.nod
    rw [map_isId] at hnod
    exact (List.getElem?_inj hs' hnod).1 (by rw [es, et, this])
  · have es : st0 R2 = 0 := by show R2.Start.toNat = 0; rw [f3.st]; rfl
    have er : st0 R = 0 := by show R.Start.toNat = 0; rw [h3.st]; rfl
    have eo : st0 out = g (st0 R) := by show out.Start.toNat = _; rw [e2.st]; simp
    have a := reach_sim vo f2 f3 f5 f2.hd
    rw [eo] at a
    have b := e2.sim vR g4 vR.st0_lt
    have c := reach_sim v h2 h3 h5 h2.hd
    rw [es]
    rw [er] at b a
    exact (a.trans b).trans c
  · have : sz R2 = F2.length := f3.len
    omega
end Go.Proofs.Ytdlaobjbjmecnaa
