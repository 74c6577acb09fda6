/- What automaton.reachable computes. -/
import Derived.Test.YtdlaobjbjmecnaaSea
import Derived.Test.YtdlaobjbjmecnaaExt09b
set_option linter.unusedVariables false
namespace Go.Proofs.Ytdlaobjbjmecnaa
open Go.X

def isId (a : Nat) : Nat := a
theorem map_isId (F : List Nat) : F.map isId = F := by
  have : isId = id := rfl
  rw [this, List.map_id]

/-- The numbers that reachable keeps for the states. -/
def NumOk (k : Nat) (l : List Int) (F : List Nat) : Prop := l.length = k ∧ ∀ s, s < k → l[s]? = some (if s ∈ F then (num isId F s : Int) else -1)

theorem NumOk.add {k : Nat} {l : List Int} {F : List Nat} {succ : Nat → Nat → Nat} {y c : Nat} (h : NumOk k l F) (hn : succ y c ∉ F) (hk : succ y c < k) : NumOk k (l.set (succ y c) (F.length : Int)) (fnd succ isId F y c) := by
  have hn' : isId (succ y c) ∉ F.map isId := by rw [map_isId]; exact hn
  refine ⟨by simpa using h.1, fun s hs => ?_⟩
  rw [get_set (by rw [h.1]; exact hk)]
  have hmem : s ∈ fnd succ isId F y c ↔ s ∈ F ∨ s = succ y c := by unfold fnd; rw [if_neg hn']; simp
  by_cases e : s = succ y c
  · rw [if_pos e, if_pos (hmem.2 (.inr e)), e, num_fnd_new hn']
  · rw [if_neg e, h.2 s hs]
    by_cases hF : s ∈ F
    · rw [if_pos hF, if_pos (hmem.2 (.inl hF)), num_fnd (by rw [map_isId]; exact hF)]
    · rw [if_neg hF, if_neg (fun h => by rcases hmem.1 h with h | h <;> contradiction)]

abbrev SeaD (d : DFA) (F : List Nat) (P : Nat) : Prop := Sea (stp d) isId (st0 d) (fun a => a < sz d) F P
abbrev FoundD (d : DFA) (F : List Nat) (R : DFA) : Prop := Found (succ := stp d) (key := isId) F R

theorem aReach_in {d : DFA} (v : WF d) (M : Nat) {i y : Nat} {F : List Nat} {nb : List Int} {row : List Int} (hrow : d.Next[y]? = some row) (hF : F[i]? = some y) (hS : SeaD d F (11 * i)) (hN : NumOk (sz d) nb F) (N : Nat) (hN' : 12 ≤ N) :
    ∃ o, iter (fun s => automaton_reachable_b3 M row s.1 s.2.1 s.2.2) N (ints F, 0, nb) = some o ∧ ∃ F' nb', o = (nb', ints F') ∧ F'[i]? = some y ∧ SeaD d F' (11 * i + 11) ∧ NumOk (sz d) nb' F' := by
  refine iter_ind (fun c s => ∃ F' nb', s = (ints F', (c : Int), nb') ∧ F'[i]? = some y ∧ SeaD d F' (11 * i + c) ∧ NumOk (sz d) nb' F') 11 _ ?_ ?_ N _ (by omega) ⟨F, nb, rfl, hF, hS, hN⟩
  · rintro c s hc ⟨F', nb', rfl, hy, hs, hn⟩
    have hys := hs.ok y (List.mem_of_getElem? hy)
    obtain ⟨row', h1, h2, h3⟩ := v.step hys hc
    rw [hrow] at h1; cases h1
    have hlen := get_lt h2
    have hlr : row.length = 11 := by obtain ⟨r, g1, g2, _⟩ := v.rows y hys; rw [hrow] at g1; cases g1; exact g2
    have hnext := hs.next (y := y) (fun a c ha hc => v.stp_lt ha hc) (by rw [show (11 * i + c) / 11 = i by omega]; exact hy)
    rw [show (11 * i + c) % 11 = c by omega] at hnext
    have hl := hs.len_le (B := sz d) (fun a ha => ha)
    have hmost := v.most
    simp only [automaton_reachable_b3]
    rw [cond_pos (by rw [hlr]; omega), idx_some h2]
    simp only [Option.bind_some]
    rw [idx_some (hn.2 _ h3)]
    simp only [Option.bind_some]
    by_cases hm : stp d y c ∈ F'
    · rw [if_pos hm, cond_neg (by omega)]
      refine ⟨_, rfl, F', nb', by simp, hy, ?_, hn⟩
      have : fnd (stp d) isId F' y c = F' := by unfold fnd; rw [if_pos (by rw [map_isId]; exact hm)]
      rw [this] at hnext; exact hnext
    · rw [if_neg hm, cond_pos (by omega), ints_len, setI_nat (by rw [hn.1]; exact h3)]
      simp only [Option.bind_some]
      rw [ints_app (by unfold sz at hl; omega)]
      simp only [Option.bind_some]
      have : fnd (stp d) isId F' y c = F' ++ [stp d y c] := by unfold fnd; rw [if_neg (by rw [map_isId]; exact hm)]
      refine ⟨_, rfl, fnd (stp d) isId F' y c, _, by rw [this]; simp, fnd_get hy, hnext, hn.add hm h3⟩
  · rintro s ⟨F', nb', rfl, hy, hs, hn⟩
    have hys := hs.ok y (List.mem_of_getElem? hy)
    have hlr : row.length = 11 := by obtain ⟨r, g1, g2, _⟩ := v.rows y hys; rw [hrow] at g1; cases g1; exact g2
    simp only [automaton_reachable_b3]
    rw [cond_neg (by rw [hlr]; omega)]
    exact ⟨_, rfl, F', nb', rfl, hy, hs, hn⟩

theorem aReach_out {d : DFA} (v : WF d) (M : Nat) (hM : 12 ≤ M) {nb : List Int} (hn : NumOk (sz d) nb [st0 d]) (N : Nat) (hN : sz d < N) :
    ∃ o, iter (fun s => automaton_reachable_b2 M d s.1 s.2.1 s.2.2) N (ints [st0 d], 0, nb) = some o ∧ ∃ F nb', o = (nb', ints F) ∧ SeaD d F (11 * F.length) ∧ NumOk (sz d) nb' F := by
  refine iter_meas (fun s => ∃ F nb' i, s = (ints F, ((i : Nat) : Int), nb') ∧ i ≤ F.length ∧ SeaD d F (11 * i) ∧ NumOk (sz d) nb' F) (fun s => sz d - s.2.1.toNat) _ ?_ N _ (by simp; omega) ⟨[st0 d], nb, 0, rfl, by simp, Sea.start v.st0_lt, hn⟩
  rintro s ⟨F, nb', i, rfl, hi, hs, hn⟩
  have hl := hs.len_le (B := sz d) (fun a ha => ha)
  simp only [automaton_reachable_b2]
  by_cases hlt : i < F.length
  · left
    rw [cond_pos (by rw [ints_len]; omega)]
    have hy : F[i]? = some F[i] := List.getElem?_eq_getElem hlt
    have hys := hs.ok _ (List.mem_of_getElem? hy)
    obtain ⟨row, h1, _⟩ := v.rows _ hys
    rw [ints_get hy]
    simp only [Option.bind_some]
    rw [idx_some h1]
    simp only [Option.bind_some]
    obtain ⟨o, h2, F', nb'', rfl, h3, h4, h5⟩ := aReach_in v M h1 hy hs hn M hM
    rw [h2]
    simp only [Option.bind_some]
    refine ⟨_, rfl, ⟨F', nb'', i + 1, by simp, ?_, h4, h5⟩, ?_⟩
    · have := get_lt h3; omega
    · simp only []; omega
  · right
    have hi' : i = F.length := by omega
    subst hi'
    rw [cond_neg (by rw [ints_len]; omega)]
    exact ⟨_, rfl, F, nb', rfl, hs, hn⟩

theorem aReach_minus {k : Nat} (M : Nat) (l8 : List Int) (hl8 : l8.length = k) (N : Nat) (hN : k < N) :
    ∃ o, iter (fun s => automaton_reachable_b1 M l8 s.1 s.2) N (0, l8) = some o ∧ o.length = k ∧ ∀ j, j < k → o[j]? = some (-1 : Int) := by
  refine iter_ind (fun i s => ∃ l, s = ((i : Int), l) ∧ l.length = k ∧ ∀ j, j < i → l[j]? = some (-1 : Int)) k _ ?_ ?_ N _ hN ⟨l8, rfl, hl8, fun j hj => absurd hj (Nat.not_lt_zero j)⟩
  · rintro i s hi ⟨l, rfl, h1, h2⟩
    simp only [automaton_reachable_b1]
    rw [cond_pos (by omega), idx_lt l (by omega)]
    simp only [Option.bind_some]
    rw [setI_nat (by omega)]
    simp only [Option.bind_some]
    refine ⟨_, rfl, _, by simp; rfl, by simpa using h1, fun j hj => ?_⟩
    rw [get_set (by omega)]
    by_cases e : j = i
    · rw [if_pos e]
    · rw [if_neg e]; exact h2 j (by omega)
  · rintro s ⟨l, rfl, h1, h2⟩
    simp only [automaton_reachable_b1]
    rw [cond_neg (by omega)]
    exact ⟨_, rfl, h1, h2⟩

/-- The rows and acceptances written so far. -/
structure Fill (d : DFA) (F : List Nat) (i P : Nat) (R : DFA) : Prop where
  len : R.Next.length = F.length
  acc : R.Accept.length = F.length
  st : R.Start = 0
  row : ∀ j, j < F.length → ∃ row, R.Next[j]? = some row ∧ row.length = 11
  cell : ∀ j y row e, F[j]? = some y → R.Next[j]? = some row → e < 11 → 11 * j + e < P → row[e]? = some (num isId F (stp d y e) : Int)
  ac : ∀ j y, F[j]? = some y → j < i → R.Accept[j]? = some (Acc d y)

theorem Fill.setAcc {d : DFA} {F : List Nat} {i P : Nat} {R : DFA} (h : Fill d F i P R) {y : Nat} (hy : F[i]? = some y) : Fill d F (i + 1) P { R with Accept := R.Accept.set i (Acc d y) } := by
  refine ⟨h.len, by simpa using h.acc, h.st, h.row, h.cell, fun j z hz hj => ?_⟩
  simp only []
  rw [get_set (by rw [h.acc]; exact get_lt hy)]
  by_cases e : j = i
  · subst e; rw [hy] at hz; cases hz; rw [if_pos rfl]
  · rw [if_neg e]; exact h.ac j z hz (by omega)

theorem Fill.setCell {d : DFA} {F : List Nat} {i c i' : Nat} {R : DFA} (h : Fill d F i' (11 * i + c) R) {y : Nat} (hy : F[i]? = some y) {row : List Int} (hr : R.Next[i]? = some row) (hc : c < 11) :
    Fill d F i' (11 * i + (c + 1)) { R with Next := R.Next.set i (row.set c (num isId F (stp d y c) : Int)) } := by
  have hlt := get_lt hy
  obtain ⟨row', g1, g2⟩ := h.row i hlt
  rw [hr] at g1; cases g1
  have hget : ∀ j, (R.Next.set i (row.set c (num isId F (stp d y c) : Int)))[j]? = if j = i then some (row.set c (num isId F (stp d y c) : Int)) else R.Next[j]? := fun j => get_set (by rw [h.len]; exact hlt)
  refine ⟨by simpa using h.len, h.acc, h.st, fun j hj => ?_, fun j z r e hz hr' he hP => ?_, h.ac⟩
  · simp only [hget]
    by_cases e : j = i
    · rw [if_pos e]; exact ⟨_, rfl, by simpa using g2⟩
    · rw [if_neg e]; exact h.row j hj
  · simp only [hget] at hr'
    by_cases e' : j = i
    · subst e'
      rw [hy] at hz; cases hz
      rw [if_pos rfl] at hr'
      cases hr'
      rw [get_set (by omega)]
      by_cases e'' : e = c
      · subst e''; rw [if_pos rfl]
      · rw [if_neg e'']; exact h.cell j y row e hy hr he (by omega)
    · rw [if_neg e'] at hr'
      exact h.cell j z r e hz hr' he (by omega)

theorem aFill_in {d : DFA} (v : WF d) (M : Nat) {F : List Nat} {nb : List Int} (hs : SeaD d F (11 * F.length)) (hn : NumOk (sz d) nb F) {i y : Nat} (hy : F[i]? = some y) {row : List Int} (hrow : d.Next[y]? = some row) {R : DFA} (hR : Fill d F (i + 1) (11 * i) R) (N : Nat) (hN : 12 ≤ N) :
    ∃ o, iter (fun s => automaton_reachable_b5 M (nb, ints F) (i : Int) row s.1 s.2) N (0, R) = some o ∧ Fill d F (i + 1) (11 * i + 11) o := by
  have hys := hs.ok y (List.mem_of_getElem? hy)
  have hlr : row.length = 11 := by obtain ⟨r, g1, g2, _⟩ := v.rows y hys; rw [hrow] at g1; cases g1; exact g2
  have hlt := get_lt hy
  refine iter_ind (fun c s => ∃ R', s = ((c : Int), R') ∧ Fill d F (i + 1) (11 * i + c) R') 11 _ ?_ ?_ N _ (by omega) ⟨R, rfl, hR⟩
  · rintro c s hc ⟨R', rfl, h⟩
    obtain ⟨row', h1, h2, h3⟩ := v.step hys hc
    rw [hrow] at h1; cases h1
    obtain ⟨r, g1, g2⟩ := h.row i hlt
    simp only [automaton_reachable_b5]
    rw [cond_pos (by rw [hlr]; omega), idx_some h2]
    simp only [Option.bind_some]
    rw [idx_some g1]
    simp only [Option.bind_some]
    have hmem : stp d y c ∈ F := by
      obtain ⟨z, e1, e2⟩ := hs.cl (11 * i + c) (by omega)
      rw [show (11 * i + c) / 11 = i by omega, hy] at e1; cases e1
      rw [show (11 * i + c) % 11 = c by omega, map_isId] at e2
      exact e2
    have hnum := hn.2 _ h3
    rw [if_pos hmem] at hnum
    rw [idx_some hnum]
    simp only [Option.bind_some]
    rw [idx_lt r (by omega)]
    simp only [Option.bind_some]
    rw [setI_nat (by omega)]
    simp only [Option.bind_some]
    rw [setI_nat (by rw [h.len]; exact hlt)]
    simp only [Option.bind_some]
    exact ⟨_, rfl, _, by simp, h.setCell hy g1 hc⟩
  · rintro s ⟨R', rfl, h⟩
    simp only [automaton_reachable_b5]
    rw [cond_neg (by rw [hlr]; omega)]
    exact ⟨_, rfl, h⟩

theorem aFill {d : DFA} (v : WF d) (M : Nat) (hM : 12 ≤ M) {F : List Nat} {nb : List Int} (hs : SeaD d F (11 * F.length)) (hn : NumOk (sz d) nb F) {R : DFA} (hR : Fill d F 0 0 R) (N : Nat) (hN : F.length < N) :
    ∃ o, iter (fun s => automaton_reachable_b4 M d (nb, ints F) s.1 s.2) N (0, R) = some o ∧ Fill d F F.length (11 * F.length) o := by
  refine iter_ind (fun i s => ∃ R', s = ((i : Int), R') ∧ Fill d F i (11 * i) R') F.length _ ?_ ?_ N _ hN ⟨R, rfl, hR⟩
  · rintro i s hi ⟨R', rfl, h⟩
    have hy : F[i]? = some F[i] := List.getElem?_eq_getElem hi
    have hys := hs.ok _ (List.mem_of_getElem? hy)
    obtain ⟨row, h1, _⟩ := v.rows _ hys
    simp only [automaton_reachable_b4]
    rw [cond_pos (by rw [ints_len]; omega), ints_get hy]
    simp only [Option.bind_some]
    rw [idx_some (v.Acc_some hys)]
    simp only [Option.bind_some]
    rw [idx_lt R'.Accept (by rw [h.acc]; exact hi)]
    simp only [Option.bind_some]
    rw [setI_nat (by rw [h.acc]; exact hi)]
    simp only [Option.bind_some]
    rw [idx_some h1]
    simp only [Option.bind_some]
    obtain ⟨o, h2, h3⟩ := aFill_in v M hs hn hy h1 (h.setAcc hy) M hM
    rw [h2]
    simp only [Option.bind_some]
    exact ⟨_, rfl, o, by simp, by rw [show 11 * (i + 1) = 11 * i + 11 by omega]; exact h3⟩
  · rintro s ⟨R', rfl, h⟩
    simp only [automaton_reachable_b4]
    rw [cond_neg (by rw [ints_len]; omega)]
    exact ⟨_, rfl, h⟩

/-- reachable: the states in the order of a search. -/
theorem aReach (d : DFA) (v : WF d) (N : Nat) (hN : sz d + 12 < N) :
    ∃ R F, automaton_reachable N d = some R ∧ SeaD d F (11 * F.length) ∧ FoundD d F R ∧ F.length ≤ sz d ∧ ∀ i y, F[i]? = some y → Acc R i = Acc d y := by
  have hmost := v.most
  have hst := v.st0_eq
  have hst0 := v.st0_lt
  unfold automaton_reachable
  rw [mk_some (by omega)]
  simp only [Option.bind_some]
  obtain ⟨o, h1, h2, h3⟩ := aReach_minus (k := sz d) N (List.replicate d.Next.length 0) (by simp) N (by omega)
  rw [h1]
  simp only [Option.bind_some]
  rw [hst, idx_some (h3 _ hst0)]
  simp only [Option.bind_some]
  rw [setI_nat (by omega)]
  simp only [Option.bind_some]
  have hnum : NumOk (sz d) (o.set (st0 d) 0) [st0 d] := by
    refine ⟨by simpa using h2, fun s hs => ?_⟩
    rw [get_set (by omega)]
    by_cases e : s = st0 d
    · subst e; simp [num, isId]
    · rw [if_neg e, h3 s hs, if_neg (by simpa using e)]
  obtain ⟨o2, g1, F, nb, rfl, g2, g3⟩ := aReach_out v N (by omega) hnum N (by omega)
  have g1' : iter (fun s => automaton_reachable_b2 N d s.1 s.2.1 s.2.2) N ([((st0 d : Nat) : Int)], 0, o.set (st0 d) 0) = some (nb, ints F) := g1
  rw [g1']
  simp only [Option.bind_some, ints_len]
  have hl := g2.len_le (B := sz d) (fun a ha => ha)
  unfold automaton_grid
  rw [grid_some (by unfold sz at hl; omega)]
  simp only [Option.bind_some]
  rw [mk_some (by unfold sz at hl; omega)]
  simp only [Option.bind_some]
  have h0 : Fill d F 0 0 ⟨0, List.replicate F.length (List.replicate 11 0), List.replicate F.length false⟩ := by
    refine ⟨by simp, by simp, rfl, fun j hj => ⟨List.replicate 11 0, by simp [hj], by simp⟩, fun j y row e _ _ _ h => by omega, fun j y _ h => by omega⟩
  obtain ⟨R, e1, e2⟩ := aFill v N (by omega) g2 g3 h0 N (by omega)
  rw [e1]
  refine ⟨R, F, rfl, g2, ⟨e2.len, e2.acc, e2.st, fun i y hy => ?_⟩, hl, fun i y hy => ?_⟩
  · obtain ⟨row, f1, f2⟩ := e2.row i (get_lt hy)
    exact ⟨row, f1, f2, fun c hc => e2.cell i y row c hy f1 hc (by have := get_lt hy; omega)⟩
  · have := e2.ac i y hy (get_lt hy)
    unfold Acc; rw [this]; rfl
end Go.Proofs.Ytdlaobjbjmecnaa
