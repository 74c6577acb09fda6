/- What the reference's minimal computes: the same automaton. -/
import Derived.Test.YtdlaobjbjmecnaaMinC
set_option linter.unusedVariables false
namespace Go.Proofs.Ytdlaobjbjmecnaa
open Go.X

/-! ### its classes -/
structure KL where
  own : Nat
  next : List Nat
  deriving DecidableEq
def kindL (d : DFA) (f : Nat → Nat) (i : Nat) : KL := ⟨f i, (List.range 11).map fun c => f (stp d i c)⟩
theorem kindL_iff (d : DFA) (f : Nat → Nat) (i j : Nat) : kindL d f i = kindL d f j ↔ f i = f j ∧ ∀ c, c < 11 → f (stp d i c) = f (stp d j c) := by
  unfold kindL
  rw [KL.mk.injEq, List.map_inj_left]
  simp only [List.mem_range]

theorem rAlike {d : DFA} (v : WF d) {f : Nat → Nat} {l : List Int} (hl : Lab (sz d) l f) {i j : Nat} (hi : i < sz d) (hj : j < sz d) (N : Nat) (hN : 12 ≤ N) :
    calqueref09_alike N d l (i : Int) (j : Int) = some (decide (kindL d f i = kindL d f j)) := by
  unfold calqueref09_alike
  rw [idx_some (hl.2 i hi)]
  simp only [Option.bind_some]
  rw [idx_some (hl.2 j hj)]
  simp only [Option.bind_some]
  rw [cond_bne]
  by_cases h0 : f i = f j
  case neg =>
    rw [if_neg (by omega)]
    rw [decide_eq_false (fun h => h0 ((kindL_iff d f i j).1 h).1)]
  rw [if_pos (by omega)]
  obtain ⟨ri, a1, _⟩ := v.rows i hi
  obtain ⟨rj, b1, _⟩ := v.rows j hj
  have hst : ∀ c : Nat, c < 11 → calqueref09_alike_b1 N d l (i : Int) (j : Int) (c : Int) = some (if f (stp d i c) = f (stp d j c) then .inl ((c : Int) + 1) else .inr (.inr false)) := by
    intro c hc
    obtain ⟨_, c1, c2, c3⟩ := v.step hi hc
    rw [a1] at c1; cases c1
    obtain ⟨_, d1, d2, d3⟩ := v.step hj hc
    rw [b1] at d1; cases d1
    simp only [calqueref09_alike_b1]
    rw [cond_pos (by omega), idx_some a1]
    simp only [Option.bind_some]
    rw [idx_some c2]
    simp only [Option.bind_some]
    rw [idx_some (hl.2 _ c3)]
    simp only [Option.bind_some]
    rw [idx_some b1]
    simp only [Option.bind_some]
    rw [idx_some d2]
    simp only [Option.bind_some]
    rw [idx_some (hl.2 _ d3)]
    simp only [Option.bind_some]
    rw [cond_bne]
    by_cases e : f (stp d i c) = f (stp d j c)
    · rw [if_pos (by omega), if_pos e]
    · rw [if_neg (by omega), if_neg e]
  open Classical in
  rw [iter_all 11 (fun c => f (stp d i c) = f (stp d j c)) (fun s => calqueref09_alike_b1 N d l (i : Int) (j : Int) s) false (fun c hc e => by rw [hst c hc, if_pos e]) (fun c hc e => by rw [hst c hc, if_neg e]) (by
    simp only [calqueref09_alike_b1]
    rw [cond_neg (by omega)]) N (by omega)]
  by_cases h : ∀ c, c < 11 → f (stp d i c) = f (stp d j c)
  · rw [if_pos h]
    simp only [Option.bind_some, Sum.elim_inl]
    rw [decide_eq_true ((kindL_iff d f i j).2 ⟨h0, h⟩)]
  · rw [if_neg h]
    simp only [Option.bind_some, Sum.elim_inr]
    rw [decide_eq_false (fun h' => h ((kindL_iff d f i j).1 h').2)]

/-- The number of the first of the kinds' representatives that is like i. -/
theorem rFirst {d : DFA} (v : WF d) {f : Nat → Nat} {l : List Int} (hl : Lab (sz d) l f) (M : Nat) (hM : 12 ≤ M) {fs : List Nat} (hfs : ∀ x ∈ fs, x < sz d) {i : Nat} (hi : i < sz d) (N : Nat) (hN : fs.length < N) :
    iter (fun s => calqueref09_classes_b4 M d l (ints fs) (i : Int) s) N 0 = some (((fs.map (kindL d f)).idxOf (kindL d f i) : Nat) : Int) := by
  have hst : ∀ n (hn : n < fs.length), calqueref09_classes_b4 M d l (ints fs) (i : Int) (n : Int) = some (if kindL d f i = kindL d f fs[n] then .inr (n : Int) else .inl ((n : Int) + 1)) := by
    intro n hn
    have e : fs[n]? = some fs[n] := List.getElem?_eq_getElem hn
    simp only [calqueref09_classes_b4]
    rw [cond_pos (by rw [ints_len]; omega), ints_get e]
    simp only [Option.bind_some]
    rw [rAlike v hl hi (hfs _ (List.getElem_mem hn)) M hM]
    simp only [Option.bind_some]
    by_cases h : kindL d f i = kindL d f fs[n]
    · rw [decide_eq_true h, if_pos h]; rfl
    · rw [decide_eq_false h, if_neg h]; rfl
  by_cases hm : kindL d f i ∈ fs.map (kindL d f)
  · have hlt := List.idxOf_lt_length_of_mem hm
    have hget := List.getElem_idxOf hlt
    rw [List.length_map] at hlt
    refine iter_from (fun n => (n : Int)) ((fs.map (kindL d f)).idxOf (kindL d f i)) 0 _ rfl ?_ ?_ N (by omega)
    · intro n hn
      rw [hst n (by omega), if_neg]
      · rfl
      · intro e
        have := List.not_of_lt_findIdx (show n < List.findIdx (· == kindL d f i) (fs.map (kindL d f)) from hn)
        simp at this
        exact this e.symm
    · rw [hst _ hlt, if_pos]
      rw [List.getElem_map] at hget
      exact hget.symm
  · rw [List.idxOf_eq_length hm, List.length_map]
    refine iter_from (fun n => (n : Int)) fs.length 0 _ rfl ?_ ?_ N (by omega)
    · intro n hn
      rw [hst n hn, if_neg]
      · rfl
      · intro e
        exact hm (List.mem_map.2 ⟨fs[n], List.getElem_mem hn, e.symm⟩)
    · simp only [calqueref09_classes_b4]
      rw [cond_neg (by rw [ints_len]; omega)]

theorem rRound {d : DFA} (v : WF d) (M : Nat) (hM : sz d + 12 ≤ M) {f : Nat → Nat} {l : List Int} (hl : Lab (sz d) l f) (N : Nat) (hN : sz d < N) :
    ∃ o, iter (fun s => calqueref09_classes_b3 M d l s.1 s.2.1 s.2.2) N ([], [], 0) = some o ∧ ∃ g, Lab (sz d) o.1 g ∧ Round d f g o.2.length := by
  refine iter_ind (fun i s => ∃ fs l', s = (l', ints fs, (i : Int)) ∧ (∀ x ∈ fs, x < sz d) ∧ Labels (kindL d f) i (fs.map (kindL d f)) ∧ l'.length = i ∧ ∀ j, j < i → l'[j]? = some (((fs.map (kindL d f)).idxOf (kindL d f j) : Nat) : Int)) (sz d) _ ?_ ?_ N _ hN
    ⟨[], [], rfl, (fun x hx => by cases hx), ⟨List.nodup_nil, (fun x hx => by cases hx), fun j hj => absurd hj (Nat.not_lt_zero j)⟩, rfl, fun j hj => absurd hj (Nat.not_lt_zero j)⟩
  · rintro i s hi ⟨fs, l', rfl, h0, h1, h2, h3⟩
    have hmost := v.most
    have hkl : fs.length ≤ i := by
      have := h1.fsts (g := fun j => (fs.map (kindL d f)).idxOf (kindL d f j)) (fun _ _ => rfl)
      have h := fsts_len (fun j => (fs.map (kindL d f)).idxOf (kindL d f j)) i
      rw [this, List.length_map] at h; exact h
    have happ : ∀ x : Int, app l' [x] = some (l' ++ [x]) := fun x => app_some (by unfold sz at *; simp; omega)
    have hnew : ∀ x : Int, ∀ j, j < i → (l' ++ [x])[j]? = l'[j]? := fun x j hj => List.getElem?_append_left (by omega)
    simp only [calqueref09_classes_b3]
    rw [cond_pos (by unfold sz at hi; omega), rFirst v hl M (by omega) h0 hi M (by unfold sz at *; omega)]
    simp only [Option.bind_some]
    rw [cond_beq, ints_len]
    by_cases hm : kindL d f i ∈ fs.map (kindL d f)
    · have hlt := List.idxOf_lt_length_of_mem hm
      rw [List.length_map] at hlt
      rw [if_neg (by omega)]
      simp only [Option.bind_some]
      rw [happ]
      simp only [Option.bind_some]
      refine ⟨_, rfl, fs, _, by simp; rfl, h0, ⟨h1.nod, fun x hx => ?_, fun j hj => ?_⟩, by simp [h2], fun j hj => ?_⟩
      · obtain ⟨j, e1, e2⟩ := h1.from_ x hx
        exact ⟨j, by omega, e2⟩
      · by_cases e : j = i
        · subst e; exact hm
        · exact h1.all j (by omega)
      · by_cases e : j = i
        · subst e; rw [← h2]; simp
        · rw [hnew _ j (by omega)]; exact h3 j (by omega)
    · rw [List.idxOf_eq_length hm, List.length_map, if_pos rfl, ints_app (by unfold sz at *; omega)]
      simp only [Option.bind_some]
      rw [happ]
      simp only [Option.bind_some]
      have hmap : (fs ++ [i]).map (kindL d f) = fs.map (kindL d f) ++ [kindL d f i] := by simp
      refine ⟨_, rfl, fs ++ [i], _, by simp; rfl, fun x hx => ?_, ⟨?_, fun x hx => ?_, fun j hj => ?_⟩, by simp [h2], fun j hj => ?_⟩
      · rcases List.mem_append.1 hx with hx | hx
        · exact h0 x hx
        · simp only [List.mem_singleton] at hx; omega
      · rw [hmap, List.nodup_append]
        refine ⟨h1.nod, by simp, fun a ha b hb => ?_⟩
        simp only [List.mem_singleton] at hb
        subst hb
        intro e; subst e; exact hm ha
      · rw [hmap] at hx
        rcases List.mem_append.1 hx with hx | hx
        · obtain ⟨j, e1, e2⟩ := h1.from_ x hx
          exact ⟨j, by omega, e2⟩
        · simp only [List.mem_singleton] at hx
          exact ⟨i, by omega, hx.symm⟩
      · rw [hmap]
        by_cases e : j = i
        · subst e; simp
        · exact List.mem_append_left _ (h1.all j (by omega))
      · rw [hmap]
        by_cases e : j = i
        · subst e
          rw [List.idxOf_append, if_neg hm]
          rw [List.getElem?_append_right (by omega)]
          simp [h2]
        · rw [hnew _ j (by omega), h3 j (by omega), List.idxOf_append, if_pos (h1.all j (by omega))]
  · rintro s ⟨fs, l', rfl, h0, h1, h2, h3⟩
    simp only [calqueref09_classes_b3]
    rw [cond_neg (by unfold sz; omega)]
    refine ⟨_, rfl, fun j => (fs.map (kindL d f)).idxOf (kindL d f j), ⟨h2, h3⟩, ?_⟩
    simp only [ints_len]
    have := h1.round (d := d) (f := f) fun i j _ _ => kindL_iff d f i j
    rw [List.length_map] at this
    exact this

theorem rStart {d : DFA} (v : WF d) (M : Nat) (N : Nat) (hN : sz d < N) :
    ∃ o, iter (fun s => calqueref09_classes_b1 M d s.1 s.2) N ([], 0) = some o ∧ Lab (sz d) o (fun i => if Acc d i then 1 else 0) := by
  refine iter_ind (fun i s => ∃ l, s = (l, (i : Int)) ∧ Lab i l (fun i => if Acc d i then 1 else 0)) (sz d) _ ?_ ?_ N _ hN ⟨[], rfl, rfl, fun j hj => absurd hj (Nat.not_lt_zero j)⟩
  · rintro i s hi ⟨l, rfl, h1, h2⟩
    have hmost := v.most
    simp only [calqueref09_classes_b1]
    rw [cond_pos (by unfold sz at hi; omega), idx_some (v.Acc_some hi)]
    simp only [Option.bind_some]
    have : (bif Acc d i then some 1 else some (0 : Int)) = some ((if Acc d i then 1 else 0 : Nat) : Int) := by cases Acc d i <;> rfl
    rw [this]
    simp only [Option.bind_some]
    rw [app_some (by unfold sz at hi; simp; omega)]
    simp only [Option.bind_some]
    refine ⟨_, rfl, _, by simp; rfl, by simp [h1], fun j hj => ?_⟩
    by_cases e : j = i
    · subst e; rw [List.getElem?_append_right (by omega)]; simp [h1]
    · rw [List.getElem?_append_left (by omega)]; exact h2 j (by omega)
  · rintro s ⟨l, rfl, h⟩
    simp only [calqueref09_classes_b1]
    rw [cond_neg (by unfold sz; omega)]
    exact ⟨_, rfl, h⟩

theorem rClasses {d : DFA} (v : WF d) (N : Nat) (hN : sz d + 12 < N) :
    ∃ (l : List Int) (n : Nat) (g : Nat → Nat), calqueref09_classes N d = some l ∧ Lab (sz d) l g ∧ Classes d g ∧ (∀ j, j < sz d → g j < n) ∧ n ≤ sz d := by
  have hone := v.one
  unfold calqueref09_classes
  obtain ⟨o, h1, h2⟩ := rStart v N N (by omega)
  rw [h1]
  simp only [Option.bind_some]
  suffices h : ∃ o', iter (fun s => calqueref09_classes_b2 N d s.1 s.2) N (o, 1) = some o' ∧ ∃ (n : Nat) (g : Nat → Nat), Lab (sz d) o' g ∧ Classes d g ∧ ∃ f, Round d f g n by
    obtain ⟨l, g1, n, g, g2, g3, f, hr⟩ := h
    rw [g1]
    refine ⟨l, n, g, rfl, g2, g3, hr.lt, ?_⟩
    rw [← hr.cnt]; exact fsts_len _ _
  have hpos : ∀ f : Nat → Nat, 1 ≤ (fsts f (sz d)).length := fun f => by
    have : 0 ∈ fsts f (sz d) := fsts_mem.2 ⟨by unfold sz; omega, fun j hj => absurd hj (Nat.not_lt_zero j)⟩
    exact List.length_pos_of_mem this
  refine iter_meas (fun s => ∃ f, Lab (sz d) s.1 f ∧ (∃ c : Nat, s.2 = (c : Int) ∧ 1 ≤ c ∧ c ≤ (fsts f (sz d)).length) ∧ Good d f) (fun s => sz d - s.2.toNat) _ ?_ N _ (by simp only []; omega) ⟨_, h2, ⟨1, rfl, Nat.le_refl _, hpos _⟩, Good.of_acc d fun i j _ _ => by
      cases Acc d i <;> cases Acc d j <;> simp⟩
  rintro ⟨l, c⟩ ⟨f, h4, ⟨c, rfl, h5, h5'⟩, h6⟩
  simp only [calqueref09_classes_b2]
  obtain ⟨o2, e1, g, e2, e3⟩ := rRound v N (by omega) h4 N (by omega)
  simp only [] at e1
  rw [e1]
  simp only [Option.bind_some]
  rw [cond_beq]
  have h7 := e3.ref.finer.len
  have h8 := fsts_len g (sz d)
  rw [e3.cnt] at h7 h8
  by_cases he : (o2.2.length : Int) = (c : Int)
  · right
    rw [if_pos he]
    exact ⟨_, rfl, _, g, e2, h6.done v e3.ref (by rw [e3.cnt]; omega), f, e3⟩
  · left
    rw [if_neg he]
    refine ⟨_, rfl, ⟨g, e2, ⟨_, rfl, by omega, by rw [e3.cnt]; omega⟩, h6.step v e3.ref⟩, ?_⟩
    simp only [Int.toNat_natCast]
    omega

/-! ### its search -/
theorem rIndexX (N : Nat) (l : List Int) (n : Int) (hN : l.length < N) : calqueref09_index N l n = some (if n ∈ l then (l.idxOf n : Int) else -1) := by
  unfold calqueref09_index
  have hst : ∀ i (hi : i < l.length), calqueref09_index_b1 N l n (i : Int) = some (if l[i] = n then .inr (.inr (i : Int)) else .inl ((i : Int) + 1)) := by
    intro i hi
    simp only [calqueref09_index_b1]
    rw [cond_pos (by omega), idx_lt l hi]
    simp only [Option.bind_some]
    rw [cond_beq]
    by_cases e : l[i] = n
    · rw [if_pos e, if_pos e]
    · rw [if_neg e, if_neg e]
  by_cases hm : n ∈ l
  · have hlt := List.idxOf_lt_length_of_mem hm
    have hget := List.getElem_idxOf hlt
    rw [if_pos hm, iter_from (fun i => (i : Int)) (l.idxOf n) 0 (.inr (l.idxOf n : Int)) rfl ?_ ?_ N (by omega)]
    · rfl
    · intro i hi
      rw [hst i (by omega), if_neg]
      · rfl
      · intro e
        have := List.not_of_lt_findIdx (show i < List.findIdx (· == n) l from hi)
        simp at this
        exact this e
    · rw [hst _ hlt, if_pos hget]
  · rw [if_neg hm, iter_from (fun i => (i : Int)) l.length 0 (.inl ()) rfl ?_ ?_ N (by omega)]
    · rfl
    · intro i hi
      rw [hst i hi, if_neg]
      · rfl
      · intro e; exact hm (e ▸ List.getElem_mem hi)
    · simp only [calqueref09_index_b1]
      rw [cond_neg (by omega)]

theorem idxOf_ints (l : List Nat) (a : Nat) : (ints l).idxOf (a : Int) = l.idxOf a := by
  induction l with
  | nil => rfl
  | cons x l ih =>
    have e : ints (x :: l) = (x : Int) :: ints l := rfl
    rw [e, List.idxOf_cons, List.idxOf_cons, ih]
    by_cases h : x = a
    · subst h; simp
    · have h1 : ((x : Int) == (a : Int)) = false := by simp; omega
      have h2 : (x == a) = false := by simpa using h
      rw [h1, h2]
theorem mem_ints (l : List Nat) (a : Nat) : (a : Int) ∈ ints l ↔ a ∈ l := by
  unfold ints
  rw [List.mem_map]
  constructor
  · rintro ⟨x, h, e⟩
    have : x = a := by omega
    rw [← this]; exact h
  · intro h; exact ⟨a, h, rfl⟩

section
variable {d : DFA} {g : Nat → Nat}
/-- A row as far as the search has numbered it. -/
def RowTo (succ : Nat → Nat → Nat) (key : Nat → Nat) (F : List Nat) (y c : Nat) (row : List Int) : Prop := row.length = c ∧ ∀ e, e < c → row[e]? = some (num key F (succ y e) : Int) ∧ key (succ y e) ∈ F.map key
theorem RowTo.next {succ : Nat → Nat → Nat} {key : Nat → Nat} {F : List Nat} {y c : Nat} {row : List Int} (h : RowTo succ key F y c row) : RowTo succ key (fnd succ key F y c) y (c + 1) (row ++ [(num key (fnd succ key F y c) (succ y c) : Int)]) := by
  refine ⟨by simp [h.1], fun e he => ?_⟩
  by_cases e' : e = c
  · subst e'
    refine ⟨?_, fnd_new F y e⟩
    rw [List.getElem?_append_right (by have := h.1; omega)]
    simp [h.1]
  · obtain ⟨h1, h2⟩ := h.2 e (by omega)
    refine ⟨?_, fnd_mem h2⟩
    rw [List.getElem?_append_left (by have := h.1; omega), h1, num_fnd h2]
/-- The rows that are written stay as they are when more is found. -/
structure Rows (succ : Nat → Nat → Nat) (key : Nat → Nat) (F : List Nat) (i : Nat) (rows : List (List Int)) : Prop where
  len : rows.length = i
  row : ∀ j y, j < i → F[j]? = some y → ∃ row, rows[j]? = some row ∧ RowTo succ key F y 11 row
theorem Rows.fnd {succ : Nat → Nat → Nat} {key : Nat → Nat} {F : List Nat} {i : Nat} {rows : List (List Int)} (h : Rows succ key F i rows) (hi : i ≤ F.length) (y c : Nat) : Rows succ key (fnd succ key F y c) i rows := by
  refine ⟨h.len, fun j z hj hz => ?_⟩
  have hjl : j < F.length := by omega
  have e : F[j]? = some F[j] := List.getElem?_eq_getElem hjl
  have := fnd_get (succ := succ) (key := key) (y := y) (c := c) e
  rw [hz] at this
  cases this
  obtain ⟨row, h1, h2⟩ := h.row j _ hj e
  refine ⟨row, h1, h2.1, fun e' he => ?_⟩
  obtain ⟨h3, h4⟩ := h2.2 e' he
  exact ⟨by rw [h3, num_fnd h4], fnd_mem h4⟩
theorem Rows.add {succ : Nat → Nat → Nat} {key : Nat → Nat} {F : List Nat} {i y : Nat} {rows : List (List Int)} {row : List Int} (h : Rows succ key F i rows) (hy : F[i]? = some y) (hr : RowTo succ key F y 11 row) : Rows succ key F (i + 1) (rows ++ [row]) := by
  refine ⟨by simp [h.len], fun j z hj hz => ?_⟩
  by_cases e : j = i
  · subst e
    rw [hy] at hz; cases hz
    exact ⟨row, by rw [List.getElem?_append_right (by have := h.len; omega)]; simp [h.len], hr⟩
  · obtain ⟨r, h1, h2⟩ := h.row j z (by omega) hz
    exact ⟨r, by rw [List.getElem?_append_left (by have := h.len; omega)]; exact h1, h2⟩
theorem Rows.found {succ : Nat → Nat → Nat} {key : Nat → Nat} {F : List Nat} {R : DFA} (h : Rows succ key F F.length R.Next) (h2 : R.Accept.length = F.length) (h3 : R.Start = 0) : Found (succ := succ) (key := key) F R :=
  ⟨h.len, h2, h3, fun i y hy => by
    obtain ⟨row, g1, g2⟩ := h.row i y (get_lt hy) hy
    exact ⟨row, g1, g2.1, fun c hc => (g2.2 c hc).1⟩⟩

abbrev SeaG (d : DFA) (g : Nat → Nat) (F : List Nat) (P : Nat) : Prop := Sea (stp d) g (st0 d) (fun a => a < sz d) F P

theorem rMin_in (v : WF d) (M : Nat) (hM : sz d + 12 ≤ M) {l : List Int} (hl : Lab (sz d) l g) (hg : ∀ j, j < sz d → g j < sz d) {i y : Nat} {F : List Nat} (hF : F[i]? = some y) (hS : SeaG d g F (11 * i)) {rows : List (List Int)} (hR : Rows (stp d) g F i rows) (N : Nat) (hN : 12 ≤ N) :
    ∃ o, iter (fun s => calqueref09_minimal_b2 M d l (i : Int) s.1 s.2.1 s.2.2.1 s.2.2.2) N (ints (F.map g), ints F, [], 0) = some o ∧
      ∃ F' row, o = (ints (F'.map g), ints F', row) ∧ F'[i]? = some y ∧ SeaG d g F' (11 * i + 11) ∧ Rows (stp d) g F' i rows ∧ RowTo (stp d) g F' y 11 row ∧ (∀ j z : Nat, F[j]? = some z → F'[j]? = some z) := by
  refine iter_ind (fun c s => ∃ F' row, s = (ints (F'.map g), ints F', row, (c : Int)) ∧ F'[i]? = some y ∧ SeaG d g F' (11 * i + c) ∧ Rows (stp d) g F' i rows ∧ RowTo (stp d) g F' y c row ∧ (∀ j z : Nat, F[j]? = some z → F'[j]? = some z)) 11 _ ?_ ?_ N _ (by omega)
    ⟨F, [], rfl, hF, hS, hR, ⟨rfl, fun e he => absurd he (Nat.not_lt_zero e)⟩, fun _ _ h => h⟩
  · rintro c s hc ⟨F', row, rfl, hy, hs, hr, hrow, hext⟩
    have hys := hs.ok y (List.mem_of_getElem? hy)
    obtain ⟨r, h1, h2, h3⟩ := v.step hys hc
    have hnext := hs.next (y := y) (fun a c ha hc => v.stp_lt ha hc) (by rw [show (11 * i + c) / 11 = i by omega]; exact hy)
    rw [show (11 * i + c) % 11 = c by omega] at hnext
    have hl' := hs.len_le (B := sz d) (fun a ha => hg a ha)
    have hmost := v.most
    have hrl := hrow.1
    simp only [calqueref09_minimal_b2]
    rw [cond_pos (by omega), ints_get hy]
    simp only [Option.bind_some]
    rw [idx_some h1]
    simp only [Option.bind_some]
    rw [idx_some h2]
    simp only [Option.bind_some]
    rw [idx_some (hl.2 _ h3)]
    simp only [Option.bind_some]
    rw [rIndexX M _ _ (by rw [ints_len, List.length_map]; omega)]
    simp only [Option.bind_some, mem_ints, idxOf_ints]
    by_cases hm : g (stp d y c) ∈ F'.map g
    · rw [if_pos hm, cond_neg (by omega)]
      simp only [Option.bind_some]
      rw [app_some (by simp; omega)]
      simp only [Option.bind_some]
      have hf : fnd (stp d) g F' y c = F' := by unfold fnd; rw [if_pos hm]
      have hrn := hrow.next
      rw [hf] at hrn hnext
      exact ⟨_, rfl, F', _, by simp; rfl, hy, hnext, hr, hrn, hext⟩
    · rw [if_neg hm, cond_pos (by omega)]
      rw [ints_app (by rw [List.length_map]; unfold sz at hl'; omega)]
      simp only [Option.bind_some]
      rw [ints_app (by unfold sz at hl'; omega)]
      simp only [Option.bind_some, ints_len, List.length_map]
      rw [app_some (by simp; omega)]
      simp only [Option.bind_some]
      have hf : fnd (stp d) g F' y c = F' ++ [stp d y c] := by unfold fnd; rw [if_neg hm]
      have hrn := hrow.next
      rw [num_fnd_new hm] at hrn
      refine ⟨_, rfl, fnd (stp d) g F' y c, _, by rw [hf]; simp, fnd_get hy, hnext, hr.fnd (by have := get_lt hy; omega) y c, hrn, fun j z hz => fnd_get (hext j z hz)⟩
  · rintro s ⟨F', row, rfl, hy, hs, hr, hrow, hext⟩
    simp only [calqueref09_minimal_b2]
    rw [cond_neg (by omega)]
    exact ⟨_, rfl, F', row, rfl, hy, hs, hr, hrow, hext⟩

theorem rMinimal (d : DFA) (v : WF d) (N : Nat) (hN : sz d + 12 < N) : ∃ R, calqueref09_minimal N d = some R ∧ MinOk d R := by
  have hmost := v.most
  obtain ⟨l, n, g, h1, h2, h3, h4, h5⟩ := rClasses v N hN
  have hg : ∀ j, j < sz d → g j < sz d := fun j hj => by have := h4 j hj; omega
  unfold calqueref09_minimal
  rw [h1]
  simp only [Option.bind_some]
  rw [v.st0_eq, idx_some (h2.2 _ v.st0_lt)]
  simp only [Option.bind_some]
  suffices h : ∃ o, iter (fun s => calqueref09_minimal_b1 N d l s.1 s.2.1 s.2.2.1 s.2.2.2) N (ints ([st0 d].map g), ints [st0 d], 0, ⟨0, [], []⟩) = some o ∧
      ∃ F, SeaG d g F (11 * F.length) ∧ Found (succ := stp d) (key := g) F o ∧ ∀ i y, F[i]? = some y → o.Accept[i]? = some (Acc d y) by
    obtain ⟨R, e1, F, e2, e3, e4⟩ := h
    have e1' : iter (fun s => calqueref09_minimal_b1 N d l s.1 s.2.1 s.2.2.1 s.2.2.2) N ([((g (st0 d) : Nat) : Int)], [((st0 d : Nat) : Int)], 0, ⟨0, [], []⟩) = some R := e1
    rw [e1']
    have hl := e2.len_le (B := sz d) (fun a ha => hg a ha)
    have hsim : ∀ {i y}, F[i]? = some y → Sim R i d y := fun {i y} hy =>
      e3.sim e2 (g := fun a => a) (fun i y hy => by unfold Acc; rw [e4 i y hy]; rfl) (fun a b ha hb e => (h3 a b ha hb).1 e) (fun a c h hc => v.stp_lt h hc) (fun _ _ _ _ => rfl) hy
    refine ⟨R, rfl, ⟨e3.wf e2 (by unfold sz at hl; omega), e3.numbered e2, fun s t hs ht h => ?_⟩, ?_, ?_⟩
    · have hs' : s < F.length := by rw [← e3.len]; exact hs
      have ht' : t < F.length := by rw [← e3.len]; exact ht
      have es : F[s]? = some F[s] := List.getElem?_eq_getElem hs'
      have et : F[t]? = some F[t] := List.getElem?_eq_getElem ht'
      have os := e2.ok _ (List.mem_of_getElem? es)
      have ot := e2.ok _ (List.mem_of_getElem? et)
      have := (h3 _ _ os ot).2 (((hsim es).symm.trans h).trans (hsim et))
      exact (List.getElem?_inj (by rw [List.length_map]; exact hs') e2.nod).1 (by rw [List.getElem?_map, List.getElem?_map, es, et]; simp [this])
    · have es : st0 R = 0 := by show R.Start.toNat = 0; rw [e3.st]; rfl
      rw [es]; exact hsim e2.hd
    · have : sz R = F.length := e3.len
      omega
  refine iter_meas (fun s => ∃ F i R, s = (ints (F.map g), ints F, ((i : Nat) : Int), R) ∧ i ≤ F.length ∧ SeaG d g F (11 * i) ∧ Rows (stp d) g F i R.Next ∧ R.Start = 0 ∧ R.Accept.length = i ∧ ∀ j y, j < i → F[j]? = some y → R.Accept[j]? = some (Acc d y)) (fun s => sz d - s.2.2.1.toNat) _ ?_ N _ (by simp; omega)
    ⟨[st0 d], 0, ⟨0, [], []⟩, rfl, by simp, Sea.start v.st0_lt, ⟨rfl, fun j y hj => absurd hj (Nat.not_lt_zero j)⟩, rfl, rfl, fun j y hj => absurd hj (Nat.not_lt_zero j)⟩
  rintro s ⟨F, i, R, rfl, hi, hs, hr, h0, ha, hac⟩
  have hl := hs.len_le (B := sz d) (fun a ha => hg a ha)
  simp only [calqueref09_minimal_b1]
  by_cases hlt : i < F.length
  · left
    have hy : F[i]? = some F[i] := List.getElem?_eq_getElem hlt
    have hys := hs.ok _ (List.mem_of_getElem? hy)
    rw [cond_pos (by rw [ints_len, List.length_map]; omega)]
    obtain ⟨o, e1, F', row, rfl, e2, e3, e4, e5, e6⟩ := rMin_in v N (by omega) h2 hg hy hs hr N (by omega)
    rw [e1]
    have hrl := e4.len
    simp only [Option.bind_some]
    rw [app_some (by unfold sz at hl; simp; omega)]
    simp only [Option.bind_some]
    rw [ints_get e2]
    simp only [Option.bind_some]
    rw [idx_some (v.Acc_some hys)]
    simp only [Option.bind_some]
    rw [app_some (by unfold sz at hl; simp; omega)]
    simp only [Option.bind_some]
    refine ⟨_, rfl, ⟨F', i + 1, ⟨R.Start, R.Next ++ [row], R.Accept ++ [Acc d F[i]]⟩, by simp, by have := get_lt e2; omega, by rw [show 11 * (i + 1) = 11 * i + 11 by omega]; exact e3, e4.add e2 e5, h0, by simp [ha], fun j y hj hy' => ?_⟩, ?_⟩
    · simp only []
      by_cases e : j = i
      · subst e
        rw [e2] at hy'; cases hy'
        rw [List.getElem?_append_right (by omega)]
        simp [ha]
      · have ej : F[j]? = some F[j] := List.getElem?_eq_getElem (by omega)
        have := e6 j _ ej
        rw [hy'] at this; cases this
        rw [List.getElem?_append_left (by omega)]
        exact hac j _ (by omega) ej
    · simp only []; omega
  · right
    have hi' : i = F.length := by omega
    subst hi'
    rw [cond_neg (by rw [ints_len, List.length_map]; omega)]
    exact ⟨_, rfl, F, hs, hr.found ha h0, fun i y hy => hac i y (get_lt hy) hy⟩
end
end Go.Proofs.Ytdlaobjbjmecnaa
