/- The pure laws of AutomatonRun: no program in sight. -/
import Derived.Test.YtdlaobjbjmecnaaExt09a
import Derived.KernelRfl
namespace Go.X

theorem iter_steps {σ β : Type} {body : σ → Option (σ ⊕ β)} (f : Nat → σ) (n : Nat) {b : β} (hs : ∀ i, i < n → body (f i) = some (.inl (f (i + 1)))) (hd : body (f n) = some (.inr b)) :
    ∀ N, n < N → iter body N (f 0) = some b := by
  have key : ∀ j k N, k + j = n → j < N → iter body N (f k) = some b := by
    intro j
    induction j with
    | zero =>
      intro k N hk hN
      obtain ⟨N, rfl⟩ : ∃ M, N = M + 1 := ⟨N - 1, by omega⟩
      have : k = n := by omega
      subst this
      simp only [iter, hd]
    | succ j ih =>
      intro k N hk hN
      obtain ⟨N, rfl⟩ : ∃ M, N = M + 1 := ⟨N - 1, by omega⟩
      simp only [iter, hs k (by omega)]
      exact ih (k + 1) N (by omega) (by omega)
  exact fun N hN => key n 0 N (by omega) hN

/-- The first index at which p fails. -/
theorem first_not {p : Nat → Prop} {n : Nat} (h : ¬ ∀ i, i < n → p i) : ∃ k, k < n ∧ ¬ p k ∧ ∀ i, i < k → p i := by
  induction n with
  | zero => exact absurd (fun i hi => absurd hi (Nat.not_lt_zero i)) h
  | succ n ih =>
    by_cases h' : ∀ i, i < n → p i
    · refine ⟨n, Nat.lt_succ_self n, fun hp => h fun i hi => ?_, h'⟩
      rcases Nat.lt_succ_iff_lt_or_eq.1 hi with h1 | rfl
      · exact h' i h1
      · exact hp
    · obtain ⟨k, h1, h2, h3⟩ := ih h'
      exact ⟨k, by omega, h2, h3⟩

theorem iter_all {β : Type} (n : Nat) (p : Nat → Prop) [Decidable (∀ i, i < n → p i)] (body : Int → Option (Int ⊕ (Unit ⊕ β))) (b : β)
    (hs : ∀ i, i < n → p i → body (i : Int) = some (.inl ((i : Int) + 1)))
    (hf : ∀ i, i < n → ¬ p i → body (i : Int) = some (.inr (.inr b)))
    (hd : body (n : Int) = some (.inr (.inl ()))) (N : Nat) (hN : n < N) : iter body N 0 = some (if ∀ i, i < n → p i then .inl () else .inr b) := by
  by_cases h : ∀ i, i < n → p i
  · rw [if_pos h]
    exact iter_steps (fun i => (i : Int)) n (fun i hi => by rw [hs i hi (h i hi)]; rfl) hd N hN
  · rw [if_neg h]
    obtain ⟨k, h1, h2, h3⟩ := first_not h
    exact iter_steps (fun i => (i : Int)) k (fun i hi => by rw [hs i (by omega) (h3 i hi)]; rfl) (hf k h1 h2) N (by omega)

theorem idx_nat {α : Type} (xs : List α) (i : Nat) : idx xs (i : Int) = xs[i]? := by
  unfold idx; rw [if_pos (by omega)]; simp
theorem idx_lt {α : Type} (xs : List α) {i : Nat} (h : i < xs.length) : idx xs (i : Int) = some xs[i] := by
  rw [idx_nat, List.getElem?_eq_getElem h]
theorem wrap64 {x : Int} (h : -9223372036854775808 ≤ x) (h' : x ≤ 9223372036854775807) : IntKind.wrap .i64 x = x := wrap_of (inR_i64.2 ⟨h, h'⟩)
theorem wrap8 {x : Int} (h : 0 ≤ x) (h' : x ≤ 255) : IntKind.wrap .u8 x = x := wrap_of (inR_u8.2 ⟨h, h'⟩)
theorem cond_pos {α : Type} {p : Prop} [Decidable p] (h : p) (a b : α) : (bif decide p then a else b) = a := by rw [decide_eq_true h]; rfl
theorem cond_neg {α : Type} {p : Prop} [Decidable p] (h : ¬ p) (a b : α) : (bif decide p then a else b) = b := by rw [decide_eq_false h]; rfl
theorem cond_dec {α : Type} (p : Prop) [Decidable p] (a b : α) : (bif decide p then a else b) = if p then a else b := by
  by_cases h : p
  · rw [if_pos h, cond_pos h]
  · rw [if_neg h, cond_neg h]
theorem cond_bne {α β : Type} [BEq β] [LawfulBEq β] [DecidableEq β] (x y : β) (a b : α) : (bif (x != y) then a else b) = if x = y then b else a := by
  by_cases h : x = y
  · subst h; simp
  · rw [if_neg h, show (x != y) = true by simp [h]]; rfl
theorem cond_beq {α β : Type} [BEq β] [LawfulBEq β] [DecidableEq β] (x y : β) (a b : α) : (bif (x == y) then a else b) = if x = y then a else b := by
  by_cases h : x = y
  · subst h; simp
  · rw [if_neg h, show (x == y) = false by simp [h]]; rfl

end Go.X
namespace Go.Proofs.Ytdlaobjbjmecnaa
open Go.X

theorem awake_true (n : Nat) : calquelaw09_awake (n + 100) = some true := by kernel_rfl

def OkRow (n : Nat) (row : List Int) : Prop := row.length = 11 ∧ ∀ c : Nat, c < 11 → ∃ x : Int, row[c]? = some x ∧ 0 ≤ x ∧ x < (n : Int)
structure ValidP (d : DFA) : Prop where
  one : 1 ≤ d.Next.length
  most : d.Next.length ≤ 2000
  acc : d.Accept.length = d.Next.length
  lo : 0 ≤ d.Start
  hi : d.Start < d.Next.length
  rows : ∀ i, i < d.Next.length → ∃ row, d.Next[i]? = some row ∧ OkRow d.Next.length row

open Classical in
theorem aValid_in (N : Nat) (hN : 12 ≤ N) (d : DFA) (row : List Int) (h : row.length = 11) :
    iter (fun s => automaton_Valid_b2 N d row s) N 0 = some (if ∀ c, c < 11 → ∃ x, row[c]? = some x ∧ 0 ≤ x ∧ x < (d.Next.length : Int) then .inl () else .inr false) := by
  refine iter_all 11 (fun c => ∃ x, row[c]? = some x ∧ 0 ≤ x ∧ x < (d.Next.length : Int)) _ false ?_ ?_ ?_ N (by omega)
  · rintro i hi ⟨x, h1, h2, h3⟩
    simp only [automaton_Valid_b2]
    rw [cond_pos (by omega), idx_nat, h1]
    simp only [Option.bind_some]
    rw [cond_neg (by omega), cond_neg (by omega)]
  · intro i hi hn
    simp only [automaton_Valid_b2]
    rw [cond_pos (by omega), idx_lt row (by omega)]
    simp only [Option.bind_some]
    by_cases h0 : row[i] < 0
    · rw [cond_pos h0]
    · rw [cond_neg h0]
      by_cases h1 : row[i] ≥ (d.Next.length : Int)
      · rw [cond_pos h1]
      · exact absurd ⟨row[i], by simp, by omega, by omega⟩ hn
  · simp only [automaton_Valid_b2]
    rw [cond_neg (by omega)]

open Classical in
theorem aValid (N : Nat) (d : DFA) (hN : 12 ≤ N) (hN' : d.Next.length < N) : automaton_Valid N d = some (decide (ValidP d)) := by
  have hno : ¬ ValidP d → decide (ValidP d) = false := fun h => decide_eq_false h
  unfold automaton_Valid
  by_cases h1 : (d.Next.length : Int) < 1
  · rw [cond_pos h1, hno (fun v => by have := v.one; omega)]
  rw [cond_neg h1]
  by_cases h2 : (d.Next.length : Int) > 2000
  · rw [cond_pos h2, hno (fun v => by have := v.most; omega)]
  rw [cond_neg h2, cond_bne]
  by_cases h3 : (d.Accept.length : Int) = (d.Next.length : Int)
  case neg => rw [if_neg h3, hno (fun v => by have := v.acc; omega)]
  rw [if_pos h3]
  by_cases h4 : d.Start < 0
  · rw [cond_pos h4, hno (fun v => by have := v.lo; omega)]
  rw [cond_neg h4]
  by_cases h5 : d.Start ≥ (d.Next.length : Int)
  · rw [cond_pos h5, hno (fun v => by have := v.hi; omega)]
  rw [cond_neg h5]
  rw [iter_all d.Next.length (fun i => ∃ row, d.Next[i]? = some row ∧ OkRow d.Next.length row) _ false ?_ ?_ ?_ N hN']
  · by_cases h : ∀ i, i < d.Next.length → ∃ row, d.Next[i]? = some row ∧ OkRow d.Next.length row
    · rw [if_pos h]
      simp only [Option.bind_some, Sum.elim_inl]
      rw [decide_eq_true]
      exact ⟨by omega, by omega, by omega, by omega, by omega, h⟩
    · rw [if_neg h]
      simp only [Option.bind_some, Sum.elim_inr]
      rw [hno (fun v => h v.rows)]
  · rintro i hi ⟨row, r1, r2, r3⟩
    simp only [automaton_Valid_b1]
    rw [cond_pos (by omega), idx_nat, r1]
    simp only [Option.bind_some]
    rw [cond_bne, if_pos (by omega), aValid_in N hN d row r2, if_pos r3]
    rfl
  · intro i hi hn
    simp only [automaton_Valid_b1]
    rw [cond_pos (by omega), idx_lt d.Next hi]
    simp only [Option.bind_some]
    rw [cond_bne]
    by_cases r2 : d.Next[i].length = 11
    · rw [if_pos (by omega), aValid_in N hN d _ r2, if_neg (fun r3 => hn ⟨d.Next[i], by simp, r2, r3⟩)]
      rfl
    · rw [if_neg (by omega)]
  · simp only [automaton_Valid_b1]
    rw [cond_neg (by omega)]

open Classical in
theorem rValid_in (N : Nat) (hN : 12 ≤ N) (d : DFA) (i : Nat) (row : List Int) (hr : d.Next[i]? = some row) (h : row.length = 11) :
    iter (fun s => calqueref09_Valid_b2 N d i s) N 0 = some (if ∀ c, c < 11 → ∃ x, row[c]? = some x ∧ 0 ≤ x ∧ x < (d.Next.length : Int) then .inl () else .inr false) := by
  refine iter_all 11 (fun c => ∃ x, row[c]? = some x ∧ 0 ≤ x ∧ x < (d.Next.length : Int)) _ false ?_ ?_ ?_ N (by omega)
  · rintro c hi ⟨x, h1, h2, h3⟩
    simp only [calqueref09_Valid_b2]
    rw [cond_pos (by omega), idx_nat, hr]
    simp only [Option.bind_some]
    rw [idx_nat, h1]
    simp only [Option.bind_some]
    rw [cond_neg (by omega), cond_neg (by omega)]
  · intro c hi hn
    simp only [calqueref09_Valid_b2]
    rw [cond_pos (by omega), idx_nat, hr]
    simp only [Option.bind_some]
    rw [idx_lt row (show c < row.length by omega)]
    simp only [Option.bind_some]
    by_cases h0 : row[c] < 0
    · rw [cond_pos h0]
    · rw [cond_neg h0]
      by_cases h1 : row[c] ≥ (d.Next.length : Int)
      · rw [cond_pos h1]
      · exact absurd ⟨row[c], by simp, by omega, by omega⟩ hn
  · simp only [calqueref09_Valid_b2]
    rw [cond_neg (by omega)]

open Classical in
theorem rValid (N : Nat) (d : DFA) (hN : 12 ≤ N) (hN' : d.Next.length < N) : calqueref09_Valid N d = some (decide (ValidP d)) := by
  have hno : ¬ ValidP d → decide (ValidP d) = false := fun h => decide_eq_false h
  unfold calqueref09_Valid
  by_cases h1 : (d.Next.length : Int) < 1
  · rw [cond_pos h1, hno (fun v => by have := v.one; omega)]
  rw [cond_neg h1]
  by_cases h2 : (d.Next.length : Int) > 2000
  · rw [cond_pos h2, hno (fun v => by have := v.most; omega)]
  rw [cond_neg h2, cond_bne]
  by_cases h3 : (d.Accept.length : Int) = (d.Next.length : Int)
  case neg => rw [if_neg h3, hno (fun v => by have := v.acc; omega)]
  rw [if_pos h3]
  by_cases h4 : d.Start < 0
  · rw [cond_pos h4, hno (fun v => by have := v.lo; omega)]
  rw [cond_neg h4]
  by_cases h5 : d.Start ≥ (d.Next.length : Int)
  · rw [cond_pos h5, hno (fun v => by have := v.hi; omega)]
  rw [cond_neg h5]
  rw [iter_all d.Next.length (fun i => ∃ row, d.Next[i]? = some row ∧ OkRow d.Next.length row) _ false ?_ ?_ ?_ N hN']
  · by_cases h : ∀ i, i < d.Next.length → ∃ row, d.Next[i]? = some row ∧ OkRow d.Next.length row
    · rw [if_pos h]
      simp only [Option.bind_some, Sum.elim_inl]
      rw [decide_eq_true]
      exact ⟨by omega, by omega, by omega, by omega, by omega, h⟩
    · rw [if_neg h]
      simp only [Option.bind_some, Sum.elim_inr]
      rw [hno (fun v => h v.rows)]
  · rintro i hi ⟨row, r1, r2, r3⟩
    simp only [calqueref09_Valid_b1]
    rw [cond_pos (by omega), idx_nat, r1]
    simp only [Option.bind_some]
    rw [cond_bne, if_pos (by omega), rValid_in N hN d i row r1 r2, if_pos r3]
    rfl
  · intro i hi hn
    simp only [calqueref09_Valid_b1]
    rw [cond_pos (by omega), idx_lt d.Next hi]
    simp only [Option.bind_some]
    rw [cond_bne]
    by_cases r2 : d.Next[i].length = 11
    · rw [if_pos (by omega), rValid_in N hN d i _ (by simp [hi]) r2, if_neg (fun r3 => hn ⟨d.Next[i], by simp, r2, r3⟩)]
      rfl
    · rw [if_neg (by omega)]
  · simp only [calqueref09_Valid_b1]
    rw [cond_neg (by omega)]

open Classical in
theorem few_some (N : Nat) (d : DFA) (n : Int) (hN' : d.Next.length < N) : ∃ b, calqueref09_Few N d n = some b := by
  unfold calqueref09_Few
  rw [iter_all d.Next.length (fun i => ∃ row, d.Next[i]? = some row ∧ row.length ≤ 22) _ false ?_ ?_ ?_ N hN']
  · split
    · simp only [Option.bind_some, Sum.elim_inl]
      rw [cond_dec]
      split <;> exact ⟨_, rfl⟩
    · exact ⟨_, rfl⟩
  · rintro i hi ⟨row, r1, r2⟩
    simp only [calqueref09_Few_b1]
    rw [cond_pos (by omega), idx_nat, r1]
    simp only [Option.bind_some]
    rw [cond_neg (by omega)]
  · intro i hi hn
    simp only [calqueref09_Few_b1]
    rw [cond_pos (by omega), idx_lt d.Next hi]
    simp only [Option.bind_some]
    rw [cond_pos]
    exact Int.not_le.1 fun h => hn ⟨d.Next[i], by simp, by omega⟩
  · simp only [calqueref09_Few_b1]
    rw [cond_neg (by omega)]

/-! ### Run -/
def sym (c : UInt8) : Option Nat := if c.toNat = 46 then some 10 else if 48 ≤ c.toNat ∧ c.toNat ≤ 57 then some (c.toNat - 48) else none
theorem sym_lt {c : UInt8} {k : Nat} (h : sym c = some k) : k < 11 := by
  unfold sym at h
  split at h
  · cases h; omega
  · split at h
    · cases h; omega
    · cases h

theorem aSym (N : Nat) (c : UInt8) : ∃ j : Int, automaton_symbol N (c.toNat : Int) = some (j, (sym c).isSome) ∧ ∀ k, sym c = some k → j = k := by
  have hc := c.toNat_lt
  unfold automaton_symbol sym
  rw [cond_beq]
  by_cases h : c.toNat = 46
  · rw [if_pos (by omega), if_pos h]
    exact ⟨10, rfl, fun k hk => by cases hk; rfl⟩
  rw [if_neg (by omega), if_neg h]
  by_cases h1 : 48 ≤ c.toNat
  · rw [cond_pos (by omega), wrap64 (by omega) (by omega)]
    by_cases h2 : c.toNat ≤ 57
    · rw [if_pos ⟨h1, h2⟩, decide_eq_true (by omega)]
      exact ⟨_, rfl, fun k hk => by cases hk; omega⟩
    · rw [if_neg (by omega), decide_eq_false (by omega)]
      exact ⟨_, rfl, fun k hk => by cases hk⟩
  · rw [cond_neg (by omega), if_neg (by omega)]
    exact ⟨_, rfl, fun k hk => by cases hk⟩

theorem rSym (N : Nat) (c : UInt8) : calqueref09_Symbol N (c.toNat : Int) = some (match sym c with | some k => (k : Int) | none => -1) := by
  have hc := c.toNat_lt
  unfold calqueref09_Symbol sym
  rw [cond_beq]
  by_cases h : c.toNat = 46
  · rw [if_pos (by omega), if_pos h]; rfl
  rw [if_neg (by omega), if_neg h]
  by_cases h1 : 48 ≤ c.toNat
  · rw [cond_neg (by omega)]
    by_cases h2 : c.toNat ≤ 57
    · rw [cond_neg (by omega), if_pos ⟨h1, h2⟩, wrap8 (by omega) (by omega)]
      simp only []
      congr 1; omega
    · rw [cond_pos (by omega), if_neg (by omega)]
  · rw [cond_pos (by omega), if_neg (by omega)]

/-- The state behind s and the symbol c. -/
def stp (d : DFA) (s c : Nat) : Nat := ((d.Next[s]?.getD [])[c]?.getD 0).toNat
def go (d : DFA) : Nat → List UInt8 → Option Nat
  | s, [] => some s
  | s, c :: w => match sym c with
    | none => none
    | some k => go d (stp d s k) w
noncomputable def acc (d : DFA) (w : List UInt8) : Bool := match go d d.Start.toNat w with
  | none => false
  | some s => d.Accept[s]?.getD false

theorem ValidP.step {d : DFA} (v : ValidP d) {s c : Nat} (hs : s < d.Next.length) (hc : c < 11) :
    ∃ row, d.Next[s]? = some row ∧ row[c]? = some (stp d s c : Int) ∧ stp d s c < d.Next.length := by
  obtain ⟨row, h1, h2, h3⟩ := v.rows s hs
  obtain ⟨x, h4, h5, h6⟩ := h3 c hc
  refine ⟨row, h1, ?_, ?_⟩ <;> simp only [stp, h1, h4, Option.getD_some]
  · rw [Int.toNat_of_nonneg h5]
  · omega

theorem ValidP.go_lt {d : DFA} (v : ValidP d) : ∀ (w : List UInt8) {s t : Nat}, s < d.Next.length → go d s w = some t → t < d.Next.length
  | [], s, t, hs, h => by simp only [go] at h; cases h; exact hs
  | c :: w, s, t, hs, h => by
    simp only [go] at h
    cases hc : sym c with
    | none => rw [hc] at h; cases h
    | some k =>
      rw [hc] at h
      obtain ⟨_, _, _, h3⟩ := v.step hs (sym_lt hc)
      exact v.go_lt w h3 h

def outc : Option Nat → Int ⊕ Bool
  | none => .inr false
  | some s => .inl (s : Int)

theorem aRun_loop {d : DFA} (v : ValidP d) (M : Nat) (word : List UInt8) : ∀ (w : List UInt8) (pre : Nat) (s N : Nat), word.drop pre = w → s < d.Next.length → pre ≤ word.length → w.length < N →
    iter (fun s => automaton_Run_b1 M d word s.1 s.2) N ((s : Int), (pre : Int)) = some (outc (go d s w))
  | [], pre, s, N, hw, hs, hp, hN => by
    obtain ⟨N, rfl⟩ : ∃ K, N = K + 1 := ⟨N - 1, by omega⟩
    have : word.length ≤ pre := by simpa using hw
    simp only [iter, automaton_Run_b1]
    rw [cond_neg (by omega)]
    rfl
  | c :: w, pre, s, N, hw, hs, hp, hN => by
    obtain ⟨N, rfl⟩ : ∃ K, N = K + 1 := ⟨N - 1, by omega⟩
    have hlt : pre < word.length := by
      have := congrArg List.length hw
      simp at this; omega
    have hc : word[pre]? = some c := by
      have := congrArg (fun l => l[0]?) hw
      simpa using this
    have hw' : word.drop (pre + 1) = w := by
      rw [← List.drop_drop, hw]; rfl
    simp only [List.length_cons] at hN
    simp only [iter, automaton_Run_b1]
    rw [cond_pos (by omega), idx_nat, hc]
    simp only [Option.bind_some]
    obtain ⟨j, hj, hk⟩ := aSym M c
    rw [hj]
    simp only [Option.bind_some]
    cases hsy : sym c with
    | none => simp only [go, hsy]; rfl
    | some k =>
      have := hk k hsy
      subst this
      obtain ⟨row, h1, h2, h3⟩ := v.step hs (sym_lt hsy)
      simp only [Option.isSome_some, Bool.not_true, cond_false]
      rw [idx_nat, h1]
      simp only [Option.bind_some]
      rw [idx_nat, h2]
      simp only [Option.bind_some, go, hsy]
      exact aRun_loop v M word w (pre + 1) _ N hw' h3 (by omega) (by omega)

theorem rRun_loop {d : DFA} (v : ValidP d) (M : Nat) (word : List UInt8) : ∀ (w : List UInt8) (pre : Nat) (s N : Nat), word.drop pre = w → s < d.Next.length → pre ≤ word.length → w.length < N →
    iter (fun s => calqueref09_Run_b1 M d word s.1 s.2) N ((s : Int), (pre : Int)) = some (outc (go d s w))
  | [], pre, s, N, hw, hs, hp, hN => by
    obtain ⟨N, rfl⟩ : ∃ K, N = K + 1 := ⟨N - 1, by omega⟩
    have : word.length ≤ pre := by simpa using hw
    simp only [iter, calqueref09_Run_b1]
    rw [cond_neg (by omega)]
    rfl
  | c :: w, pre, s, N, hw, hs, hp, hN => by
    obtain ⟨N, rfl⟩ : ∃ K, N = K + 1 := ⟨N - 1, by omega⟩
    have hlt : pre < word.length := by
      have := congrArg List.length hw
      simp at this; omega
    have hc : word[pre]? = some c := by
      have := congrArg (fun l => l[0]?) hw
      simpa using this
    have hw' : word.drop (pre + 1) = w := by
      rw [← List.drop_drop, hw]; rfl
    simp only [List.length_cons] at hN
    simp only [iter, calqueref09_Run_b1]
    rw [cond_pos (by omega), idx_nat, hc]
    simp only [Option.bind_some]
    rw [rSym]
    simp only [Option.bind_some]
    cases hsy : sym c with
    | none => simp only [go, hsy]; rfl
    | some k =>
      obtain ⟨row, h1, h2, h3⟩ := v.step hs (sym_lt hsy)
      simp only []
      rw [cond_neg (by omega), idx_nat, h1]
      simp only [Option.bind_some]
      rw [idx_nat, h2]
      simp only [Option.bind_some, go, hsy]
      exact rRun_loop v M word w (pre + 1) _ N hw' h3 (by omega) (by omega)

open Classical in
theorem aRun (N : Nat) (d : DFA) (w : List UInt8) (hN : 12 ≤ N) (hN' : d.Next.length < N) (hw : w.length < N) : automaton_Run N d w = some (decide (ValidP d) && acc d w) := by
  unfold automaton_Run
  rw [aValid N d hN hN']
  by_cases v : ValidP d
  · have hst : d.Start = (d.Start.toNat : Int) := (Int.toNat_of_nonneg v.lo).symm
    have hs : d.Start.toNat < d.Next.length := by have := v.hi; omega
    rw [decide_eq_true v]
    simp only [Option.bind_some, Bool.not_true, cond_false, Bool.true_and]
    have := aRun_loop v N w w 0 d.Start.toNat N (by simp) hs (by omega) hw
    rw [hst]
    rw [show ((0 : Nat) : Int) = 0 from rfl] at this
    rw [this]
    simp only [Option.bind_some, acc]
    cases hg : go d d.Start.toNat w with
    | none => rfl
    | some t =>
      have ht := v.go_lt w hs hg
      simp only [outc, Sum.elim_inl]
      rw [idx_lt _ (by rw [v.acc]; exact ht)]
      simp [v.acc, ht]
  · rw [decide_eq_false v]; rfl

open Classical in
theorem rRun (N : Nat) (d : DFA) (w : List UInt8) (hN : 12 ≤ N) (hN' : d.Next.length < N) (hw : w.length < N) : calqueref09_Run N d w = some (decide (ValidP d) && acc d w) := by
  unfold calqueref09_Run
  rw [rValid N d hN hN']
  by_cases v : ValidP d
  · have hst : d.Start = (d.Start.toNat : Int) := (Int.toNat_of_nonneg v.lo).symm
    have hs : d.Start.toNat < d.Next.length := by have := v.hi; omega
    rw [decide_eq_true v]
    simp only [Option.bind_some, Bool.not_true, cond_false, Bool.true_and]
    have := rRun_loop v N w w 0 d.Start.toNat N (by simp) hs (by omega) hw
    rw [hst]
    rw [show ((0 : Nat) : Int) = 0 from rfl] at this
    rw [this]
    simp only [Option.bind_some, acc]
    cases hg : go d d.Start.toNat w with
    | none => rfl
    | some t =>
      have ht := v.go_lt w hs hg
      simp only [outc, Sum.elim_inl]
      rw [idx_lt _ (by rw [v.acc]; exact ht)]
      simp [v.acc, ht]
  · rw [decide_eq_false v]; rfl

theorem automatonRun_pure (d : DFA) (w : List UInt8) : ∃ N, calquelaw09_AutomatonRun N d w = some true := by
  refine ⟨(d.Next.length + w.length + 1) + 100, ?_⟩
  unfold calquelaw09_AutomatonRun
  rw [awake_true]
  obtain ⟨b, hb⟩ := few_some (d.Next.length + w.length + 1 + 100) d 40 (by omega)
  rw [hb]
  simp only [Option.bind_some, Bool.not_true, cond_false]
  cases b
  · rfl
  simp only [Bool.not_true, cond_false, calquelaw09_to, Option.bind_some]
  rw [cond_dec]
  split
  · rfl
  rw [aValid _ d (by omega) (by omega), rValid _ d (by omega) (by omega), aRun _ d w (by omega) (by omega) (by omega), rRun _ d w (by omega) (by omega) (by omega)]
  simp only [Option.bind_some, beq_self_eq_true, cond_true]

end Go.Proofs.Ytdlaobjbjmecnaa
