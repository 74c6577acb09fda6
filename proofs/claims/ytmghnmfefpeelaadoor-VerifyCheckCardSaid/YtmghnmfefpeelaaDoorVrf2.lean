/- Chapter 34: Proper: the program's and the reference's are one function. -/
import Derived.Test.YtmghnmfefpeelaaDoorVrf1
set_option linter.unusedVariables false
namespace Go.Proofs.YtmghnmfefpeelaaDoor
open Go.X

theorem app_some {α : Type} {xs ys : List α} (h : xs.length + ys.length ≤ 4294967296) : app xs ys = some (xs ++ ys) := by unfold app LIM; rw [if_pos h]

/-! ### runs along the first part of a list -/
theorem iter_tw {σ τ α β : Type} {body : τ → Option (τ ⊕ β)} (mkS : σ → Int → τ) (xs : List α) (p : α → Bool) (f : σ → α → σ ⊕ β) (fin : σ → β) (I : Nat → σ → Prop)
    (h1 : ∀ s (k : Nat) x, xs[k]? = some x → p x = true → I k s → body (mkS s k) = some (match f s x with | .inl s' => .inl (mkS s' ((k : Int) + 1)) | .inr b => .inr b) ∧ ∀ s', f s x = .inl s' → I (k + 1) s')
    (h1' : ∀ s (k : Nat) x, xs[k]? = some x → p x = false → I k s → body (mkS s k) = some (.inr (fin s)))
    (h2 : ∀ s, I xs.length s → body (mkS s xs.length) = some (.inr (fin s))) :
    ∀ N s (k : Nat), k ≤ xs.length → xs.length - k < N → I k s → iter body N (mkS s k) = some (run f fin s ((xs.drop k).takeWhile p)) := by
  have key : ∀ j k N s, k + j = xs.length → j < N → I k s → iter body N (mkS s (k : Int)) = some (run f fin s ((xs.drop k).takeWhile p)) := by
    intro j
    induction j with
    | zero =>
      intro k N s hk hN hI
      obtain ⟨N, rfl⟩ : ∃ M, N = M + 1 := ⟨N - 1, by omega⟩
      have e : xs.drop k = [] := List.drop_eq_nil_of_le (by omega)
      obtain rfl : k = xs.length := by omega
      rw [iter, h2 s hI, e]; rfl
    | succ j ih =>
      intro k N s hk hN hI
      obtain ⟨N, rfl⟩ : ∃ M, N = M + 1 := ⟨N - 1, by omega⟩
      have hlt : k < xs.length := by omega
      have e : xs.drop k = xs[k] :: xs.drop (k + 1) := List.drop_eq_getElem_cons hlt
      cases hp : p xs[k] with
      | false =>
        rw [iter, h1' s k _ (List.getElem?_eq_getElem hlt) hp hI, e, List.takeWhile_cons_of_neg (by simp [hp])]
        rfl
      | true =>
        obtain ⟨h3, h4⟩ := h1 s k _ (List.getElem?_eq_getElem hlt) hp hI
        rw [iter, h3, e, List.takeWhile_cons_of_pos hp]
        simp only [run]
        cases hf : f s xs[k] with
        | inl s' =>
          simp only
          rw [show ((k : Int) + 1) = ((k + 1 : Nat) : Int) by omega]
          exact ih (k + 1) N s' (by omega) (by omega) (h4 s' hf)
        | inr b => rfl
  intro N s k hk hN hI
  exact key (xs.length - k) k N s (by omega) hN hI

/-! ### the Cases behind a Switch -/
def isC (x : Ins) : Bool := x.Op == 11
def csl (l : List Ins) (i : Nat) : List Ins := (l.drop (i + 1)).takeWhile isC
theorem run_count {α : Type} (xs : List α) (k : Nat) : run (σ := Nat) (β := Int) (fun k _ => .inl (k + 1)) (fun k => (k : Int)) k xs = ((k + xs.length : Nat) : Int) := by
  induction xs generalizing k with
  | nil => rfl
  | cons x xs ih =>
    rw [run]
    simp only
    rw [ih]
    simp only [List.length_cons]
    omega
theorem tw_len {α : Type} (p : α → Bool) (l : List α) : (l.takeWhile p).length ≤ l.length := (List.takeWhile_sublist p).length_le
theorem tw_take {α : Type} (p : α → Bool) : ∀ l : List α, l.take (l.takeWhile p).length = l.takeWhile p
  | [] => rfl
  | x :: l => by
    cases h : p x with
    | true => rw [List.takeWhile_cons_of_pos h, List.length_cons, List.take_succ_cons, tw_take p l]
    | false => rw [List.takeWhile_cons_of_neg (by simp [h])]; rfl
theorem prog_cases {N : Nat} {c : Code} {i : Nat} (hi : i < c.Ins.length) (hl : c.Ins.length ≤ 1000) (hN : 3000 ≤ N) : verify_cases N c i = some (csl c.Ins i) := by
  unfold verify_cases
  have hw : IntKind.wrap .i64 ((i : Int) + 1) = ((i + 1 : Nat) : Int) := by rw [wrap_id (by omega) (by omega)]; omega
  have h := iter_tw (body := fun s => verify_cases_b1 N c s) (σ := Nat) (fun _ k => k) c.Ins isC (fun k _ => .inl (k + 1)) (fun k => (k : Int)) (fun k s => s = k) (fun s k x hk hp hs => ?_) (fun s k x hk hp hs => ?_) (fun s hs => ?_) N (i + 1) (i + 1) (by omega) (by omega) rfl
  · rw [hw, h, run_count]
    simp only [Option.bind_some]
    have hb := tw_len isC (c.Ins.drop (i + 1))
    rw [List.length_drop] at hb
    rw [slc_some (by omega) (by omega)]
    simp only [Option.bind_some]
    rw [show i + 1 + (List.takeWhile isC (List.drop (i + 1) c.Ins)).length - (i + 1) = (List.takeWhile isC (List.drop (i + 1) c.Ins)).length by omega, tw_take]
    rfl
  · subst hs
    constructor
    · show verify_cases_b1 N c s = _
      unfold verify_cases_b1
      simp only [dltx hk, cond_true, idx_some hk, Option.bind_some]
      rw [show (x.Op == 11) = true from hp]
      rfl
    · intro s' h
      cases h; rfl
  · subst hs
    show verify_cases_b1 N c s = _
    unfold verify_cases_b1
    simp only [dltx hk, cond_true, idx_some hk, Option.bind_some]
    rw [show (x.Op == 11) = false from hp]
    rfl
  · subst hs
    show verify_cases_b1 N c c.Ins.length = _
    unfold verify_cases_b1
    simp only [dnlt, cond_false]
/-- The keys of Cases, if they are keys, none twice. -/
def rk (B : Int) : List Str → List Ins → Option (List Str)
  | s, [] => some s
  | s, x :: xs => if key B x.S && !s.contains x.S then rk B (s ++ [x.S]) xs else none
def fK {γ : Type} (B : Int) (s : List Str) (x : Ins) : List Str ⊕ (γ ⊕ Bool) := if key B x.S && !s.contains x.S then .inl (s ++ [x.S]) else .inr (.inr false)
theorem run_rk {γ : Type} (B : Int) (g : List Str → γ) : ∀ (xs : List Ins) (s : List Str), run (fK B) (fun s => .inl (g s)) s xs = (match rk B s xs with | some s' => .inl (g s') | none => (.inr false : γ ⊕ Bool))
  | [], s => rfl
  | x :: xs, s => by
    rw [run, rk]
    unfold fK
    cases key B x.S && !s.contains x.S with
    | true =>
      simp only [if_true]
      exact run_rk B g xs (s ++ [x.S])
    | false => rfl
theorem rk_len (B : Int) : ∀ (xs : List Ins) (s t : List Str), rk B s xs = some t → t.length = s.length + xs.length
  | [], s, t, h => by rw [rk] at h; cases h; rfl
  | x :: xs, s, t, h => by
    rw [rk] at h
    split at h
    · have := rk_len B xs _ t h
      rw [this]; simp; omega
    · cases h
def oth : Str := [111, 116, 104, 101, 114]
def sel (B : Int) : Bool := decide (7 ≤ B) && decide (B ≤ 9)
def altr (l : List Ins) (i : Nat) (B : Int) : Bool := match rk B [] (csl l i) with | some s => decide (s.length ≤ 20) && s.contains oth | none => false
theorem sel_prog (N : Nat) (B : Int) : syntax_Selection N B = some (sel B) := by
  unfold syntax_Selection sel
  have e : decide (B ≥ 7) = decide (7 ≤ B) := rfl
  rw [e]
  cases decide (7 ≤ B) <;> rfl
theorem sel_ref (N : Nat) (B : Int) : calqueref26_Selection N B = some (sel B) := by
  unfold calqueref26_Selection sel
  by_cases h7 : B = 7
  · subst h7; rfl
  · by_cases h8 : B = 8
    · subst h8; rfl
    · by_cases h9 : B = 9
      · subst h9; rfl
      · rw [beq_eq_false_iff_ne.2 h7, beq_eq_false_iff_ne.2 h8, beq_eq_false_iff_ne.2 h9]
        simp only [cond_false, Option.some.injEq]
        by_cases h : 7 ≤ B
        · rw [decide_eq_false (show ¬ B ≤ 9 by omega), Bool.and_false]
        · rw [decide_eq_false h, Bool.false_and]
structure Cz (N : Nat) (c : Code) : Prop where
  n : 3000 ≤ N
  nl : c.Names.length ≤ 1000
  il : c.Ins.length ≤ 1000
  ns : ∀ x ∈ c.Names, x.length ≤ 1000
  is : ∀ x ∈ c.Ins, x.S.length ≤ 1000
theorem csl_mem {l : List Ins} {i : Nat} {x : Ins} (h : x ∈ csl l i) : x ∈ l := List.mem_of_mem_drop ((List.takeWhile_sublist isC).mem h)
theorem csl_len (l : List Ins) (i : Nat) : (csl l i).length ≤ l.length := by
  have := tw_len isC (l.drop (i + 1))
  rw [List.length_drop] at this
  unfold csl; omega
theorem prog_alt {N : Nat} {c : Code} (Z : Cz N c) {i : Nat} {y : Ins} (hy : c.Ins[i]? = some y) : verify_alternatives N c i = some (sel y.B && altr c.Ins i y.B) := by
  have hn := Z.n
  have hil := Z.il
  unfold verify_alternatives
  rw [prog_cases (getlt hy) Z.il Z.n, Option.bind_some]
  have hcl := csl_len c.Ins i
  have h := iter_list (body := fun s => verify_alternatives_b1 N c i (csl c.Ins i) s.1 s.2) (σ := List Str) (fun s k => (k, tt s)) (csl c.Ins i) (fK y.B) (fun s => .inl (tt s)) (fun k s => s.length = k) (fun s k x hk hs => ?_) (fun s hs => ?_) N [] (by omega) rfl
  · rw [show (([] : List (Str × Bool))) = tt [] from rfl, h, run_rk]
    unfold altr
    cases hr : rk y.B [] (csl c.Ins i) with
    | none => simp only [Option.bind_some, Sum.elim_inr, Bool.and_false]
    | some s =>
      have hsl := rk_len y.B _ _ _ hr
      simp only [List.length_nil, Nat.zero_add] at hsl
      simp only [Option.bind_some, Sum.elim_inl, idx_some hy, sel_prog, tt_get]
      cases sel y.B with
      | false => rfl
      | true =>
        simp only [cond_true, Bool.true_and]
        have e2 : decide ((((csl c.Ins i).length : Nat) : Int) ≤ 20) = decide (s.length ≤ 20) := decide_eq_decide.2 (by omega)
        rw [e2]
        by_cases h1 : 1 ≤ (csl c.Ins i).length
        · rw [decide_eq_true (show (((csl c.Ins i).length : Nat) : Int) ≥ 1 by omega), cond_true]
          cases decide (s.length ≤ 20) <;> rfl
        · rw [decide_eq_false (show ¬ (((csl c.Ins i).length : Nat) : Int) ≥ 1 by omega), cond_false]
          have : s = [] := List.eq_nil_of_length_eq_zero (by omega)
          subst this
          rfl
  · have hx : x ∈ c.Ins := csl_mem (List.mem_of_getElem? hk)
    constructor
    · show verify_alternatives_b1 N c i (csl c.Ins i) k (tt s) = _
      unfold verify_alternatives_b1
      simp only [dltx hk, cond_true, idx_some hk, idx_some hy, Option.bind_some, prog_key (Z.is x hx) Z.n, tt_get]
      unfold fK
      cases key y.B x.S with
      | false => rfl
      | true =>
        cases hc : s.contains x.S with
        | true => rfl
        | false =>
          have hkl := getlt hk
          simp only [Bool.not_true, cond_false, Bool.not_false, Bool.and_self, if_true]
          rw [tt_set hc (by omega)]
          rfl
    · intro s' h
      unfold fK at h
      split at h
      · cases h; simp [hs]
      · cases h
  · show verify_alternatives_b1 N c i (csl c.Ins i) (csl c.Ins i).length (tt s) = _
    unfold verify_alternatives_b1
    simp only [dnlt, cond_false]
theorem ref_alt {N : Nat} {c : Code} (Z : Cz N c) {i : Nat} {y : Ins} (hy : c.Ins[i]? = some y) : calqueref34_cases N c i = some (altr c.Ins i y.B) := by
  have hn := Z.n
  have hil := Z.il
  have hlt := getlt hy
  unfold calqueref34_cases
  have hw : IntKind.wrap .i64 ((i : Int) + 1) = ((i + 1 : Nat) : Int) := by rw [wrap_id (by omega) (by omega)]; omega
  have h := iter_tw (body := fun s => calqueref34_cases_b1 N c i s.1 s.2) (σ := List Str) (fun s k => (s, k)) c.Ins isC (fK y.B) (fun s => .inl s) (fun k s => s.length ≤ k) (fun s k x hk hp hs => ?_) (fun s k x hk hp hs => ?_) (fun s hs => ?_) N [] (i + 1) (by omega) (by omega) (by simp)
  · rw [hw, h, run_rk (γ := List Str) y.B (fun s => s)]
    unfold altr
    show (some (match rk y.B [] (csl c.Ins i) with | some s' => Sum.inl s' | none => Sum.inr false)).bind _ = _
    cases hr : rk y.B [] (csl c.Ins i) with
    | none => rfl
    | some s =>
      have hsl := rk_len y.B _ _ _ hr
      have hcl := csl_len c.Ins i
      simp only [List.length_nil, Nat.zero_add] at hsl
      have e2 : decide (((s.length : Nat) : Int) ≤ 20) = decide (s.length ≤ 20) := decide_eq_decide.2 (by omega)
      simp only [Option.bind_some, Sum.elim_inl, e2, In_eq s _ (show s.length < N by omega)]
      cases decide (s.length ≤ 20) <;> rfl
  · have hkl := getlt hk
    constructor
    · show calqueref34_cases_b1 N c i s k = _
      unfold calqueref34_cases_b1
      simp only [dltx hk, cond_true, idx_some hk, idx_some hy, Option.bind_some, ref_Key (Z.is x (List.mem_of_getElem? hk)) Z.n, In_eq s x.S (show s.length < N by omega)]
      rw [show (x.Op == 11) = true from hp, app_some (show s.length + [x.S].length ≤ 4294967296 by simp; omega)]
      unfold fK
      cases key y.B x.S with
      | false => rfl
      | true => cases s.contains x.S <;> rfl
    · intro s' h
      unfold fK at h
      split at h
      · cases h; simp; omega
      · cases h
  · show calqueref34_cases_b1 N c i s k = _
    unfold calqueref34_cases_b1
    simp only [dltx hk, cond_true, idx_some hk, Option.bind_some]
    rw [show (x.Op == 11) = false from hp]
    rfl
  · show calqueref34_cases_b1 N c i s c.Ins.length = _
    unfold calqueref34_cases_b1
    simp only [dnlt, cond_false]

/-! ### Proper -/
def argA (nn : Nat) (A : Int) : Bool := decide (0 ≤ A) && decide (A < nn)
def tgt (l : List Ins) (i : Nat) (A : Int) : Bool := decide ((i : Int) < A) && (decide (A < l.length) && (match l[A.toNat]? with | some x => x.Op != 11 | none => false))
def afterC (l : List Ins) (i : Nat) : Bool := decide (0 < i) && (match l[i - 1]? with | some x => x.Op == 10 || x.Op == 11 | none => false)
def prx (nn : Nat) (l : List Ins) (i : Nat) (x : Ins) : Bool :=
  if x.Op = 1 then x.A == 0 && (x.B == 0 && x.S != [])
  else if x.Op = 2 ∨ x.Op = 3 ∨ x.Op = 4 then x.A == 0 && (x.B == 0 && nam x.S)
  else if x.Op = 5 then argA nn x.A && (x.B == 0 && x.S == [])
  else if x.Op = 6 then argA nn x.A && (x.B == 0 && (x.S == [] || (x.S == [105, 110, 116, 101, 103, 101, 114] || x.S == [112, 101, 114, 99, 101, 110, 116])))
  else if x.Op = 7 ∨ x.Op = 9 then argA nn x.A && (x.B == 0 && nam x.S)
  else if x.Op = 8 then argA nn x.A && (x.B == 0 && skel x.S)
  else if x.Op = 10 then argA nn x.A && (x.S == [] && (sel x.B && altr l i x.B))
  else if x.Op = 11 then x.B == 0 && (afterC l i && tgt l i x.A)
  else if x.Op = 12 then x.B == 0 && (x.S == [] && tgt l i x.A)
  else if x.Op = 13 then x.A == 0 && (x.B == 0 && (x.S == [] && i + 1 == l.length))
  else false
def prp (nn : Nat) (l : List Ins) (i : Nat) : Bool := match l[i]? with | some x => prx nn l i x | none => false
theorem prog_tgt {N : Nat} {c : Code} (i : Nat) (A : Int) : verify_target N c i A = some (tgt c.Ins i A) := by
  unfold verify_target tgt
  by_cases h1 : A > (i : Int)
  · rw [decide_eq_true h1, cond_true]
    simp only [Bool.true_and]
    by_cases h2 : A < (c.Ins.length : Int)
    · rw [decide_eq_true h2, cond_true, Bool.true_and]
      have hlt : A.toNat < c.Ins.length := by omega
      have hA : A = (A.toNat : Int) := by omega
      have hi := idx_some (List.getElem?_eq_getElem hlt)
      rw [← hA] at hi
      rw [hi, List.getElem?_eq_getElem hlt]
      rfl
    · rw [decide_eq_false h2]; rfl
  · rw [decide_eq_false h1]; rfl
theorem op_cases (o : Int) : o = 1 ∨ o = 2 ∨ o = 3 ∨ o = 4 ∨ o = 5 ∨ o = 6 ∨ o = 7 ∨ o = 8 ∨ o = 9 ∨ o = 10 ∨ o = 11 ∨ o = 12 ∨ o = 13 ∨ o < 1 ∨ 13 < o := by omega
theorem prx_1 (nn : Nat) (l : List Ins) (i : Nat) (A B : Int) (S : Str) : prx nn l i (Ins.mk 1 A B S) = (A == 0 && (B == 0 && S != [])) := rfl
theorem prx_10 (nn : Nat) (l : List Ins) (i : Nat) (A B : Int) (S : Str) : prx nn l i (Ins.mk 10 A B S) = (argA nn A && (S == [] && (sel B && altr l i B))) := rfl
theorem prx_11 (nn : Nat) (l : List Ins) (i : Nat) (A B : Int) (S : Str) : prx nn l i (Ins.mk 11 A B S) = (B == 0 && (afterC l i && tgt l i A)) := rfl
theorem prx_12 (nn : Nat) (l : List Ins) (i : Nat) (A B : Int) (S : Str) : prx nn l i (Ins.mk 12 A B S) = (B == 0 && (S == [] && tgt l i A)) := rfl
theorem prx_13 (nn : Nat) (l : List Ins) (i : Nat) (A B : Int) (S : Str) : prx nn l i (Ins.mk 13 A B S) = (A == 0 && (B == 0 && (S == [] && i + 1 == l.length))) := rfl
theorem prx_2 (nn : Nat) (l : List Ins) (i : Nat) (A B : Int) (S : Str) : prx nn l i (Ins.mk 2 A B S) = (A == 0 && (B == 0 && nam S)) := rfl
theorem prx_3 (nn : Nat) (l : List Ins) (i : Nat) (A B : Int) (S : Str) : prx nn l i (Ins.mk 3 A B S) = (A == 0 && (B == 0 && nam S)) := rfl
theorem prx_4 (nn : Nat) (l : List Ins) (i : Nat) (A B : Int) (S : Str) : prx nn l i (Ins.mk 4 A B S) = (A == 0 && (B == 0 && nam S)) := rfl
theorem prx_5 (nn : Nat) (l : List Ins) (i : Nat) (A B : Int) (S : Str) : prx nn l i (Ins.mk 5 A B S) = (argA nn A && (B == 0 && S == [])) := rfl
theorem prx_6 (nn : Nat) (l : List Ins) (i : Nat) (A B : Int) (S : Str) : prx nn l i (Ins.mk 6 A B S) = (argA nn A && (B == 0 && (S == [] || (S == [105, 110, 116, 101, 103, 101, 114] || S == [112, 101, 114, 99, 101, 110, 116])))) := rfl
theorem prx_7 (nn : Nat) (l : List Ins) (i : Nat) (A B : Int) (S : Str) : prx nn l i (Ins.mk 7 A B S) = (argA nn A && (B == 0 && nam S)) := rfl
theorem prx_9 (nn : Nat) (l : List Ins) (i : Nat) (A B : Int) (S : Str) : prx nn l i (Ins.mk 9 A B S) = (argA nn A && (B == 0 && nam S)) := rfl
theorem prx_8 (nn : Nat) (l : List Ins) (i : Nat) (A B : Int) (S : Str) : prx nn l i (Ins.mk 8 A B S) = (argA nn A && (B == 0 && skel S)) := rfl
theorem prx_out (nn : Nat) (l : List Ins) (i : Nat) (x : Ins) (h : x.Op < 1 ∨ 13 < x.Op) : prx nn l i x = false := by
  unfold prx
  repeat (first | rw [if_neg (by omega)])
theorem arg_prog (nn : Nat) (A : Int) : (bif decide (A < 0) then some true else some (decide (A ≥ (nn : Int)))) = some (!argA nn A) := by
  unfold argA
  by_cases h : A < 0
  · rw [decide_eq_true h, decide_eq_false (show ¬ 0 ≤ A by omega)]; rfl
  · rw [decide_eq_false h, decide_eq_true (show 0 ≤ A by omega), cond_false, Bool.true_and]
    congr 1
    by_cases h2 : A < (nn : Int)
    · rw [decide_eq_true h2, decide_eq_false (show ¬ A ≥ (nn : Int) by omega)]; rfl
    · rw [decide_eq_false h2, decide_eq_true (show A ≥ (nn : Int) by omega)]; rfl
theorem prev_prog {c : Code} {i : Nat} (hi : i < c.Ins.length) {α : Type} (X : Option α) (Y : Option α) : (bif decide ((i : Int) > 0) then (idx c.Ins ((i : Int) - 1)).bind fun x66 => bif (x66.Op == 10) then X else (idx c.Ins ((i : Int) - 1)).bind fun x82 => bif (x82.Op == 11) then X else Y else Y) = bif afterC c.Ins i then X else Y := by
  unfold afterC
  by_cases h : 0 < i
  · rw [decide_eq_true (show (i : Int) > 0 by omega), cond_true, decide_eq_true h, Bool.true_and]
    have hlt : i - 1 < c.Ins.length := by omega
    rw [show ((i : Int) - 1) = ((i - 1 : Nat) : Int) by omega, idx_some (List.getElem?_eq_getElem hlt), List.getElem?_eq_getElem hlt]
    simp only [Option.bind_some]
    cases (c.Ins[i - 1].Op == 10) <;> cases (c.Ins[i - 1].Op == 11) <;> rfl
  · rw [decide_eq_false (show ¬ (i : Int) > 0 by omega), decide_eq_false h]; rfl
theorem last_prog {c : Code} {i : Nat} (hl : c.Ins.length ≤ 1000) : ((i : Int) == IntKind.wrap .i64 ((c.Ins.length : Int) - 1)) = (i + 1 == c.Ins.length) := by
  rw [wrap_id (by omega) (by omega), Bool.eq_iff_iff, beq_iff_eq, beq_iff_eq]
  omega
theorem fields_out (N : Nat) {o : Int} (h : o < 1 ∨ 13 < o) : verify_fields N o = some (Uses.mk false false false, false) := by
  unfold verify_fields
  by_cases h1 : o < 1
  · rw [decide_eq_true h1]; rfl
  · rw [decide_eq_false h1, decide_eq_true (show o > 13 by omega)]; rfl
theorem prog_Proper_at {N : Nat} {c : Code} (Z : Cz N c) {i : Nat} {x : Ins} (hx : c.Ins[i]? = some x) : verify_Proper N c i = some (prx c.Names.length c.Ins i x) := by
  have hn := Z.n
  have hlt := getlt hx
  have hS := Z.is x (List.mem_of_getElem? hx)
  unfold verify_Proper
  rw [decide_eq_false (show ¬ (i : Int) < 0 by omega), cond_false, decide_eq_false (show ¬ (i : Int) ≥ (c.Ins.length : Int) by omega), cond_false, idx_some hx, Option.bind_some]
  have hnam := prog_Name (N := N) (s := x.S) (by omega)
  have hsk := prog_skel (N := N) (s := x.S) (by omega)
  have halt := prog_alt Z hx
  have hprev := fun (X Y : Option Bool) => prev_prog (c := c) (i := i) hlt X Y
  have harg := arg_prog c.Names.length x.A
  have hlast := last_prog (c := c) (i := i) Z.il
  have hsel : (x.S != []) = !(x.S == []) := rfl
  have hA : (x.A != 0) = !(x.A == 0) := rfl
  have hB : (x.B != 0) = !(x.B == 0) := rfl
  obtain ⟨o, A, B, S⟩ := x
  simp only at hnam hsk halt harg hsel hA hB
  rcases op_cases o with h | h | h | h | h | h | h | h | h | h | h | h | h | h
  · subst h
    show (bif (A != 0) then some true else bif (B != 0) then some true else some false).bind (fun o28 => bif o28 then some false else some (S != [])) = some (prx c.Names.length c.Ins i (Ins.mk 1 A B S))
    rw [prx_1]
    rw [hA, hB]
    cases (A == 0) <;> cases (B == 0) <;> rfl
  · subst h
    show (bif (A != 0) then some true else bif (B != 0) then some true else some false).bind (fun o28 => bif o28 then some false else (token_Name N S).bind fun r => some r) = some (prx c.Names.length c.Ins i (Ins.mk 2 A B S))
    rw [prx_2]
    rw [hA, hB, hnam]
    cases (A == 0) <;> cases (B == 0) <;> rfl
  · subst h
    show (bif (A != 0) then some true else bif (B != 0) then some true else some false).bind (fun o28 => bif o28 then some false else (token_Name N S).bind fun r => some r) = some (prx c.Names.length c.Ins i (Ins.mk 3 A B S))
    rw [prx_3]
    rw [hA, hB, hnam]
    cases (A == 0) <;> cases (B == 0) <;> rfl
  · subst h
    show (bif (A != 0) then some true else bif (B != 0) then some true else some false).bind (fun o28 => bif o28 then some false else (token_Name N S).bind fun r => some r) = some (prx c.Names.length c.Ins i (Ins.mk 4 A B S))
    rw [prx_4]
    rw [hA, hB, hnam]
    cases (A == 0) <;> cases (B == 0) <;> rfl
  · subst h
    show (bif (B != 0) then some true else some (S != [])).bind (fun o28 => bif o28 then some false else (bif decide (A < 0) then some true else some (decide (A ≥ (c.Names.length : Int)))).bind fun o41 => bif o41 then some false else some true) = some (prx c.Names.length c.Ins i (Ins.mk 5 A B S))
    rw [prx_5]
    rw [harg, hB, hsel]
    cases argA c.Names.length A <;> cases (B == 0) <;> cases (S == []) <;> rfl
  · subst h
    show (bif (B != 0) then some true else some false).bind (fun o28 => bif o28 then some false else (bif decide (A < 0) then some true else some (decide (A ≥ (c.Names.length : Int)))).bind fun o41 => bif o41 then some false else bif (S == ([])) then some true else bif (S == ([105, 110, 116, 101, 103, 101, 114])) then some true else some (S == ([112, 101, 114, 99, 101, 110, 116]))) = some (prx c.Names.length c.Ins i (Ins.mk 6 A B S))
    rw [prx_6]
    rw [harg, hB]
    cases argA c.Names.length A <;> cases (B == 0) <;> cases (S == []) <;> cases (S == ([105, 110, 116, 101, 103, 101, 114])) <;> rfl
  · subst h
    show (bif (B != 0) then some true else some false).bind (fun o28 => bif o28 then some false else (bif decide (A < 0) then some true else some (decide (A ≥ (c.Names.length : Int)))).bind fun o41 => bif o41 then some false else (token_Name N S).bind fun r => some r) = some (prx c.Names.length c.Ins i (Ins.mk 7 A B S))
    rw [prx_7]
    rw [harg, hB, hnam]
    cases argA c.Names.length A <;> cases (B == 0) <;> rfl
  · subst h
    show (bif (B != 0) then some true else some false).bind (fun o28 => bif o28 then some false else (bif decide (A < 0) then some true else some (decide (A ≥ (c.Names.length : Int)))).bind fun o41 => bif o41 then some false else (verify_skeleton N S).bind fun r => some r) = some (prx c.Names.length c.Ins i (Ins.mk 8 A B S))
    rw [prx_8]
    rw [harg, hB, hsk]
    cases argA c.Names.length A <;> cases (B == 0) <;> rfl
  · subst h
    show (bif (B != 0) then some true else some false).bind (fun o28 => bif o28 then some false else (bif decide (A < 0) then some true else some (decide (A ≥ (c.Names.length : Int)))).bind fun o41 => bif o41 then some false else (token_Name N S).bind fun r => some r) = some (prx c.Names.length c.Ins i (Ins.mk 9 A B S))
    rw [prx_9]
    rw [harg, hB, hnam]
    cases argA c.Names.length A <;> cases (B == 0) <;> rfl
  · subst h
    show (some (S != [])).bind (fun o28 => bif o28 then some false else (bif decide (A < 0) then some true else some (decide (A ≥ (c.Names.length : Int)))).bind fun o41 => bif o41 then some false else (verify_alternatives N c i).bind fun r => some r) = some (prx c.Names.length c.Ins i (Ins.mk 10 A B S))
    rw [prx_10]
    rw [harg, hsel, halt]
    cases argA c.Names.length A <;> cases (S == []) <;> rfl
  · subst h
    show (bif (B != 0) then some true else some false).bind (fun o28 => bif o28 then some false else bif decide ((i : Int) > 0) then (idx c.Ins ((i : Int) - 1)).bind fun x66 => bif (x66.Op == 10) then (verify_target N c i A).bind (fun r => some r) else (idx c.Ins ((i : Int) - 1)).bind fun x82 => bif (x82.Op == 11) then (verify_target N c i A).bind (fun r => some r) else some false else some false) = some (prx c.Names.length c.Ins i (Ins.mk 11 A B S))
    rw [prx_11]
    rw [prev_prog hlt, prog_tgt, hB]
    cases (B == 0) <;> cases afterC c.Ins i <;> rfl
  · subst h
    show (bif (B != 0) then some true else some (S != [])).bind (fun o28 => bif o28 then some false else (verify_target N c i A).bind fun r => some r) = some (prx c.Names.length c.Ins i (Ins.mk 12 A B S))
    rw [prx_12]
    rw [hB, hsel, prog_tgt]
    cases (B == 0) <;> cases (S == []) <;> rfl
  · subst h
    show (bif (A != 0) then some true else bif (B != 0) then some true else some (S != [])).bind (fun o28 => bif o28 then some false else some ((i : Int) == IntKind.wrap .i64 ((c.Ins.length : Int) - 1))) = some (prx c.Names.length c.Ins i (Ins.mk 13 A B S))
    rw [prx_13]
    rw [hA, hB, hsel, hlast]
    cases (A == 0) <;> cases (B == 0) <;> cases (S == []) <;> rfl
  · rw [prx_out _ _ _ _ h, fields_out N h]
    rfl
end Go.Proofs.YtmghnmfefpeelaaDoor
