/- Chapter 34: the ways through a code: what the program's loop keeps, in plain words; Check of the program; the laws Names, Damage. -/
import Derived.Test.YtmghnmfefpeelaaDoorVrf3
set_option linter.unusedVariables false
namespace Go.Proofs.YtmghnmfefpeelaaDoor
open Go.X

abbrev Stk := List Str
structure Fs where
  op : List Stk
  re : List Bool
  cl : List Bool
structure Wf (n : Nat) (f : Fs) : Prop where
  o : f.op.length = n
  r : f.re.length = n
  c : f.cl.length = n
def ldF (j : Nat) (o : Stk) (f : Fs) : Fs :=
  if f.re[j]? = some true then ⟨f.op, f.re, f.cl.set j ((f.cl[j]?.getD false) || !((f.op[j]?.getD []) == o))⟩ else ⟨f.op.set j o, f.re.set j true, f.cl⟩
def fw (c : Code) (f : Fs) : Flow := Flow.mk c f.op f.re f.cl
theorem ldF_wf {n : Nat} {f : Fs} (W : Wf n f) (j : Nat) (o : Stk) : Wf n (ldF j o f) := by
  unfold ldF
  split
  · exact ⟨W.o, W.r, by simp [W.c]⟩
  · exact ⟨by simp [W.o], by simp [W.r], W.c⟩
theorem setI_some {α : Type} {xs : List α} {j : Nat} (h : j < xs.length) (v : α) : setI xs (j : Int) v = some (xs.set j v) := by
  unfold setI
  rw [if_pos (by omega)]
  simp
theorem lead_eq {N n : Nat} {c : Code} {f : Fs} (W : Wf n f) {j : Nat} (hj : j < n) (o : Stk) : verify_flow_lead N j o (fw c f) = some (fw c (ldF j o f)) := by
  unfold verify_flow_lead fw
  have hr : j < f.re.length := by rw [W.r]; exact hj
  have hc : j < f.cl.length := by rw [W.c]; exact hj
  have ho : j < f.op.length := by rw [W.o]; exact hj
  simp only [idx_some (List.getElem?_eq_getElem hr), idx_some (List.getElem?_eq_getElem hc), idx_some (List.getElem?_eq_getElem ho), Option.bind_some, setI_some hc, setI_some hr, setI_some ho]
  unfold ldF verify_same
  rw [List.getElem?_eq_getElem hr, List.getElem?_eq_getElem hc, List.getElem?_eq_getElem ho]
  cases f.re[j] with
  | false => rfl
  | true => cases f.cl[j] <;> rfl
def nx (l : List Ins) (i : Nat) (x : Ins) : List Int :=
  if x.Op = 10 then (csl l i).map (·.A) else if x.Op = 12 then [x.A] else if x.Op = 13 then [] else [((i + 1 : Nat) : Int)]
def act (x : Ins) (o : Stk) : Option Stk :=
  if x.Op = 2 then some (x.S :: o)
  else if x.Op = 3 then (match o with | [] => none | s :: r => if s = x.S then some r else none)
  else if x.Op = 13 then (match o with | [] => some [] | _ :: _ => none)
  else some o
def stp (l : List Ins) (i : Nat) (x : Ins) (f : Fs) : Option Fs :=
  if f.cl[i]? = some true then none else (act x (f.op[i]?.getD [])).map fun o => (nx l i x).foldl (fun f t => ldF t.toNat o f) f
structure Pp (nn : Nat) (l : List Ins) : Prop where
  pr : ∀ i, i < l.length → prp nn l i = true
  last : ∀ x, l[l.length - 1]? = some x → x.Op = 13
theorem pr_at {nn : Nat} {l : List Ins} (P : Pp nn l) {i : Nat} {x : Ins} (hx : l[i]? = some x) : prx nn l i x = true := by
  have := P.pr i (getlt hx)
  unfold prp at this
  rw [hx] at this
  exact this
theorem tgt_lt {l : List Ins} {i : Nat} {A : Int} (h : tgt l i A = true) : (i : Int) < A ∧ A < l.length := by
  unfold tgt at h
  simp only [Bool.and_eq_true, decide_eq_true_eq] at h
  exact ⟨h.1, h.2.1⟩
theorem pr_tgt {nn : Nat} {l : List Ins} (P : Pp nn l) {i : Nat} {x : Ins} (hx : l[i]? = some x) (h : x.Op = 11 ∨ x.Op = 12) : (i : Int) < x.A ∧ x.A < l.length := by
  have h1 := pr_at P hx
  obtain ⟨o, A, B, S⟩ := x
  simp only at h
  rcases h with rfl | rfl
  · rw [prx_11] at h1
    simp only [Bool.and_eq_true] at h1
    exact tgt_lt h1.2.2
  · rw [prx_12] at h1
    simp only [Bool.and_eq_true] at h1
    exact tgt_lt h1.2.2
theorem csl_at {l : List Ins} {i : Nat} {y : Ins} (h : y ∈ csl l i) : ∃ k, i < k ∧ l[k]? = some y ∧ y.Op = 11 := by
  unfold csl at h
  have hp : isC y = true := by
    have := List.all_takeWhile (p := isC) (l := l.drop (i + 1))
    exact List.all_eq_true.1 this y h
  obtain ⟨j, hj⟩ := List.getElem?_of_mem ((List.takeWhile_sublist isC).mem h)
  rw [List.getElem?_drop] at hj
  exact ⟨i + 1 + j, by omega, hj, by unfold isC at hp; simpa using hp⟩
theorem nx_lt {nn : Nat} {l : List Ins} (P : Pp nn l) {i : Nat} {x : Ins} (hx : l[i]? = some x) : ∀ t ∈ nx l i x, (i : Int) < t ∧ t < l.length := by
  intro t ht
  unfold nx at ht
  have hlt := getlt hx
  split at ht
  · obtain ⟨y, hy, rfl⟩ := List.mem_map.1 ht
    obtain ⟨k, h1, h2, h3⟩ := csl_at hy
    have := pr_tgt P h2 (.inl h3)
    exact ⟨by omega, this.2⟩
  · split at ht
    · next h => simp at ht; subst ht; exact pr_tgt P hx (.inr h)
    · split at ht
      · cases ht
      · next h =>
        simp at ht; subst ht
        refine ⟨by omega, ?_⟩
        have : i ≠ l.length - 1 := fun e => h (P.last x (by rw [← e]; exact hx))
        omega
theorem fold_wf {n : Nat} (o : Stk) : ∀ (ts : List Int) (f : Fs), Wf n f → Wf n (ts.foldl (fun f t => ldF t.toNat o f) f)
  | [], f, W => W
  | t :: ts, f, W => fold_wf o ts _ (ldF_wf W _ _)
theorem stp_wf {n : Nat} {l : List Ins} {i : Nat} {x : Ins} {f f' : Fs} (W : Wf n f) (h : stp l i x f = some f') : Wf n f' := by
  unfold stp at h
  split at h
  · cases h
  · obtain ⟨o, _, rfl⟩ := Option.map_eq_some_iff.1 h
    exact fold_wf o _ _ W
theorem run_fold {σ α β : Type} (g : σ → α → σ) (fin : σ → β) : ∀ (xs : List α) (s : σ), run (fun s x => .inl (g s x)) fin s xs = fin (xs.foldl g s)
  | [], s => rfl
  | x :: xs, s => by rw [run]; exact run_fold g fin xs (g s x)
theorem step_eq {N nn : Nat} {c : Code} (Z : Cz N c) (P : Pp nn c.Ins) {i : Nat} {x : Ins} (hx : c.Ins[i]? = some x) {f : Fs} (W : Wf c.Ins.length f) :
    ∃ g, verify_flow_step N i (fw c f) = some ((stp c.Ins i x f).isSome, g) ∧ ∀ f', stp c.Ins i x f = some f' → g = fw c f' := by
  have hn := Z.n
  have hil := Z.il
  have hlt := getlt hx
  have hc : i < f.cl.length := by rw [W.c]; exact hlt
  have ho : i < f.op.length := by rw [W.o]; exact hlt
  have hnx := nx_lt P hx
  have hw : IntKind.wrap .i64 ((i : Int) + 1) = ((i + 1 : Nat) : Int) := by rw [wrap_id (by omega) (by omega)]; omega
  unfold verify_flow_step stp
  rw [show (fw c f).clash = f.cl from rfl, show (fw c f).open_ = f.op from rfl, show (fw c f).c = c from rfl]
  rw [idx_some (List.getElem?_eq_getElem hc), idx_some (List.getElem?_eq_getElem ho), idx_some hx, List.getElem?_eq_getElem hc, List.getElem?_eq_getElem ho]
  simp only [Option.bind_some, Option.getD_some, Option.some.injEq]
  cases f.cl[i] with
  | true => exact ⟨fw c f, by simp, fun f' h => by simp at h⟩
  | false =>
    simp only [cond_false, Bool.false_eq_true, if_false]
    generalize f.op[i] = o
    unfold act nx at *
    have one : ∀ (o' : Stk), x.Op ≠ 10 → x.Op ≠ 12 → x.Op ≠ 13 → verify_flow_lead N (IntKind.wrap .i64 ((i : Int) + 1)) o' (fw c f) = some (fw c (ldF (i + 1) o' f)) := by
      intro o' a b d
      rw [hw]
      refine lead_eq W ?_ o'
      rw [if_neg a, if_neg b, if_neg d] at hnx
      have := hnx ((i + 1 : Nat) : Int) (by simp)
      omega
    by_cases h13 : x.Op = 13
    · rw [h13]
      simp only [show ((13 : Int) == 13) = true from rfl, cond_true, show ¬ (13 : Int) = 2 by decide, show ¬ (13 : Int) = 3 by decide, show ¬ (13 : Int) = 10 by decide, show ¬ (13 : Int) = 12 by decide, if_true, if_false]
      refine ⟨fw c f, ?_, ?_⟩
      · cases o <;> rfl
      · intro f' h
        cases o with
        | nil => simp at h; subst h; rfl
        | cons s r => cases h
    · rw [beq_eq_false_iff_ne.2 h13, cond_false]
      by_cases h12 : x.Op = 12
      · rw [if_neg (by omega), if_pos h12] at hnx
        have hA := hnx x.A (by simp)
        have he : x.A = (x.A.toNat : Int) := by omega
        rw [h12]
        simp only [show ((12 : Int) == 12) = true from rfl, cond_true, show ¬ (12 : Int) = 2 by decide, show ¬ (12 : Int) = 3 by decide, show ¬ (12 : Int) = 10 by decide, show ¬ (12 : Int) = 13 by decide, if_true, if_false]
        have := lead_eq (N := N) (c := c) W (j := x.A.toNat) (by omega) o
        rw [← he] at this
        rw [this]
        exact ⟨_, rfl, fun f' h => by simp at h; subst h; rfl⟩
      · rw [beq_eq_false_iff_ne.2 h12, cond_false]
        by_cases h10 : x.Op = 10
        · rw [if_pos h10] at hnx
          rw [h10]
          simp only [show ((10 : Int) == 10) = true from rfl, cond_true, show ¬ (10 : Int) = 2 by decide, show ¬ (10 : Int) = 3 by decide, show ¬ (10 : Int) = 12 by decide, show ¬ (10 : Int) = 13 by decide, if_true, if_false]
          rw [prog_cases hlt Z.il Z.n]
          have hcl := csl_len c.Ins i
          have h := iter_list (body := fun s => verify_flow_step_b1 N o (csl c.Ins i) s.1 s.2) (σ := Fs) (fun s k => (k, fw c s)) (csl c.Ins i) (fun s y => .inl (ldF y.A.toNat o s)) (fun s => fw c s) (fun k s => Wf c.Ins.length s) (fun s k y hk hs => ?_) (fun s hs => ?_) N f (by omega) W
          · simp only [Option.bind_some]
            rw [h, run_fold]
            refine ⟨_, rfl, fun f' h => ?_⟩
            simp only [Option.map_some, Option.some.injEq, List.foldl_map] at h
            rw [← h]
          · have hA := hnx y.A (List.mem_map.2 ⟨y, List.mem_of_getElem? hk, rfl⟩)
            have he : y.A = (y.A.toNat : Int) := by omega
            have hl := lead_eq (N := N) (c := c) hs (j := y.A.toNat) (by omega) o
            rw [← he] at hl
            constructor
            · show verify_flow_step_b1 N o (csl c.Ins i) k (fw c s) = _
              unfold verify_flow_step_b1
              simp only [dltx hk, cond_true, idx_some hk, Option.bind_some, hl]
            · intro s' h
              cases h
              exact ldF_wf hs _ _
          · show verify_flow_step_b1 N o (csl c.Ins i) (csl c.Ins i).length (fw c s) = _
            unfold verify_flow_step_b1
            simp only [dnlt, cond_false]
        · rw [beq_eq_false_iff_ne.2 h10, cond_false]
          by_cases h2 : x.Op = 2
          · rw [one _ h10 h12 h13, h2]
            exact ⟨_, rfl, fun f' h => by simp at h; subst h; rfl⟩
          · rw [beq_eq_false_iff_ne.2 h2, cond_false]
            by_cases h3 : x.Op = 3
            · rw [beq_iff_eq.2 h3, if_neg h2, if_pos h3, if_neg h10, if_neg h12, if_neg h13, cond_true]
              cases o with
              | nil => exact ⟨fw c f, rfl, fun f' h => by cases h⟩
              | cons s r =>
                show ∃ g, (bif (s != x.S) then some (false, fw c f) else _) = _ ∧ _
                by_cases hs : s = x.S
                · rw [show (s != x.S) = false by simp [hs], cond_false]
                  simp only [if_pos hs]
                  show ∃ g, (verify_flow_lead N (IntKind.wrap .i64 ((i : Int) + 1)) r (fw c f)).bind (fun r240 => some (true, r240)) = _ ∧ _
                  rw [one _ h10 h12 h13]
                  exact ⟨_, rfl, fun f' h => by simp at h; subst h; rfl⟩
                · rw [show (s != x.S) = true by simp [hs], cond_true]
                  simp only [if_neg hs]
                  exact ⟨fw c f, rfl, fun f' h => by cases h⟩
            · rw [beq_eq_false_iff_ne.2 h3, cond_false, if_neg h2, if_neg h3, if_neg h13, if_neg h10, if_neg h12, if_neg h13]
              rw [one _ h10 h12 h13]
              exact ⟨_, rfl, fun f' h => by simp at h; subst h; rfl⟩
/-- The loop: m instructions are left. -/
def fl (l : List Ins) : Nat → Nat → Fs → Fs ⊕ Nat
  | 0, _, f => .inl f
  | m + 1, i, f => if f.re[i]? = some true then (match l[i]? with
      | some x => (match stp l i x f with | some f' => fl l m (i + 1) f' | none => .inr i)
      | none => .inr i) else fl l m (i + 1) f
def f0 (n : Nat) : Fs := ⟨List.replicate n [], (List.replicate n false).set 0 true, List.replicate n false⟩
theorem f0_wf (n : Nat) : Wf n (f0 n) := ⟨by simp [f0], by simp [f0], by simp [f0]⟩
theorem loop_eq {N nn : Nat} {c : Code} (Z : Cz N c) (P : Pp nn c.Ins) : ∀ (m i M : Nat) (f : Fs), i + m = c.Ins.length → m < M → Wf c.Ins.length f →
    iter (fun s => verify_follow_b2 N c s.1 s.2) M ((i : Int), fw c f) = some (match fl c.Ins m i f with | .inl f' => .inl (fw c f') | .inr k => .inr (none, (k : Int), 7)) := by
  intro m
  induction m with
  | zero =>
    intro i M f hi hM W
    obtain ⟨M, rfl⟩ : ∃ K, M = K + 1 := ⟨M - 1, by omega⟩
    obtain rfl : i = c.Ins.length := by omega
    rw [iter]
    dsimp only
    unfold verify_follow_b2
    simp only [dnlt, cond_false]
    rfl
  | succ m ih =>
    intro i M f hi hM W
    obtain ⟨M, rfl⟩ : ∃ K, M = K + 1 := ⟨M - 1, by omega⟩
    have hlt : i < c.Ins.length := by omega
    have hr : i < f.re.length := by rw [W.r]; exact hlt
    have hx := List.getElem?_eq_getElem hlt
    rw [iter]
    dsimp only
    unfold verify_follow_b2
    rw [fl, hx, show (fw c f).reached = f.re from rfl, idx_some (List.getElem?_eq_getElem hr), List.getElem?_eq_getElem hr]
    simp only [dlt hlt, cond_true, Option.bind_some, Option.some.injEq]
    cases hre : f.re[i] with
    | false =>
      simp only [cond_false, Bool.false_eq_true, if_false]
      rw [show ((i : Int) + 1) = ((i + 1 : Nat) : Int) by omega]
      exact ih (i + 1) M f (by omega) (by omega) W
    | true =>
      obtain ⟨g, h1, h2⟩ := step_eq Z P hx W
      simp only [cond_true, if_true]
      rw [h1]
      cases hs : stp c.Ins i c.Ins[i] f with
      | none => rfl
      | some f' =>
        rw [h2 f' hs]
        simp only [Option.bind_some, Option.isSome_some, Bool.not_true, cond_false]
        rw [show ((i : Int) + 1) = ((i + 1 : Nat) : Int) by omega]
        exact ih (i + 1) M f' (by omega) (by omega) (stp_wf W hs)

/-! ### Check -/
def fP (nn : Nat) (l : List Ins) (k : Nat) (_ : Ins) : Nat ⊕ (Unit ⊕ Nat) := if prp nn l k then .inl (k + 1) else .inr (.inr k)
/-- The first instruction that is not proper. -/
def bad (nn : Nat) (l : List Ins) : Option Nat := match run (fP nn l) (fun _ => .inl ()) 0 l with | .inl _ => none | .inr k => some k
theorem run_bad (nn : Nat) (l : List Ins) : ∀ (ys : List Ins) (k : Nat), match run (fP nn l) (fun _ => .inl ()) k ys with | .inl _ => ∀ i, k ≤ i → i < k + ys.length → prp nn l i = true | .inr j => k ≤ j ∧ j < k + ys.length ∧ prp nn l j = false ∧ ∀ i, k ≤ i → i < j → prp nn l i = true
  | [], k => fun i h1 h2 => absurd h2 (by simp; omega)
  | y :: ys, k => by
    rw [run]
    unfold fP
    cases h : prp nn l k with
    | false => exact ⟨Nat.le_refl _, by simp, h, fun i h1 h2 => absurd h1 (by omega)⟩
    | true =>
      have ih := run_bad nn l ys (k + 1)
      simp only [if_true]
      unfold fP at ih
      revert ih
      generalize run _ _ (k + 1) ys = r
      intro ih
      cases r with
      | inl u =>
        intro i h1 h2
        by_cases e : i = k
        · subst e; exact h
        · exact ih i (by omega) (by simp only [List.length_cons] at h2; omega)
      | inr j =>
        obtain ⟨a, b, c, d⟩ := ih
        refine ⟨by omega, by simp only [List.length_cons]; omega, c, fun i h1 h2 => ?_⟩
        by_cases e : i = k
        · subst e; exact h
        · exact d i (by omega) h2
theorem bad_none {nn : Nat} {l : List Ins} : bad nn l = none ↔ ∀ i, i < l.length → prp nn l i = true := by
  have h := run_bad nn l l 0
  unfold bad
  cases hr : run (fP nn l) (fun _ => .inl ()) 0 l with
  | inl u => rw [hr] at h; exact ⟨fun _ i hi => h i (by omega) (by omega), fun _ => rfl⟩
  | inr j =>
    rw [hr] at h
    refine ⟨fun e => (by cases e), fun e => ?_⟩
    have := e j (by omega)
    rw [h.2.2.1] at this
    cases this
theorem bad_some {nn : Nat} {l : List Ins} {j : Nat} (hb : bad nn l = some j) : j < l.length ∧ prp nn l j = false ∧ ∀ i, i < j → prp nn l i = true := by
  have h := run_bad nn l l 0
  unfold bad at hb
  cases hr : run (fP nn l) (fun _ => .inl ()) 0 l with
  | inl u => rw [hr] at hb; cases hb
  | inr k =>
    rw [hr] at h hb
    simp only [Option.some.injEq] at hb
    subst hb
    exact ⟨by omega, h.2.2.1, fun i hi => h.2.2.2 i (by omega) hi⟩
def stops (l : List Ins) : Bool := match l[l.length - 1]? with | some x => x.Op == 13 | none => false
/-- What follow finds. -/
def flw (c : Code) : Fs ⊕ (Int × Int) :=
  if nmd c.Names then (match bad c.Names.length c.Ins with
    | some k => .inr ((k : Int), 4)
    | none => if stops c.Ins then (match fl c.Ins c.Ins.length 0 (f0 c.Ins.length) with | .inl f => .inl f | .inr k => .inr ((k : Int), 7)) else .inr ((c.Ins.length : Int), 4)) else .inr (0, 1)
def chk (c : Code) : Int × Int := match flw c with | .inl _ => (0, 0) | .inr r => r
theorem mk_some {α : Type} {n : Nat} (h : n ≤ 1000) (z : α) : mk (n : Int) z = some (List.replicate n z) := by
  unfold mk LIM
  rw [if_pos (by omega)]
  simp
theorem pp_of {nn : Nat} {l : List Ins} (h1 : bad nn l = none) (h2 : stops l = true) : Pp nn l := by
  refine ⟨bad_none.1 h1, fun x hx => ?_⟩
  unfold stops at h2
  rw [hx] at h2
  simpa using h2
theorem prog_bad {N : Nat} {c : Code} (Z : Cz N c) : iter (fun s => verify_follow_b1 N c s) N 0 = some (match bad c.Names.length c.Ins with | none => .inl () | some k => .inr (none, (k : Int), 4)) := by
  have hn := Z.n
  have hil := Z.il
  have h := iter_list (body := fun s => verify_follow_b1 N c s) (β := Unit ⊕ (Option Flow × Int × Int)) (σ := Nat) (fun i k => k) c.Ins (fun k x => match fP c.Names.length c.Ins k x with | .inl k => .inl k | .inr (.inl u) => .inr (.inl u) | .inr (.inr j) => .inr (.inr (none, (j : Int), 4))) (fun _ => .inl ()) (fun i k => k = i) (fun k i x hi hk => ?_) (fun k hk => ?_) N 0 (by omega) rfl
  · rw [h]
    unfold bad
    have e : ∀ (ys : List Ins) (k : Nat), run (β := Unit ⊕ (Option Flow × Int × Int)) (fun k x => match fP c.Names.length c.Ins k x with | .inl k => .inl k | .inr (.inl u) => .inr (.inl u) | .inr (.inr j) => .inr (.inr (none, (j : Int), 4))) (fun _ => .inl ()) k ys = (match run (fP c.Names.length c.Ins) (fun _ => .inl ()) k ys with | .inl u => .inl u | .inr j => .inr (none, (j : Int), 4)) := by
      intro ys
      induction ys with
      | nil => intro k; rfl
      | cons y ys ih =>
        intro k
        rw [run, run]
        unfold fP at ih ⊢
        cases prp c.Names.length c.Ins k with
        | false => rfl
        | true => simp only [if_true]; exact ih (k + 1)
    rw [e]
    cases run (fP c.Names.length c.Ins) (fun _ => .inl ()) 0 c.Ins <;> rfl
  · subst hk
    constructor
    · show verify_follow_b1 N c k = _
      unfold verify_follow_b1 fP
      simp only [dltx hi, cond_true, prog_Proper Z, Option.bind_some]
      cases prp c.Names.length c.Ins k <;> rfl
    · intro s' h
      unfold fP at h
      cases hp : prp c.Names.length c.Ins k with
      | false => rw [hp] at h; cases h
      | true => rw [hp] at h; cases h; rfl
  · show verify_follow_b1 N c c.Ins.length = _
    unfold verify_follow_b1
    simp only [dnlt, cond_false]
theorem follow_eq {N : Nat} {c : Code} (Z : Cz N c) : verify_follow N c = some (match flw c with | .inl f => (some (fw c f), 0, 0) | .inr (a, e) => (none, a, e)) := by
  have hn := Z.n
  have hil := Z.il
  unfold verify_follow flw
  rw [prog_named Z.nl Z.ns Z.n]
  simp only [Option.bind_some]
  cases nmd c.Names with
  | false => rfl
  | true =>
    rw [decide_eq_false (show ¬ (c.Ins.length : Int) > 10000 by omega), prog_bad Z]
    simp only [Bool.not_true, cond_false, if_true, Option.bind_some]
    cases hb : bad c.Names.length c.Ins with
    | some k => rfl
    | none =>
      simp only [Sum.elim_inl]
      by_cases h0 : c.Ins.length = 0
      · have : c.Ins = [] := List.eq_nil_of_length_eq_zero h0
        rw [this]
        rfl
      · rw [beq_eq_false_iff_ne.2 (show (c.Ins.length : Int) ≠ 0 by omega), cond_false]
        have hlt : c.Ins.length - 1 < c.Ins.length := by omega
        have hx := List.getElem?_eq_getElem hlt
        rw [show IntKind.wrap .i64 ((c.Ins.length : Int) - 1) = ((c.Ins.length - 1 : Nat) : Int) by rw [wrap_id (by omega) (by omega)]; omega, idx_some hx]
        have hst : stops c.Ins = (c.Ins[c.Ins.length - 1].Op == 13) := by unfold stops; rw [hx]
        simp only [Option.bind_some, bne]
        rw [← hst]
        cases hs : stops c.Ins with
        | false => rfl
        | true =>
          have P := pp_of hb hs
          have e0 : idx (List.replicate c.Ins.length false) 0 = some false := by
            have := idx_some (xs := List.replicate c.Ins.length false) (k := 0) (c := false) (by rw [List.getElem?_replicate]; rw [if_pos (by omega)])
            exact this
          have e1 : setI (List.replicate c.Ins.length false) 0 true = some ((List.replicate c.Ins.length false).set 0 true) := setI_some (j := 0) (by simp; omega) true
          simp only [Bool.not_true, cond_false, mk_some Z.il, Option.bind_some, e0, e1, if_true]
          have hl := loop_eq Z P c.Ins.length 0 N (f0 c.Ins.length) (by omega) (by omega) (f0_wf _)
          rw [show ((0 : Nat) : Int) = 0 from rfl] at hl
          show (iter (fun s => verify_follow_b2 N c s.1 s.2) N (0, fw c (f0 c.Ins.length))).bind _ = _
          rw [hl]
          cases fl c.Ins c.Ins.length 0 (f0 c.Ins.length) <;> rfl
theorem prog_Check {N : Nat} {c : Code} (Z : Cz N c) : verify_Check N c = some (chk c) := by
  unfold verify_Check chk
  rw [follow_eq Z]
  cases flw c with
  | inl f => rfl
  | inr r => obtain ⟨a, e⟩ := r; rfl
theorem chk_ok {c : Code} (h : (chk c).2 = 0) : ∃ f, flw c = .inl f := by
  unfold chk at h
  cases hf : flw c with
  | inl f => exact ⟨f, rfl⟩
  | inr r =>
    rw [hf] at h
    simp only at h
    unfold flw at hf
    cases h1 : nmd c.Names with
    | false => rw [h1] at hf; simp at hf; subst hf; cases h
    | true =>
      cases h2 : bad c.Names.length c.Ins with
      | some k => rw [h1, h2] at hf; simp at hf; subst hf; cases h
      | none =>
        cases h3 : stops c.Ins with
        | false => rw [h1, h2, h3] at hf; simp at hf; subst hf; cases h
        | true =>
          cases h4 : fl c.Ins c.Ins.length 0 (f0 c.Ins.length) with
          | inl f => rw [h1, h2, h3, h4] at hf; simp at hf
          | inr k => rw [h1, h2, h3, h4] at hf; simp at hf; subst hf; cases h
theorem flw_ok {c : Code} {f : Fs} (h : flw c = .inl f) : nmd c.Names = true ∧ bad c.Names.length c.Ins = none ∧ stops c.Ins = true ∧ fl c.Ins c.Ins.length 0 (f0 c.Ins.length) = .inl f := by
  unfold flw at h
  cases h1 : nmd c.Names with
  | false => rw [h1] at h; cases h
  | true =>
    cases h2 : bad c.Names.length c.Ins with
    | some k => rw [h1, h2] at h; cases h
    | none =>
      cases h3 : stops c.Ins with
      | false => rw [h1, h2, h3] at h; cases h
      | true =>
        cases hf : fl c.Ins c.Ins.length 0 (f0 c.Ins.length) with
        | inl f' => rw [h1, h2, h3, hf] at h; cases h; exact ⟨rfl, rfl, rfl, rfl⟩
        | inr k => rw [h1, h2, h3, hf] at h; cases h
theorem flw_of {c : Code} {f : Fs} (h1 : nmd c.Names = true) (h2 : bad c.Names.length c.Ins = none) (h3 : stops c.Ins = true) (h4 : fl c.Ins c.Ins.length 0 (f0 c.Ins.length) = .inl f) : flw c = .inl f := by
  unfold flw
  rw [h1, h2, h3, h4]
  rfl
theorem chk_inl {c : Code} {f : Fs} (h : flw c = .inl f) : chk c = (0, 0) := by unfold chk; rw [h]
theorem stops_at {l : List Ins} (h : stops l = true) : ∃ x, l[l.length - 1]? = some x ∧ x.Op = 13 := by
  unfold stops at h
  cases hx : l[l.length - 1]? with
  | none => rw [hx] at h; cases h
  | some x => rw [hx] at h; exact ⟨x, rfl, by simpa using h⟩
end Go.Proofs.YtmghnmfefpeelaaDoor
