/- Chapter 34: the reference's Proper; the law Proper; what a code's guard says. -/
import Derived.Test.YtmghnmfefpeelaaDoorVrf2
set_option linter.unusedVariables false
namespace Go.Proofs.YtmghnmfefpeelaaDoor
open Go.X

theorem arg_ref {α : Type} (nn : Nat) (A : Int) (T F : α) : (bif decide (A < 0) then T else bif decide (A ≥ (nn : Int)) then T else F) = bif argA nn A then F else T := by
  unfold argA
  by_cases h : A < 0
  · rw [decide_eq_true h, decide_eq_false (show ¬ 0 ≤ A by omega)]; rfl
  · rw [decide_eq_false h, decide_eq_true (show 0 ≤ A by omega), cond_false, Bool.true_and]
    by_cases h2 : A < (nn : Int)
    · rw [decide_eq_true h2, decide_eq_false (show ¬ A ≥ (nn : Int) by omega)]; rfl
    · rw [decide_eq_false h2, decide_eq_true (show A ≥ (nn : Int) by omega)]; rfl
theorem tgt_ref {c : Code} (i : Nat) (A : Int) (F : Option Bool) : (bif decide (A ≤ (i : Int)) then some true else bif decide (A ≥ (c.Ins.length : Int)) then some true else (idx c.Ins A).bind fun x => bif (x.Op == 11) then some true else F) = bif tgt c.Ins i A then F else some true := by
  unfold tgt
  by_cases h1 : (i : Int) < A
  · rw [decide_eq_true h1, decide_eq_false (show ¬ A ≤ (i : Int) by omega), cond_false, Bool.true_and]
    by_cases h2 : A < (c.Ins.length : Int)
    · rw [decide_eq_true h2, decide_eq_false (show ¬ A ≥ (c.Ins.length : Int) by omega), cond_false, Bool.true_and]
      have hlt : A.toNat < c.Ins.length := by omega
      have hA : A = (A.toNat : Int) := by omega
      have hi := idx_some (List.getElem?_eq_getElem hlt)
      rw [← hA] at hi
      rw [hi, List.getElem?_eq_getElem hlt]
      simp only [Option.bind_some, bne]
      cases (c.Ins[A.toNat].Op == 11) <;> rfl
    · rw [decide_eq_false h2, decide_eq_true (show A ≥ (c.Ins.length : Int) by omega)]; rfl
  · rw [decide_eq_false h1, decide_eq_true (show A ≤ (i : Int) by omega)]; rfl
theorem prev_ref {c : Code} {i : Nat} (hi : i < c.Ins.length) : (bif decide ((i : Int) > 0) then (idx c.Ins ((i : Int) - 1)).bind fun x => bif (x.Op == 10) then some true else (idx c.Ins ((i : Int) - 1)).bind fun y => some (y.Op == 11) else some false) = some (afterC c.Ins i) := by
  unfold afterC
  by_cases h : 0 < i
  · rw [decide_eq_true (show (i : Int) > 0 by omega), cond_true, decide_eq_true h, Bool.true_and]
    have hlt : i - 1 < c.Ins.length := by omega
    rw [show ((i : Int) - 1) = ((i - 1 : Nat) : Int) by omega, idx_some (List.getElem?_eq_getElem hlt), List.getElem?_eq_getElem hlt]
    simp only [Option.bind_some]
    cases (c.Ins[i - 1].Op == 10) <;> cases (c.Ins[i - 1].Op == 11) <;> rfl
  · rw [decide_eq_false (show ¬ (i : Int) > 0 by omega), decide_eq_false h]; rfl
theorem ref_Proper_at {N : Nat} {c : Code} (Z : Cz N c) {i : Nat} {x : Ins} (hx : c.Ins[i]? = some x) : calqueref34_Proper N c i = some (prx c.Names.length c.Ins i x) := by
  have hn := Z.n
  have hlt := getlt hx
  have hS := Z.is x (List.mem_of_getElem? hx)
  unfold calqueref34_Proper
  rw [decide_eq_false (show ¬ (i : Int) < 0 by omega), cond_false, decide_eq_false (show ¬ (i : Int) ≥ (c.Ins.length : Int) by omega), cond_false, idx_some hx, Option.bind_some]
  have hnam := ref_Name (N := N) (s := x.S) (by omega)
  have hsk := ref_skel (N := N) (s := x.S) (by omega)
  have halt := ref_alt Z hx
  have hlast := last_prog (c := c) (i := i) Z.il
  have hsel : (x.S != []) = !(x.S == []) := rfl
  have hA : (x.A != 0) = !(x.A == 0) := rfl
  have hB : (x.B != 0) = !(x.B == 0) := rfl
  obtain ⟨o, A, B, S⟩ := x
  simp only at hnam hsk halt hsel hA hB
  rcases op_cases o with h | h | h | h | h | h | h | h | h | h | h | h | h | h
  · subst h
    show (bif (A != 0) then some true else some (B != 0)).bind (fun o => bif o then some false else some (S != [])) = some (prx c.Names.length c.Ins i (Ins.mk 1 A B S))
    rw [prx_1]
    rw [hA, hB]
    cases (A == 0) <;> cases (B == 0) <;> rfl
  · subst h
    show (bif (A != 0) then some true else some (B != 0)).bind (fun o => bif o then some false else (calqueref25_Name N S).bind fun r => some r) = some (prx c.Names.length c.Ins i (Ins.mk 2 A B S))
    rw [prx_2]
    rw [hA, hB, hnam]
    cases (A == 0) <;> cases (B == 0) <;> rfl
  · subst h
    show (bif (A != 0) then some true else some (B != 0)).bind (fun o => bif o then some false else (calqueref25_Name N S).bind fun r => some r) = some (prx c.Names.length c.Ins i (Ins.mk 3 A B S))
    rw [prx_3]
    rw [hA, hB, hnam]
    cases (A == 0) <;> cases (B == 0) <;> rfl
  · subst h
    show (bif (A != 0) then some true else some (B != 0)).bind (fun o => bif o then some false else (calqueref25_Name N S).bind fun r => some r) = some (prx c.Names.length c.Ins i (Ins.mk 4 A B S))
    rw [prx_4]
    rw [hA, hB, hnam]
    cases (A == 0) <;> cases (B == 0) <;> rfl
  · subst h
    show (bif decide (A < 0) then some true else bif decide (A ≥ (c.Names.length : Int)) then some true else some (B != 0)).bind (fun o => bif o then some false else some (S == [])) = some (prx c.Names.length c.Ins i (Ins.mk 5 A B S))
    rw [prx_5]
    rw [arg_ref, hB]
    cases argA c.Names.length A <;> cases (B == 0) <;> rfl
  · subst h
    show (bif decide (A < 0) then some true else bif decide (A ≥ (c.Names.length : Int)) then some true else some (B != 0)).bind (fun o => bif o then some false else bif (S == ([])) then some true else bif (S == ([105, 110, 116, 101, 103, 101, 114])) then some true else some (S == ([112, 101, 114, 99, 101, 110, 116]))) = some (prx c.Names.length c.Ins i (Ins.mk 6 A B S))
    rw [prx_6]
    rw [arg_ref, hB]
    cases argA c.Names.length A <;> cases (B == 0) <;> cases (S == []) <;> cases (S == ([105, 110, 116, 101, 103, 101, 114])) <;> rfl
  · subst h
    show (bif decide (A < 0) then some true else bif decide (A ≥ (c.Names.length : Int)) then some true else some (B != 0)).bind (fun o => bif o then some false else (calqueref25_Name N S).bind fun r => some r) = some (prx c.Names.length c.Ins i (Ins.mk 7 A B S))
    rw [prx_7]
    rw [arg_ref, hB, hnam]
    cases argA c.Names.length A <;> cases (B == 0) <;> rfl
  · subst h
    show (bif decide (A < 0) then some true else bif decide (A ≥ (c.Names.length : Int)) then some true else some (B != 0)).bind (fun o => bif o then some false else (calqueref26_Skeleton N S).bind fun r => some r) = some (prx c.Names.length c.Ins i (Ins.mk 8 A B S))
    rw [prx_8]
    rw [arg_ref, hB, hsk]
    cases argA c.Names.length A <;> cases (B == 0) <;> rfl
  · subst h
    show (bif decide (A < 0) then some true else bif decide (A ≥ (c.Names.length : Int)) then some true else some (B != 0)).bind (fun o => bif o then some false else (calqueref25_Name N S).bind fun r => some r) = some (prx c.Names.length c.Ins i (Ins.mk 9 A B S))
    rw [prx_9]
    rw [arg_ref, hB, hnam]
    cases argA c.Names.length A <;> cases (B == 0) <;> rfl
  · subst h
    show (bif decide (A < 0) then some true else bif decide (A ≥ (c.Names.length : Int)) then some true else some false).bind (fun o => bif o then some false else bif (S == ([])) then (calqueref26_Selection N B).bind fun r => bif r then (calqueref34_cases N c i).bind fun r => some r else some false else some false) = some (prx c.Names.length c.Ins i (Ins.mk 10 A B S))
    rw [prx_10]
    rw [arg_ref, sel_ref, halt]
    cases argA c.Names.length A <;> cases (S == []) <;> cases sel B <;> rfl
  · subst h
    show (bif decide (A ≤ (i : Int)) then some true else bif decide (A ≥ (c.Ins.length : Int)) then some true else (idx c.Ins A).bind fun x => bif (x.Op == 11) then some true else some (B != 0)).bind (fun o => bif o then some false else bif decide ((i : Int) > 0) then (idx c.Ins ((i : Int) - 1)).bind fun x => bif (x.Op == 10) then some true else (idx c.Ins ((i : Int) - 1)).bind fun y => some (y.Op == 11) else some false) = some (prx c.Names.length c.Ins i (Ins.mk 11 A B S))
    rw [prx_11]
    rw [prev_ref hlt, tgt_ref, hB]
    cases (B == 0) <;> cases tgt c.Ins i A <;> cases afterC c.Ins i <;> rfl
  · subst h
    show (bif decide (A ≤ (i : Int)) then some true else bif decide (A ≥ (c.Ins.length : Int)) then some true else (idx c.Ins A).bind fun x => bif (x.Op == 11) then some true else some (B != 0)).bind (fun o => bif o then some false else some (S == [])) = some (prx c.Names.length c.Ins i (Ins.mk 12 A B S))
    rw [prx_12]
    rw [tgt_ref, hB]
    cases (B == 0) <;> cases tgt c.Ins i A <;> cases (S == []) <;> rfl
  · subst h
    show (bif (A != 0) then some true else some (B != 0)).bind (fun o => bif o then some false else bif (S == []) then some ((i : Int) == IntKind.wrap .i64 ((c.Ins.length : Int) - 1)) else some false) = some (prx c.Names.length c.Ins i (Ins.mk 13 A B S))
    rw [prx_13]
    rw [hA, hB, hlast]
    cases (A == 0) <;> cases (B == 0) <;> cases (S == []) <;> rfl
  · rw [prx_out _ _ _ _ h]
    have ho : ∀ k : Int, 1 ≤ k → k ≤ 13 → (o == k) = false := fun k h1 h2 => beq_eq_false_iff_ne.2 (by omega)
    have hz : ∀ b : Bool, (bif b then some false else some false) = some false := fun b => by cases b <;> rfl
    simp only [show (o == 1) = false from beq_eq_false_iff_ne.2 (by omega), show (o == 2) = false from beq_eq_false_iff_ne.2 (by omega), show (o == 3) = false from beq_eq_false_iff_ne.2 (by omega), show (o == 4) = false from beq_eq_false_iff_ne.2 (by omega), show (o == 5) = false from beq_eq_false_iff_ne.2 (by omega), show (o == 6) = false from beq_eq_false_iff_ne.2 (by omega), show (o == 7) = false from beq_eq_false_iff_ne.2 (by omega), show (o == 8) = false from beq_eq_false_iff_ne.2 (by omega), show (o == 9) = false from beq_eq_false_iff_ne.2 (by omega), show (o == 10) = false from beq_eq_false_iff_ne.2 (by omega), show (o == 11) = false from beq_eq_false_iff_ne.2 (by omega), show (o == 12) = false from beq_eq_false_iff_ne.2 (by omega), show (o == 13) = false from beq_eq_false_iff_ne.2 (by omega), cond_false, Option.bind_some, hz]
    by_cases h1 : o < 1
    · simp only [decide_eq_false (show ¬ o ≥ 5 by omega), cond_false]
      cases (A != 0) <;> cases (o != 10) <;> rfl
    · simp only [decide_eq_true (show o ≥ 5 by omega), decide_eq_false (show ¬ o ≤ 10 by omega), cond_true, cond_false]
      cases (A != 0) <;> cases (o != 10) <;> rfl
theorem prog_Proper {N : Nat} {c : Code} (Z : Cz N c) (i : Nat) : verify_Proper N c i = some (prp c.Names.length c.Ins i) := by
  unfold prp
  cases hx : c.Ins[i]? with
  | some x => exact prog_Proper_at Z hx
  | none =>
    have := List.getElem?_eq_none_iff.1 hx
    unfold verify_Proper
    rw [decide_eq_false (show ¬ (i : Int) < 0 by omega), cond_false, decide_eq_true (show (i : Int) ≥ (c.Ins.length : Int) by omega)]
    rfl
theorem ref_Proper {N : Nat} {c : Code} (Z : Cz N c) (i : Nat) : calqueref34_Proper N c i = some (prp c.Names.length c.Ins i) := by
  unfold prp
  cases hx : c.Ins[i]? with
  | some x => exact ref_Proper_at Z hx
  | none =>
    have := List.getElem?_eq_none_iff.1 hx
    unfold calqueref34_Proper
    rw [decide_eq_false (show ¬ (i : Int) < 0 by omega), cond_false, decide_eq_true (show (i : Int) ≥ (c.Ins.length : Int) by omega)]
    rfl

/-! ### the guard, and the program's own codes -/
def few (c : Code) : Bool := c.Names.all (fun x => decide (x.length ≤ 100)) && (c.Ins.all (fun x => decide (x.S.length ≤ 300)) && (decide (c.Names.length ≤ 30) && decide (c.Ins.length ≤ 400)))
theorem Few_eq {N : Nat} {c : Code} (hN : c.Names.length + c.Ins.length < N) : calqueref33_Few N c = some (few c) := by
  unfold calqueref33_Few few
  rw [iter_allL (fun x : Str => decide (x.length ≤ 100)) c.Names (fun k x hk => ?_) ?_ N (by omega), iter_allL (fun x : Ins => decide (x.S.length ≤ 300)) c.Ins (fun k x hk => ?_) ?_ N (by omega)]
  · rw [show decide (((c.Names.length : Nat) : Int) ≤ 30) = decide (c.Names.length ≤ 30) from decide_eq_decide.2 (by omega), show decide (((c.Ins.length : Nat) : Int) ≤ 400) = decide (c.Ins.length ≤ 400) from decide_eq_decide.2 (by omega)]
    cases c.Names.all (fun x => decide (x.length ≤ 100)) <;> cases c.Ins.all (fun x => decide (x.S.length ≤ 300)) <;> cases decide (c.Names.length ≤ 30) <;> rfl
  · unfold calqueref33_Few_b2
    simp only [dnlt, cond_false]
  · unfold calqueref33_Few_b2
    simp only [dltx hk, cond_true, idx_some hk, Option.bind_some]
    by_cases h : x.S.length ≤ 300
    · rw [decide_eq_false (show ¬ (x.S.length : Int) > 300 by omega), decide_eq_true h]; rfl
    · rw [decide_eq_true (show (x.S.length : Int) > 300 by omega), decide_eq_false h]; rfl
  · unfold calqueref33_Few_b1
    simp only [dnlt, cond_false]
  · unfold calqueref33_Few_b1
    simp only [dltx hk, cond_true, idx_some hk, Option.bind_some]
    by_cases h : x.length ≤ 100
    · rw [decide_eq_false (show ¬ (x.length : Int) > 100 by omega), decide_eq_true h]; rfl
    · rw [decide_eq_true (show (x.length : Int) > 100 by omega), decide_eq_false h]; rfl
theorem few_Cz {N : Nat} {c : Code} (hN : 3000 ≤ N) (h : few c = true) : Cz N c ∧ c.Names.length ≤ 30 ∧ c.Ins.length ≤ 400 := by
  unfold few at h
  simp only [Bool.and_eq_true, List.all_eq_true, decide_eq_true_eq] at h
  obtain ⟨h1, h2, h3, h4⟩ := h
  exact ⟨⟨hN, by omega, by omega, fun x hx => by have := h1 x hx; omega, fun x hx => by have := h2 x hx; omega⟩, h3, h4⟩
theorem Own_eq {N : Nat} {c : Code} (h : c.Ins.length ≤ 1000) (hN : 3000 ≤ N) : calquelaw33_Own N c = some c := by
  have hr : ∀ xs acc : List Ins, run (σ := List Ins) (β := Code) (fun s x => .inl (s ++ [x])) (fun s => Code.mk c.Names s) acc xs = Code.mk c.Names (acc ++ xs) := by
    intro xs
    induction xs with
    | nil => intro acc; simp [run]
    | cons x xs ih => intro acc; rw [run]; simp only; rw [ih]; simp
  have h := iter_list (body := fun s => calquelaw33_Own_b1 N c s.1 s.2) (σ := List Ins) (fun s k => (k, Code.mk c.Names s)) c.Ins (fun s x => .inl (s ++ [x])) (fun s => Code.mk c.Names s) (fun k s => s.length = k) (fun s k x hk hs => ?_) (fun s hs => ?_) N [] (by omega) rfl
  · unfold calquelaw33_Own
    rw [h, hr]
    rfl
  · have := getlt hk
    constructor
    · show calquelaw33_Own_b1 N c k (Code.mk c.Names s) = _
      unfold calquelaw33_Own_b1
      simp only [dltx hk, cond_true, idx_some hk, Option.bind_some, app_some (show s.length + [x].length ≤ 4294967296 by simp; omega)]
    · intro s' h
      cases h
      simp [hs]
  · show calquelaw33_Own_b1 N c c.Ins.length (Code.mk c.Names s) = _
    unfold calquelaw33_Own_b1
    simp only [dnlt, cond_false]
theorem awake_eq (M : Nat) : calquelaw34_awake (M + 3000) = some true := by kernel_rfl
theorem verifyProper_law (c : Code) (i : Int) : ∃ N, calquelaw34_VerifyProper N c i = some true := by
  refine ⟨c.Names.length + c.Ins.length + 5000, ?_⟩
  generalize hNN : c.Names.length + c.Ins.length + 5000 = N
  have aw : calquelaw34_awake N = some true := by rw [show N = (N - 3000) + 3000 by omega]; exact awake_eq _
  unfold calquelaw34_VerifyProper
  rw [aw]
  simp only [Option.bind_some, Bool.not_true, cond_false]
  rw [Few_eq (by omega)]
  simp only [Option.bind_some]
  cases hf : few c with
  | false => rfl
  | true =>
    obtain ⟨Z, h1, h2⟩ := few_Cz (N := N) (by omega) hf
    simp only [Bool.not_true, cond_false, Own_eq Z.il Z.n, Option.bind_some]
    by_cases hi : i < 0
    · unfold verify_Proper calqueref34_Proper
      rw [decide_eq_true hi]
      rfl
    · rw [show i = (i.toNat : Int) by omega, prog_Proper Z, ref_Proper Z]
      simp
end Go.Proofs.YtmghnmfefpeelaaDoor
