/- The law ListFill. -/
import Derived.Test.YtnmiodonophfbaaDoorLst5
set_option linter.unusedVariables false
namespace Go.Proofs.YtnmiodonophfbaaDoor
open Go.X

def lcs (l : List ListPattern) : Locale := Locale.mk ([]) ([]) ([]) ([]) ([]) (Symbols.mk ([]) ([]) ([]) ([]) 0 0) l ([]) ([]) ([]) ([])
def fF (style : List UInt8) (_ : Unit) (p : ListPattern) : Unit ⊕ (Unit ⊕ (ListPattern × Bool)) := if p.Style == style then .inr (.inr (p, true)) else .inl ()
def fnd16 (l : List ListPattern) (style : List UInt8) : ListPattern × Bool := match run (fF style) (fun _ => .inl ()) () l with | .inl _ => (ListPattern.mk [] [] [] [] [], false) | .inr r => r
theorem find_progs {N : Nat} {l : List ListPattern} {style : List UInt8} (hN : l.length < N) : list_Find N (lcs l) style = some (fnd16 l style) := by
  have h := iter_list' (body := fun i => list_Find_b1 N (lcs l) style i) (σ := Unit) (fun _ i => i) l (fF style) (fun _ => .inl ()) (fun _ k x hk => ?_) (fun _ => ?_) N () hN
  · unfold list_Find
    rw [h]
    unfold fnd16
    cases run (fF style) (fun _ => Sum.inl ()) () l <;> rfl
  · unfold list_Find_b1 fF
    show (bif decide ((k : Int) < (l.length : Int)) then (idx l k).bind _ else _) = _
    simp only [dltx hk, cond_true, idx_some hk, Option.bind_some]
    cases (x.Style == style) <;> rfl
  · unfold list_Find_b1
    show (bif decide ((l.length : Int) < (l.length : Int)) then _ else _) = _
    simp only [dnlt, cond_false]
theorem find_refs {N : Nat} {l : List ListPattern} {style : List UInt8} (hN : l.length < N) : calqueref16_Find N (lcs l) style = some (fnd16 l style) := by
  have h := iter_list' (body := fun i => calqueref16_Find_b1 N (lcs l) style i) (σ := Unit) (fun _ i => i) l (fF style) (fun _ => .inl ()) (fun _ k x hk => ?_) (fun _ => ?_) N () hN
  · unfold calqueref16_Find
    rw [h]
    unfold fnd16
    cases run (fF style) (fun _ => Sum.inl ()) () l <;> rfl
  · unfold calqueref16_Find_b1 fF
    show (bif decide ((k : Int) < (l.length : Int)) then (idx l k).bind _ else _) = _
    simp only [dltx hk, cond_true, idx_some hk, Option.bind_some]
    cases (x.Style == style) with
    | false => rfl
    | true =>
      show (idx l k).bind _ = _
      simp only [idx_some hk, Option.bind_some]
      rfl
  · unfold calqueref16_Find_b1
    show (bif decide ((l.length : Int) < (l.length : Int)) then _ else _) = _
    simp only [dnlt, cond_false]
theorem Fill_both {N : Nat} {s a b : List UInt8} (hN : 3000 ≤ N) (hs : s.length ≤ 1000) (ha : a.length ≤ 1000) (hb : b.length ≤ 1000) : ∃ r, list_Fill N s a b = some r ∧ calqueref16_Fill N s a b = some r := by
  unfold list_Fill calqueref16_Fill
  rw [validate_eq hs (by omega), ref_Pattern_eq hs hN]
  simp only [Option.bind_some]
  cases h : vp s with
  | false => exact ⟨_, rfl, rfl⟩
  | true =>
    obtain ⟨f, F⟩ := fil_of h hs
    simp only [Bool.not_true, cond_false]
    rw [F.pr N a b (by omega) (by omega), F.rf N a b (by omega) (by omega) hN]
    exact ⟨_, rfl, rfl⟩
theorem fill_loop {N : Nat} {l : List ListPattern} {ab : Arr2_List_UInt8} (hN : 3000 ≤ N) (hl : l.length < N) (h0 : ab.e0.length ≤ 1000) (h1 : ab.e1.length ≤ 1000) :
    ∃ o : Unit ⊕ Bool, iter (fun s => calquelaw16_ListFill_b1 N l ab s) N 0 = some o ∧ (o = .inl () ∨ o = .inr true) := by
  have h := iter_list' (body := fun i => calquelaw16_ListFill_b1 N l ab i) (σ := Unit) (fun _ i => i) l (fun _ x => if 300 < x.Two.length then .inr (.inr true) else .inl ()) (fun _ => .inl ()) (fun _ k x hk => ?_) (fun _ => ?_) N () hl
  · refine ⟨_, h, ?_⟩
    clear h
    induction l with
    | nil => exact .inl rfl
    | cons y l ih =>
      rw [run]
      by_cases hy : 300 < y.Two.length
      · rw [if_pos hy]; exact .inr rfl
      · rw [if_neg hy]; exact ih (by simp at hl; omega)
  · unfold calquelaw16_ListFill_b1
    simp only [dltx hk, cond_true, idx_some hk, Option.bind_some]
    by_cases hy : 300 < x.Two.length
    · rw [decide_eq_true (show (x.Two.length : Int) > 300 by omega), cond_true, if_pos hy]
    · rw [decide_eq_false (show ¬ (x.Two.length : Int) > 300 by omega), cond_false, if_neg hy]
      obtain ⟨r, e1, e2⟩ := Fill_both (N := N) (s := x.Two) (a := ab.e0) (b := ab.e1) hN (by omega) h0 h1
      simp only [e1, e2, Option.bind_some]
      simp
  · unfold calquelaw16_ListFill_b1
    simp only [dnlt, cond_false]
theorem listFill_law (l : List ListPattern) (style : List UInt8) (ab : Arr2_List_UInt8) (h0 : ab.e0.length ≤ reachBytes) (h1 : ab.e1.length ≤ reachBytes) : ∃ N, calquelaw16_ListFill N l style ab = some true := by
  refine ⟨l.length + 60000, ?_⟩
  generalize hNN : l.length + 60000 = N
  have aw := awk (N := N) (by omega)
  unfold reachBytes at h0 h1
  unfold calquelaw16_ListFill
  rw [aw]
  simp only [Option.bind_some, Bool.not_true, cond_false]
  by_cases c1 : (l.length : Int) > 20
  · rw [decide_eq_true c1]; rfl
  rw [decide_eq_false c1, cond_false]
  by_cases c2 : (style.length : Int) > 300
  · rw [decide_eq_true c2]; rfl
  rw [decide_eq_false c2, cond_false, wrap_b (z := (ab.e0.length : Int) + (ab.e1.length : Int)) (by omega) (by omega)]
  by_cases c3 : (ab.e0.length : Int) + (ab.e1.length : Int) > 300
  · rw [decide_eq_true c3]; rfl
  rw [decide_eq_false c3, cond_false]
  have e1 := find_progs (N := N) (l := l) (style := style) (by omega)
  have e2 := find_refs (N := N) (l := l) (style := style) (by omega)
  unfold lcs at e1 e2
  rw [e1]
  simp only [Option.bind_some]
  rw [e2]
  simp only [Option.bind_some, beq_self_eq_true, Bool.and_self, Bool.not_true, cond_false, bne_self_eq_false]
  obtain ⟨o, ho, hor⟩ := fill_loop (N := N) (l := l) (ab := ab) (by omega) (by omega) (by omega) (by omega)
  rw [ho]
  rcases hor with rfl | rfl <;> rfl
end Go.Proofs.YtnmiodonophfbaaDoor
