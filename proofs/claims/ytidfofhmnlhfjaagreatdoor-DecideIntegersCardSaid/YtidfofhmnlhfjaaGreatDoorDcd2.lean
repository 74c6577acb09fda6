/- What a relation says of a whole part and of a fraction; numbers that no relation tells apart. -/
import Derived.Test.YtidfofhmnlhfjaaGreatDoorDcd1
set_option linter.unusedVariables false
namespace Go.Proofs.YtidfofhmnlhfjaaGreatDoor
open Go.X

def hw (r : Relation) (n : Nat) : Bool := (ins r.Spans (red r (n : Int))) != r.Not
def opf (o : Int) (f : Str) : Nat := if o = 3 then f.length else if o = 4 then (rt f).length else if o = 5 then vl 0 f else vl 0 (rt f)
def onW (r : Relation) : Bool := r.Operand == 1 || r.Operand == 2
def hf (r : Relation) (f : Str) : Bool := hw r (opf r.Operand f)
def hp (r : Relation) (w f : Str) : Bool := if r.Operand = 1 ∧ f.all zr = false then r.Not else if onW r then hw r (vl 0 w) else hf r f
structure Dp (w f : Str) : Prop where
  hw : Wh w
  wl : w.length ≤ 15
  hf : f.all dgt = true
  fl : f.length ≤ 6
def Dn (x : Str) : Prop := ∃ w f, x = nb w f ∧ Dp w f
theorem nb_mkt (w f : Str) : nb w f = mkt false w f := rfl
theorem nb_parts {w f : Str} (d : Dp w f) : vld (nb w f) = true ∧ wh (nb w f) = w ∧ fr (nb w f) = f := by
  rw [nb_mkt]
  have h := parse_mkt (n := false) d.hw d.hf
  exact ⟨vld_mkt d.hw d.wl d.hf d.fl, h.2.1, h.2.2.1⟩
theorem prp_op {r : Relation} (h : prp r = true) : r.Operand = 1 ∨ r.Operand = 2 ∨ r.Operand = 3 ∨ r.Operand = 4 ∨ r.Operand = 5 ∨ r.Operand = 6 := by
  unfold prp at h
  simp only [Bool.and_eq_true, decide_eq_true_eq] at h
  omega
theorem prp_mod {r : Relation} (h : prp r = true) : r.Mod = 0 ∨ per r.Operand r.Mod = true := by
  unfold prp at h
  simp only [Bool.and_eq_true, Bool.or_eq_true, decide_eq_true_eq] at h
  exact h.2.2.1
theorem prp_spn {r : Relation} (h : prp r = true) : ∀ s ∈ r.Spans, 0 ≤ s.From ∧ s.From ≤ s.To ∧ s.To ≤ gr r.Operand := by
  unfold prp at h
  simp only [Bool.and_eq_true, List.all_eq_true] at h
  intro s hs
  have := h.2.2.2.2.2 s hs
  unfold spn at this
  simp only [Bool.and_eq_true, decide_eq_true_eq] at this
  exact this
theorem hold_nb {r : Relation} (h : prp r = true) {w f : Str} (d : Dp w f) : hold (nb w f) r = hp r w f := by
  obtain ⟨h1, h2, h3⟩ := nb_parts d
  unfold hold opd hp hf hw opf onW
  rw [h1, h2, h3]
  simp only [if_true]
  rcases prp_op h with e | e | e | e | e | e
  · rw [e]
    cases f.all zr <;> simp
  all_goals rw [e]; simp
theorem ins_big {r : Relation} (h : prp r = true) {n : Int} (hn : gr r.Operand < n) : ins r.Spans n = false := by
  unfold ins
  rw [List.any_eq_false]
  intro s hs
  have := prp_spn h s hs
  simp only [Bool.and_eq_true, decide_eq_true_eq]
  omega
theorem gr_100 (o : Int) : gr o ≤ 100 := by unfold gr; split <;> omega
theorem tmod_nat (n m : Nat) : (n : Int).tmod (m : Int) = ((n % m : Nat) : Int) := by
  rw [Int.tmod_eq_emod_of_nonneg (by omega)]
  simp
theorem hw_mod {r : Relation} (h : prp r = true) (ho : onW r = true) {n n' : Nat} (h1 : 100 < n) (h2 : 100 < n') (h3 : n % 300 = n' % 300) : hw r n = hw r n' := by
  unfold hw red
  by_cases hm : r.Mod = 0
  · rw [if_pos hm, if_pos hm, ins_big h (by have := gr_100 r.Operand; omega), ins_big h (by have := gr_100 r.Operand; omega)]
  · rw [if_neg hm, if_neg hm]
    have hper := (prp_mod h).resolve_left hm
    unfold onW at ho
    simp only [Bool.or_eq_true, beq_iff_eq] at ho
    unfold per at hper
    rw [if_pos ho] at hper
    have hmem := List.contains_iff_mem.1 hper
    have e : ((n : Int).tmod r.Mod) = ((n' : Int).tmod r.Mod) := by
      rw [Int.tmod_eq_emod_of_nonneg (by omega), Int.tmod_eq_emod_of_nonneg (by omega)]
      simp only [List.mem_cons, List.not_mem_nil, or_false] at hmem
      rcases hmem with e | e | e | e | e | e | e | e | e | e <;> rw [e] <;> omega
    rw [e]
theorem hw_modF {r : Relation} (h : prp r = true) (ho : r.Operand = 5 ∨ r.Operand = 6) {n n' : Nat} (h1 : 100 < n) (h2 : 100 < n') (h3 : n % 100 = n' % 100) : hw r n = hw r n' := by
  unfold hw red
  by_cases hm : r.Mod = 0
  · rw [if_pos hm, if_pos hm, ins_big h (by have := gr_100 r.Operand; omega), ins_big h (by have := gr_100 r.Operand; omega)]
  · rw [if_neg hm, if_neg hm]
    have hper := (prp_mod h).resolve_left hm
    unfold per at hper
    rw [if_neg (by omega), if_pos ho, decide_eq_true_eq] at hper
    have e : ((n : Int).tmod r.Mod) = ((n' : Int).tmod r.Mod) := by
      rw [Int.tmod_eq_emod_of_nonneg (by omega), Int.tmod_eq_emod_of_nonneg (by omega)]
      rcases hper with e | e <;> rw [e] <;> omega
    rw [e]
theorem prp_noMod {r : Relation} (h : prp r = true) (ho : r.Operand = 3 ∨ r.Operand = 4) : r.Mod = 0 := by
  rcases prp_mod h with e | e
  · exact e
  · unfold per at e
    rw [if_neg (by omega), if_neg (by omega)] at e
    cases e

/-! ### the first of each kind -/
def kp {α β : Type} [BEq β] (key : α → β) (l : List α) (a : List α) : List α := l.foldl (fun acc x => if acc.any (fun y => key y == key x) then acc else acc ++ [x]) a
theorem kp_cons {α β : Type} [BEq β] (key : α → β) (x : α) (l a : List α) : kp key (x :: l) a = kp key l (if a.any (fun y => key y == key x) then a else a ++ [x]) := rfl
theorem kp_sub {α β : Type} [BEq β] (key : α → β) : ∀ (l a : List α), ∃ b, kp key l a = a ++ b ∧ b.Sublist l
  | [], a => ⟨[], by simp [kp], List.Sublist.refl _⟩
  | x :: l, a => by
    rw [kp_cons]
    split
    · obtain ⟨b, h1, h2⟩ := kp_sub key l a
      exact ⟨b, h1, h2.cons x⟩
    · obtain ⟨b, h1, h2⟩ := kp_sub key l (a ++ [x])
      exact ⟨x :: b, by rw [h1]; simp, h2.cons_cons x⟩
theorem kp_old {α β : Type} [BEq β] (key : α → β) (l : List α) {a : List α} {y : α} (h : y ∈ a) : y ∈ kp key l a := by
  obtain ⟨b, h1, _⟩ := kp_sub key l a
  rw [h1]
  exact List.mem_append.2 (.inl h)
theorem kp_cov {α β : Type} [BEq β] [LawfulBEq β] (key : α → β) : ∀ (l a : List α) (l1 : List α) (x : α) (l2 : List α), l = l1 ++ x :: l2 → ∃ y ∈ kp key l a, key y = key x ∧ (y ∈ a ∨ y ∈ l1 ∨ y = x)
  | [], a, l1, x, l2, h => by simp at h
  | z :: l, a, l1, x, l2, h => by
    rw [kp_cons]
    cases l1 with
    | nil =>
      simp only [List.nil_append, List.cons.injEq] at h
      obtain ⟨rfl, rfl⟩ := h
      split
      · next hany =>
        obtain ⟨y, hy, hk⟩ := List.any_eq_true.1 hany
        exact ⟨y, kp_old key l hy, beq_iff_eq.1 hk, .inl hy⟩
      · exact ⟨z, kp_old key l (by simp), rfl, .inr (.inr rfl)⟩
    | cons w l1 =>
      simp only [List.cons_append, List.cons.injEq] at h
      obtain ⟨rfl, rfl⟩ := h
      obtain ⟨y, hy, hk, ho⟩ := kp_cov key _ (if a.any (fun y => key y == key z) then a else a ++ [z]) l1 x l2 rfl
      refine ⟨y, hy, hk, ?_⟩
      rcases ho with ho | ho | ho
      · split at ho
        · exact .inl ho
        · rcases List.mem_append.1 ho with ho | ho
          · exact .inl ho
          · simp at ho; subst ho; exact .inr (.inl (by simp))
      · exact .inr (.inl (by simp [ho]))
      · exact .inr (.inr ho)
/-- Words of one length come in their order. -/
def Rr (x y : Str) : Prop := x.length = y.length → lx x y = true
theorem kp_first {β : Type} [BEq β] [LawfulBEq β] (key : Str → β) {l : List Str} (hs : l.Pairwise Rr) {x : Str} (hx : x ∈ l) : ∃ y ∈ kp key l [], key y = key x ∧ (y.length = x.length → lex y x) := by
  obtain ⟨l1, l2, e⟩ := List.append_of_mem hx
  obtain ⟨y, h1, h2, h3⟩ := kp_cov key l [] l1 x l2 e
  refine ⟨y, h1, h2, fun hl => ?_⟩
  rcases h3 with h3 | h3 | h3
  · cases h3
  · rw [e] at hs
    exact .inr ((List.pairwise_append.1 hs).2.2 y h3 x (by simp) hl)
  · exact .inl h3
theorem kp_mem {α β : Type} [BEq β] (key : α → β) {l : List α} {y : α} (h : y ∈ kp key l []) : y ∈ l := by
  obtain ⟨b, h1, h2⟩ := kp_sub key l []
  rw [h1, List.nil_append] at h
  exact h2.mem h
end Go.Proofs.YtidfofhmnlhfjaaGreatDoor
