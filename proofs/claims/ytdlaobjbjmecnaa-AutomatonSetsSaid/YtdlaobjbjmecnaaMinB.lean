/- Labels for states: what automaton.classes computes. -/
import Derived.Test.YtdlaobjbjmecnaaMinA
set_option linter.unusedVariables false
namespace Go.X
/-- A map from each of some keys to its number. -/
def tabN {κ : Type} : Nat → List κ → List (κ × Int)
  | _, [] => []
  | n, k :: ks => (k, (n : Int)) :: tabN (n + 1) ks
theorem tabN_len {κ : Type} : ∀ (ks : List κ) (n : Nat), (tabN n ks).length = ks.length
  | [], _ => rfl
  | k :: ks, n => by simp [tabN, tabN_len ks]
theorem tabN_get {κ : Type} [DecidableEq κ] : ∀ (ks : List κ) (n : Nat) (k : κ), mget (tabN n ks) k = if k ∈ ks then some ((n + ks.idxOf k : Nat) : Int) else none
  | [], n, k => by simp [tabN, mget]
  | x :: ks, n, k => by
    have ih := tabN_get ks (n + 1) k
    unfold mget at ih ⊢
    by_cases e : k = x
    · subst e; simp [tabN]
    · rw [tabN, List.find?_cons_of_neg (by simpa using e), ih]
      have e' : ¬ x = k := fun h => e h.symm
      by_cases h : k ∈ ks
      · rw [if_pos h, if_pos (List.mem_cons_of_mem _ h), List.idxOf_cons]
        have : (x == k) = false := by simpa using e'
        rw [this]
        simp only [cond_false]
        congr 1; omega
      · rw [if_neg h, if_neg (by simp [e, h])]
theorem tabN_put {κ : Type} [DecidableEq κ] : ∀ (ks : List κ) (n : Nat) (k : κ), k ∉ ks → mput (tabN n ks) k ((n + ks.length : Nat) : Int) = tabN n (ks ++ [k])
  | [], n, k, _ => by simp [tabN, mput]
  | x :: ks, n, k, h => by
    simp only [List.mem_cons, not_or] at h
    have ih := tabN_put ks (n + 1) k h.2
    simp only [tabN, mput, List.cons_append]
    rw [if_neg (by simpa using h.1)]
    rw [← ih]
    simp only [List.length_cons]
    rw [show n + (ks.length + 1) = n + 1 + ks.length by omega]
end Go.X
namespace Go.Proofs.Ytdlaobjbjmecnaa
open Go.X

theorem le_of_all : ∀ (n : Nat) (l : List Nat), (∀ m, m < n → m ∈ l) → n ≤ l.length
  | 0, _, _ => Nat.zero_le _
  | n + 1, l, h => by
    have h1 := le_of_all n (l.erase n) fun m hm => (List.mem_erase_of_ne (by omega)).2 (h m (by omega))
    have hm := h n (Nat.lt_succ_self n)
    rw [List.length_erase_of_mem hm] at h1
    have := List.length_pos_of_mem hm
    omega

/-- Labels that number the kinds of the first k states in the order of their first appearance. -/
structure Labels {κ : Type} [DecidableEq κ] (kind : Nat → κ) (k : Nat) (ks : List κ) : Prop where
  nod : ks.Nodup
  from_ : ∀ x ∈ ks, ∃ j, j < k ∧ kind j = x
  all : ∀ j, j < k → kind j ∈ ks

section
variable {κ : Type} [DecidableEq κ] {kind : Nat → κ} {k : Nat} {ks : List κ}
theorem Labels.lt (h : Labels kind k ks) {j : Nat} (hj : j < k) : ks.idxOf (kind j) < ks.length := List.idxOf_lt_length_of_mem (h.all j hj)
theorem Labels.eq_iff (h : Labels kind k ks) {i j : Nat} (hi : i < k) (hj : j < k) : ks.idxOf (kind i) = ks.idxOf (kind j) ↔ kind i = kind j := by
  refine ⟨fun e => ?_, fun e => by rw [e]⟩
  have h1 := List.getElem_idxOf (h.lt hi)
  have h2 := List.getElem_idxOf (h.lt hj)
  rw [← h1, ← h2]
  congr 1
theorem Labels.onto (h : Labels kind k ks) {m : Nat} (hm : m < ks.length) : ∃ j, j < k ∧ ks.idxOf (kind j) = m := by
  obtain ⟨j, h1, h2⟩ := h.from_ ks[m] (List.getElem_mem hm)
  refine ⟨j, h1, ?_⟩
  rw [h2]
  exact h.nod.idxOf_getElem m hm
theorem Labels.fsts (h : Labels kind k ks) {g : Nat → Nat} (hg : ∀ j, j < k → g j = ks.idxOf (kind j)) : (fsts g k).length = ks.length := by
  have hinj : ∀ a ∈ Go.Proofs.Ytdlaobjbjmecnaa.fsts g k, ∀ b ∈ Go.Proofs.Ytdlaobjbjmecnaa.fsts g k, g a = g b → a = b := by
    intro a ha b hb e
    obtain ⟨h1, h2⟩ := fsts_mem.1 ha
    obtain ⟨h3, h4⟩ := fsts_mem.1 hb
    rcases Nat.lt_trichotomy a b with h5 | h5 | h5
    · exact absurd e (h4 a h5)
    · exact h5
    · exact absurd e.symm (h2 b h5)
  have hnod : (Go.Proofs.Ytdlaobjbjmecnaa.fsts g k).Nodup := List.nodup_range.filter _
  have hnod' : ((Go.Proofs.Ytdlaobjbjmecnaa.fsts g k).map g).Nodup := by
    unfold List.Nodup at hnod ⊢
    rw [List.pairwise_map]
    exact hnod.imp_of_mem fun {a b} ha hb hab e => hab (hinj a ha b hb e)
  have h1 := nodup_le ks.length _ hnod' fun x hx => by
    obtain ⟨a, ha, rfl⟩ := List.mem_map.1 hx
    obtain ⟨h1, _⟩ := fsts_mem.1 ha
    rw [hg a h1]; exact h.lt h1
  have h2 := le_of_all ks.length ((Go.Proofs.Ytdlaobjbjmecnaa.fsts g k).map g) fun m hm => by
    obtain ⟨j, h1, h2⟩ := h.onto hm
    obtain ⟨a, h3, h4, h5⟩ := fst_ex g j
    refine List.mem_map.2 ⟨a, fsts_mem.2 ⟨by omega, h5⟩, ?_⟩
    rw [h4, hg j h1, h2]
  rw [List.length_map] at h1 h2
  omega
end

/-- What one round of refining leaves: new labels, their number. -/
structure Round (d : DFA) (f g : Nat → Nat) (n : Nat) : Prop where
  ref : Refines d g f
  cnt : (fsts g (sz d)).length = n
  lt : ∀ j, j < sz d → g j < n
  onto : ∀ m, m < n → ∃ j, j < sz d ∧ g j = m

theorem Labels.round {κ : Type} [DecidableEq κ] {kind : Nat → κ} {d : DFA} {ks : List κ} (h : Labels kind (sz d) ks) {f : Nat → Nat}
    (hk : ∀ i j, i < sz d → j < sz d → (kind i = kind j ↔ f i = f j ∧ ∀ c, c < 11 → f (stp d i c) = f (stp d j c))) : Round d f (fun j => ks.idxOf (kind j)) ks.length :=
  ⟨fun i j hi hj => (h.eq_iff hi hj).trans (hk i j hi hj), h.fsts fun _ _ => rfl, fun j hj => h.lt hj, fun m hm => h.onto hm⟩

/-- A list of labels. -/
def Lab (k : Nat) (l : List Int) (f : Nat → Nat) : Prop := l.length = k ∧ ∀ s, s < k → l[s]? = some (f s : Int)

/-! ### the program's classes -/
def arr11 (f : Nat → Nat) : Arr11_Int := ⟨f 0, f 1, f 2, f 3, f 4, f 5, f 6, f 7, f 8, f 9, f 10⟩
def kindK (d : DFA) (f : Nat → Nat) (i : Nat) : Key := ⟨f i, arr11 fun c => f (stp d i c)⟩
theorem all11 {p : Nat → Prop} : (∀ c, c < 11 → p c) ↔ p 0 ∧ p 1 ∧ p 2 ∧ p 3 ∧ p 4 ∧ p 5 ∧ p 6 ∧ p 7 ∧ p 8 ∧ p 9 ∧ p 10 := by
  constructor
  · intro h
    exact ⟨h 0 (by omega), h 1 (by omega), h 2 (by omega), h 3 (by omega), h 4 (by omega), h 5 (by omega), h 6 (by omega), h 7 (by omega), h 8 (by omega), h 9 (by omega), h 10 (by omega)⟩
  · rintro ⟨h0, h1, h2, h3, h4, h5, h6, h7, h8, h9, h10⟩ c hc
    match c, hc with
    | 0, _ => exact h0
    | 1, _ => exact h1
    | 2, _ => exact h2
    | 3, _ => exact h3
    | 4, _ => exact h4
    | 5, _ => exact h5
    | 6, _ => exact h6
    | 7, _ => exact h7
    | 8, _ => exact h8
    | 9, _ => exact h9
    | 10, _ => exact h10
    | n + 11, h => omega
theorem kindK_iff (d : DFA) (f : Nat → Nat) (i j : Nat) : kindK d f i = kindK d f j ↔ f i = f j ∧ ∀ c, c < 11 → f (stp d i c) = f (stp d j c) := by
  rw [all11]
  simp [kindK, arr11, Int.ofNat_inj]

theorem arr_of : ∀ (l : List Int), l.length = 11 → ∃ z, Arr11_Int.of l = some z ∧ z.list = l
  | [_, _, _, _, _, _, _, _, _, _, _], _ => ⟨_, rfl, rfl⟩
theorem arr_list_inj {a b : Arr11_Int} (h : a.list = b.list) : a = b := by
  cases a; cases b
  simp [Arr11_Int.list] at h
  simp [h]
theorem arr11_get (f : Nat → Nat) (c : Nat) (hc : c < 11) : (arr11 f).list[c]? = some (f c : Int) := by
  have := (all11 (p := fun c => (arr11 f).list[c]? = some (f c : Int))).2 ⟨rfl, rfl, rfl, rfl, rfl, rfl, rfl, rfl, rfl, rfl, rfl⟩
  exact this c hc

theorem aKey {d : DFA} (v : WF d) (M : Nat) {f : Nat → Nat} {l : List Int} (hl : Lab (sz d) l f) {i : Nat} (hi : i < sz d) {row : List Int} (hrow : d.Next[i]? = some row) (N : Nat) (hN : 12 ≤ N) :
    iter (fun s => automaton_classes_b4 M l row s.1 s.2) N (0, Key.mk (f i) (Arr11_Int.mk 0 0 0 0 0 0 0 0 0 0 0)) = some (kindK d f i) := by
  have hlr : row.length = 11 := by obtain ⟨r, g1, g2, _⟩ := v.rows i hi; rw [hrow] at g1; cases g1; exact g2
  suffices h : ∃ o, iter (fun s => automaton_classes_b4 M l row s.1 s.2) N (0, Key.mk (f i) (Arr11_Int.mk 0 0 0 0 0 0 0 0 0 0 0)) = some o ∧ o = kindK d f i by
    obtain ⟨o, h1, h2⟩ := h
    rw [h1, h2]
  refine iter_ind (body := fun s => automaton_classes_b4 M l row s.1 s.2) (fun c s => ∃ a : Arr11_Int, s = ((c : Int), Key.mk (f i) a) ∧ ∀ e, e < c → a.list[e]? = some (f (stp d i e) : Int)) 11 (fun o => o = kindK d f i) ?_ ?_ N (0, Key.mk (f i) (Arr11_Int.mk 0 0 0 0 0 0 0 0 0 0 0)) (by omega) ⟨_, rfl, fun e he => absurd he (Nat.not_lt_zero e)⟩
  · rintro c s hc ⟨a, rfl, h⟩
    obtain ⟨row', h1, h2, h3⟩ := v.step hi hc
    rw [hrow] at h1; cases h1
    have hal : a.list.length = 11 := rfl
    simp only [automaton_classes_b4]
    rw [cond_pos (by rw [hlr]; omega), idx_some h2]
    simp only [Option.bind_some]
    rw [idx_some (hl.2 _ h3)]
    simp only [Option.bind_some, Arr11_Int.get]
    rw [idx_lt a.list (by omega)]
    simp only [Option.bind_some, Arr11_Int.set]
    rw [setI_nat (by omega)]
    simp only [Option.bind_some]
    obtain ⟨z, h4, h5⟩ := arr_of (a.list.set c (f (stp d i c) : Int)) (by simp [hal])
    rw [h4]
    simp only [Option.bind_some]
    refine ⟨_, rfl, z, by simp, fun e he => ?_⟩
    rw [h5, get_set (by omega)]
    by_cases e' : e = c
    · subst e'; rw [if_pos rfl]
    · rw [if_neg e']; exact h e (by omega)
  · rintro s ⟨a, rfl, h⟩
    simp only [automaton_classes_b4]
    rw [cond_neg (by rw [hlr]; omega)]
    refine ⟨_, rfl, ?_⟩
    simp only [kindK]
    congr 1
    apply arr_list_inj
    apply List.ext_getElem?
    intro e
    by_cases he : e < 11
    · rw [h e he, arr11_get _ e he]
    · rw [List.getElem?_eq_none (by show 11 ≤ e; omega), List.getElem?_eq_none (by show 11 ≤ e; omega)]

theorem aRound {d : DFA} (v : WF d) (M : Nat) (hM : 12 ≤ M) {f : Nat → Nat} {l : List Int} (hl : Lab (sz d) l f) (fi : List Int) (hfi : fi.length = sz d) (N : Nat) (hN : sz d < N) :
    ∃ o, iter (fun s => automaton_classes_b3 M d l s.1 s.2.1 s.2.2) N (0, ([] : List (Key × Int)), fi) = some o ∧ ∃ g, Lab (sz d) o.2 g ∧ Round d f g o.1.length := by
  refine iter_ind (fun i s => ∃ ks l', s = ((i : Int), tabN 0 ks, l') ∧ Labels (kindK d f) i ks ∧ l'.length = sz d ∧ ∀ j, j < i → l'[j]? = some ((ks.idxOf (kindK d f j) : Nat) : Int)) (sz d) _ ?_ ?_ N _ hN
    ⟨[], fi, rfl, ⟨List.nodup_nil, (fun x hx => by cases hx), fun j hj => absurd hj (Nat.not_lt_zero j)⟩, hfi, fun j hj => absurd hj (Nat.not_lt_zero j)⟩
  · rintro i s hi ⟨ks, l', rfl, h1, h2, h3⟩
    obtain ⟨row, g1, g2⟩ := v.rows i hi
    have hmost := v.most
    have hkl : ks.length ≤ i := by
      have := h1.fsts (g := fun j => ks.idxOf (kindK d f j)) (fun _ _ => rfl)
      rw [← this]; exact fsts_len _ _
    simp only [automaton_classes_b3]
    rw [cond_pos (by unfold sz at hi; omega), idx_some g1]
    simp only [Option.bind_some]
    rw [idx_some (hl.2 i hi)]
    simp only [Option.bind_some]
    rw [aKey v M hl hi g1 M hM]
    simp only [Option.bind_some, tabN_len, tabN_get]
    by_cases hm : kindK d f i ∈ ks
    · rw [if_pos hm]
      simp only [Option.isSome_some, Bool.not_true, cond_false, Option.bind_some, Option.getD_some, Nat.zero_add]
      rw [idx_lt l' (by omega)]
      simp only [Option.bind_some]
      rw [setI_nat (by omega)]
      simp only [Option.bind_some]
      refine ⟨_, rfl, ks, _, by simp; rfl, ⟨h1.nod, fun x hx => ?_, fun j hj => ?_⟩, by simpa using h2, fun j hj => ?_⟩
      · obtain ⟨j, e1, e2⟩ := h1.from_ x hx
        exact ⟨j, by omega, e2⟩
      · by_cases e : j = i
        · subst e; exact hm
        · exact h1.all j (by omega)
      · rw [get_set (by omega)]
        by_cases e : j = i
        · subst e; rw [if_pos rfl]
        · rw [if_neg e]; exact h3 j (by omega)
    · rw [if_neg hm]
      simp only [Option.isSome_none, Bool.not_false, cond_true]
      have hms : mset (tabN 0 ks) (kindK d f i) ((ks.length : Nat) : Int) = some (tabN 0 (ks ++ [kindK d f i])) := by
        unfold mset
        rw [if_pos (by rw [tabN_len]; unfold LIM; unfold sz at hi; omega)]
        have := tabN_put ks 0 _ hm
        rw [Nat.zero_add] at this
        rw [this]
      rw [hms]
      simp only [Option.bind_some]
      rw [idx_lt l' (by omega)]
      simp only [Option.bind_some]
      rw [setI_nat (by omega)]
      simp only [Option.bind_some]
      refine ⟨_, rfl, ks ++ [kindK d f i], _, by simp; rfl, ⟨?_, fun x hx => ?_, fun j hj => ?_⟩, by simpa using h2, fun j hj => ?_⟩
      · rw [List.nodup_append]
        refine ⟨h1.nod, by simp, fun a ha b hb => ?_⟩
        simp only [List.mem_singleton] at hb
        subst hb
        intro e; subst e; exact hm ha
      · rcases List.mem_append.1 hx with hx | hx
        · obtain ⟨j, e1, e2⟩ := h1.from_ x hx
          exact ⟨j, by omega, e2⟩
        · simp only [List.mem_singleton] at hx
          exact ⟨i, by omega, hx.symm⟩
      · by_cases e : j = i
        · subst e; simp
        · exact List.mem_append_left _ (h1.all j (by omega))
      · rw [get_set (by omega)]
        by_cases e : j = i
        · subst e; rw [if_pos rfl, List.idxOf_append, if_neg hm]; simp
        · rw [if_neg e, h3 j (by omega), List.idxOf_append, if_pos (h1.all j (by omega))]
  · rintro s ⟨ks, l', rfl, h1, h2, h3⟩
    simp only [automaton_classes_b3]
    rw [cond_neg (by unfold sz; omega)]
    refine ⟨_, rfl, fun j => ks.idxOf (kindK d f j), ⟨h2, h3⟩, ?_⟩
    simp only [tabN_len]
    exact h1.round fun i j _ _ => kindK_iff d f i j

/-- What the labels of the start say: whether a state accepts; and their number. -/
theorem aStart {d : DFA} (v : WF d) (M : Nat) (l0 : List Int) (hl0 : l0 = List.replicate (sz d) 0) (N : Nat) (hN : sz d < N) :
    ∃ o, iter (fun s => automaton_classes_b1 M d s.1 s.2.1 s.2.2) N (1, 0, l0) = some o ∧ Lab (sz d) o.1 (fun i => if Acc d i then 1 else 0) ∧ o.2 = ((fsts (fun i => if Acc d i then 1 else 0) (sz d)).length : Int) := by
  have hone := v.one
  have hf1 : ∀ i, 0 < i → ((fsts (fun i => if Acc d i then 1 else 0) i).length : Int) = if ∀ j, j < i → Acc d j = Acc d 0 then 1 else 2 := by
    intro i
    induction i with
    | zero => intro h; omega
    | succ i ih =>
      intro _
      rw [fsts_succ, List.length_append]
      by_cases h0 : i = 0
      · subst h0
        have : isFst (fun i => if Acc d i then 1 else 0) 0 = true := isFst_iff.2 fun j hj => absurd hj (Nat.not_lt_zero j)
        rw [this, if_pos (fun j hj => by have : j = 0 := by omega
                                         rw [this])]
        rfl
      · have ih := ih (by omega)
        by_cases hall : ∀ j, j < i → Acc d j = Acc d 0
        · rw [if_pos hall] at ih
          by_cases hi : Acc d i = Acc d 0
          · have : isFst (fun i => if Acc d i then 1 else 0) i = false := by
              refine Bool.eq_false_iff.2 fun h => ?_
              exact isFst_iff.1 h 0 (by omega) (by simp only [hi])
            rw [this, if_pos (fun j hj => by
              by_cases e : j = i
              · rw [e, hi]
              · exact hall j (by omega))]
            simpa using ih
          · have : isFst (fun i => if Acc d i then 1 else 0) i = true := isFst_iff.2 fun j hj => by
              rw [hall j hj]
              revert hi
              cases Acc d i <;> cases Acc d 0 <;> simp
            rw [this, if_neg (show ¬ ∀ j, j < i + 1 → Acc d j = Acc d 0 from fun h => hi (h i (by omega)))]
            simp only [if_true, List.length_cons, List.length_nil]
            omega
        · rw [if_neg hall] at ih
          have : isFst (fun i => if Acc d i then 1 else 0) i = false := by
            refine Bool.eq_false_iff.2 fun h => ?_
            replace h := isFst_iff.1 h
            obtain ⟨j, hj, hne, _⟩ := first_not hall
            have a := h j hj
            have b := h 0 (by omega)
            revert a b hne
            cases Acc d i <;> cases Acc d 0 <;> cases Acc d j <;> simp
          rw [this, if_neg (show ¬ ∀ j, j < i + 1 → Acc d j = Acc d 0 from fun h => hall fun j hj => h j (by omega))]
          simpa using ih
  refine iter_ind (fun i s => ∃ l, s = (if ∀ j, j < i → Acc d j = Acc d 0 then 1 else 2, (i : Int), l) ∧ l.length = sz d ∧ ∀ j, j < sz d → l[j]? = some (if j < i ∧ Acc d j then 1 else 0)) (sz d) _ ?_ ?_ N _ hN ?_
  · rintro i s hi ⟨l, rfl, h1, h2⟩
    have hacc := v.acc
    simp only [automaton_classes_b1]
    rw [cond_pos (by unfold sz at hi; omega), idx_some (v.Acc_some hi)]
    simp only [Option.bind_some]
    have hlab : (bif Acc d i then (idx l (i : Int)).bind fun _ => (setI l (i : Int) 1).bind fun l54 => some l54 else some l) = some (if Acc d i then l.set i 1 else l) := by
      cases Acc d i
      · rfl
      · simp only [cond_true, if_true]
        rw [idx_lt l (by omega)]
        simp only [Option.bind_some]
        rw [setI_nat (by omega)]
        rfl
    rw [hlab]
    simp only [Option.bind_some]
    have h0 := v.Acc_some (s := 0) hone
    rw [show (0 : Int) = ((0 : Nat) : Int) from rfl, idx_some h0]
    simp only [Option.bind_some]
    have hnew : (if Acc d i then l.set i 1 else l).length = sz d ∧ ∀ j, j < sz d → (if Acc d i then l.set i 1 else l)[j]? = some (if j < i + 1 ∧ Acc d j then 1 else 0) := by
      cases ha : Acc d i
      · simp only [Bool.false_eq_true, if_false]
        refine ⟨h1, fun j hj => ?_⟩
        rw [h2 j hj]
        by_cases e : j = i
        · subst e; simp [ha]
        · have : (j < i ∧ Acc d j = true) ↔ (j < i + 1 ∧ Acc d j = true) := by constructor <;> rintro ⟨a, b⟩ <;> exact ⟨by omega, b⟩
          simp only [this]
      · simp only [if_true]
        refine ⟨by simpa using h1, fun j hj => ?_⟩
        rw [get_set (by omega)]
        by_cases e : j = i
        · subst e; simp [ha]
        · rw [if_neg e, h2 j hj]
          have : (j < i ∧ Acc d j = true) ↔ (j < i + 1 ∧ Acc d j = true) := by constructor <;> rintro ⟨a, b⟩ <;> exact ⟨by omega, b⟩
          simp only [this]
    by_cases hi0 : Acc d i = Acc d 0
    · have : (Acc d i != Acc d 0) = false := by simp [hi0]
      rw [this]
      simp only [cond_false]
      refine ⟨_, rfl, _, ?_, hnew⟩
      have e : (∀ j, j < i → Acc d j = Acc d 0) ↔ (∀ j, j < i + 1 → Acc d j = Acc d 0) := by
        constructor
        · intro h j hj
          by_cases e : j = i
          · rw [e, hi0]
          · exact h j (by omega)
        · intro h j hj; exact h j (by omega)
      simp only [e]
      simp
    · have : (Acc d i != Acc d 0) = true := by simp [hi0]
      rw [this]
      simp only [cond_true]
      refine ⟨_, rfl, _, ?_, hnew⟩
      rw [if_neg (show ¬ ∀ j, j < i + 1 → Acc d j = Acc d 0 from fun h => hi0 (h i (by omega)))]
      simp
  · rintro s ⟨l, rfl, h1, h2⟩
    have hacc := v.acc
    simp only [automaton_classes_b1]
    rw [cond_neg (by unfold sz; omega)]
    refine ⟨_, rfl, ⟨h1, fun j hj => ?_⟩, ?_⟩
    · rw [h2 j hj]
      congr 1
      cases hA : Acc d j <;> simp [hj, hA]
    · simp only []
      rw [hf1 _ (by unfold sz; omega)]
  · refine ⟨l0, ?_, by simp [hl0], fun j hj => by simp [hl0, hj]⟩
    rw [if_pos (fun j hj => absurd hj (Nat.not_lt_zero j))]
    rfl

theorem aClasses {d : DFA} (v : WF d) (N : Nat) (hN : sz d + 12 < N) :
    ∃ (l : List Int) (n : Nat) (g : Nat → Nat), automaton_classes N d = some (l, (n : Int)) ∧ Lab (sz d) l g ∧ Classes d g ∧ (∀ j, j < sz d → g j < n) ∧ (∀ m, m < n → ∃ j, j < sz d ∧ g j = m) ∧ n ≤ sz d := by
  have hmost := v.most
  unfold automaton_classes
  rw [mk_some (by omega)]
  simp only [Option.bind_some]
  obtain ⟨o, h1, h2, h3⟩ := aStart v N _ rfl N (by omega)
  have h1' := h1
  unfold sz at h1'
  rw [h1']
  simp only [Option.bind_some]
  suffices h : ∃ o', iter (fun s => automaton_classes_b2 N d s.1 s.2) N (o.1, o.2) = some o' ∧ ∃ (l : List Int) (n : Nat) (g : Nat → Nat), o' = (l, (n : Int)) ∧ Lab (sz d) l g ∧ Classes d g ∧ ∃ f, Round d f g n by
    obtain ⟨o', g1, l, n, g, rfl, g2, g3, g4⟩ := h
    rw [g1]
    obtain ⟨f, hr⟩ := g4
    refine ⟨l, n, g, rfl, g2, g3, hr.lt, hr.onto, ?_⟩
    rw [← hr.cnt]; exact fsts_len _ _
  refine iter_meas (body := fun s => automaton_classes_b2 N d s.1 s.2) (fun s => ∃ f, Lab (sz d) s.1 f ∧ s.2 = ((fsts f (sz d)).length : Int) ∧ Good d f) (fun s => sz d - s.2.toNat)
    (fun o => ∃ (l : List Int) (n : Nat) (g : Nat → Nat), o = (l, (n : Int)) ∧ Lab (sz d) l g ∧ Classes d g ∧ ∃ f, Round d f g n) ?_ N (o.1, o.2) (by simp only []; omega) ⟨_, h2, h3, Good.of_acc d fun i j _ _ => by
      cases Acc d i <;> cases Acc d j <;> simp⟩
  · rintro ⟨l, c⟩ ⟨f, h4, rfl, h6⟩
    simp only [automaton_classes_b2]
    have hll := h4.1
    simp only [] at hll
    rw [hll, mk_some (by unfold sz; omega)]
    simp only [Option.bind_some]
    obtain ⟨o2, e1, g, e2, e3⟩ := aRound v N (by omega) h4 (List.replicate (sz d) 0) (by simp) N (by omega)
    simp only [] at e1
    rw [e1]
    simp only [Option.bind_some]
    rw [cond_beq]
    by_cases he : (o2.1.length : Int) = ((fsts f (sz d)).length : Int)
    · right
      rw [if_pos he]
      refine ⟨_, rfl, o2.2, _, g, rfl, e2, h6.done v e3.ref (by rw [e3.cnt]; omega), f, ?_⟩
      have : (fsts f (sz d)).length = o2.1.length := by omega
      rw [this]; exact e3
    · left
      rw [if_neg he]
      refine ⟨_, rfl, ⟨g, e2, by rw [e3.cnt], h6.step v e3.ref⟩, ?_⟩
      have h7 := e3.ref.finer.len
      have h8 := fsts_len g (sz d)
      rw [e3.cnt] at h7 h8
      simp only [Int.toNat_natCast]
      omega
end Go.Proofs.Ytdlaobjbjmecnaa
