/- Texts of this proof, put together by pack.py: what its declarations name. -/
import Derived.Test.YtidfofhmnlhfjaaGreatDoorPkE5
import Derived.Test.YtidfofhmnlhfjaaGreatDoorCards
import Derived.Test.YtidfofhmnlhfjaaGreatDoorChecked
import Derived.Test.YtidfofhmnlhfjaaGreatDoorProg
import Derived.Test.YtidfofhmnlhfjaaGreatDoorRows
import Derived.Test.YtidfofhmnlhfjaaGreatDoorTie
set_option linter.unusedVariables false
namespace Go.Proofs.YtidfofhmnlhfjaaGreatDoor
open Go.X
theorem whole_eq (N : Nat) (r : Relation) : calqueref10_whole N r = some (onW r) := by
  unfold calqueref10_whole onW
  cases (r.Operand == 1) <;> cases (r.Operand == 2) <;> rfl
def vbit (x : Str) (r : Relation) : UInt8 := if hold x r then 49 else 48
def vec (l : List Relation) (x : Str) (first : Bool) : Str := (l.filter fun r => onW r == first).map (vbit x)
theorem vec_len (l : List Relation) (x : Str) (b : Bool) : (vec l x b).length ≤ l.length := by
  unfold vec
  rw [List.length_map]
  exact List.length_filter_le _ _
theorem vector_eq {N : Nat} {l : List Relation} (S : Sl N l) {x : Str} (hx : x.length ≤ 1000) (first : Bool) : calqueref10_vector N l x first = some (vec l x first) := by
  have hn := S.n
  have hl := S.len
  unfold calqueref10_vector
  have hh := iter_list (body := fun t => calqueref10_vector_b1 N l x first t.1 t.2) (σ := Str) (fun s k => (s, k)) l (fun s r => .inl (if onW r == first then s ++ [vbit x r] else s)) (fun s => s) (fun k s => s.length ≤ k) (fun s k r hk hs => ?_) (fun s hs => ?_) N [] (by omega) (by simp)
  · rw [hh, run_fold]
    have e : ∀ (xs : List Relation) (a : Str), xs.foldl (fun s r => if onW r == first then s ++ [vbit x r] else s) a = a ++ vec xs x first := by
      intro xs
      induction xs with
      | nil => intro a; simp [vec]
      | cons y ys ih =>
        intro a
        rw [List.foldl_cons, ih]
        unfold vec
        rw [List.filter_cons]
        cases h : (onW y == first) <;> simp
    rw [e]
    rfl
  · have hlt := getlt hk
    constructor
    · show calqueref10_vector_b1 N l x first s k = _
      unfold calqueref10_vector_b1
      simp only [dltx hk, cond_true, idx_some hk, Option.bind_some, whole_eq]
      have hr := S.p r (List.mem_of_getElem? hk)
      have h4 := prp_len hr
      rw [Relation_eq hx (by omega) (by omega)]
      simp only [Option.bind_some]
      unfold vbit
      cases ho : onW r <;> cases first <;> first
        | rfl
        | (cases hold x r with
          | true =>
            simp only [bne_self_eq_false, cond_false, cond_true]
            rw [cat_some (by simp; omega)]
            rfl
          | false =>
            simp only [bne_self_eq_false, cond_false]
            rw [cat_some (by simp; omega)]
            rfl)
    · intro s' h
      simp only [Sum.inl.injEq] at h
      subst h
      split
      · simp; omega
      · omega
  · show calqueref10_vector_b1 N l x first s l.length = _
    unfold calqueref10_vector_b1
    simp only [dnlt, cond_false]
theorem vec_same {l : List Relation} {x y : Str} {b : Bool} (h : vec l x b = vec l y b) : ∀ r ∈ l, onW r = b → hold x r = hold y r := by
  induction l with
  | nil => intro r hr; cases hr
  | cons q l ih =>
    intro r hr ho
    unfold vec at h
    rw [List.filter_cons] at h
    cases hq : (onW q == b) with
    | true =>
      rw [hq] at h
      simp only [if_true, List.map_cons, List.cons.injEq] at h
      rcases List.mem_cons.1 hr with rfl | hr
      · have h1 := h.1
        unfold vbit at h1
        cases hx : hold x r <;> cases hy : hold y r <;> rw [hx, hy] at h1 <;> first | rfl | (simp at h1)
      · exact ih h.2 r hr ho
    | false =>
      rw [hq] at h
      simp only [Bool.false_eq_true, if_false] at h
      rcases List.mem_cons.1 hr with rfl | hr
      · rw [ho] at hq; simp at hq
      · exact ih h r hr ho
theorem vec_length {l : List Relation} {x y : Str} {b : Bool} : (vec l x b).length = (vec l y b).length := by
  unfold vec
  rw [List.length_map, List.length_map]
theorem place_eq {N : Nat} (l : List Str) (s : Str) (hN : l.length < N) : calqueref10_place N l s = some (match l.findIdx? (fun x => x == s) with | some k => (k : Int) | none => -1) := by
  unfold calqueref10_place
  rw [iter_find l (fun x => x == s) (fun k x hk => ?_) ?_ N hN]
  · exact find_any l _
  · unfold calqueref10_place_b1
    simp only [dnlt, cond_false]
  · unfold calqueref10_place_b1
    simp only [dltx hk, cond_true, idx_some hk, Option.bind_some]
    cases x == s <;> rfl
theorem place_neg (l : List Str) (s : Str) : decide ((match l.findIdx? (fun x => x == s) with | some k => (k : Int) | none => -1) < 0) = !(l.any fun x => x == s) := by
  have := find_ge l (fun x => x == s)
  rw [← this]
  cases l.findIdx? (fun x => x == s) with
  | none => rfl
  | some k =>
    simp only
    rw [decide_eq_false (show ¬ (k : Int) < 0 by omega), decide_eq_true (show (k : Int) ≥ 0 by omega)]
    rfl
def vw (l : List Relation) (n : Nat) : Str := vec l (dd n) true
def rnums (l : List Relation) (n : Nat) : List Nat := kp (vw l) (List.range n) []
theorem wholes_ref {N : Nat} {l : List Relation} (S : Sl N l) : calqueref10_wholes N l = some ((rnums l 401).map dd) := by
  have hn := S.n
  have hl := S.len
  unfold calqueref10_wholes
  have hh := iter_list (body := fun t => calqueref10_wholes_b1 N l t.1 t.2.1 t.2.2) (σ := Nat) (fun i k => ((rnums l i).map (vw l), (rnums l i).map dd, k)) (List.range 401) (fun i _ => .inl (i + 1)) (fun i => (rnums l i).map dd) (fun k i => i = k) (fun i k r hk hi => ?_) (fun i hi => ?_) N 0 (by rw [List.length_range]; omega) rfl
  · rw [run_idx, Nat.zero_add, List.length_range] at hh
    have e : (([] : List Str), ([] : List Str), (0 : Int)) = ((rnums l 0).map (vw l), (rnums l 0).map dd, 0) := rfl
    rw [e, hh]
    rfl
  · subst hi
    have hlt := getlt hk
    rw [List.length_range] at hlt
    have hdl := dd_len 2 i (by omega)
    have hrl : (rnums l i).length ≤ i := by
      have := kp_len (vw l) (List.range i) []
      rw [List.length_range, List.length_nil] at this
      unfold rnums; omega
    have hnext : rnums l (i + 1) = if (rnums l i).any (fun y => vw l y == vw l i) then rnums l i else rnums l i ++ [i] := by
      unfold rnums
      rw [List.range_succ, kp_app]
      rfl
    have hany : ((rnums l i).map (vw l)).any (fun x => x == vec l (dd i) true) = (rnums l i).any (fun y => vw l y == vw l i) := by rw [List.any_map]; rfl
    constructor
    · show calqueref10_wholes_b1 N l ((rnums l i).map (vw l)) ((rnums l i).map dd) i = _
      unfold calqueref10_wholes_b1
      rw [decide_eq_true (show (i : Int) ≤ 400 by omega), cond_true, ref_dec (by omega) (by omega)]
      simp only [Option.bind_some]
      rw [vector_eq S (by omega)]
      simp only [Option.bind_some]
      rw [place_eq _ _ (by rw [List.length_map]; omega)]
      simp only [Option.bind_some]
      have hw1 : IntKind.wrap .i64 ((i : Int) + 1) = (i : Int) + 1 := wrap_id (by omega) (by omega)
      rw [place_neg, hany, hnext, hw1]
      cases (rnums l i).any (fun y => vw l y == vw l i) with
      | true => rfl
      | false =>
        simp only [Bool.not_false, cond_true, Bool.false_eq_true, if_false]
        rw [app_some (by rw [List.length_map]; simp; omega)]
        simp only [Option.bind_some]
        rw [app_some (by rw [List.length_map]; simp; omega)]
        simp only [Option.bind_some, List.map_append, List.map_cons, List.map_nil]
        rfl
    · intro s' h
      cases h; rfl
  · rw [List.length_range] at hi ⊢
    generalize hM : ((401 : Nat) : Int) = M
    dsimp only
    unfold calqueref10_wholes_b1
    rw [decide_eq_false (show ¬ M ≤ 400 by omega), cond_false]
theorem rnums_lt {l : List Relation} {n : Nat} (h : n ∈ rnums l 401) : n < 401 := by
  unfold rnums at h
  exact List.mem_range.1 (kp_mem _ h)
theorem rwholes_cov {l : List Relation} (hpr : Pr l) (v : Nat) : ∃ n ∈ rnums l 401, n ≤ v ∧ ∀ r ∈ l, onW r = true → hw r n = hw r v := by
  have h0 : ∃ n0, n0 < 401 ∧ n0 ≤ v ∧ ∀ r ∈ l, onW r = true → hw r n0 = hw r v := by
    by_cases h : v < 401
    · exact ⟨v, h, Nat.le_refl _, fun r _ _ => rfl⟩
    · exact ⟨101 + (v - 101) % 300, by omega, by omega, fun r hr ho => hw_mod (hpr r hr) ho (by omega) (by omega) (by omega)⟩
  obtain ⟨n0, h1, h2, h3⟩ := h0
  obtain ⟨l1, l2, e⟩ := List.append_of_mem (List.mem_range.2 h1)
  obtain ⟨y, k1, k2, k3⟩ := kp_cov (vw l) (List.range 401) [] l1 n0 l2 e
  have hy : y ≤ n0 := by
    rcases k3 with k3 | k3 | k3
    · cases k3
    · have hs : (List.range 401).Pairwise (· < ·) := List.pairwise_lt_range
      rw [e] at hs
      have := (List.pairwise_append.1 hs).2.2 y k3 n0 (by simp)
      omega
    · omega
  refine ⟨y, k1, by omega, fun r hr ho => ?_⟩
  have := vec_same k2 r hr ho
  have hw0 : ∀ u : Nat, u < 1000000000 → hold (dd u) r = hw r u := by
    intro u hu
    have := hold_nb (hpr r hr) (dd_Dp hu)
    rw [nb_dd] at this
    rw [this]
    unfold hp
    rw [if_neg (by simp), ho, dd_vl]
    rfl
  rw [hw0 y (by omega), hw0 n0 (by omega)] at this
  rw [this]
  exact h3 r hr ho
end Go.Proofs.YtidfofhmnlhfjaaGreatDoor
namespace Go.Proofs.YtidfofhmnlhfjaaGreatDoor
open Go.X
def vf (l : List Relation) (s : Str) : Str := vec l (nb [48] s) false ++ if s.all zr then [48] else []
theorem Dp48 {s : Str} (h : s.all dgt = true) (h6 : s.length ≤ 6) : Dp [48] s := ⟨⟨by decide, .inl rfl⟩, by simp, h, h6⟩
theorem vf_same {l : List Relation} (hpr : Pr l) {s t : Str} (hs : s.all dgt = true) (hs6 : s.length ≤ 6) (ht : t.all dgt = true) (ht6 : t.length ≤ 6) (h : vf l s = vf l t) : s.all zr = t.all zr ∧ ∀ r ∈ l, onW r = false → hf r s = hf r t := by
  unfold vf at h
  have hl := congrArg List.length h
  rw [List.length_append, List.length_append, vec_length (x := nb [48] s) (y := nb [48] t)] at hl
  have hz : s.all zr = t.all zr := by
    cases h1 : s.all zr <;> cases h2 : t.all zr <;> rw [h1, h2] at hl <;> first | rfl | (simp at hl)
  refine ⟨hz, fun r hr ho => ?_⟩
  rw [hz] at h
  have hv := List.append_cancel_right h
  have := vec_same hv r hr ho
  rw [hold_nb (hpr r hr) (Dp48 hs hs6), hold_nb (hpr r hr) (Dp48 ht ht6)] at this
  unfold hp at this
  have h1 : r.Operand ≠ 1 := fun e => by unfold onW at ho; rw [e] at ho; simp at ho
  have e : ∀ x : Str, (if r.Operand = 1 ∧ x.all zr = false then r.Not else if onW r = true then hw r (vl 0 [48]) else hf r x) = hf r x := fun x => by rw [if_neg (fun h => h1 h.1), ho]; rfl
  rw [e, e] at this
  exact this
theorem sless_lx : ∀ {s t : Str}, s.all dgt = true → t.all dgt = true → s.length = t.length → sless s t = lx s t
  | [], [], _, _, _ => rfl
  | [], _ :: _, _, _, h => by simp at h
  | _ :: _, [], _, _, h => by simp at h
  | a :: s, b :: t, hs, ht, hl => by
    rw [List.all_cons, Bool.and_eq_true] at hs ht
    have ih := sless_lx hs.2 ht.2 (by simpa using hl)
    have ha := dgt_iff.1 hs.1
    have hb := dgt_iff.1 ht.1
    show (decide (a < b) || (a == b && Op.bytesLess s t)) = _
    rw [lx]
    have hk : ∀ c : UInt8, dgt c = true → ky c = c.toNat := by
      intro c hc
      unfold ky
      rw [if_neg]
      intro e
      subst e
      exact absurd hc (by decide)
    rw [hk a hs.1, hk b ht.1]
    by_cases e : a = b
    · subst e
      rw [if_pos rfl, show (a == a) = true by simp, Bool.true_and, decide_eq_false (show ¬ a < a from by rw [UInt8.lt_iff_toNat_lt]; omega), Bool.false_or]
      exact ih
    · rw [if_neg e, show (a == b) = false by simp [e], Bool.false_and, Bool.or_false]
      exact decide_eq_decide.2 UInt8.lt_iff_toNat_lt
abbrev Tbl := List (Str × Str)
def stepF (l : List Relation) (b : Nat) (st : Tbl) (s : Str) : Tbl :=
  match st.findIdx? (fun e => e.1 == vf l s) with
  | none => st ++ [(vf l s, s)]
  | some k => if b ≤ k then (match st[k]? with | some e => if lx s e.2 then st.set k (e.1, s) else st | none => st) else st
structure Good (l : List Relation) (b n : Nat) (st : Tbl) : Prop where
  g : ∀ i e, st[i]? = some e → e.1 = vf l e.2 ∧ e.2.all dgt = true ∧ e.2.length ≤ 6 ∧ (i < b → e.2.length < n) ∧ (b ≤ i → e.2.length = n)
def Cov (l : List Relation) (st : Tbl) (s : Str) : Prop := ∃ e ∈ st, e.1 = vf l s ∧ (e.2.length < s.length ∨ (e.2.length = s.length ∧ lex e.2 s))
theorem find_at {st : Tbl} {p : Str × Str → Bool} {k : Nat} (h : st.findIdx? p = some k) : ∃ e, st[k]? = some e ∧ p e = true := by
  obtain ⟨h1, h2, _⟩ := List.findIdx?_eq_some_iff_getElem.1 h
  exact ⟨_, List.getElem?_eq_getElem h1, h2⟩
theorem stepF_ok {l : List Relation} {b n : Nat} {st : Tbl} (G : Good l b n st) (hb : b ≤ st.length) {s : Str} (hs : s.all dgt = true) (hn : s.length = n) (h6 : n ≤ 6) :
    Good l b n (stepF l b st s) ∧ b ≤ (stepF l b st s).length ∧ Cov l (stepF l b st s) s ∧ (∀ x, Cov l st x → Cov l (stepF l b st s) x) ∧ (stepF l b st s).length ≤ st.length + 1 := by
  unfold stepF
  cases hf : st.findIdx? (fun e => e.1 == vf l s) with
  | none =>
    refine ⟨⟨fun i e hi => ?_⟩, by simp only [List.length_append, List.length_singleton]; omega, ⟨(vf l s, s), by simp, rfl, .inr ⟨rfl, lex_rfl _⟩⟩, fun x ⟨e, he, h⟩ => ⟨e, List.mem_append.2 (.inl he), h⟩, by simp⟩
    simp only at hi
    by_cases hlt : i < st.length
    · rw [List.getElem?_append_left hlt] at hi
      exact G.g i e hi
    · rw [List.getElem?_append_right (by omega)] at hi
      have : e = (vf l s, s) := by
        cases hk : i - st.length with
        | zero => rw [hk] at hi; simpa using hi.symm
        | succ m => rw [hk] at hi; simp at hi
      subst this
      exact ⟨rfl, hs, by simp only; omega, fun h => by omega, fun _ => hn⟩
  | some k =>
    obtain ⟨e, he, hp⟩ := find_at hf
    have hp' : e.1 = vf l s := beq_iff_eq.1 hp
    obtain ⟨g1, g2, g3, g4, g5⟩ := G.g k e he
    simp only
    by_cases hbk : b ≤ k
    · rw [if_pos hbk, he]
      simp only
      have hlen := g5 hbk
      cases hlx : lx s e.2 with
      | true =>
        simp only [if_true]
        have hkl := getlt he
        have hmem : (e.1, s) ∈ st.set k (e.1, s) := by
          rw [List.mem_iff_getElem?]
          exact ⟨k, by simp [hkl]⟩
        refine ⟨⟨fun i f hi => ?_⟩, by rw [List.length_set]; exact hb, ⟨(e.1, s), hmem, hp', .inr ⟨rfl, lex_rfl _⟩⟩, fun x ⟨f, hf', h1, h2⟩ => ?_, by rw [List.length_set]; omega⟩
        · rw [List.getElem?_set] at hi
          split at hi
          · next heq =>
            simp only [Option.some.injEq] at hi
            subst hi
            subst heq
            exact ⟨hp', hs, by simp only; omega, fun h => by omega, fun _ => hn⟩
          · exact G.g i f hi
        · obtain ⟨i, hi⟩ := List.mem_iff_getElem?.1 hf'
          by_cases hik : i = k
          · subst hik
            rw [he] at hi
            simp only [Option.some.injEq] at hi
            subst hi
            refine ⟨(e.1, s), hmem, h1, ?_⟩
            rcases h2 with h2 | ⟨h2, h3⟩
            · exact .inl (by simp only; omega)
            · exact .inr ⟨by simp only; omega, lex_tr (.inr hlx) h3⟩
          · refine ⟨f, ?_, h1, h2⟩
            rw [List.mem_iff_getElem?]
            exact ⟨i, by rw [List.getElem?_set_ne (Ne.symm hik)]; exact hi⟩
      | false =>
        simp only [Bool.false_eq_true, if_false]
        refine ⟨G, hb, ⟨e, List.mem_of_getElem? he, hp', .inr ⟨by omega, ?_⟩⟩, fun x h => h, by omega⟩
        cases hlx2 : lx e.2 s with
        | true => exact .inr hlx2
        | false => exact .inl (lx_tri (by omega) hlx2 hlx)
    · rw [if_neg hbk]
      exact ⟨G, hb, ⟨e, List.mem_of_getElem? he, hp', .inl (by have := g4 (by omega); omega)⟩, fun x h => h, by omega⟩
def rep (k : Nat) : Str := List.replicate k 48
def txt (n w t : Nat) : Str := if w = 0 then rep n else rep (w - (dd t).length) ++ dd t ++ rep (n - w)
def gen (n w t : Nat) : Option Str := if (t % 10 == 0) != (w == 0) then none else if w = 0 ∧ 0 < t then none else if (dd t).length > max w 1 then none else some (txt n w t)
theorem rep_all (k : Nat) : (rep k).all dgt = true := by unfold rep; rw [List.all_eq_true]; intro x hx; rw [(List.mem_replicate.1 hx).2]; decide
theorem rep_zr (k : Nat) : (rep k).all zr = true := by unfold rep; rw [List.all_eq_true]; intro x hx; rw [(List.mem_replicate.1 hx).2]; rfl
theorem rep_len (k : Nat) : (rep k).length = k := by unfold rep; simp
theorem gen_ok {n w t : Nat} {s : Str} (hw : w ≤ n) (h : gen n w t = some s) : s = txt n w t ∧ s.length = n ∧ s.all dgt = true ∧ (w ≠ 0 → t % 10 ≠ 0 ∧ (dd t).length ≤ w) ∧ (w = 0 → t = 0) := by
  unfold gen at h
  split at h
  · cases h
  · next h1 =>
    split at h
    · cases h
    · next h2 =>
      split at h
      · cases h
      · next h3 =>
        simp only [Option.some.injEq] at h
        subst h
        refine ⟨rfl, ?_, ?_, fun hw0 => ?_, fun hw0 => ?_⟩
        · unfold txt
          split
          · exact rep_len n
          · rw [List.length_append, List.length_append, rep_len, rep_len]; omega
        · unfold txt
          split
          · exact rep_all n
          · rw [List.all_append, List.all_append, rep_all, dd_all, rep_all]; rfl
        · refine ⟨fun h0 => ?_, by omega⟩
          rw [h0, show ((0 : Nat) == 0) = true from rfl, show (w == 0) = false by simp [hw0]] at h1
          exact h1 rfl
        · omega
def stepO (l : List Relation) (b : Nat) (st : Tbl) (o : Option Str) : Tbl := match o with | none => st | some s => stepF l b st s
theorem fold_ok {l : List Relation} {b n : Nat} (h6 : n ≤ 6) : ∀ (xs : List (Option Str)) (st : Tbl), (∀ s, some s ∈ xs → s.all dgt = true ∧ s.length = n) → Good l b n st → b ≤ st.length →
    Good l b n (xs.foldl (stepO l b) st) ∧ b ≤ (xs.foldl (stepO l b) st).length ∧ (∀ s, some s ∈ xs → Cov l (xs.foldl (stepO l b) st) s) ∧ (∀ x, Cov l st x → Cov l (xs.foldl (stepO l b) st) x) ∧ (xs.foldl (stepO l b) st).length ≤ st.length + xs.length
  | [], st, _, G, hb => ⟨G, hb, fun s hs => (by cases hs), fun x h => h, by simp⟩
  | o :: xs, st, hx, G, hb => by
    rw [List.foldl_cons]
    cases o with
    | none =>
      obtain ⟨a1, a2, a3, a4, a5⟩ := fold_ok h6 xs st (fun s hs => hx s (by simp [hs])) G hb
      refine ⟨a1, a2, fun s hs => ?_, a4, by simp only [List.length_cons]; exact Nat.le_succ_of_le a5⟩
      rcases List.mem_cons.1 hs with hs | hs
      · cases hs
      · exact a3 s hs
    | some s =>
      obtain ⟨hs1, hs2⟩ := hx s (by simp)
      obtain ⟨b1, b2, b3, b4, b5⟩ := stepF_ok G hb hs1 hs2 h6
      obtain ⟨a1, a2, a3, a4, a5⟩ := fold_ok h6 xs (stepF l b st s) (fun s hs => hx s (by simp [hs])) b1 b2
      refine ⟨a1, a2, fun x hx' => ?_, fun x h => a4 x (b4 x h), ?_⟩
      · rcases List.mem_cons.1 hx' with hx' | hx'
        · simp only [Option.some.injEq] at hx'; subst hx'; exact a4 _ b3
        · exact a3 x hx'
      · show (xs.foldl (stepO l b) (stepF l b st s)).length ≤ _
        simp only [List.length_cons]
        omega
def genW (n w : Nat) : List (Option Str) := (List.range 300).map (gen n w)
def genN (n m : Nat) : List (Option Str) := (List.range m).flatMap (genW n)
def tbl (l : List Relation) : Nat → Tbl
  | 0 => []
  | n + 1 => (genN n (n + 1)).foldl (stepO l (tbl l n).length) (tbl l n)
theorem genN_len : ∀ n m : Nat, (genN n m).length = 300 * m := by
  intro n m
  induction m with
  | zero => rfl
  | succ m ih =>
    unfold genN at ih ⊢
    rw [List.range_succ, List.flatMap_append, List.length_append, ih]
    simp [genW]
    omega
theorem tbl_ok {l : List Relation} : ∀ n, n ≤ 7 → (∀ e ∈ tbl l n, e.1 = vf l e.2 ∧ e.2.all dgt = true ∧ e.2.length ≤ 6 ∧ e.2.length < n) ∧ (tbl l n).length ≤ 2100 * n ∧ ∀ k w t s, k < n → w ≤ k → t < 300 → gen k w t = some s → Cov l (tbl l n) s
  | 0, _ => ⟨fun e he => (by cases he), by simp [tbl], fun k w t s h => by omega⟩
  | n + 1, hn => by
    obtain ⟨h1, h2, h3⟩ := tbl_ok (l := l) n (by omega)
    have G : Good l (tbl l n).length n (tbl l n) := ⟨fun i e hi => by
      obtain ⟨a1, a2, a3, a4⟩ := h1 e (List.mem_of_getElem? hi)
      exact ⟨a1, a2, a3, fun _ => a4, fun h => by have := getlt hi; omega⟩⟩
    have hx : ∀ s, some s ∈ genN n (n + 1) → s.all dgt = true ∧ s.length = n := by
      intro s hs
      obtain ⟨w, hw, h⟩ := List.mem_flatMap.1 hs
      obtain ⟨t, ht, h⟩ := List.mem_map.1 h
      have := List.mem_range.1 hw
      obtain ⟨_, k1, k2, _⟩ := gen_ok (by omega) h
      exact ⟨k2, k1⟩
    obtain ⟨a1, a2, a3, a4, a5⟩ := fold_ok (show n ≤ 6 by omega) (genN n (n + 1)) (tbl l n) hx G (Nat.le_refl _)
    refine ⟨fun e he => ?_, ?_, fun k w t s hk hw ht hg => ?_⟩
    · rw [tbl] at he
      obtain ⟨i, hi⟩ := List.mem_iff_getElem?.1 he
      obtain ⟨g1, g2, g3, g4, g5⟩ := a1.g i e hi
      refine ⟨g1, g2, g3, ?_⟩
      by_cases h : i < (tbl l n).length
      · have := g4 h; omega
      · have := g5 (by omega); omega
    · have hg := genN_len n (n + 1)
      have a6 := Nat.le_trans a5 (Nat.add_le_add_left (Nat.le_of_eq hg) _)
      rw [tbl]
      exact Nat.le_trans a6 (by omega)
    · rw [tbl]
      by_cases hkn : k = n
      · subst hkn
        exact a3 s (List.mem_flatMap.2 ⟨w, List.mem_range.2 (by omega), List.mem_map.2 ⟨t, List.mem_range.2 ht, hg⟩⟩)
      · exact a4 s (h3 k w t s (by omega) hw ht hg)
end Go.Proofs.YtidfofhmnlhfjaaGreatDoor
namespace Go.Proofs.YtidfofhmnlhfjaaGreatDoor
open Go.X
theorem pad_left {N : Nat} {w : Nat} (hw : w ≤ 100) : ∀ (j : Nat) (s : Str) (M : Nat), w ≤ s.length + j → j < M → s.length ≤ 100 → iter (fun x => calqueref10_padded_b1 N (w : Int) x) M s = some (rep (w - s.length) ++ s) := by
  intro j
  induction j with
  | zero =>
    intro s M h hM hs
    obtain ⟨M, rfl⟩ : ∃ K, M = K + 1 := ⟨M - 1, by omega⟩
    rw [iter]
    unfold calqueref10_padded_b1
    rw [decide_eq_false (show ¬ (s.length : Int) < (w : Int) by omega), cond_false, show w - s.length = 0 by omega]
    rfl
  | succ j ih =>
    intro s M h hM hs
    obtain ⟨M, rfl⟩ : ∃ K, M = K + 1 := ⟨M - 1, by omega⟩
    have hb : calqueref10_padded_b1 N (w : Int) s = some (if s.length < w then .inl (48 :: s) else .inr s) := by
      unfold calqueref10_padded_b1
      by_cases hlt : s.length < w
      · rw [decide_eq_true (show (s.length : Int) < (w : Int) by omega), cond_true, if_pos hlt, cat_some (by simp; omega)]
        rfl
      · rw [decide_eq_false (show ¬ (s.length : Int) < (w : Int) by omega), cond_false, if_neg hlt]
    rw [iter, hb]
    by_cases hlt : s.length < w
    · rw [if_pos hlt]
      simp only
      rw [ih (48 :: s) M (by simp only [List.length_cons]; omega) (by omega) (by simp only [List.length_cons]; omega)]
      obtain ⟨k, hk⟩ : ∃ k, w - s.length = k + 1 := ⟨w - s.length - 1, by omega⟩
      rw [hk, show w - (48 :: s).length = k by simp only [List.length_cons]; omega]
      unfold rep
      rw [List.replicate_succ']
      simp
    · rw [if_neg hlt, show w - s.length = 0 by omega]
      rfl
theorem pad_right {N : Nat} {z : Nat} (hz : z ≤ 100) {s : Str} (hs : s.length ≤ 200) (hN : 20000000 ≤ N) : iter (fun x => calqueref10_padded_b2 N (z : Int) x.1 x.2) N (s, 0) = some (s ++ rep z) := by
  have hh := iter_list (body := fun x => calqueref10_padded_b2 N (z : Int) x.1 x.2) (σ := Str) (fun a k => (a, k)) (List.range z) (fun a _ => .inl (a ++ [48])) (fun a => a) (fun k a => a.length ≤ 200 + k) (fun a k r hk ha => ?_) (fun a ha => ?_) N s (by rw [List.length_range]; omega) (by omega)
  · have e : ∀ (xs : List Nat) (a : Str), run (β := Str) (fun a _ => .inl (a ++ [48])) (fun a => a) a xs = a ++ rep xs.length := by
      intro xs
      induction xs with
      | nil => intro a; simp [run, rep]
      | cons x xs ih =>
        intro a
        rw [run]
        simp only
        rw [ih]
        unfold rep
        rw [List.length_cons, List.replicate_succ]
        simp
    rw [e, List.length_range] at hh
    exact hh
  · have hlt := getlt hk
    rw [List.length_range] at hlt
    constructor
    · show calqueref10_padded_b2 N (z : Int) a k = _
      unfold calqueref10_padded_b2
      rw [decide_eq_true (show (k : Int) < (z : Int) by omega), cond_true, cat_some (by simp; omega)]
      rfl
    · intro s' h
      cases h
      simp
      omega
  · show calqueref10_padded_b2 N (z : Int) a ((List.range z).length : Int) = _
    rw [List.length_range]
    unfold calqueref10_padded_b2
    rw [decide_eq_false (by omega), cond_false]
theorem padded_eq {N t w z : Nat} (ht : t < 300) (hw : w ≤ 6) (hz : z ≤ 6) (hN : 20000000 ≤ N) : calqueref10_padded N (t : Int) (w : Int) (z : Int) = some (rep (w - (dd t).length) ++ dd t ++ rep z) := by
  have hdl := dd_len 2 t (by omega)
  unfold calqueref10_padded
  rw [ref_dec (by omega) (by omega)]
  simp only [Option.bind_some]
  rw [pad_left (by omega) w (dd t) N (by omega) (by omega) (by omega)]
  simp only [Option.bind_some]
  rw [pad_right (by omega) (by rw [List.length_append, rep_len]; omega) hN]
  rfl
theorem zeros_eq {N n : Nat} (hn : n ≤ 6) (hN : 20000000 ≤ N) : ((calqueref10_padded N 0 (n : Int) 0).bind fun r => (slc r 0 (n : Int)).bind fun s => some s) = some (rep n) := by
  have := padded_eq (t := 0) (w := n) (z := 0) (by omega) hn (by omega) hN
  rw [show ((0 : Nat) : Int) = 0 from rfl] at this
  rw [this]
  have hd : dd 0 = [48] := dd_lt (by omega)
  rw [hd]
  simp only [Option.bind_some]
  have hlen : n ≤ (rep (n - ([48] : Str).length) ++ [48] ++ rep 0).length := by
    simp only [List.length_append, rep_len, List.length_singleton]
    omega
  rw [slc_take hlen]
  simp only [Option.bind_some, Option.some.injEq]
  cases n with
  | zero => rfl
  | succ k =>
    rw [show k + 1 - ([48] : Str).length = k by simp, show rep 0 = [] from rfl, List.append_nil, List.take_of_length_le (by simp [rep])]
    unfold rep
    rw [List.replicate_succ']
theorem sidx {st : Tbl} (v : Str) : (st.map (·.1)).findIdx? (fun x => x == v) = st.findIdx? (fun e => e.1 == v) := by
  rw [List.findIdx?_map]
  rfl
theorem step_eq {N : Nat} {l : List Relation} (S : Sl N l) {st : Tbl} {b : Nat} (hst : st.length ≤ 100000) (hall : ∀ e ∈ st, e.2.all dgt = true ∧ e.2.length ≤ 6) {n : Nat} (hlen : ∀ i e, st[i]? = some e → b ≤ i → e.2.length = n) {s : Str} (hs : s.all dgt = true) (hn : s.length = n) (h6 : n ≤ 6) {x : Int} :
    ((calqueref10_place N (st.map (·.1)) (vf l s)).bind fun r => bif (decide (r < 0)) then ((app (st.map (·.1)) [vf l s]).bind fun a => (app (st.map (·.2)) [s]).bind fun c => some (Sum.inl (β := List Str × List Str) (a, c, x)))
      else bif (decide (r ≥ (b : Int))) then ((idx (st.map (·.2)) r).bind fun y => bif (sless s y) then ((idx (st.map (·.2)) r).bind fun _ => (setI (st.map (·.2)) r s).bind fun c => some (.inl (st.map (·.1), c, x))) else some (.inl (st.map (·.1), st.map (·.2), x))) else some (.inl (st.map (·.1), st.map (·.2), x)))
      = some (.inl ((stepF l b st s).map (·.1), (stepF l b st s).map (·.2), x)) := by
  have hn0 := S.n
  rw [place_eq _ _ (by rw [List.length_map]; omega), sidx]
  simp only [Option.bind_some]
  unfold stepF
  cases hf : st.findIdx? (fun e => e.1 == vf l s) with
  | none =>
    simp only
    rw [show decide ((-1 : Int) < 0) = true from rfl, cond_true, app_some (by rw [List.length_map]; simp; omega)]
    simp only [Option.bind_some]
    rw [app_some (by rw [List.length_map]; simp; omega)]
    simp
  | some k =>
    obtain ⟨e, he, hp⟩ := find_at hf
    simp only
    rw [decide_eq_false (show ¬ (k : Int) < 0 by omega), cond_false]
    by_cases hbk : b ≤ k
    · rw [decide_eq_true (show (k : Int) ≥ (b : Int) by omega), cond_true, if_pos hbk, he]
      have hx : (st.map (·.2))[k]? = some e.2 := by rw [List.getElem?_map, he]; rfl
      rw [idx_some hx]
      simp only [Option.bind_some]
      rw [sless_lx hs (hall e (List.mem_of_getElem? he)).1 (by rw [hn, hlen k e he hbk])]
      cases lx s e.2 with
      | false => rfl
      | true =>
        simp only [cond_true, if_true]
        have hkl := getlt he
        rw [setI_some (by rw [List.length_map]; exact hkl)]
        simp only [Option.bind_some]
        have e1 : (st.set k (e.1, s)).map (·.1) = st.map (·.1) := by
          rw [List.map_set]
          apply List.ext_getElem?
          intro i
          rw [List.getElem?_set]
          split
          · next h =>
            subst h
            rw [if_pos (by rw [List.length_map]; exact hkl), List.getElem?_map, he]
            rfl
          · rfl
        have e2 : (st.set k (e.1, s)).map (·.2) = (st.map (·.2)).set k s := by rw [List.map_set]
        rw [e1, e2]
    · rw [decide_eq_false (show ¬ (k : Int) ≥ (b : Int) by omega), cond_false, if_neg hbk]
theorem zr_vl : ∀ s : Str, s.all zr = true → vl 0 s = 0
  | [], _ => rfl
  | c :: s, h => by
    rw [List.all_cons, Bool.and_eq_true] at h
    have hc : c = 48 := by unfold zr at h; exact beq_iff_eq.1 h.1
    subst hc
    have ih := zr_vl s h.2
    have e : vl 0 (48 :: s) = vl 0 s := rfl
    rw [e, ih]
theorem txt_zr {n w t : Nat} {s : Str} (hw : w ≤ n) (h : gen n w t = some s) : s.all zr = (w == 0) := by
  obtain ⟨rfl, _, _, h4, h5⟩ := gen_ok hw h
  unfold txt
  by_cases hw0 : w = 0
  · rw [if_pos hw0, rep_zr]; simp [hw0]
  · rw [if_neg hw0, List.all_append, List.all_append, rep_zr, rep_zr]
    have h6 := (h4 hw0).1
    have : (dd t).all zr = false := by
      cases hz : (dd t).all zr with
      | false => rfl
      | true =>
        have := zr_vl _ hz
        rw [dd_vl] at this
        omega
    rw [this]
    simp [hw0]
theorem b3_eq {N : Nat} {l : List Relation} (S : Sl N l) {st : Tbl} {b n w t : Nat} (seen : List Str) (hb : seen.length = b) (hst : st.length ≤ 100000) (hall : ∀ e ∈ st, e.2.all dgt = true ∧ e.2.length ≤ 6) (hlen : ∀ i e, st[i]? = some e → b ≤ i → e.2.length = n) (hw : w ≤ n) (h6 : n ≤ 6) (ht : t < 300) :
    calqueref10_fractions_b3 N l seen n w (st.map (·.1)) (st.map (·.2)) t = some (.inl ((stepO l b st (gen n w t)).map (·.1), (stepO l b st (gen n w t)).map (·.2), (t : Int) + 1)) := by
  have hn0 := S.n
  have hl := S.len
  unfold calqueref10_fractions_b3
  have hr : rm (t : Int) 10 = some ((t % 10 : Nat) : Int) := rfl
  rw [decide_eq_true (show (t : Int) < 300 by omega), cond_true, hr]
  simp only [Option.bind_some]
  have hc1 : ((((t % 10 : Nat) : Int) == 0) != ((w : Int) == 0)) = ((t % 10 == 0) != (w == 0)) := by
    have a1 : (((t % 10 : Nat) : Int) == 0) = (t % 10 == 0) := by rw [Bool.eq_iff_iff, beq_iff_eq, beq_iff_eq]; omega
    have a2 : ((w : Int) == 0) = (w == 0) := by rw [Bool.eq_iff_iff, beq_iff_eq, beq_iff_eq]; omega
    rw [a1, a2]
  rw [hc1]
  have hdl := dd_len 2 t (by omega)
  have hvec : ∀ s : Str, s.length = n → ((bif decide ((n : Int) > 0) then (cat [48, 46] s).bind fun x => some x else some [48]) : Option Str) = some (nb [48] s) := by
    intro s hs
    unfold nb
    by_cases h0 : n = 0
    · have : s = [] := List.eq_nil_of_length_eq_zero (by omega)
      subst this
      rw [decide_eq_false (show ¬ (n : Int) > 0 by omega)]
      rfl
    · rw [decide_eq_true (show (n : Int) > 0 by omega), cond_true, cat_some (by simp; omega), if_neg (fun e => by subst e; simp at hs; omega)]
      rfl
  have hnb : ∀ s : Str, s.length = n → (nb [48] s).length ≤ 1000 := by
    intro s hs
    have := nb_len [48] s
    rw [this]
    split <;> simp <;> omega
  have hgen : gen n w t = if (t % 10 == 0) != (w == 0) then none else if w = 0 ∧ 0 < t then none else if (dd t).length > max w 1 then none else some (txt n w t) := rfl
  cases hq : ((t % 10 == 0) != (w == 0)) with
  | true =>
    have : gen n w t = none := by rw [hgen, hq]; rfl
    rw [this]
    rfl
  | false =>
    rw [cond_false]
    by_cases hw0 : w = 0
    · subst hw0
      rw [show (((0 : Nat) : Int) == 0) = true from rfl, cond_true]
      by_cases htp : 0 < t
      · have : gen n 0 t = none := by rw [hgen, hq]; simp [htp]
        rw [this, decide_eq_true (show (t : Int) > 0 by omega)]
        rfl
      · have ht0 : t = 0 := by omega
        subst ht0
        have hg : gen n 0 0 = some (rep n) := by
          rw [hgen, hq]
          have hd : dd 0 = [48] := dd_lt (by omega)
          simp [hd, txt]
        rw [decide_eq_false (show ¬ ((0 : Nat) : Int) > 0 by omega), cond_false, ref_dec (by omega) (by omega)]
        simp only [Option.bind_some]
        have hd : dd 0 = [48] := dd_lt (by omega)
        rw [hd, show decide ((([48] : Str).length : Int) > max ((0 : Nat) : Int) 1) = false by decide, cond_false]
        have hz := zeros_eq (N := N) h6 (by omega)
        have hp0 := padded_eq (N := N) (t := 0) (w := 0) (z := n) (by omega) (by omega) h6 (by omega)
        have hwr : IntKind.wrap .i64 ((n : Int) - ((0 : Nat) : Int)) = (n : Int) := by rw [wrap_id (by omega) (by omega)]; omega
        rw [hwr, hp0]
        have e1 : ∀ (X : Option Str → Option (List Str × List Str × Int ⊕ List Str × List Str)) , True := fun _ => trivial
        have e2 : ((bif decide ((n : Int) > 0) then ((some (rep (0 - (dd 0).length) ++ dd 0 ++ rep n)).bind fun r => some r) else some []) : Option Str).isSome = true := by cases decide ((n : Int) > 0) <;> rfl
        obtain ⟨o, ho⟩ := Option.isSome_iff_exists.1 e2
        simp only [Option.bind_some] at ho ⊢
        rw [ho]
        simp only [Option.bind_some, cond_true]
        rw [show ((0 : Nat) : Int) = 0 from rfl] at *
        rw [hz]
        simp only [Option.bind_some]
        rw [hvec (rep n) (rep_len n)]
        simp only [Option.bind_some]
        rw [vector_eq S (hnb _ (rep_len n))]
        simp only [Option.bind_some]
        have hvl := vec_len l (nb [48] (rep n)) false
        rw [cat_some (by simp; omega)]
        simp only [Option.bind_some]
        have hvf : vec l (nb [48] (rep n)) false ++ [48] = vf l (rep n) := by unfold vf; rw [rep_zr]; rfl
        rw [hvf, hg]
        have := step_eq S (b := b) hst hall hlen (rep_all n) (rep_len n) h6 (x := (0 : Int) + 1)
        rw [← hb] at this ⊢
        exact this
    · have hwb : ((w : Int) == 0) = false := by rw [beq_eq_false_iff_ne]; omega
      rw [hwb, cond_false, ref_dec (by omega) (by omega)]
      simp only [Option.bind_some]
      have hmx : decide (((dd t).length : Int) > max (w : Int) 1) = decide ((dd t).length > max w 1) := decide_eq_decide.2 (by omega)
      rw [hmx]
      by_cases hlong : (dd t).length > max w 1
      · have : gen n w t = none := by rw [hgen, hq]; simp [hw0, hlong]
        rw [this, decide_eq_true hlong]
        rfl
      · have hg : gen n w t = some (txt n w t) := by rw [hgen, hq]; simp [hw0, hlong]
        obtain ⟨_, k1, k2, k3, _⟩ := gen_ok hw hg
        rw [decide_eq_false hlong, cond_false, decide_eq_true (show (n : Int) > 0 by omega), cond_true]
        have hwr : IntKind.wrap .i64 ((n : Int) - (w : Int)) = ((n - w : Nat) : Int) := by rw [wrap_id (by omega) (by omega)]; omega
        rw [hwr, padded_eq ht (by omega) (by omega) (by omega)]
        simp only [Option.bind_some, cond_false]
        have htx : rep (w - (dd t).length) ++ dd t ++ rep (n - w) = txt n w t := by unfold txt; rw [if_neg hw0]
        rw [htx]
        have hv := hvec (txt n w t) k1
        rw [decide_eq_true (show (n : Int) > 0 by omega), cond_true] at hv
        rw [cond_true, hv]
        simp only [Option.bind_some]
        rw [vector_eq S (hnb _ k1)]
        simp only [Option.bind_some]
        have hvf : vec l (nb [48] (txt n w t)) false = vf l (txt n w t) := by
          unfold vf
          rw [txt_zr hw hg, show (w == 0) = false by simp [hw0]]
          simp
        rw [hvf, hg]
        have := step_eq S (b := b) hst hall hlen k2 k1 h6 (x := (t : Int) + 1)
        rw [← hb] at this ⊢
        exact this
end Go.Proofs.YtidfofhmnlhfjaaGreatDoor
namespace Go.Proofs.YtidfofhmnlhfjaaGreatDoor
open Go.X
theorem b2_eq {N : Nat} {l : List Relation} (S : Sl N l) {st : Tbl} {b n w : Nat} (seen : List Str) (hb : seen.length = b) (hbs : b ≤ st.length) (hst : st.length ≤ 50000) (G : Good l b n st) (hw : w ≤ n) (h6 : n ≤ 6) :
    iter (fun x => calqueref10_fractions_b3 N l seen n w x.1 x.2.1 x.2.2) N (st.map (·.1), st.map (·.2), 0) = some (((genW n w).foldl (stepO l b) st).map (·.1), ((genW n w).foldl (stepO l b) st).map (·.2)) := by
  have hn0 := S.n
  have hh := iter_list (body := fun x => calqueref10_fractions_b3 N l seen n w x.1 x.2.1 x.2.2) (σ := Tbl) (fun st k => (st.map (·.1), st.map (·.2), k)) (genW n w) (fun st o => .inl (stepO l b st o)) (fun st => (st.map (·.1), st.map (·.2))) (fun k st => Good l b n st ∧ b ≤ st.length ∧ st.length ≤ 50000 + k) (fun st k o hk hI => ?_) (fun st hI => ?_) N st (by unfold genW; rw [List.length_map, List.length_range]; omega) ⟨G, hbs, by omega⟩
  · rw [hh, run_fold]
  · obtain ⟨G, hbs, hsl⟩ := hI
    have hlt := getlt hk
    unfold genW at hk hlt
    rw [List.length_map, List.length_range] at hlt
    rw [List.getElem?_map, List.getElem?_range hlt] at hk
    simp only [Option.map_some, Option.some.injEq] at hk
    subst hk
    constructor
    · show calqueref10_fractions_b3 N l seen n w (st.map (·.1)) (st.map (·.2)) k = _
      rw [b3_eq S seen hb (by omega) (fun e he => ?_) (fun i e hi hbi => (G.g i e hi).2.2.2.2 hbi) hw h6 hlt]
      obtain ⟨i, hi⟩ := List.mem_iff_getElem?.1 he
      exact ⟨(G.g i e hi).2.1, (G.g i e hi).2.2.1⟩
    · intro s' h
      simp only [Sum.inl.injEq] at h
      subst h
      cases hg : gen n w k with
      | none => exact ⟨G, hbs, by show st.length ≤ _; omega⟩
      | some s =>
        obtain ⟨_, k1, k2, _⟩ := gen_ok hw hg
        obtain ⟨b1, b2, _, _, b5⟩ := stepF_ok G hbs k2 k1 h6
        exact ⟨b1, b2, by show (stepF l b st s).length ≤ _; omega⟩
  · have e : ((genW n w).length : Int) = ((300 : Nat) : Int) := by unfold genW; rw [List.length_map, List.length_range]
    generalize hM : ((genW n w).length : Int) = M at e
    dsimp only
    unfold calqueref10_fractions_b3
    rw [decide_eq_false (show ¬ M < 300 by omega), cond_false]
theorem genN_succ (n m : Nat) : genN n (m + 1) = genN n m ++ genW n m := by
  unfold genN
  rw [List.range_succ, List.flatMap_append]
  simp
theorem genN_ok {n m : Nat} (hm : m ≤ n + 1) : ∀ s, some s ∈ genN n m → s.all dgt = true ∧ s.length = n := by
  intro s hs
  obtain ⟨w, hw, h⟩ := List.mem_flatMap.1 hs
  obtain ⟨t, ht, h⟩ := List.mem_map.1 h
  have := List.mem_range.1 hw
  obtain ⟨_, k1, k2, _⟩ := gen_ok (by omega) h
  exact ⟨k2, k1⟩
theorem tbl_good {l : List Relation} {n : Nat} (hn : n ≤ 7) : Good l (tbl l n).length n (tbl l n) := by
  obtain ⟨h1, _, _⟩ := tbl_ok (l := l) n hn
  exact ⟨fun i e hi => by
    obtain ⟨a1, a2, a3, a4⟩ := h1 e (List.mem_of_getElem? hi)
    exact ⟨a1, a2, a3, fun _ => a4, fun h => by have := getlt hi; omega⟩⟩
def tbm (l : List Relation) (n m : Nat) : Tbl := (genN n m).foldl (stepO l (tbl l n).length) (tbl l n)
theorem tbm_succ (l : List Relation) (n m : Nat) : tbm l n (m + 1) = (genW n m).foldl (stepO l (tbl l n).length) (tbm l n m) := by
  unfold tbm
  rw [genN_succ, List.foldl_append]
theorem tbm_ok {l : List Relation} {n m : Nat} (hn : n ≤ 6) (hm : m ≤ n + 1) : Good l (tbl l n).length n (tbm l n m) ∧ (tbl l n).length ≤ (tbm l n m).length ∧ (tbm l n m).length ≤ 50000 := by
  obtain ⟨_, h2, _⟩ := tbl_ok (l := l) n (by omega)
  obtain ⟨a1, a2, _, _, a5⟩ := fold_ok hn (genN n m) (tbl l n) (genN_ok hm) (tbl_good (by omega)) (Nat.le_refl _)
  have hg := genN_len n m
  have a6 := Nat.le_trans a5 (Nat.add_le_add_left (Nat.le_of_eq hg) _)
  exact ⟨a1, a2, Nat.le_trans a6 (by omega)⟩
theorem b1_eq {N : Nat} {l : List Relation} (S : Sl N l) {n : Nat} (h6 : n ≤ 6) :
    iter (fun x => calqueref10_fractions_b2 N l ((tbl l n).map (·.1)) n x.1 x.2.1 x.2.2) N ((tbl l n).map (·.1), (tbl l n).map (·.2), 0) = some ((tbl l (n + 1)).map (·.1), (tbl l (n + 1)).map (·.2)) := by
  have hn0 := S.n
  have hh := iter_list (body := fun x => calqueref10_fractions_b2 N l ((tbl l n).map (·.1)) n x.1 x.2.1 x.2.2) (σ := Nat) (fun i k => ((tbm l n i).map (·.1), (tbm l n i).map (·.2), k)) (List.range (n + 1)) (fun i _ => .inl (i + 1)) (fun i => ((tbm l n i).map (·.1), (tbm l n i).map (·.2))) (fun k i => i = k) (fun i k r hk hi => ?_) (fun i hi => ?_) N 0 (by rw [List.length_range]; omega) rfl
  · rw [run_idx, Nat.zero_add, List.length_range] at hh
    have e0 : tbm l n 0 = tbl l n := rfl
    have e1 : tbm l n (n + 1) = tbl l (n + 1) := by rw [tbl]; rfl
    rw [e0, e1] at hh
    exact hh
  · subst hi
    have hlt := getlt hk
    rw [List.length_range] at hlt
    obtain ⟨g1, g2, g3⟩ := tbm_ok (l := l) (n := n) (m := i) h6 (by omega)
    constructor
    · show calqueref10_fractions_b2 N l ((tbl l n).map (·.1)) n ((tbm l n i).map (·.1)) ((tbm l n i).map (·.2)) i = _
      unfold calqueref10_fractions_b2
      rw [decide_eq_true (show (i : Int) ≤ (n : Int) by omega), cond_true]
      rw [b2_eq S ((tbl l n).map (·.1)) (b := (tbl l n).length) (by rw [List.length_map]) g2 g3 g1 (by omega) h6]
      simp only [Option.bind_some]
      rw [tbm_succ, wrap_id (by omega) (by omega)]
    · intro s' h
      cases h; rfl
  · rw [List.length_range] at hi ⊢
    dsimp only
    unfold calqueref10_fractions_b2
    rw [decide_eq_false (show ¬ ((n + 1 : Nat) : Int) ≤ (n : Int) by omega), cond_false]
def rfracs (l : List Relation) : List Str := (tbl l 7).map (·.2)
theorem fractions_ref {N : Nat} {l : List Relation} (S : Sl N l) : calqueref10_fractions N l = some (rfracs l) := by
  have hn0 := S.n
  unfold calqueref10_fractions
  have hh := iter_list (body := fun x => calqueref10_fractions_b1 N l x.1 x.2.1 x.2.2) (σ := Nat) (fun i k => ((tbl l i).map (·.1), (tbl l i).map (·.2), k)) (List.range 7) (fun i _ => .inl (i + 1)) (fun i => (tbl l i).map (·.2)) (fun k i => i = k) (fun i k r hk hi => ?_) (fun i hi => ?_) N 0 (by rw [List.length_range]; omega) rfl
  · rw [run_idx, Nat.zero_add, List.length_range] at hh
    have e : (([] : List Str), ([] : List Str), (0 : Int)) = ((tbl l 0).map (·.1), (tbl l 0).map (·.2), 0) := rfl
    rw [e, hh]
    rfl
  · subst hi
    have hlt := getlt hk
    rw [List.length_range] at hlt
    constructor
    · show calqueref10_fractions_b1 N l ((tbl l i).map (·.1)) ((tbl l i).map (·.2)) i = _
      unfold calqueref10_fractions_b1
      rw [decide_eq_true (show (i : Int) ≤ 6 by omega), cond_true, b1_eq S (by omega)]
      simp only [Option.bind_some]
      rw [wrap_id (by omega) (by omega)]
    · intro s' h
      cases h; rfl
  · rw [List.length_range] at hi ⊢
    generalize hM : ((7 : Nat) : Int) = M
    dsimp only
    unfold calqueref10_fractions_b1
    rw [decide_eq_false (show ¬ M ≤ 6 by omega), cond_false]
theorem rt_split (f : Str) : ∃ k, f = rt f ++ rep k := by
  induction f using snoc_ind with
  | h0 => exact ⟨0, rfl⟩
  | h1 f c ih =>
    rw [rt_snoc]
    split
    · next h =>
      obtain ⟨k, hk⟩ := ih
      refine ⟨k + 1, ?_⟩
      have hc : c = 48 := by unfold zr at h; exact beq_iff_eq.1 h
      subst hc
      conv => lhs; rw [hk]
      unfold rep
      rw [List.replicate_succ']
      simp
    · exact ⟨0, by simp [rep]⟩
theorem rt_last (f : Str) : rt f = [] ∨ ∃ g c, rt f = g ++ [c] ∧ zr c = false := by
  induction f using snoc_ind with
  | h0 => exact .inl rfl
  | h1 f c ih =>
    rw [rt_snoc]
    split
    · exact ih
    · next h => exact .inr ⟨f, c, rfl, by simpa using h⟩
theorem rep_dd : ∀ (s : Str), s.all dgt = true → s ≠ [] → rep (s.length - (dd (vl 0 s)).length) ++ dd (vl 0 s) = s ∧ (dd (vl 0 s)).length ≤ s.length
  | [], _, h => absurd rfl h
  | [c], h, _ => by
    rw [List.all_cons, Bool.and_eq_true] at h
    have hc := dgt_iff.1 h.1
    have e : vl 0 [c] = c.toNat - 48 := by show 10 * 0 + (c.toNat - 48) = _; omega
    rw [e, dd_lt (by omega)]
    have hb : UInt8.ofNat (48 + (c.toNat - 48)) = c := by
      apply UInt8.toNat_inj.1
      rw [byte_nat (by omega)]; omega
    rw [hb]
    exact ⟨rfl, Nat.le_refl _⟩
  | c :: d :: t, h, _ => by
    rw [List.all_cons, Bool.and_eq_true] at h
    by_cases hc : c = 48
    · subst hc
      obtain ⟨h1, h2⟩ := rep_dd (d :: t) h.2 (by simp)
      have e : vl 0 (48 :: d :: t) = vl 0 (d :: t) := rfl
      rw [e]
      refine ⟨?_, by simp only [List.length_cons] at *; omega⟩
      have e2 : (48 :: d :: t).length - (dd (vl 0 (d :: t))).length = ((d :: t).length - (dd (vl 0 (d :: t))).length) + 1 := by simp only [List.length_cons] at *; omega
      rw [e2]
      unfold rep at h1 ⊢
      rw [List.replicate_succ, List.cons_append, h1]
    · have hw : Wh (c :: d :: t) := ⟨by rw [List.all_cons, h.1, h.2]; rfl, .inr ⟨c, d :: t, rfl, hc⟩⟩
      rw [dd_inj _ hw, Nat.sub_self]
      exact ⟨rfl, Nat.le_refl _⟩
theorem vl_rep (s : Str) (k : Nat) : vl 0 (s ++ rep k) = vl 0 s * 10 ^ k := by
  rw [vl_app, rep_len, zr_vl _ (rep_zr k)]
  omega
theorem rt_rep {s : Str} {g : Str} {c : UInt8} (h : s = g ++ [c]) (hc : zr c = false) (k : Nat) : rt (s ++ rep k) = s := by
  induction k with
  | zero => rw [show rep 0 = [] from rfl, List.append_nil, h, rt_snoc, hc]; rfl
  | succ k ih =>
    have e : s ++ rep (k + 1) = (s ++ rep k) ++ [48] := by unfold rep; rw [List.replicate_succ']; simp
    rw [e, rt_snoc]
    exact ih
theorem rfrac_gen {l : List Relation} (hpr : Pr l) {f : Str} (hf' : f.all dgt = true) (h6 : f.length ≤ 6) : ∃ w t s, w ≤ f.length ∧ t < 300 ∧ gen f.length w t = some s ∧ lex s f ∧ s.all zr = f.all zr ∧ ∀ r ∈ l, onW r = false → hf r s = hf r f := by
  obtain ⟨k, hk⟩ := rt_split f
  rcases rt_last f with h0 | ⟨g, c, hgc, hc⟩
  · have hz := (rt_nil f).1 h0
    have hfr : f = rep f.length := by
      rw [h0] at hk
      have : f = rep k := by simpa using hk
      rw [this, rep_len]
    refine ⟨0, 0, rep f.length, Nat.zero_le _, by omega, ?_, .inl hfr.symm, by rw [← hfr], fun r _ _ => by rw [← hfr]⟩
    have hd : dd 0 = [48] := dd_lt (by omega)
    unfold gen txt
    simp [hd]
  · have hrd : (rt f).all dgt = true := rt_all f hf'
    have hne : rt f ≠ [] := by rw [hgc]; simp
    have hkl : f.length = (rt f).length + k := by conv => lhs; rw [hk]; rw [List.length_append, rep_len]
    generalize hT : vl 0 (rt f) = T
    obtain ⟨p1, p2⟩ := rep_dd (rt f) hrd hne
    rw [hT] at p1 p2
    have hcd : dgt c = true := by rw [hgc, List.all_append, Bool.and_eq_true] at hrd; simpa using hrd.2
    have hcr := dgt_iff.1 hcd
    have hc48 : c.toNat ≠ 48 := fun e => by
      have : c = 48 := UInt8.toNat_inj.1 e
      subst this
      cases hc
    have hT10 : T % 10 = c.toNat - 48 := by
      rw [← hT, hgc, vl_app]
      have e : vl 0 [c] = c.toNat - 48 := by show 10 * 0 + (c.toNat - 48) = _; omega
      rw [e]
      simp only [List.length_singleton, Nat.pow_one]
      omega
    have hT0 : T % 10 ≠ 0 := by omega
    have hfz : f.all zr = false := by
      cases hz : f.all zr with
      | false => rfl
      | true => exact absurd ((rt_nil f).2 hz) hne
    have hwl : (rt f).length ≠ 0 := fun e => hne (List.eq_nil_of_length_eq_zero e)
    have hgen : ∀ t, t < 300 → t % 10 ≠ 0 → (dd t).length ≤ (rt f).length → gen f.length (rt f).length t = some (rep ((rt f).length - (dd t).length) ++ dd t ++ rep k) := by
      intro t ht h10 hl
      unfold gen txt
      have hq : ((t % 10 == 0) != ((rt f).length == 0)) = false := by
        rw [beq_eq_false_iff_ne.2 h10, beq_eq_false_iff_ne.2 hwl]; rfl
      rw [hq, if_neg (by decide), if_neg (by omega), if_neg (by omega), if_neg hwl, show f.length - (rt f).length = k by omega]
    by_cases hT3 : T < 300
    · refine ⟨(rt f).length, T, f, by omega, hT3, ?_, lex_rfl _, rfl, fun r _ _ => rfl⟩
      rw [hgen T hT3 hT0 p2, p1, ← hk]
    · -- a smaller number of three digits
      have ht' : 200 + T % 100 < 300 := by omega
      have ht10 : (200 + T % 100) % 10 ≠ 0 := by omega
      have hdl : (dd (200 + T % 100)).length ≤ 3 := dd_len 2 _ (by omega)
      have hdl2 : 3 ≤ (dd (200 + T % 100)).length := dd_low 2 _ (by omega)
      have hTl : 3 ≤ (dd T).length := dd_low 2 T (by omega)
      have hg := hgen (200 + T % 100) ht' ht10 (by omega)
      generalize hu : 200 + T % 100 = u at *
      generalize hX : rep ((rt f).length - (dd u).length) ++ dd u = X at *
      have hXl : X.length = (rt f).length := by rw [← hX, List.length_append, rep_len]; omega
      have hXd : X.all dgt = true := by rw [← hX, List.all_append, rep_all, dd_all]; rfl
      have hXv : vl 0 X = u := by rw [← hX, vl_app, dd_vl, zr_vl _ (rep_zr _)]; omega
      have hXlast : ∃ g c, X = g ++ [c] ∧ zr c = false := by
        have hne2 : X ≠ [] := fun e => by rw [e] at hXl; simp at hXl; omega
        refine ⟨X.dropLast, X.getLast hne2, (List.dropLast_concat_getLast hne2).symm, ?_⟩
        cases hz : zr (X.getLast hne2) with
        | false => rfl
        | true =>
          exfalso
          have he : X.getLast hne2 = 48 := by unfold zr at hz; exact beq_iff_eq.1 hz
          have e1 := (List.dropLast_concat_getLast hne2).symm
          rw [he] at e1
          rw [e1, vl_app] at hXv
          have e2 : vl 0 ([48] : Str) = 0 := rfl
          rw [e2] at hXv
          simp only [List.length_singleton, Nat.pow_one] at hXv
          omega
      obtain ⟨gX, cX, hX1, hX2⟩ := hXlast
      have hrtX : rt (X ++ rep k) = X := rt_rep hX1 hX2 k
      have hzX : (X ++ rep k).all zr = false := by
        cases hz : (X ++ rep k).all zr with
        | false => rfl
        | true =>
          have := (rt_nil _).2 hz
          rw [hrtX] at this
          rw [this] at hX1
          simp at hX1
      refine ⟨(rt f).length, u, X ++ rep k, by omega, ht', hg, ?_, by rw [hzX, hfz], fun r hr ho => ?_⟩
      · conv => rhs; rw [hk]
        exact lex_app (vl_lex hXd hrd hXl (by rw [hXv, hT]; omega)) hXl (lex_rfl _)
      · have hpr' := hpr r hr
        unfold hf opf
        have hpw : 1 ≤ 10 ^ k := Nat.pow_pos (by decide)
        rcases prp_op hpr' with e | e | e | e | e | e
        · unfold onW at ho; rw [e] at ho; simp at ho
        · unfold onW at ho; rw [e] at ho; simp at ho
        · rw [e]; simp only [if_true]; rw [List.length_append, rep_len, hXl, ← hkl]
        · rw [e, if_neg (by decide), if_pos rfl, if_neg (by decide), if_pos rfl, hrtX, hXl]
        · rw [e, if_neg (by decide), if_neg (by decide), if_pos rfl, if_neg (by decide), if_neg (by decide), if_pos rfl, vl_rep, hXv]
          have e2 : vl 0 f = T * 10 ^ k := by conv => lhs; rw [hk]; rw [vl_rep, hT]
          rw [e2]
          refine hw_modF hpr' (.inl e) ?_ ?_ ?_
          · have := Nat.mul_le_mul (show 200 ≤ u by omega) hpw; omega
          · have := Nat.mul_le_mul (show 300 ≤ T by omega) hpw; omega
          · have h1 : u % 100 = T % 100 := by omega
            rw [Nat.mul_mod, h1, ← Nat.mul_mod]
        · rw [e, if_neg (by decide), if_neg (by decide), if_neg (by decide), if_neg (by decide), if_neg (by decide), if_neg (by decide), hrtX, hXv, hT]
          exact hw_modF hpr' (.inr e) (by omega) (by omega) (by omega)
theorem rfracs_cov {l : List Relation} (hpr : Pr l) {f : Str} (hf' : f.all dgt = true) (h6 : f.length ≤ 6) : ∃ g ∈ rfracs l, (g.length < f.length ∨ (g.length = f.length ∧ lex g f)) ∧ g.all zr = f.all zr ∧ ∀ r ∈ l, onW r = false → hf r g = hf r f := by
  obtain ⟨w, t, s, h1, h2, h3, h4, h5, h7⟩ := rfrac_gen hpr hf' h6
  obtain ⟨k1, k2, k3⟩ := tbl_ok (l := l) 7 (by omega)
  obtain ⟨_, m1, m2, _⟩ := gen_ok h1 h3
  obtain ⟨e, he, e1, e2⟩ := k3 f.length w t s (by omega) h1 h2 h3
  obtain ⟨g1, g2, g3, g4⟩ := k1 e he
  have hs := vf_same hpr g2 g3 m2 (by omega) (g1.symm.trans e1)
  refine ⟨e.2, List.mem_map.2 ⟨e, he, rfl⟩, ?_, hs.1.trans h5, fun r hr ho => (hs.2 r hr ho).trans (h7 r hr ho)⟩
  rcases e2 with e2 | ⟨e2, e3⟩
  · exact .inl (by omega)
  · exact .inr ⟨by omega, lex_tr e3 h4⟩
theorem rfracs_all {l : List Relation} {s : Str} (h : s ∈ rfracs l) : s.all dgt = true ∧ s.length ≤ 6 := by
  obtain ⟨e, he, rfl⟩ := List.mem_map.1 h
  obtain ⟨k1, _, _⟩ := tbl_ok (l := l) 7 (by omega)
  obtain ⟨_, g2, g3, _⟩ := k1 e he
  exact ⟨g2, g3⟩
theorem nb_le2 {w w' f f' : Str} (hf : f'.length < f.length ∨ (f'.length = f.length ∧ lex f' f)) (hw : w'.length < w.length ∨ (w'.length = w.length ∧ lex w' w)) : bex (nb w' f') (nb w f) := by
  rcases hf with hf | ⟨hf, hl⟩
  · right
    unfold bef
    have h1 := nb_len w' f'
    have h2 := nb_len w f
    have hfne : f ≠ [] := fun e => by subst e; simp at hf
    rw [if_neg hfne] at h2
    have h3 : (if f' = [] then 0 else f'.length + 1) < f.length + 1 := by split <;> omega
    have hw' : w'.length ≤ w.length := by rcases hw with h | ⟨h, _⟩ <;> omega
    rw [if_neg (by omega), decide_eq_true_eq]
    omega
  · exact nb_le hf hw hl
def rcands (l : List Relation) : List Str := ((rnums l 401).map dd).flatMap fun a => (rfracs l).map fun f => nb a f
theorem rcands_cover {l : List Relation} (hpr : Pr l) : Cover Dn (Eq1 l) (rcands l) := by
  have hDp : ∀ {n : Nat} {f : Str}, n ∈ rnums l 401 → f ∈ rfracs l → Dp (dd n) f := by
    intro n f hn hf'
    have h1 := rnums_lt hn
    have h2 := rfracs_all hf'
    exact ⟨dd_Wh n, by have := dd_len 2 n (by omega); omega, h2.1, h2.2⟩
  refine ⟨fun c hc => ?_, fun x hx => ?_⟩
  · obtain ⟨a, ha, h2⟩ := List.mem_flatMap.1 hc
    obtain ⟨n, hn, rfl⟩ := List.mem_map.1 ha
    obtain ⟨f, hf', rfl⟩ := List.mem_map.1 h2
    exact ⟨dd n, f, rfl, hDp hn hf'⟩
  · obtain ⟨w, f, rfl, d⟩ := Dn_parts hx
    obtain ⟨n, hn, hle, hW⟩ := rwholes_cov hpr (vl 0 w)
    obtain ⟨g, hg, hgx, hgz, hF⟩ := rfracs_cov hpr d.hf d.fl
    have hd := hDp hn hg
    refine ⟨nb (dd n) g, List.mem_flatMap.2 ⟨dd n, List.mem_map.2 ⟨n, hn, rfl⟩, List.mem_map.2 ⟨g, hg, rfl⟩⟩, fun r hr => ?_, ?_⟩
    · rw [hold_nb (hpr r hr) hd, hold_nb (hpr r hr) d]
      exact hp_same (fun r hr ho => by rw [dd_vl]; exact hW r hr ho) hgz hF r hr
    · have hww := dd_inj w d.hw
      have := dd_le hle
      rw [hww] at this
      exact nb_le2 hgx this
end Go.Proofs.YtidfofhmnlhfjaaGreatDoor
namespace Go.Proofs.YtidfofhmnlhfjaaGreatDoor
open Go.X
def nchr (c : UInt8) : Bool := dgt c || c == 46
theorem Symbol_eq {N : Nat} {c : UInt8} (h : nchr c = true) : calqueref09_Symbol N (c.toNat : Int) = some (if c = 46 then 10 else (c.toNat : Int) - 48) := by
  unfold calqueref09_Symbol
  by_cases hc : c = 46
  · subst hc; rfl
  · have hd : dgt c = true := by
      unfold nchr at h
      rw [show (c == 46) = false by simp [hc], Bool.or_false] at h
      exact h
    have hr := dgt_iff.1 hd
    rw [if_neg hc, beq_eq_false_iff_ne.2 (show (c.toNat : Int) ≠ 46 by omega), cond_false, decide_eq_false (show ¬ (c.toNat : Int) < 48 by omega), cond_false, decide_eq_false (show ¬ (c.toNat : Int) > 57 by omega), cond_false]
    rw [wrap_of (inR_u8.2 ⟨by omega, by omega⟩)]
theorem Before_eq {N : Nat} {s t : Str} (hs : s.all nchr = true) (ht : t.all nchr = true) (hN : s.length < N) : calqueref10_Before N s t = some (bef s t) := by
  unfold calqueref10_Before bef
  by_cases hl : s.length = t.length
  · rw [if_pos hl, show ((s.length : Int) != (t.length : Int)) = false by simp [hl], cond_false]
    have key : ∀ (j k : Nat) (M : Nat), k + j = s.length → j < M → iter (fun x => calqueref10_Before_b1 N s t x) M (k : Int) = some (if s.drop k = t.drop k then .inl () else .inr (lx (s.drop k) (t.drop k))) := by
      intro j
      induction j with
      | zero =>
        intro k M hk hM
        obtain ⟨M, rfl⟩ : ∃ K, M = K + 1 := ⟨M - 1, by omega⟩
        have e1 : s.drop k = [] := List.drop_eq_nil_of_le (by omega)
        have e2 : t.drop k = [] := List.drop_eq_nil_of_le (by omega)
        obtain rfl : k = s.length := by omega
        rw [iter, e1, e2]
        unfold calqueref10_Before_b1
        simp only [dnlt, cond_false, if_true]
      | succ j ih =>
        intro k M hk hM
        obtain ⟨M, rfl⟩ : ∃ K, M = K + 1 := ⟨M - 1, by omega⟩
        have h1 : k < s.length := by omega
        have h2 : k < t.length := by omega
        have i1 := idx_some (List.getElem?_eq_getElem h1)
        have i2 := idx_some (List.getElem?_eq_getElem h2)
        have n1 := List.all_eq_true.1 hs _ (List.getElem_mem h1)
        have n2 := List.all_eq_true.1 ht _ (List.getElem_mem h2)
        have hb : calqueref10_Before_b1 N s t (k : Int) = some (if s[k] = t[k] then .inl ((k : Int) + 1) else .inr (.inr (decide (ky s[k] < ky t[k])))) := by
          unfold calqueref10_Before_b1
          simp only [dlt h1, cond_true, i1, i2, Option.bind_some]
          by_cases e : s[k] = t[k]
          · rw [show (((s[k].toNat : Int)) != (t[k].toNat : Int)) = false by simp [e], cond_false, if_pos e]
          · have hne : s[k].toNat ≠ t[k].toNat := fun h => e (UInt8.toNat_inj.1 h)
            rw [show (((s[k].toNat : Int)) != (t[k].toNat : Int)) = true by rw [bne_iff_ne]; omega, cond_true]
            rw [if_neg e, Symbol_eq n1, Symbol_eq n2]
            simp only [Option.bind_some]
            have dd1 : s[k] ≠ 46 → 48 ≤ s[k].toNat ∧ s[k].toNat ≤ 57 := by
              intro h
              unfold nchr at n1
              rw [show (s[k] == 46) = false by simp [h], Bool.or_false] at n1
              exact dgt_iff.1 n1
            have dd2 : t[k] ≠ 46 → 48 ≤ t[k].toNat ∧ t[k].toNat ≤ 57 := by
              intro h
              unfold nchr at n2
              rw [show (t[k] == 46) = false by simp [h], Bool.or_false] at n2
              exact dgt_iff.1 n2
            congr 3
            unfold ky
            by_cases ha : s[k] = 46
            · have hb : t[k] ≠ 46 := fun h => e (by rw [ha, h])
              have := dd2 hb
              rw [if_pos ha, if_neg hb, if_pos ha, if_neg hb]
              exact decide_eq_decide.2 (by omega)
            · have := dd1 ha
              by_cases hb : t[k] = 46
              · rw [if_neg ha, if_pos hb, if_neg ha, if_pos hb]
                exact decide_eq_decide.2 (by omega)
              · have := dd2 hb
                rw [if_neg ha, if_neg hb, if_neg ha, if_neg hb]
                exact decide_eq_decide.2 (by omega)
        rw [iter, List.drop_eq_getElem_cons h1, List.drop_eq_getElem_cons h2]
        rw [hb]
        by_cases e : s[k] = t[k]
        · rw [if_pos e]
          simp only
          rw [show ((k : Int) + 1) = ((k + 1 : Nat) : Int) by omega, ih (k + 1) M (by omega) (by omega), lx, if_pos e, e]
          simp only [List.cons.injEq, true_and]
        · rw [if_neg e, if_neg (show ¬ (s[k] :: s.drop (k + 1) = t[k] :: t.drop (k + 1)) from fun h => e (List.cons.inj h).1), lx, if_neg e]
    have := key s.length 0 N (by omega) hN
    rw [show ((0 : Nat) : Int) = 0 from rfl, List.drop_zero, List.drop_zero] at this
    rw [this]
    by_cases e : s = t
    · subst e; simp [lx_irr]
    · rw [if_neg e]; rfl
  · rw [if_neg hl, show ((s.length : Int) != (t.length : Int)) = true by rw [bne_iff_ne]; omega, cond_true]
    congr 1
    exact decide_eq_decide.2 (by omega)
theorem nb_chr {w f : Str} (d : Dp w f) : (nb w f).all nchr = true := by
  have hd : ∀ {x : Str}, x.all dgt = true → x.all nchr = true := by
    intro x hx
    rw [List.all_eq_true] at hx ⊢
    intro c hc
    unfold nchr
    rw [hx c hc]
    rfl
  unfold nb
  rw [List.all_append, hd d.hw.1, Bool.true_and]
  split
  · rfl
  · rw [List.all_cons, hd d.hf]; rfl
theorem Dn_chr {x : Str} (h : Dn x) : x.all nchr = true ∧ x.length ≤ 30 ∧ vld x = true := by
  obtain ⟨w, f, rfl, d⟩ := h
  have h1 := nb_len w f
  have := d.wl
  have := d.fl
  exact ⟨nb_chr d, by split at h1 <;> omega, (nb_parts d).1⟩
theorem Dn_of {s : Str} (h : vld s = true) (hn : neg s = false) : Dn s := by
  obtain ⟨h1, h2, h3, h4, h5⟩ := vld_parts h
  refine ⟨wh s, fr s, ?_, ⟨h1, h2, h3, h4⟩⟩
  have hb : bod s = s := by unfold bod; rw [hn]; rfl
  cases hp : pt s with
  | true =>
    have hne := h5 hp
    unfold nb
    rw [if_neg hne]
    have hp' := hp
    unfold pt at hp
    rw [decide_eq_true_eq] at hp
    obtain ⟨v, hv, hv2⟩ := fnd_at (bod s) hp
    have hf : fr s = v := by
      unfold fr
      rw [if_pos hp', hv2]
      rfl
    rw [hf]
    rw [hb] at hv
    have hw : wh s = s.take (fnd [46] s) := by unfold wh; rw [hb]
    rw [hw]
    conv => lhs; rw [hv]
    simp
  | false =>
    have hf : fr s = [] := by unfold fr; rw [hp]; rfl
    rw [hf]
    unfold nb
    rw [if_pos rfl, List.append_nil]
    unfold pt at hp
    rw [decide_eq_false_iff_not, hb] at hp
    have := fnd_le [46] s
    unfold wh
    rw [hb, List.take_of_length_le (by omega)]
theorem Unsigned_eq {N : Nat} {s : Str} (hs : s.length ≤ LIMS) (hN : s.length + 1000 ≤ N) : calqueref10_Unsigned N s = some (vld s && !neg s) := by
  unfold calqueref10_Unsigned
  rw [ref_Valid_big hs hN]
  simp only [Option.bind_some]
  cases hv : vld s with
  | false => rfl
  | true =>
    cases s with
    | nil => exact absurd hv (by decide)
    | cons c t =>
      rw [show idx (c :: t) 0 = some c from rfl]
      simp only [cond_true, Option.bind_some, Bool.true_and]
      have e : neg (c :: t) = (c == 45) := by
        unfold neg
        simp only [List.isPrefixOf, Bool.and_true]
        exact Bool.eq_iff_iff.2 ⟨fun h => beq_iff_eq.2 (beq_iff_eq.1 h).symm, fun h => beq_iff_eq.2 (beq_iff_eq.1 h).symm⟩
      rw [e]
      congr 1
      rw [Bool.eq_iff_iff]
      simp only [bne_iff_ne, ne_eq, Bool.not_eq_true', beq_eq_false_iff_ne]
      constructor
      · intro h h'; subst h'; exact h rfl
      · intro h h'; exact h (UInt8.toNat_inj.1 (show c.toNat = 45 by omega))
def cnt (bs : List Bool) : Nat := (bs.filter id).length
def gp (p : Int) (bs : List Bool) : Bool := if p = 0 then decide (0 < cnt bs) else if p = 1 then cnt bs == 0 else if p = 2 then cnt bs == 2 else cnt bs == 1
def PP (p : Int) (cs : List Cnd) (x : Str) : Bool := gp p (cs.map fun c => hd x c)
theorem mem_rels {cs : List Cnd} {c : Cnd} {l : List Relation} {r : Relation} (hc : c ∈ cs) (hl : l ∈ c) (hr : r ∈ l) : r ∈ rels cs :=
  List.mem_flatMap.2 ⟨c, hc, List.mem_flatten.2 ⟨l, hl, hr⟩⟩
theorem PP_same {p : Int} {cs : List Cnd} {x y : Str} (h : Eq1 (rels cs) x y) : PP p cs x = PP p cs y := by
  unfold PP
  congr 1
  refine List.map_congr_left fun c hc => ?_
  exact hd_congr fun l hl r hr => (h r (mem_rels hc hl hr))
theorem hdp_hd {c : Cnd} (hp0 : ∀ l ∈ c, ∀ r ∈ l, prp r = true) {w f : Str} (d : Dp w f) : hdp c w f = hd (nb w f) c := by
  unfold hdp hd
  have e : ∀ l ∈ c, (l.all fun r => hp r w f) = l.all (hold (nb w f)) := by
    intro l hl
    rw [Bool.eq_iff_iff, List.all_eq_true, List.all_eq_true]
    exact ⟨fun k r hr => by rw [hold_nb (hp0 l hl r hr) d]; exact k r hr, fun k r hr => by have := k r hr; rw [hold_nb (hp0 l hl r hr) d] at this; exact this⟩
  rw [Bool.eq_iff_iff, List.any_eq_true, List.any_eq_true]
  exact ⟨fun ⟨l, hl, k⟩ => ⟨l, hl, by rw [← e l hl]; exact k⟩, fun ⟨l, hl, k⟩ => ⟨l, hl, by rw [e l hl]; exact k⟩⟩
theorem both_first {p : Int} {cs : List Cnd} (hpr : Pr (rels cs)) (hl : (rels cs).length ≤ 60) : fstW (PP p cs) (cands (rels cs)) = fstW (PP p cs) (rcands (rels cs)) ∧ First Dn (PP p cs) (fstW (PP p cs) (cands (rels cs))) := by
  have h1 := (cands_cover hpr hl).first (P := PP p cs) (fun s t _ _ h => PP_same h)
  have h2 := (rcands_cover hpr).first (P := PP p cs) (fun s t _ _ h => PP_same h)
  exact ⟨h1.uniq h2, h1⟩
theorem shows_eq {N : Nat} {cs : List Cnd} (hv : ∀ c ∈ cs, vd c = true) (S : ∀ c ∈ cs, Sz N c) (hc : cs.length ≤ 1000) (hN : 20000000 ≤ N) {x : Str} (hx : x.length ≤ 1000) (hxv : vld x = true) (p : Int) : calqueref10_shows N cs x p = some (PP p cs x) := by
  unfold calqueref10_shows
  have hh := iter_list (body := fun t => calqueref10_shows_b1 N cs x t.1 t.2) (σ := Nat) (fun n k => ((n : Int), k)) cs (fun n c => .inl (if hd x c then n + 1 else n)) (fun n => (n : Int)) (fun k n => n ≤ k) (fun n k c hk hI => ?_) (fun n hI => ?_) N 0 (by omega) (Nat.le_refl _)
  · have e : ∀ (xs : List Cnd) (n : Nat), run (σ := Nat) (β := Int) (fun n c => .inl (if hd x c then n + 1 else n)) (fun n => (n : Int)) n xs = ((n + cnt (xs.map fun c => hd x c) : Nat) : Int) := by
      intro xs
      induction xs with
      | nil => intro n; rfl
      | cons y ys ih =>
        intro n
        rw [run]
        simp only
        rw [ih]
        unfold cnt
        rw [List.map_cons, List.filter_cons]
        cases hd x y <;> simp <;> omega
    rw [e, Nat.zero_add] at hh
    rw [show ((0 : Int), (0 : Int)) = (((0 : Nat) : Int), 0) from rfl, hh]
    unfold PP gp
    generalize cnt (cs.map fun c => hd x c) = m
    simp only [Option.bind_some]
    by_cases h0 : p = 0
    · subst h0
      simp only [beq_self_eq_true, cond_true, if_true]
      congr 1
      exact decide_eq_decide.2 (by omega)
    · rw [beq_eq_false_iff_ne.2 h0, cond_false, if_neg h0]
      have hb : ∀ k : Nat, ((m : Int) == (k : Int)) = (m == k) := fun k => by rw [Bool.eq_iff_iff, beq_iff_eq, beq_iff_eq]; omega
      by_cases h1 : p = 1
      · subst h1
        simp only [beq_self_eq_true, cond_true, if_true]
        rw [← hb 0]; rfl
      · rw [beq_eq_false_iff_ne.2 h1, cond_false, if_neg h1]
        by_cases h2 : p = 2
        · subst h2
          simp only [beq_self_eq_true, cond_true, if_true]
          rw [← hb 2]; rfl
        · rw [beq_eq_false_iff_ne.2 h2, cond_false, if_neg h2]
          rw [← hb 1]; rfl
  · have hm := List.mem_of_getElem? hk
    have hlt := getlt hk
    constructor
    · show calqueref10_shows_b1 N cs x (n : Int) k = _
      unfold calqueref10_shows_b1
      simp only [dltx hk, cond_true, idx_some hk, Option.bind_some]
      rw [ref_Holds_eq (S c hm) hx]
      unfold hr
      rw [hv c hm, hxv]
      simp only [Bool.and_self, if_true, Option.bind_some]
      have hw : IntKind.wrap .i64 ((n : Int) + 1) = ((n + 1 : Nat) : Int) := by rw [wrap_id (by omega) (by omega)]; omega
      rw [hw]
      cases hd x c <;> rfl
    · intro s' h
      simp only [Sum.inl.injEq] at h
      subst h
      split <;> omega
  · show calqueref10_shows_b1 N cs x (n : Int) cs.length = _
    unfold calqueref10_shows_b1
    simp only [dnlt, cond_false]
theorem all_ref {N : Nat} {c : Cnd} (hN : c.length < N) (hl : c.flatten.length ≤ 4000000000) : calqueref10_all N c = some c.flatten := by
  unfold calqueref10_all
  have hh := iter_list (body := fun t => calqueref10_all_b1 N c t.1 t.2) (σ := Nat) (fun i k => ((c.take i).flatten, k)) c (fun i _ => .inl (i + 1)) (fun i => (c.take i).flatten) (fun k i => i = k) (fun i k x hk hi => ?_) (fun i hi => ?_) N 0 hN rfl
  · rw [run_idx, Nat.zero_add, List.take_length] at hh
    show (iter (fun t => calqueref10_all_b1 N c t.1 t.2) N ((c.take 0).flatten, 0)).bind _ = _
    rw [hh]
    rfl
  · subst hi
    have e : (c.take (i + 1)).flatten = (c.take i).flatten ++ x := by rw [List.take_add_one, hk, List.flatten_append]; simp
    have hle : ((c.take i).flatten ++ x).length ≤ c.flatten.length := by
      rw [← e]
      conv => rhs; rw [← List.take_append_drop (i + 1) c, List.flatten_append, List.length_append]
      omega
    rw [List.length_append] at hle
    constructor
    · show calqueref10_all_b1 N c (c.take i).flatten i = _
      unfold calqueref10_all_b1
      simp only [dltx hk, cond_true, idx_some hk, Option.bind_some]
      rw [app_some (by omega), e]
      rfl
    · intro s' h
      cases h; rfl
  · subst hi
    show calqueref10_all_b1 N c (c.take c.length).flatten c.length = _
    unfold calqueref10_all_b1
    simp only [dnlt, cond_false]
def fd (b : Option Str) : Str := b.getD []
def isf (b : Option Str) : Bool := b.isSome
theorem first_loops {N : Nat} {cs : List Cnd} (hv : ∀ c ∈ cs, vd c = true) (S : ∀ c ∈ cs, Sz N c) (hc : cs.length ≤ 1000) (hN : 20000000 ≤ N) (p : Int) (ws fs : List Str) (hd' : ∀ a ∈ ws, ∀ f ∈ fs, Dp a f) (hal : ws.length ≤ 100000) (hfl : fs.length ≤ 100000) :
    iter (fun t => calqueref10_first_b2 N cs p ws fs t.1 t.2.1 t.2.2) N ([], false, 0) = some (fd (fstW (PP p cs) (ws.flatMap fun a => fs.map fun f => nb a f)), isf (fstW (PP p cs) (ws.flatMap fun a => fs.map fun f => nb a f))) := by
  have inner : ∀ (i : Nat) (a : Str), ws[i]? = some a → ∀ b : Option Str, (∀ x, b = some x → Dn x) → iter (fun t => calqueref10_first_b3 N cs p ws fs i t.1 t.2.1 t.2.2) N (fd b, isf b, 0) = some (fd ((fs.map fun f => nb a f).foldl (fst1 (PP p cs)) b), isf ((fs.map fun f => nb a f).foldl (fst1 (PP p cs)) b)) := by
    intro i a ha b hb
    have ham := List.mem_of_getElem? ha
    have hh := iter_list (body := fun t => calqueref10_first_b3 N cs p ws fs i t.1 t.2.1 t.2.2) (σ := Option Str) (fun b k => (fd b, isf b, k)) fs (fun b s => .inl (fst1 (PP p cs) b (nb a s))) (fun b => (fd b, isf b)) (fun _ b => ∀ x, b = some x → Dn x) (fun b k s hk hb => ?_) (fun b _ => ?_) N b (by omega) hb
    · rw [hh, run_fold, List.foldl_map]
    · have hsm := List.mem_of_getElem? hk
      have hD : Dn (nb a s) := ⟨a, s, rfl, hd' a ham s hsm⟩
      obtain ⟨c1, c2, c3⟩ := Dn_chr hD
      have d := hd' a ham s hsm
      have hwl := d.wl
      have hsl := d.fl
      constructor
      · dsimp only
        unfold calqueref10_first_b3
        simp only [dltx hk, cond_true, idx_some hk, idx_some ha, Option.bind_some]
        have htx : (bif (s != []) then (cat [46] s).bind fun s114 => (cat a s114).bind fun s116 => some s116 else some a) = some (nb a s) := by
          unfold nb
          cases s with
          | nil => simp
          | cons c t =>
            rw [show ((c :: t : Str) != []) = true from rfl, cond_true, cat_some (by simp only [List.length_cons, List.length_nil] at *; omega)]
            simp only [Option.bind_some]
            rw [cat_some (by simp only [List.length_append, List.length_cons, List.length_nil] at *; omega)]
            rfl
        rw [htx]
        simp only [Option.bind_some]
        rw [shows_eq hv S hc hN (by omega) c3]
        simp only [Option.bind_some]
        cases b with
        | none =>
          rw [fst1_none, show isf none = false from rfl]
          simp only [Bool.not_false, cond_true]
          cases PP p cs (nb a s) <;> rfl
        | some x =>
          obtain ⟨e1, e2, e3⟩ := Dn_chr (hb x rfl)
          rw [fst1_some, show isf (some x) = true from rfl, show fd (some x) = x from rfl]
          simp only [Bool.not_true, cond_false]
          rw [Before_eq c1 e1 (by omega)]
          simp only [Option.bind_some]
          cases bef (nb a s) x <;> cases PP p cs (nb a s) <;> rfl
      · intro b' h x hx
        simp only [Sum.inl.injEq] at h
        subst h
        rcases fst1_or hx with rfl | hx
        · exact hD
        · exact hb x hx
    · dsimp only
      unfold calqueref10_first_b3
      simp only [dnlt, cond_false]
  have small : ∀ (a : Str), a ∈ ws → ∀ (ss : List Str), (∀ s ∈ ss, s ∈ fs) → ∀ b : Option Str, (∀ x, b = some x → Dn x) → ∀ x, (ss.map fun f => nb a f).foldl (fst1 (PP p cs)) b = some x → Dn x := by
    intro a ham ss
    induction ss with
    | nil => intro _ b hb x hx; exact hb x hx
    | cons s ss ih =>
      intro hs b hb
      refine ih (fun t ht => hs t (by simp [ht])) (fst1 (PP p cs) b (nb a s)) (fun x hx => ?_)
      rcases fst1_or hx with rfl | hx
      · exact ⟨a, s, rfl, hd' a ham s (hs s (by simp))⟩
      · exact hb x hx
  have hh := iter_list (body := fun t => calqueref10_first_b2 N cs p ws fs t.1 t.2.1 t.2.2) (σ := Option Str) (fun b k => (fd b, isf b, k)) ws (fun b a => .inl ((fs.map fun f => nb a f).foldl (fst1 (PP p cs)) b)) (fun b => (fd b, isf b)) (fun _ b => ∀ x, b = some x → Dn x) (fun b k a hk hb => ?_) (fun b _ => ?_) N none (by omega) (fun x h => by cases h)
  · have e : ∀ (ns : List Str) (b : Option Str), run (β := Str × Bool) (fun b a => .inl ((fs.map fun f => nb a f).foldl (fst1 (PP p cs)) b)) (fun b => (fd b, isf b)) b ns = (fd ((ns.flatMap fun a => fs.map fun f => nb a f).foldl (fst1 (PP p cs)) b), isf ((ns.flatMap fun a => fs.map fun f => nb a f).foldl (fst1 (PP p cs)) b)) := by
      intro ns
      induction ns with
      | nil => intro b; rfl
      | cons n ns ih => intro b; rw [run]; simp only; rw [ih, List.flatMap_cons, List.foldl_append]
    rw [e] at hh
    rw [show (([] : Str), false, (0 : Int)) = (fd none, isf none, 0) from rfl, hh]
    rfl
  · constructor
    · dsimp only
      unfold calqueref10_first_b2
      simp only [dltx hk, cond_true]
      rw [inner k a hk b hb]
      rfl
    · intro b' h
      simp only [Sum.inl.injEq] at h
      subst h
      exact small a (List.mem_of_getElem? hk) fs (fun s hs => hs) b hb
  · dsimp only
    unfold calqueref10_first_b2
    simp only [dnlt, cond_false]
theorem first_ref {N : Nat} {cs : List Cnd} (SL : Sl N (rels cs)) (hv : ∀ c ∈ cs, vd c = true) (S : ∀ c ∈ cs, Sz N c) (hc : cs.length ≤ 1000) (hcN : ∀ c ∈ cs, c.length < N) (p : Int) : calqueref10_first N cs p = some (fd (fstW (PP p cs) (rcands (rels cs))), isf (fstW (PP p cs) (rcands (rels cs)))) := by
  have hN := SL.n
  have hl := SL.len
  unfold calqueref10_first
  have hh := iter_list (body := fun t => calqueref10_first_b1 N cs t.1 t.2) (σ := Nat) (fun i k => (rels (cs.take i), k)) cs (fun i _ => .inl (i + 1)) (fun i => rels (cs.take i)) (fun k i => i = k) (fun i k c hk hi => ?_) (fun i hi => ?_) N 0 (by omega) rfl
  · rw [run_idx, Nat.zero_add, List.take_length] at hh
    show (iter (fun t => calqueref10_first_b1 N cs t.1 t.2) N (rels (cs.take 0), 0)).bind _ = _
    rw [hh]
    simp only [Option.bind_some]
    rw [wholes_ref SL]
    simp only [Option.bind_some]
    rw [fractions_ref SL]
    simp only [Option.bind_some]
    have hal : ((rnums (rels cs) 401).map dd).length ≤ 100000 := by
      have := kp_len (vw (rels cs)) (List.range 401) []
      rw [List.length_range, List.length_nil] at this
      rw [List.length_map]
      unfold rnums; omega
    have hfl : (rfracs (rels cs)).length ≤ 100000 := by
      obtain ⟨_, k2, _⟩ := tbl_ok (l := rels cs) 7 (by omega)
      unfold rfracs
      rw [List.length_map]
      omega
    rw [first_loops hv S hc hN p _ _ (fun a ha f hf' => ?_) hal hfl]
    · unfold rcands
      simp only [Option.bind_some]
    · obtain ⟨n, hn, rfl⟩ := List.mem_map.1 ha
      have h1 := rnums_lt hn
      have h2 := rfracs_all hf'
      exact ⟨dd_Wh n, by have := dd_len 2 n (by omega); omega, h2.1, h2.2⟩
  · subst hi
    have hlt := getlt hk
    constructor
    · show calqueref10_first_b1 N cs (rels (cs.take i)) i = _
      unfold calqueref10_first_b1
      simp only [dltx hk, cond_true, idx_some hk, Option.bind_some]
      have hroom := rels_room cs i c hk
      rw [all_ref (hcN c (List.mem_of_getElem? hk)) (by omega)]
      simp only [Option.bind_some]
      rw [app_some (by omega)]
      simp only [Option.bind_some]
      have e : rels (cs.take (i + 1)) = rels (cs.take i) ++ c.flatten := by
        rw [List.take_add_one, hk]
        unfold rels
        rw [List.flatMap_append]
        simp
      rw [e]
    · intro s' h
      cases h; rfl
  · subst hi
    show calqueref10_first_b1 N cs (rels (cs.take cs.length)) cs.length = _
    unfold calqueref10_first_b1
    simp only [dnlt, cond_false]
end Go.Proofs.YtidfofhmnlhfjaaGreatDoor
namespace Go.Proofs.YtidfofhmnlhfjaaGreatDoor
open Go.X
theorem few_true {N : Nat} {l : List Cnd} (S : Cs N l) (h : calquelaw10_few N l = some true) : l.length ≤ 12 ∧ ∀ c ∈ l, calqueref08_Few N c = some true := by
  unfold calquelaw10_few at h
  have hh := iter_list' (body := fun i => calquelaw10_few_b1 N l i) (σ := Unit) (fun _ i => i) l (fun _ x => if (calqueref08_Few N x).getD false then .inl () else .inr (.inr false)) (fun _ => .inl ()) (fun _ k x hk => ?_) (fun _ => ?_) N () S.len
  · rw [hh] at h
    have hr : ∀ (xs : List Cnd), run (σ := Unit) (β := Unit ⊕ Bool) (fun _ x => if (calqueref08_Few N x).getD false then .inl () else .inr (.inr false)) (fun _ => .inl ()) () xs = if xs.all (fun x => (calqueref08_Few N x).getD false) then .inl () else .inr false := by
      intro xs
      induction xs with
      | nil => rfl
      | cons x xs ih =>
        rw [run]
        cases hx : (calqueref08_Few N x).getD false with
        | true => simp only [if_true]; rw [ih, List.all_cons, hx, Bool.true_and]
        | false => simp [hx]
    rw [hr] at h
    cases ha : l.all (fun x => (calqueref08_Few N x).getD false) with
    | false => rw [ha] at h; simp at h
    | true =>
      rw [ha] at h
      simp only [if_true, Option.bind_some, Sum.elim_inl, Option.some.injEq, decide_eq_true_eq] at h
      refine ⟨by omega, fun c hc => ?_⟩
      have := List.all_eq_true.1 ha c hc
      cases hf : calqueref08_Few N c with
      | none => rw [hf] at this; cases this
      | some b => rw [hf] at this; simp only [Option.getD_some] at this; rw [this]
  · obtain ⟨b, hb⟩ := Few_some (S.s x (List.mem_of_getElem? hk))
    unfold calquelaw10_few_b1
    simp only [dltx hk, cond_true, idx_some hk, Option.bind_some, hb]
    cases b <;> rfl
  · unfold calquelaw10_few_b1
    simp only [dnlt, cond_false]
def COk (c : Cnd) : Prop := ∀ l ∈ c, l.length ≤ reachBytes
theorem flat_bound (R : Nat) : ∀ d : Cnd, (∀ l ∈ d, l.length ≤ R) → d.flatten.length ≤ d.length * R
  | [], _ => by simp
  | l :: d, h => by
    have h1 := h l (by simp)
    have h2 := flat_bound R d (fun m hm => h m (by simp [hm]))
    rw [List.flatten_cons, List.length_append, List.length_cons, Nat.add_mul]
    omega
theorem vd_six {c : Cnd} (hv : vd c = true) (h30 : c.length ≤ 30) (hc : COk c) : c.flatten.length ≤ 6 := by
  have e : tot c = (c.flatten.length : Int) := by
    unfold tot
    rw [List.length_flatten]
    induction c with
    | nil => rfl
    | cons l c ih =>
      rw [List.map_cons, List.sum_cons, List.map_cons, List.sum_cons]
      have : (c.map fun l => (l.length : Int)).sum = (((c.map List.length).sum : Nat) : Int) := by
        clear ih hv h30 hc
        induction c with
        | nil => rfl
        | cons l c ih => rw [List.map_cons, List.sum_cons, List.map_cons, List.sum_cons, ih]; omega
      rw [this]
      omega
  have hb : c.flatten.length ≤ 10000000000000000 := by
    have h0 := flat_bound reachBytes c hc
    have h1 := Nat.mul_le_mul_right reachBytes h30
    have h2 : reachBytes ≤ 140737488355328 := by unfold reachBytes; omega
    have h3 := Nat.mul_le_mul_left 30 h2
    exact Nat.le_trans h0 (Nat.le_trans h1 (Nat.le_trans h3 (by decide)))
  unfold vd at hv
  simp only [Bool.and_eq_true, decide_eq_true_eq] at hv
  have h6 := hv.2.2
  rw [e, wrap_of (inR_i64.2 ⟨by omega, by omega⟩)] at h6
  omega
theorem rels_ok {cs : List Cnd} (hv : ∀ c ∈ cs, vd c = true) (h30 : ∀ c ∈ cs, c.length ≤ 30) (hc : ∀ c ∈ cs, COk c) (h10 : cs.length ≤ 10) : Pr (rels cs) ∧ (rels cs).length ≤ 60 := by
  constructor
  · intro r hr
    obtain ⟨c, hc', h⟩ := List.mem_flatMap.1 hr
    obtain ⟨l, hl, h2⟩ := List.mem_flatten.1 h
    exact vd_prp (hv c hc') l hl r h2
  · have key : ∀ ds : List Cnd, (∀ c ∈ ds, c.flatten.length ≤ 6) → (rels ds).length ≤ 6 * ds.length := by
      intro ds
      induction ds with
      | nil => intro _; simp [rels]
      | cons d ds ih =>
        intro h
        have h1 := h d (by simp)
        have h2 := ih (fun c hc => h c (by simp [hc]))
        have e : rels (d :: ds) = d.flatten ++ rels ds := by unfold rels; rw [List.flatMap_cons]
        rw [e, List.length_append, List.length_cons]
        omega
    have := key cs (fun c hc' => vd_six (hv c hc') (h30 c hc') (hc c hc'))
    omega
theorem few_30 {N : Nat} {l : List Cnd} (S : Cs N l) (h : calquelaw10_few N l = some true) : ∀ c ∈ l, c.length ≤ 30 := fun c hc => Few_len (S.s c hc) ((few_true S h).2 c hc)
theorem Dp_of {l : List Relation} {n : Nat} {s : Str} (hn : n ∈ wnums l) (hs : s ∈ fstrs l) : Dp (dd n) s := dd_Dp2 hn hs
theorem hdp_map {cs : List Cnd} (hv : ∀ c ∈ cs, vd c = true) {w f : Str} (d : Dp w f) : (cs.map fun c => hdp c w f) = cs.map fun c => hd (nb w f) c :=
  List.map_congr_left fun c hc => hdp_hd (vd_prp (hv c hc)) d
theorem first_says {p : Int} {cs : List Cnd} {r : Option Str} (F : First Dn (PP p cs) r) {x : Str} (hx : Dn x) (h : PP p cs x = true) : isf r = true ∧ bef x (fd r) = false := by
  cases r with
  | none =>
    have := F.n rfl x hx
    rw [h] at this
    cases this
  | some s => exact ⟨rfl, (F.s s rfl).2.2 x hx h⟩
theorem first_is {p : Int} {cs : List Cnd} {r : Option Str} (F : First Dn (PP p cs) r) (h : isf r = true) : Dn (fd r) ∧ PP p cs (fd r) = true := by
  cases r with
  | none => cases h
  | some s => exact ⟨(F.s s rfl).1, (F.s s rfl).2.1⟩
end Go.Proofs.YtidfofhmnlhfjaaGreatDoor
namespace Go.Proofs.YtidfofhmnlhfjaaGreatDoor
open Go.X
theorem conds_loope {N : Nat} {cs : List Cnd} {l : List Relation} (S : Sl N l) (W F : List Part) (n : Nat) (s : Str) (O : List Int) (hc : cs.length ≤ 1000) (hO : ∀ (i : Nat) (c : Cnd), cs[i]? = some c → ∃ off : Nat, idx O (i : Int) = some (off : Int) ∧ (∀ j r, c.flatten[j]? = some r → l[off + j]? = some r) ∧ off + c.flatten.length ≤ 60) (hcN : ∀ c ∈ cs, c.length < N) :
    decide_search_1__128_v2 N (some (Classes.mk l W F)) (pw l n) (pf l s) cs O = (decide_Equivalent_1 N (cs.map fun c => hdp c (dd n) s)).bind fun r => some r := by
  have hn := S.n
  unfold decide_search_1__128_v2
  rw [mk_rep hc]
  simp only [Option.bind_some]
  have hh := iter_list (body := fun t => decide_search_1__128_v2_b1 N (some (Classes.mk l W F)) (pw l n) (pf l s) cs O t.1 t.2) (σ := Nat) (fun i k => (k, fill (cs.map fun c => hdp c (dd n) s) false i)) cs (fun i _ => .inl (i + 1)) (fun i => fill (cs.map fun c => hdp c (dd n) s) false i) (fun k i => i = k) (fun i k c hk hi => ?_) (fun i hi => ?_) N 0 (by omega) rfl
  · rw [run_idx, Nat.zero_add, fill_zero, List.length_map] at hh
    have e := fill_all (cs.map fun c => hdp c (dd n) s) false
    rw [List.length_map] at e
    rw [e] at hh
    rw [hh]
    rfl
  · subst hi
    have hx : (cs.map fun c => hdp c (dd n) s)[i]? = some (hdp c (dd n) s) := by rw [List.getElem?_map, hk]; rfl
    have hlt := getlt hk
    obtain ⟨off, h1, h2, h3⟩ := hO i c hk
    constructor
    · show decide_search_1__128_v2_b1 N (some (Classes.mk l W F)) (pw l n) (pf l s) cs O i (fill (cs.map fun c => hdp c (dd n) s) false i) = _
      unfold decide_search_1__128_v2_b1
      simp only [dltx hk, cond_true, idx_some hk, Option.bind_some]
      rw [holds_cond S W F n s h1 h2 (hcN c (List.mem_of_getElem? hk)) h3]
      simp only [Option.bind_some]
      rw [idx_some (fill_here hx), setI_some (by rw [fill_len _ _ (by rw [List.length_map]; omega), List.length_map]; exact hlt)]
      simp only [Option.bind_some]
      rw [fill_set hx]
    · intro s' h
      cases h; rfl
  · subst hi
    show decide_search_1__128_v2_b1 N (some (Classes.mk l W F)) (pw l n) (pf l s) cs O cs.length (fill (cs.map fun c => hdp c (dd n) s) false cs.length) = _
    unfold decide_search_1__128_v2_b1
    simp only [dnlt, cond_false]
def fnde (b : Option Str) : Str := b.getD []
def isfe (b : Option Str) : Bool := b.isSome
theorem first_eqe {N : Nat} {cs : List Cnd} {l : List Relation} (S : Sl N l) (O : List Int) (hc : cs.length ≤ 1000) (hO : ∀ (i : Nat) (c : Cnd), cs[i]? = some c → ∃ off : Nat, idx O (i : Int) = some (off : Int) ∧ (∀ j r, c.flatten[j]? = some r → l[off + j]? = some r) ∧ off + c.flatten.length ≤ 60) (hcN : ∀ c ∈ cs, c.length < N)
    (ws : List Nat) (fs : List Str) (hws : ∀ n ∈ ws, n < 1000) (hfs : ∀ s ∈ fs, s.length ≤ 6) (hwl : ws.length ≤ 1000) (hfl : fs.length ≤ 2000000)
    (P : Str → Bool) (hP : ∀ n ∈ ws, ∀ s ∈ fs, decide_Equivalent_1 N (cs.map fun c => hdp c (dd n) s) = some (P (nb (dd n) s))) :
    decide_classes_first__96_v2 N (some (Classes.mk l (ws.map (pw l)) (fs.map (pf l)))) cs O = some (fnde (fstW P (ws.flatMap fun n => fs.map fun f => nb (dd n) f)), isfe (fstW P (ws.flatMap fun n => fs.map fun f => nb (dd n) f))) := by
  have hn := S.n
  have inner : ∀ n ∈ ws, ∀ b : Option Str, (∀ x, b = some x → x.length ≤ 100) → iter (fun t => decide_classes_first__96_v2_b2 N (some (Classes.mk l (ws.map (pw l)) (fs.map (pf l)))) cs O (pw l n) (Classes.mk l (ws.map (pw l)) (fs.map (pf l))) t.1 t.2.1 t.2.2) N (fnde b, isfe b, 0) = some (fnde ((fs.map fun f => nb (dd n) f).foldl (fst1 P) b), isfe ((fs.map fun f => nb (dd n) f).foldl (fst1 P) b)) := by
    intro n hnm b hb
    have hh := iter_list (body := fun t => decide_classes_first__96_v2_b2 N (some (Classes.mk l (ws.map (pw l)) (fs.map (pf l)))) cs O (pw l n) (Classes.mk l (ws.map (pw l)) (fs.map (pf l))) t.1 t.2.1 t.2.2) (σ := Option Str) (fun b k => (fnde b, isfe b, k)) fs (fun b s => .inl (fst1 P b (nb (dd n) s))) (fun b => (fnde b, isfe b)) (fun _ b => ∀ x, b = some x → x.length ≤ 100) (fun b k s hk hb => ?_) (fun b _ => ?_) N b (by omega) hb
    · rw [hh, run_fold, List.foldl_map]
    · have hsm := List.mem_of_getElem? hk
      have hs6 := hfs s hsm
      have hdl := dd_len 2 n (by have := hws n hnm; omega)
      have hm : (fs.map (pf l))[k]? = some (pf l s) := by rw [List.getElem?_map, hk]; rfl
      have hnbl := nb_small (hws n hnm) hs6
      constructor
      · dsimp only
        unfold decide_classes_first__96_v2_b2
        simp only [dltx hm, cond_true, idx_some hm, Option.bind_some]
        have htx : (bif ((pf l s).text != []) then (cat [46] (pf l s).text).bind fun s86 => (cat (pw l n).text s86).bind fun s88 => some s88 else some (pw l n).text) = some (nb (dd n) s) := by
          rw [show (pf l s).text = s from rfl, show (pw l n).text = dd n from rfl]
          unfold nb
          cases s with
          | nil => simp
          | cons c t =>
            rw [show ((c :: t : Str) != []) = true from rfl, cond_true, cat_some (by simp only [List.length_cons, List.length_nil] at *; omega)]
            simp only [Option.bind_some]
            rw [cat_some (by simp only [List.length_append, List.length_cons, List.length_nil] at *; omega)]
            rfl
        rw [htx]
        simp only [Option.bind_some]
        rw [conds_loope S _ _ n s O hc hO hcN, hP n hnm s hsm]
        simp only [Option.bind_some]
        cases b with
        | none =>
          rw [fst1_none]
          rw [show isfe none = false from rfl]
          simp only [Bool.not_false, cond_true]
          cases P (nb (dd n) s) <;> rfl
        | some x =>
          rw [fst1_some]
          rw [show isfe (some x) = true from rfl, show fnde (some x) = x from rfl]
          simp only [Bool.not_true, cond_false]
          rw [before_eq (by omega)]
          simp only [Option.bind_some]
          cases bef (nb (dd n) s) x <;> cases P (nb (dd n) s) <;> rfl
      · intro b' h x hx
        simp only [Sum.inl.injEq] at h
        subst h
        rcases fst1_or hx with rfl | hx
        · exact hnbl
        · exact hb x hx
    · dsimp only
      unfold decide_classes_first__96_v2_b2
      rw [List.length_map]
      simp only [dnlt, cond_false]
  have small : ∀ (n : Nat), n < 1000 → ∀ (ss : List Str), (∀ s ∈ ss, s.length ≤ 6) → ∀ b : Option Str, (∀ x, b = some x → x.length ≤ 100) → ∀ x, (ss.map fun f => nb (dd n) f).foldl (fst1 P) b = some x → x.length ≤ 100 := by
    intro n hnm ss
    induction ss with
    | nil => intro _ b hb x hx; exact hb x hx
    | cons s ss ih =>
      intro hs b hb
      refine ih (fun t ht => hs t (by simp [ht])) (fst1 P b (nb (dd n) s)) (fun x hx => ?_)
      rcases fst1_or hx with rfl | hx
      · exact nb_small hnm (hs s (by simp))
      · exact hb x hx
  unfold decide_classes_first__96_v2
  simp only [Option.bind_some]
  have hh := iter_list (body := fun t => decide_classes_first__96_v2_b1 N (some (Classes.mk l (ws.map (pw l)) (fs.map (pf l)))) cs O (Classes.mk l (ws.map (pw l)) (fs.map (pf l))) t.1 t.2.1 t.2.2) (σ := Option Str) (fun b k => (fnde b, isfe b, k)) ws (fun b n => .inl ((fs.map fun f => nb (dd n) f).foldl (fst1 P) b)) (fun b => (fnde b, isfe b)) (fun _ b => ∀ x, b = some x → x.length ≤ 100) (fun b k n hk hb => ?_) (fun b _ => ?_) N none (by omega) (fun x h => by cases h)
  · have e : ∀ (ns : List Nat) (b : Option Str), run (β := Str × Bool) (fun b n => .inl ((fs.map fun f => nb (dd n) f).foldl (fst1 P) b)) (fun b => (fnde b, isfe b)) b ns = (fnde ((ns.flatMap fun n => fs.map fun f => nb (dd n) f).foldl (fst1 P) b), isfe ((ns.flatMap fun n => fs.map fun f => nb (dd n) f).foldl (fst1 P) b)) := by
      intro ns
      induction ns with
      | nil => intro b; rfl
      | cons n ns ih => intro b; rw [run]; simp only; rw [ih, List.flatMap_cons, List.foldl_append]
    rw [e] at hh
    rw [show (([] : Str), false, (0 : Int)) = (fnde none, isfe none, 0) from rfl, hh]
    rfl
  · have hnm := List.mem_of_getElem? hk
    have hm : (ws.map (pw l))[k]? = some (pw l n) := by rw [List.getElem?_map, hk]; rfl
    constructor
    · dsimp only
      unfold decide_classes_first__96_v2_b1
      simp only [dltx hm, cond_true, idx_some hm, Option.bind_some]
      rw [inner n hnm b hb]
      rfl
    · intro b' h
      simp only [Sum.inl.injEq] at h
      subst h
      exact small n (hws n hnm) fs hfs b hb
  · dsimp only
    unfold decide_classes_first__96_v2_b1
    rw [List.length_map]
    simp only [dnlt, cond_false]
theorem search_eqe {N : Nat} {cs : List Cnd} (S : Sl N (rels cs)) (hc : cs.length ≤ 1000) (hcN : ∀ c ∈ cs, c.length < N)
    (P : Str → Bool) (hP : ∀ n ∈ wnums (rels cs), ∀ s ∈ fstrs (rels cs), decide_Equivalent_1 N (cs.map fun c => hdp c (dd n) s) = some (P (nb (dd n) s))) :
    decide_search__75 N cs = some (fnde (fstW P (cands (rels cs))), isfe (fstW P (cands (rels cs)))) := by
  have hn := S.n
  have hl := S.len
  unfold decide_search__75
  rw [mk_rep hc]
  simp only [Option.bind_some]
  have hol : (offs cs 0).length = cs.length := offs_len cs 0
  have hh := iter_list (body := fun t => decide_search__75_b1 N cs t.1 t.2.1 t.2.2) (σ := Nat) (fun i k => (rels (cs.take i), k, fill ((offs cs 0).map fun k : Nat => (k : Int)) 0 i)) cs (fun i _ => .inl (i + 1)) (fun i => (fill ((offs cs 0).map fun k : Nat => (k : Int)) 0 i, rels (cs.take i))) (fun k i => i = k) (fun i k c hk hi => ?_) (fun i hi => ?_) N 0 (by omega) rfl
  · rw [run_idx, Nat.zero_add, fill_zero, List.length_map, hol, List.take_length] at hh
    have e := fill_all ((offs cs 0).map fun k : Nat => (k : Int)) 0
    rw [List.length_map, hol] at e
    rw [e] at hh
    show (iter (fun t => decide_search__75_b1 N cs t.1 t.2.1 t.2.2) N (rels (cs.take 0), 0, List.replicate cs.length 0)).bind _ = _
    rw [hh]
    simp only [Option.bind_some]
    rw [newClasses_eq S, wparts_map, fracs_map]
    simp only [Option.bind_some]
    rw [first_eqe S _ hc (fun i c hi => ?_) hcN (wnums (rels cs)) (fstrs (rels cs)) (fun n hn => wnums_lt hn) (fun s hs => (fstrs_all hs).2) (wparts_len _) (fstrs_len _) P hP]
    · unfold cands
      simp only [Option.bind_some]
    · have ho := offs_at cs 0 i c hi
      refine ⟨_, idx_some (by rw [List.getElem?_map, ho]; rfl), fun j r hj => ?_, ?_⟩
      · rw [Nat.zero_add]
        exact rels_at cs i c hi j r hj
      · have := rels_room cs i c hi
        omega
  · subst hi
    have hlt := getlt hk
    have ho := offs_at cs 0 i c hk
    have hx : ((offs cs 0).map fun k : Nat => (k : Int))[i]? = some (((0 + (rels (cs.take i)).length : Nat)) : Int) := by rw [List.getElem?_map, ho]; rfl
    constructor
    · show decide_search__75_b1 N cs (rels (cs.take i)) i (fill ((offs cs 0).map fun k : Nat => (k : Int)) 0 i) = _
      unfold decide_search__75_b1
      simp only [dltx hk, cond_true, idx_some hk, Option.bind_some]
      have hroom := rels_room cs i c hk
      rw [idx_some (fill_here hx), setI_some (by rw [fill_len _ _ (by rw [List.length_map, hol]; omega), List.length_map, hol]; exact hlt), relations_eq (hcN c (List.mem_of_getElem? hk)) (by omega)]
      simp only [Option.bind_some]
      rw [app_some (by omega)]
      simp only [Option.bind_some]
      rw [Nat.zero_add] at hx
      rw [fill_set hx]
      have e : rels (cs.take (i + 1)) = rels (cs.take i) ++ c.flatten := by
        rw [List.take_add_one, hk]
        unfold rels
        rw [List.flatMap_append]
        simp
      rw [e]
    · intro s' h
      cases h; rfl
  · subst hi
    show decide_search__75_b1 N cs (rels (cs.take cs.length)) cs.length (fill ((offs cs 0).map fun k : Nat => (k : Int)) 0 cs.length) = _
    unfold decide_search__75_b1
    simp only [dnlt, cond_false]
end Go.Proofs.YtidfofhmnlhfjaaGreatDoor
namespace Go.Proofs.YtidfofhmnlhfjaaGreatDoor
open Go.X
theorem valid_ref {N : Nat} {l : List Cnd} (S : Cs N l) : calqueref10_valid N l = some (l.all vd && decide (l.length ≤ 10)) := by
  unfold calqueref10_valid
  rw [iter_allL (body := fun s => calqueref10_valid_b1 N l s) vd l (fun k x hk => ?_) ?_ N S.len]
  · have e : decide ((l.length : Int) ≤ 10) = decide (l.length ≤ 10) := decide_eq_decide.2 (by omega)
    rw [e]
    cases l.all vd <;> rfl
  · unfold calqueref10_valid_b1
    simp only [dnlt, cond_false]
  · unfold calqueref10_valid_b1
    simp only [dltx hk, cond_true, idx_some hk, Option.bind_some, ref_Valid_c (S.s x (List.mem_of_getElem? hk))]
    cases vd x <;> rfl
theorem count_eq {N : Nat} {cs : List Cnd} (S : Cs N cs) (hv : ∀ c ∈ cs, vd c = true) (hc : cs.length ≤ 1000) {x : Str} (hx : x.length ≤ 1000) (hxv : vld x = true) : calquelaw10_count N cs x = some ((cnt (cs.map fun c => hd x c) : Nat) : Int) := by
  unfold calquelaw10_count
  have hh := iter_list (body := fun t => calquelaw10_count_b1 N cs x t.1 t.2) (σ := Nat) (fun n k => ((n : Int), k)) cs (fun n c => .inl (if hd x c then n + 1 else n)) (fun n => .inl (n : Int)) (fun k n => n ≤ k) (fun n k c hk hI => ?_) (fun n hI => ?_) N 0 S.len (Nat.le_refl _)
  · have e : ∀ (xs : List Cnd) (n : Nat), run (σ := Nat) (β := Int ⊕ Int) (fun n c => .inl (if hd x c then n + 1 else n)) (fun n => .inl (n : Int)) n xs = .inl ((n + cnt (xs.map fun c => hd x c) : Nat) : Int) := by
      intro xs
      induction xs with
      | nil => intro n; rfl
      | cons y ys ih =>
        intro n
        rw [run]
        simp only
        rw [ih]
        unfold cnt
        rw [List.map_cons, List.filter_cons]
        cases hd x y <;> simp <;> omega
    rw [e, Nat.zero_add] at hh
    rw [show ((0 : Int), (0 : Int)) = (((0 : Nat) : Int), 0) from rfl, hh]
    rfl
  · have hm := List.mem_of_getElem? hk
    have hlt := getlt hk
    constructor
    · show calquelaw10_count_b1 N cs x (n : Int) k = _
      unfold calquelaw10_count_b1
      simp only [dltx hk, cond_true, idx_some hk, Option.bind_some]
      rw [Holds_eq (S.s c hm) hx]
      unfold hr
      rw [hv c hm, hxv]
      simp only [Bool.and_self, if_true, Option.bind_some]
      have hw : IntKind.wrap .i64 ((n : Int) + 1) = ((n + 1 : Nat) : Int) := by rw [wrap_id (by omega) (by omega)]; omega
      rw [hw]
      cases hd x c <;> rfl
    · intro s' h
      simp only [Sum.inl.injEq] at h
      subst h
      split <;> omega
  · show calquelaw10_count_b1 N cs x (n : Int) cs.length = _
    unfold calquelaw10_count_b1
    simp only [dnlt, cond_false]
theorem guard_ok {N : Nat} {l : List Cnd} (S : Cs N l) (hb : calquelaw10_few N l = some true) (hc : ∀ c ∈ l, COk c) (hv : (l.all vd && decide (l.length ≤ 10)) = true) (hN : 20000000 ≤ N) :
    (∀ c ∈ l, vd c = true) ∧ l.length ≤ 10 ∧ Sl N (rels l) := by
  rw [Bool.and_eq_true, List.all_eq_true, decide_eq_true_eq] at hv
  obtain ⟨h1, h2⟩ := rels_ok hv.1 (few_30 S hb) hc hv.2
  exact ⟨hv.1, hv.2, ⟨h1, h2, hN⟩⟩
end Go.Proofs.YtidfofhmnlhfjaaGreatDoor
namespace Go.Proofs.YtidfofhmnlhfjaaGreatDoor
open Go.X
theorem equiv_fn (N : Nat) (x y : Bool) : decide_Equivalent_1 N ([x, y] : List Bool) = some (gp 3 [x, y]) := by cases x <;> cases y <;> rfl
theorem equiv_both {N : Nat} {a b : Cnd} (S : Cs N [a, b]) (hv : ∀ c ∈ [a, b], vd c = true) (SL : Sl N (rels [a, b])) :
    ∃ r : Option Str, decide_Equivalent N a b = some (fd r, !isf r, 0) ∧ calqueref10_Equivalent N a b = some (fd r, !isf r, 0) ∧ First Dn (PP 3 [a, b]) r := by
  have hN := SL.n
  obtain ⟨b1, b2⟩ := both_first (p := 3) SL.p SL.len
  have hcs : ∀ d ∈ [a, b], d.length < N := fun d hd' => (S.s d hd').len
  have e1 := search_eqe SL (by simp) hcs (PP 3 [a, b]) (fun n hn s hs => by
    have d := Dp_of hn hs
    rw [hdp_map hv d]
    exact equiv_fn N (hd (nb (dd n) s) a) (hd (nb (dd n) s) b))
  have e2 := first_ref SL hv (fun d hd' => S.s d hd') (by simp) hcs 3
  rw [← b1] at e2
  have va := Valid_eq (S.s a (by simp))
  have vb := Valid_eq (S.s b (by simp))
  have v2 := valid_ref S
  have ha := hv a (by simp)
  have hb := hv b (by simp)
  rw [ha] at va
  rw [hb] at vb
  have hal : (([a, b] : List Cnd).all vd && decide (([a, b] : List Cnd).length ≤ 10)) = true := by
    rw [List.all_cons, List.all_cons, ha, hb]; rfl
  rw [hal] at v2
  revert e1 e2 b2
  generalize fstW (PP 3 [a, b]) (cands (rels [a, b])) = r
  intro b2 e1 e2
  refine ⟨r, ?_, ?_, b2⟩
  · unfold decide_Equivalent
    rw [va, Option.bind_some, Bool.not_true, cond_false, vb, Option.bind_some, Bool.not_true, cond_false, e1]
    rfl
  · unfold calqueref10_Equivalent
    rw [v2, Option.bind_some, Bool.not_true, cond_false, e2]
    rfl
theorem PP3 (l : List Cnd) (x : Str) : PP 3 l x = (cnt (l.map fun c => hd x c) == 1) := rfl
theorem cnt_one (k : Nat) : (((k : Int)) != 1) = !(k == 1) := by
  by_cases h : k = 1
  · subst h; rfl
  · rw [beq_eq_false_iff_ne.2 h, bne_iff_ne.2 (show (k : Int) ≠ 1 by omega)]; rfl
theorem decideEquivalent_law (a b : Cnd) (num : Str) (ha : COk a) (hb : COk b) (hnum : num.length ≤ LIMS) : ∃ N, calquelaw10_DecideEquivalent N a b num = some true := by
  obtain ⟨N, hNN⟩ : ∃ N, csz [a, b] + num.length + 20006000 ≤ N := ⟨_, Nat.le_refl _⟩
  refine ⟨N, ?_⟩
  have S : Cs N [a, b] := Cs.of (by simp only [List.length_cons, List.length_nil]; omega)
  have hc : ∀ c ∈ [a, b], COk c := by
    intro c hc
    simp only [List.mem_cons, List.not_mem_nil, or_false] at hc
    rcases hc with rfl | rfl
    · exact ha
    · exact hb
  have aw : calquelaw10_awake N = some true := by rw [show N = (N - 3000) + 3000 by omega]; exact awake_eq _
  unfold calquelaw10_DecideEquivalent
  rw [aw]
  simp only [Option.bind_some, Bool.not_true, cond_false]
  obtain ⟨f, hf0, _⟩ := few_some S
  rw [hf0]
  simp only [Option.bind_some]
  cases f with
  | false => rfl
  | true =>
    simp only [Bool.not_true, cond_false]
    cases hv : (([a, b] : List Cnd).all vd && decide (([a, b] : List Cnd).length ≤ 10)) with
    | false =>
      have e1 : decide_Equivalent N a b = some ([], false, 1) := by
        unfold decide_Equivalent
        rw [Valid_eq (S.s a (by simp)), Valid_eq (S.s b (by simp))]
        have hx : (vd a && vd b) = false := by
          rw [List.all_cons, List.all_cons, List.all_nil, Bool.and_true, show decide (([a, b] : List Cnd).length ≤ 10) = true from rfl, Bool.and_true] at hv
          exact hv
        cases h1 : vd a with
        | false => rfl
        | true => rw [h1, Bool.true_and] at hx; rw [hx]; rfl
      have e2 : calqueref10_Equivalent N a b = some ([], false, 1) := by unfold calqueref10_Equivalent; rw [valid_ref S, hv]; rfl
      rw [e1, e2]
      rfl
    | true =>
      obtain ⟨hv, h10, SL⟩ := guard_ok S hf0 hc hv (by omega)
      obtain ⟨r, e1, e2, F⟩ := equiv_both S hv SL
      rw [e1, e2]
      simp only [Option.bind_some, bne_self_eq_false, cond_false]
      have hu := Unsigned_eq (N := N) hnum (by omega)
      cases hf : isf r with
      | false =>
        simp only [Bool.not_false, Bool.not_true, cond_false]
        rw [hu]
        simp only [Option.bind_some]
        cases hvn : vld num with
        | false => rfl
        | true =>
          cases hng : neg num with
          | true => rfl
          | false =>
            simp only [Bool.not_false, Bool.and_self, Bool.not_true, cond_false]
            have D := Dn_of hvn hng
            obtain ⟨n1, n2, n3⟩ := Dn_chr D
            rw [count_eq S hv (by omega) (by omega) hvn]
            simp only [Option.bind_some]
            have hp : PP 3 [a, b] num = false := by
              cases r with
              | none => exact F.n rfl num D
              | some s => cases hf
            rw [PP3] at hp
            rw [cnt_one, hp]
            rfl
      | true =>
        simp only [Bool.not_false, Bool.not_true, cond_true]
        obtain ⟨d1, d2⟩ := first_is F hf
        obtain ⟨c1, c2, c3⟩ := Dn_chr d1
        rw [count_eq S hv (by omega) (by omega) c3]
        rw [PP3] at d2
        simp only [Option.bind_some]
        rw [cnt_one, d2, Bool.not_true, cond_false, hu]
        simp only [Option.bind_some]
        cases hvn : vld num with
        | false => rfl
        | true =>
          cases hng : neg num with
          | true => rfl
          | false =>
            simp only [Bool.not_false, Bool.and_self, Bool.not_true, cond_false]
            have D := Dn_of hvn hng
            obtain ⟨n1, n2, n3⟩ := Dn_chr D
            rw [count_eq S hv (by omega) (by omega) hvn]
            simp only [Option.bind_some]
            cases hp : PP 3 [a, b] num with
            | false =>
              rw [PP3] at hp
              rw [cnt_one, hp]
              rfl
            | true =>
              obtain ⟨k1, k2⟩ := first_says F D hp
              rw [PP3] at hp
              rw [cnt_one, hp, Bool.not_true, cond_false, Before_eq n1 c1 (by omega)]
              simp only [Option.bind_some]
              rw [k2]
              rfl
end Go.Proofs.YtidfofhmnlhfjaaGreatDoor
