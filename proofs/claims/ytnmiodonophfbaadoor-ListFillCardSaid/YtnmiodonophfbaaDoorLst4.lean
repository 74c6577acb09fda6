/- Join: the program's and the reference's are one function. -/
import Derived.Test.YtnmiodonophfbaaDoorLst3
import Derived.Test.YtnmiodonophfbaaDoorExt16k
import Derived.Test.YtnmiodonophfbaaDoorLibN
set_option linter.unusedVariables false
namespace Go.Proofs.YtnmiodonophfbaaDoor
open Go.X

/-- A pattern as a function of the two texts that are put into it. -/
structure Fil (s : List UInt8) (f : List UInt8 → List UInt8 → List UInt8) : Prop where
  pr : ∀ (N : Nat) (a b : List UInt8), a.length ≤ 200000 → b.length ≤ 200000 → list_fill N s a b = some (f a b)
  rf : ∀ (N : Nat) (a b : List UInt8), a.length ≤ 200000 → b.length ≤ 200000 → 3000 ≤ N → calqueref16_fill N s a b = some (f a b)
  len : ∀ a b, (f a b).length + 6 = s.length + a.length + b.length
  six : 6 ≤ s.length
  ia : ∀ a b, ∃ u v, f a b = u ++ (a ++ v)
  ib : ∀ a b, ∃ u v, f a b = u ++ (b ++ v)
theorem fil_of {s : List UInt8} (h : vp s = true) (hs : s.length ≤ 1000) : ∃ f, Fil s f := by
  obtain ⟨x, y, z, sw, hP⟩ := (vp_iff s).1 h
  have hsl : s.length = x.length + y.length + z.length + 6 := by rw [hP.eq]; cases sw <;> simp [p0, p1] <;> omega
  refine ⟨fl x y z sw, fun N a b ha hb => prog_fill hP hs ha hb, fun N a b ha hb hN => ref_fill hP hs ha hb hN, fun a b => ?_, by omega, fun a b => ?_, fun a b => ?_⟩
  · unfold fl; cases sw <;> simp <;> omega
  · unfold fl
    cases sw with
    | false => exact ⟨x, y ++ (b ++ z), by simp⟩
    | true => exact ⟨x ++ (b ++ y), z, by simp⟩
  · unfold fl
    cases sw with
    | false => exact ⟨x ++ (a ++ y), z, by simp⟩
    | true => exact ⟨x, y ++ (a ++ z), by simp⟩
theorem Fil.ge {s : List UInt8} {f : List UInt8 → List UInt8 → List UInt8} (h : Fil s f) (a b : List UInt8) : b.length ≤ (f a b).length ∧ (f a b).length ≤ s.length + a.length + b.length := by
  have := h.len a b; have := h.six; omega

/-! ### the text of a list -/
abbrev FF := List UInt8 → List UInt8 → List UInt8
def jn (st md : FF) : List (List UInt8) → List UInt8 → List UInt8
  | [], e => e
  | z :: zs, e => st z (zs.foldr md e)
def tx (two st md en : FF) (items : List (List UInt8)) : List UInt8 :=
  match items with
  | [] => []
  | [a] => a
  | [a, b] => two a b
  | l => jn st md (l.take (l.length - 2)) (en (l[l.length - 2]?.getD []) (l[l.length - 1]?.getD []))
def wgt (l : List (List UInt8)) : Nat := (l.map List.length).sum
theorem wgt_mem : ∀ {l : List (List UInt8)} {x : List UInt8}, x ∈ l → x.length ≤ wgt l
  | y :: l, x, h => by
    unfold wgt
    rw [List.map_cons, List.sum_cons]
    rcases List.mem_cons.1 h with rfl | h
    · omega
    · have := wgt_mem h; unfold wgt at this; omega
theorem wgt_take (l : List (List UInt8)) (k : Nat) (x : List UInt8) (h : l[k]? = some x) : wgt (l.take (k + 1)) = wgt (l.take k) + x.length := by
  unfold wgt
  rw [List.take_add_one, h]; simp
theorem wgt_le (l : List (List UInt8)) (k : Nat) : wgt (l.take k) ≤ wgt l := by
  unfold wgt
  have h : (l.map List.length).sum = ((l.take k).map List.length).sum + ((l.drop k).map List.length).sum := by rw [← List.sum_append, ← List.map_append, List.take_append_drop]
  omega
theorem jn_snoc (st md : FF) (zs : List (List UInt8)) (w e : List UInt8) (h : zs ≠ []) : jn st md (zs ++ [w]) e = jn st md zs (md w e) := by
  cases zs with
  | nil => exact absurd rfl h
  | cons z zs => simp [jn]
section
variable {p : ListPattern} {two st md en : FF}
structure Fils (p : ListPattern) (two st md en : FF) : Prop where
  two : Fil p.Two two
  st : Fil p.Start st
  md : Fil p.Middle md
  en : Fil p.End en
theorem jn_ge (F : Fils p two st md en) : ∀ (zs : List (List UInt8)) (e : List UInt8), e.length ≤ (jn st md zs e).length
  | [], _ => Nat.le_refl _
  | z :: zs, e => by
    unfold jn
    refine Nat.le_trans ?_ (F.st.ge _ _).1
    induction zs with
    | nil => exact Nat.le_refl _
    | cons y zs ih => exact Nat.le_trans ih (F.md.ge _ _).1
/-- The program's loop: the text, or a part of it that is too long already. -/
theorem jrun_spec (F : Fils p two st md en) (hs : p.Start.length ≤ 1000) (hm : p.Middle.length ≤ 1000) {N : Nat} {zs : List (List UInt8)} (hz : wgt zs ≤ 100000) : ∀ (k : Nat) (rest : List UInt8), k ≤ zs.length → ∃ t, jrun N p zs k rest = some t ∧ (t = jn st md (zs.take k) rest ∨ (20000 < t.length ∧ 20000 < (jn st md (zs.take k) rest).length)) := by
  intro k
  induction k with
  | zero => intro rest _; exact ⟨rest, rfl, .inl rfl⟩
  | succ k ih =>
    intro rest hk
    rw [jrun]
    by_cases h : 20000 < rest.length
    · rw [if_pos h]
      exact ⟨rest, rfl, .inr ⟨h, Nat.lt_of_lt_of_le h (jn_ge F _ _)⟩⟩
    · rw [if_neg h]
      have hlt : k < zs.length := by omega
      have hx := List.getElem?_eq_getElem hlt
      have hxl := wgt_mem (List.getElem_mem hlt)
      rw [hx]
      have hf : list_fill N (if k = 0 then p.Start else p.Middle) zs[k] rest = some ((if k = 0 then st else md) zs[k] rest) := by
        by_cases h0 : k = 0
        · rw [if_pos h0, if_pos h0]; exact F.st.pr N _ _ (by omega) (by omega)
        · rw [if_neg h0, if_neg h0]; exact F.md.pr N _ _ (by omega) (by omega)
      simp only [Option.getD_some]
      rw [hf]
      simp only [Option.bind_some]
      obtain ⟨t, ht, hor⟩ := ih ((if k = 0 then st else md) zs[k] rest) (by omega)
      have e : jn st md (zs.take (k + 1)) rest = jn st md (zs.take k) ((if k = 0 then st else md) zs[k] rest) := by
        rw [List.take_add_one, hx]
        by_cases h0 : k = 0
        · subst h0; rfl
        · rw [if_neg h0]
          exact jn_snoc st md _ _ _ (by intro e; have := congrArg List.length e; rw [List.length_take, List.length_nil] at this; omega)
      rw [e]
      exact ⟨t, ht, hor⟩
/-- The reference's loop. -/
theorem jref_spec (F : Fils p two st md en) (hm : p.Middle.length ≤ 1000) {N : Nat} (hN : 3000 ≤ N) {items : List (List UInt8)} {r25 : ListPattern × Bool} (hr : r25.1 = p) : ∀ (i M : Nat) (s : List UInt8), i < items.length → i < M → s.length + wgt (items.take (i + 1)) + (i + 1) * 1000 ≤ 200000 →
    iter (fun t => calqueref16_Join_b1 N items r25 t.1 t.2) M (s, (i : Int)) = some (((items.take (i + 1)).drop 1).foldr md s) := by
  intro i
  induction i with
  | zero =>
    intro M s hi hM _
    obtain ⟨M, rfl⟩ : ∃ M', M = M' + 1 := ⟨M - 1, by omega⟩
    rw [iter]
    unfold calqueref16_Join_b1
    have : (items.take (0 + 1)).drop 1 = [] := List.drop_eq_nil_of_le (by simp only [List.length_take]; omega)
    rw [this]; rfl
  | succ i ih =>
    intro M s hi hM hb
    obtain ⟨M, rfl⟩ : ∃ M', M = M' + 1 := ⟨M - 1, by omega⟩
    have hx := List.getElem?_eq_getElem hi
    have hw := wgt_take items (i + 1) _ hx
    have e : calqueref16_Join_b1 N items r25 s ((i + 1 : Nat) : Int) = some (.inl (md items[i + 1] s, (i : Int))) := by
      unfold calqueref16_Join_b1
      rw [decide_eq_true (show ((i + 1 : Nat) : Int) > 0 by omega), cond_true, idx_some hx]
      simp only [Option.bind_some]
      rw [hr, F.md.rf N _ _ (by omega) (by omega) hN]
      simp only [Option.bind_some]
      rw [show ((i + 1 : Nat) : Int) - 1 = (i : Int) by omega]
    rw [iter]
    simp only
    rw [e]
    simp only
    have hg := (F.md.ge items[i + 1] s).2
    rw [ih M (md items[i + 1] s) (by omega) (by omega) (by omega)]
    congr 1
    rw [List.take_add_one (i := i + 1), hx, List.drop_append_of_le_length (by rw [List.length_take]; omega)]
    simp
theorem prog_join (F : Fils p two st md en) (h2 : p.Two.length ≤ 1000) (hs : p.Start.length ≤ 1000) (hm : p.Middle.length ≤ 1000) (he : p.End.length ≤ 1000) {N : Nat} {items : List (List UInt8)} (hi : items.length ≤ 40) (hw : wgt items ≤ 30000) :
    ∃ t, list_join N p items = some t ∧ (t = tx two st md en items ∨ (20000 < t.length ∧ 20000 < (tx two st md en items).length)) := by
  unfold list_join
  match items, hi, hw with
  | [], _, _ => exact ⟨[], rfl, .inl rfl⟩
  | [a], _, _ => exact ⟨a, rfl, .inl rfl⟩
  | [a, b], _, hw =>
    have h1 : a.length ≤ 30000 ∧ b.length ≤ 30000 := by simp [wgt] at hw; omega
    refine ⟨two a b, ?_, .inl rfl⟩
    show ((list_fill N p.Two a b).bind fun r43 => some r43).bind (fun o21 => some o21) = _
    rw [F.two.pr N a b (by omega) (by omega)]; rfl
  | a :: b :: c :: l, hi, hw =>
    obtain ⟨its, hits⟩ : ∃ its, its = a :: b :: c :: l := ⟨_, rfl⟩
    rw [← hits] at hi hw ⊢
    have hn : 3 ≤ its.length := by rw [hits]; simp
    have t0 : tx two st md en its = jn st md (its.take (its.length - 2)) (en (its[its.length - 2]?.getD []) (its[its.length - 1]?.getD [])) := by rw [hits]; rfl
    rw [show ((its.length : Int) == 0) = false from beq_eq_false_iff_ne.2 (by omega), show ((its.length : Int) == 1) = false from beq_eq_false_iff_ne.2 (by omega), show ((its.length : Int) == 2) = false from beq_eq_false_iff_ne.2 (by omega)]
    simp only [cond_false]
    have e2 : IntKind.wrap .i64 ((its.length : Int) - 2) = ((its.length - 2 : Nat) : Int) := by rw [wrap_id (by omega) (by omega)]; omega
    have e1 : IntKind.wrap .i64 ((its.length : Int) - 1) = ((its.length - 1 : Nat) : Int) := by rw [wrap_id (by omega) (by omega)]; omega
    have g2 := List.getElem?_eq_getElem (show its.length - 2 < its.length by omega)
    have g1 := List.getElem?_eq_getElem (show its.length - 1 < its.length by omega)
    have l2 := wgt_mem (List.getElem_mem (show its.length - 2 < its.length by omega))
    have l1 := wgt_mem (List.getElem_mem (show its.length - 1 < its.length by omega))
    rw [e2, e1, idx_some g2, idx_some g1]
    simp only [Option.bind_some]
    rw [F.en.pr N _ _ (by omega) (by omega)]
    simp only [Option.bind_some]
    rw [slc_take (by omega)]
    simp only [Option.bind_some]
    have hl := (F.en.ge its[its.length - 2] its[its.length - 1]).2
    have hwz := wgt_le its (its.length - 2)
    have hok : jok p (its.take (its.length - 2)) (en its[its.length - 2] its[its.length - 1]) = true := by
      unfold jok
      simp only [Bool.and_eq_true, decide_eq_true_eq, List.all_eq_true, List.length_take]
      refine ⟨by omega, by omega, by omega, by omega, by omega, fun x hx => ?_⟩
      have := wgt_mem hx; omega
    unfold jl
    rw [if_pos hok, t0, g2, g1]
    obtain ⟨t, ht, hor⟩ := jrun_spec F hs hm (N := N) (zs := its.take (its.length - 2)) (by omega) (its.take (its.length - 2)).length (en its[its.length - 2] its[its.length - 1]) (Nat.le_refl _)
    rw [List.take_length] at hor
    exact ⟨t, ht, hor⟩

/-! ### Join -/
def vps (p : ListPattern) : Bool := vp p.Two && (vp p.Start && (vp p.Middle && vp p.End))
structure Lp (p : ListPattern) (items : List (List UInt8)) : Prop where
  two : p.Two.length ≤ 1000
  st : p.Start.length ≤ 1000
  md : p.Middle.length ≤ 1000
  en : p.End.length ≤ 1000
  n : items.length ≤ 40
  w : wgt items ≤ 30000
theorem Lp.fils {items : List (List UInt8)} (L : Lp p items) (h : vps p = true) : ∃ two st md en, Fils p two st md en := by
  unfold vps at h
  simp only [Bool.and_eq_true] at h
  obtain ⟨h1, h2, h3, h4⟩ := h
  obtain ⟨f1, F1⟩ := fil_of h1 L.two
  obtain ⟨f2, F2⟩ := fil_of h2 L.st
  obtain ⟨f3, F3⟩ := fil_of h3 L.md
  obtain ⟨f4, F4⟩ := fil_of h4 L.en
  exact ⟨f1, f2, f3, f4, F1, F2, F3, F4⟩
def lc (p : ListPattern) : Locale := Locale.mk ([]) ([]) ([]) ([]) ([]) (Symbols.mk ([]) ([]) ([]) ([]) 0 0) ([p] : List (ListPattern)) ([]) ([]) ([]) ([])
theorem find_prog {N : Nat} (hN : 3 ≤ N) (p : ListPattern) (style : List UInt8) : list_Find N (lc p) style = some (if p.Style == style then (p, true) else (ListPattern.mk [] [] [] [] [], false)) := by
  obtain ⟨N, rfl⟩ : ∃ M, N = M + 3 := ⟨N - 3, by omega⟩
  have e0 : list_Find_b1 (N + 3) (lc p) style 0 = some (if p.Style == style then .inr (.inr (p, true)) else .inl 1) := by
    show (bif (p.Style == style) then _ else _) = _
    cases (p.Style == style) <;> rfl
  have e1 : list_Find_b1 (N + 3) (lc p) style 1 = some (.inr (.inl ())) := rfl
  unfold list_Find
  rw [iter, e0]
  cases h : (p.Style == style) with
  | true => rfl
  | false =>
    simp only [Bool.false_eq_true, if_false]
    rw [iter, e1]; rfl
theorem find_ref {N : Nat} (hN : 3 ≤ N) (p : ListPattern) (style : List UInt8) : calqueref16_Find N (lc p) style = some (if p.Style == style then (p, true) else (ListPattern.mk [] [] [] [] [], false)) := by
  obtain ⟨N, rfl⟩ : ∃ M, N = M + 3 := ⟨N - 3, by omega⟩
  have e0 : calqueref16_Find_b1 (N + 3) (lc p) style 0 = some (if p.Style == style then .inr (.inr (p, true)) else .inl 1) := by
    show (bif (p.Style == style) then _ else _) = _
    cases (p.Style == style) <;> rfl
  have e1 : calqueref16_Find_b1 (N + 3) (lc p) style 1 = some (.inr (.inl ())) := rfl
  unfold calqueref16_Find
  rw [iter, e0]
  cases h : (p.Style == style) with
  | true => rfl
  | false =>
    simp only [Bool.false_eq_true, if_false]
    rw [iter, e1]; rfl
/-- What Join answers. -/
def ans (t : List UInt8) : List UInt8 × Int := if 20000 < t.length then ([], 6) else (t, 0)
theorem checks {N : Nat} (hN : 3000 ≤ N) {b : Bool} (L : Lp p ([] : List (List UInt8))) : (iter (fun s => list_Join_b1 N (p, b) s) N 0) = some (if vps p then .inl () else .inr ([], 4)) := by
  have run0 : ∀ ss : List (List UInt8), run (σ := Unit) (β := Unit ⊕ (List UInt8 × Int)) (fun _ s => if vp s then .inl () else .inr (.inr ([], 4))) (fun _ => .inl ()) () ss = if ss.all vp then .inl () else .inr ([], 4) := by
    intro ss
    induction ss with
    | nil => rfl
    | cons s ss ih =>
      unfold run
      cases h : vp s with
      | true => simp only [if_true, ih, List.all_cons, h, Bool.true_and]
      | false => simp [h]
  have := iter_list (body := fun s => list_Join_b1 N (p, b) s) (σ := Unit) (fun _ k => k) [p.Two, p.Start, p.Middle, p.End] (fun _ s => if vp s then .inl () else .inr (.inr ([], 4))) (fun _ => .inl ()) (fun _ _ => True)
    (fun _ k x hk _ => ⟨?_, fun _ _ => trivial⟩) (fun _ _ => ?_) N () (by simp; omega) trivial
  · rw [this, run0]
    unfold vps
    simp [List.all_cons]
  · have hx := List.mem_of_getElem? hk
    have hlen : x.length ≤ 1000 := by
      simp only [List.mem_cons, List.not_mem_nil, or_false] at hx
      rcases hx with rfl | rfl | rfl | rfl
      · exact L.two
      · exact L.st
      · exact L.md
      · exact L.en
    unfold list_Join_b1
    rw [dltx hk, cond_true, idx_some hk]
    simp only [Option.bind_some]
    rw [validate_eq hlen (by omega)]
    simp only [Option.bind_some]
    cases vp x <;> rfl
  · unfold list_Join_b1
    rfl
theorem Join_prog {N : Nat} (hN : 3000 ≤ N) {items : List (List UInt8)} (L : Lp p items) (style : List UInt8) :
    list_Join N (lc p) style items = if p.Style == style then (if vps p then (list_join N p items).bind fun r => some (ans r) else some ([], 4)) else some ([], 18) := by
  unfold list_Join
  rw [find_prog (by omega)]
  simp only [Option.bind_some]
  cases h : (p.Style == style) with
  | false => rfl
  | true =>
    simp only [if_true, Bool.not_true, cond_false]
    rw [checks hN ⟨L.two, L.st, L.md, L.en, by simp, by simp [wgt]⟩]
    simp only [Option.bind_some]
    cases hv : vps p with
    | false => rfl
    | true =>
      simp only [if_true, Sum.elim_inl]
      rw [decide_eq_false (show ¬ (items.length : Int) > 1000 by have := L.n; omega), cond_false]
      congr 1
      funext r
      unfold ans
      by_cases hr : 20000 < r.length
      · rw [decide_eq_true (show (r.length : Int) > 20000 by omega), if_pos hr]; rfl
      · rw [decide_eq_false (show ¬ (r.length : Int) > 20000 by omega), if_neg hr]; rfl
theorem ans_or {t u : List UInt8} (h : t = u ∨ (20000 < t.length ∧ 20000 < u.length)) : ans t = ans u := by
  rcases h with rfl | ⟨h1, h2⟩
  · rfl
  · unfold ans; rw [if_pos h1, if_pos h2]
theorem Join_ok {N : Nat} (hN : 3000 ≤ N) {items : List (List UInt8)} (L : Lp p items) (F : Fils p two st md en) (hv : vps p = true) {style : List UInt8} (hst : (p.Style == style) = true) : list_Join N (lc p) style items = some (ans (tx two st md en items)) := by
  rw [Join_prog hN L, hst, if_pos rfl, if_pos hv]
  obtain ⟨t, ht, hor⟩ := prog_join F L.two L.st L.md L.en (N := N) L.n L.w
  rw [ht, Option.bind_some, ans_or hor]
theorem ref_Join_ok {N : Nat} (hN : 3000 ≤ N) {items : List (List UInt8)} (L : Lp p items) (F : Fils p two st md en) (hv : vps p = true) {style : List UInt8} (hst : (p.Style == style) = true) : calqueref16_Join N (lc p) style items = some (ans (tx two st md en items)) := by
  have hv' := hv
  unfold vps at hv'
  simp only [Bool.and_eq_true] at hv'
  obtain ⟨v1, v2, v3, v4⟩ := hv'
  have l1 := L.two
  have l2 := L.st
  have l3 := L.md
  have l4 := L.en
  have ln := L.n
  have lw := L.w
  unfold calqueref16_Join
  rw [find_ref (by omega), hst]
  simp only [Option.bind_some, if_true, Bool.not_true, cond_false]
  rw [ref_Pattern_eq l1 hN, ref_Pattern_eq l2 hN, ref_Pattern_eq l3 hN, ref_Pattern_eq l4 hN, v1, v2, v3, v4]
  simp only [Option.bind_some, Bool.not_true, cond_false]
  rw [decide_eq_false (show ¬ (items.length : Int) > 1000 by omega), cond_false]
  have hfin : ∀ t : List UInt8, (bif decide ((t.length : Int) > 20000) then some (([] : List UInt8), (6 : Int)) else some (t, 0)) = some (ans t) := by
    intro t
    unfold ans
    by_cases hr : 20000 < t.length
    · rw [decide_eq_true (show (t.length : Int) > 20000 by omega), if_pos hr]; rfl
    · rw [decide_eq_false (show ¬ (t.length : Int) > 20000 by omega), if_neg hr]; rfl
  match items, ln, lw with
  | [], _, _ => rfl
  | [a], _, _ => exact hfin a
  | [a, b], _, lw =>
    have h1 : a.length ≤ 30000 ∧ b.length ≤ 30000 := by simp [wgt] at lw; omega
    rw [show ((([a, b] : List (List UInt8)).length : Int) == 1) = false from rfl, show ((([a, b] : List (List UInt8)).length : Int) == 2) = true from rfl, cond_false, cond_true]
    show (((calqueref16_fill N p.Two a b).bind fun r84 => some r84).bind _) = _
    rw [F.two.rf N a b (by omega) (by omega) hN]
    exact hfin (two a b)
  | a :: b :: c :: l, ln, lw =>
    obtain ⟨its, hits⟩ : ∃ its, its = a :: b :: c :: l := ⟨_, rfl⟩
    rw [← hits] at ln lw ⊢
    have hn : 3 ≤ its.length := by rw [hits]; simp
    have t0 : tx two st md en its = jn st md (its.take (its.length - 2)) (en (its[its.length - 2]?.getD []) (its[its.length - 1]?.getD [])) := by rw [hits]; rfl
    rw [show ((its.length : Int) == 1) = false from beq_eq_false_iff_ne.2 (by omega), show ((its.length : Int) == 2) = false from beq_eq_false_iff_ne.2 (by omega), decide_eq_true (show (its.length : Int) > 2 by omega)]
    simp only [cond_false, cond_true]
    have e2 : IntKind.wrap .i64 ((its.length : Int) - 2) = ((its.length - 2 : Nat) : Int) := by rw [wrap_id (by omega) (by omega)]; omega
    have e1 : (its.length : Int) - 1 = ((its.length - 1 : Nat) : Int) := by omega
    have e3 : IntKind.wrap .i64 ((its.length : Int) - 3) = ((its.length - 3 : Nat) : Int) := by rw [wrap_id (by omega) (by omega)]; omega
    have g2 := List.getElem?_eq_getElem (show its.length - 2 < its.length by omega)
    have g1 := List.getElem?_eq_getElem (show its.length - 1 < its.length by omega)
    have g0 := List.getElem?_eq_getElem (show 0 < its.length by omega)
    have w2 := wgt_mem (List.getElem_mem (show its.length - 2 < its.length by omega))
    have w1 := wgt_mem (List.getElem_mem (show its.length - 1 < its.length by omega))
    have w0 := wgt_mem (List.getElem_mem (show 0 < its.length by omega))
    rw [e2, e1, e3, idx_some g2, idx_some g1]
    simp only [Option.bind_some]
    rw [F.en.rf N _ _ (by omega) (by omega) hN]
    simp only [Option.bind_some]
    have hl := (F.en.ge its[its.length - 2] its[its.length - 1]).2
    have hwz := wgt_le its (its.length - 3 + 1)
    have hmul : (its.length - 3 + 1) * 1000 ≤ 40000 := by have : its.length - 3 + 1 ≤ 40 := by omega
                                                          omega
    rw [jref_spec F l3 hN (r25 := (p, true)) rfl (its.length - 3) N _ (by omega) (by omega) (by omega)]
    simp only [Option.bind_some]
    rw [show idx its 0 = some its[0] from idx_some (k := 0) g0]
    simp only [Option.bind_some]
    have hlen : (((its.take (its.length - 3 + 1)).drop 1).foldr md (en its[its.length - 2] its[its.length - 1])).length ≤ 200000 := by
      have key : ∀ l : List (List UInt8), ∀ e : List UInt8, (l.foldr md e).length ≤ e.length + wgt l + l.length * 1000 := by
        intro l e
        induction l with
        | nil => simp [wgt]
        | cons y l ih =>
          have := (F.md.ge y (l.foldr md e)).2
          simp only [List.foldr_cons, List.length_cons]
          unfold wgt at ih ⊢
          rw [List.map_cons, List.sum_cons]
          omega
      have h1 := key ((its.take (its.length - 3 + 1)).drop 1) (en its[its.length - 2] its[its.length - 1])
      have h2 : wgt ((its.take (its.length - 3 + 1)).drop 1) ≤ wgt (its.take (its.length - 3 + 1)) := by
        unfold wgt
        have h : (((its.take (its.length - 3 + 1))).map List.length).sum = (((its.take (its.length - 3 + 1)).take 1).map List.length).sum + (((its.take (its.length - 3 + 1)).drop 1).map List.length).sum := by rw [← List.sum_append, ← List.map_append, List.take_append_drop]
        omega
      have h3 : ((its.take (its.length - 3 + 1)).drop 1).length ≤ 40 := by simp only [List.length_drop, List.length_take]; omega
      omega
    rw [F.st.rf N _ _ (by omega) hlen hN]
    simp only [Option.bind_some]
    rw [hfin, t0, g2, g1]
    congr 2
    have ez : its.length - 3 + 1 = its.length - 2 := by omega
    rw [ez, Option.getD_some, Option.getD_some]
    have key : ∀ (l : List (List UInt8)) (h : 0 < l.length) (q : Nat) (e : List UInt8), st l[0] (((l.take (q + 1)).drop 1).foldr md e) = jn st md (l.take (q + 1)) e := by
      intro l h q e
      cases l with
      | nil => simp at h
      | cons z l => rfl
    obtain ⟨q, hq⟩ : ∃ q, its.length - 2 = q + 1 := ⟨its.length - 3, by omega⟩
    generalize en its[its.length - 2] its[its.length - 1] = e
    rw [hq]
    exact key its (by omega) q e
theorem ref_Join_eq {N : Nat} (hN : 3000 ≤ N) {items : List (List UInt8)} (L : Lp p items) (style : List UInt8) : ∃ r, list_Join N (lc p) style items = some r ∧ calqueref16_Join N (lc p) style items = some r := by
  cases h : (p.Style == style) with
  | false =>
    refine ⟨([], 18), by rw [Join_prog hN L, h]; rfl, ?_⟩
    unfold calqueref16_Join
    rw [find_ref (by omega), h]
    rfl
  | true =>
    cases hv : vps p with
    | true =>
      obtain ⟨two, st, md, en, F⟩ := L.fils hv
      exact ⟨_, Join_ok hN L F hv h, ref_Join_ok hN L F hv h⟩
    | false =>
      refine ⟨([], 4), by rw [Join_prog hN L, h, hv]; rfl, ?_⟩
      unfold calqueref16_Join
      rw [find_ref (by omega), h]
      simp only [Option.bind_some, if_true, Bool.not_true, cond_false]
      rw [ref_Pattern_eq L.two hN, ref_Pattern_eq L.st hN, ref_Pattern_eq L.md hN, ref_Pattern_eq L.en hN]
      simp only [Option.bind_some]
      unfold vps at hv
      cases h1 : vp p.Two with
      | false => rfl
      | true =>
        cases h2 : vp p.Start with
        | false => rfl
        | true =>
          cases h3 : vp p.Middle with
          | false => rfl
          | true =>
            cases h4 : vp p.End with
            | false => rfl
            | true => rw [h1, h2, h3, h4] at hv; cases hv
end
theorem awake_eq (M : Nat) : calquelaw16_awake (M + 3000) = some true := by kernel_rfl
end Go.Proofs.YtnmiodonophfbaaDoor
