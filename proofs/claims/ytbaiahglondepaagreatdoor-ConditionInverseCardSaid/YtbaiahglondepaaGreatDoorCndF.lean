/- Print and Equal: the program's and the reference's are one function; the law ConditionPrint. -/
import Derived.Test.YtbaiahglondepaaGreatDoorCndE
import Derived.Test.YtbaiahglondepaaGreatDoorExt08e
set_option linter.unusedVariables false
namespace Go.Proofs.YtbaiahglondepaaGreatDoor
open Go.X

/-! ### equality -/
def eqL {α : Type} (e : α → α → Bool) : List α → List α → Bool
  | [], [] => true
  | x :: xs, y :: ys => e x y && eqL e xs ys
  | _, _ => false
theorem eqL_len {α : Type} {e : α → α → Bool} : ∀ {xs ys : List α}, eqL e xs ys = true → xs.length = ys.length
  | [], [], _ => rfl
  | x :: xs, y :: ys, h => by
    unfold eqL at h
    rw [Bool.and_eq_true] at h
    simp [eqL_len h.2]
  | [], _ :: _, h => by cases h
  | _ :: _, [], h => by cases h
theorem eqL_refl {α : Type} {e : α → α → Bool} (h : ∀ x, e x x = true) : ∀ xs : List α, eqL e xs xs = true
  | [] => rfl
  | x :: xs => by unfold eqL; rw [h x, eqL_refl h xs]; rfl
theorem iter_eqL {α : Type} {body : Int → Option (Int ⊕ (Unit ⊕ Bool))} (e : α → α → Bool) (xs ys : List α) (hl : xs.length = ys.length)
    (h1 : ∀ (k : Nat) x y, xs[k]? = some x → ys[k]? = some y → body k = some (if e x y then .inl ((k : Int) + 1) else .inr (.inr false))) (h2 : body xs.length = some (.inr (.inl ()))) (N : Nat) (hN : xs.length < N) :
    ((iter body N 0).bind fun o => Sum.elim (fun _ => some true) (fun o => some o) o) = some (eqL e xs ys) := by
  have key : ∀ j k N, k + j = xs.length → j < N → iter body N (k : Int) = some (if eqL e (xs.drop k) (ys.drop k) then .inl () else .inr false) := by
    intro j
    induction j with
    | zero =>
      intro k N hk hN
      obtain ⟨N, rfl⟩ : ∃ M, N = M + 1 := ⟨N - 1, by omega⟩
      obtain rfl : k = xs.length := by omega
      rw [iter, h2, List.drop_eq_nil_of_le (by omega), List.drop_eq_nil_of_le (by omega)]; rfl
    | succ j ih =>
      intro k N hk hN
      obtain ⟨N, rfl⟩ : ∃ M, N = M + 1 := ⟨N - 1, by omega⟩
      have hx : k < xs.length := by omega
      have hy : k < ys.length := by omega
      rw [iter, h1 k _ _ (List.getElem?_eq_getElem hx) (List.getElem?_eq_getElem hy), List.drop_eq_getElem_cons hx, List.drop_eq_getElem_cons hy]
      unfold eqL
      cases h : e xs[k] ys[k] with
      | false => rfl
      | true =>
        simp only [if_true, Bool.true_and]
        rw [show ((k : Int) + 1) = ((k + 1 : Nat) : Int) by omega]
        exact ih (k + 1) N (by omega) (by omega)
  have := key xs.length 0 N (by omega) hN
  rw [show (0 : Int) = ((0 : Nat) : Int) from rfl, this]
  simp only [List.drop_zero]
  cases eqL e xs ys <;> rfl
theorem eqL_body {α : Type} {body : Int → Option (Int ⊕ (Unit ⊕ Bool))} (e : α → α → Bool) (xs ys : List α)
    (h1 : ∀ (k : Nat) x y, xs[k]? = some x → ys[k]? = some y → body k = some (if e x y then .inl ((k : Int) + 1) else .inr (.inr false))) (h2 : body xs.length = some (.inr (.inl ()))) (N : Nat) (hN : xs.length < N) :
    (bif ((xs.length : Int) != (ys.length : Int)) then some false else (iter body N 0).bind fun o => Sum.elim (fun _ => some true) (fun o => some o) o) = some (eqL e xs ys) := by
  by_cases hl : xs.length = ys.length
  · rw [show ((xs.length : Int) != (ys.length : Int)) = false by simp [hl], cond_false, iter_eqL e xs ys hl h1 h2 N hN]
  · rw [show ((xs.length : Int) != (ys.length : Int)) = true by simp; omega, cond_true]
    cases h : eqL e xs ys with
    | false => rfl
    | true => exact absurd (eqL_len h) hl
def eqS (s t : Span) : Bool := s.From == t.From && s.To == t.To
def eqR (r s : Relation) : Bool := r.Operand == s.Operand && (r.Mod == s.Mod && (r.Not == s.Not && eqL eqS r.Spans s.Spans))
def eqC (a b : Cnd) : Bool := eqL (eqL eqR) a b
theorem eqR_refl (r : Relation) : eqR r r = true := by
  unfold eqR
  rw [eqL_refl (e := eqS) (fun s => by simp [eqS])]
  simp
theorem eqC_refl (c : Cnd) : eqC c c = true := eqL_refl (fun l => eqL_refl eqR_refl l) c
theorem spans_Equal {N : Nat} (a b : List Span) (hN : a.length < N) : slices_Equal_api_Span_api_Span N a b = some (eqL eqS a b) := by
  unfold slices_Equal_api_Span_api_Span
  refine eqL_body eqS a b (fun k x y hx hy => ?_) ?_ N hN
  · unfold slices_Equal_api_Span_api_Span_b1
    simp only [dltx hx, cond_true, idx_some hx, idx_some hy, Option.bind_some]
    show (bif !(eqS x y) then _ else _) = _
    cases eqS x y <;> rfl
  · unfold slices_Equal_api_Span_api_Span_b1
    simp only [dnlt, cond_false]
theorem rel_Equal {N : Nat} (r s : Relation) (hN : r.Spans.length < N) : condition_Equal_1_1 N r s = some (eqR r s) := by
  unfold condition_Equal_1_1 eqR
  rw [spans_Equal _ _ hN]
  cases (r.Operand == s.Operand) <;> cases (r.Mod == s.Mod) <;> cases (r.Not == s.Not) <;> rfl
theorem ref_equal {N : Nat} (r s : Relation) (hN : r.Spans.length < N) : calqueref08_equal N r s = some (eqR r s) := by
  unfold calqueref08_equal eqR
  rw [eqL_body (body := fun k => calqueref08_equal_b1 N r s k) eqS r.Spans s.Spans (fun k x y hx hy => ?_) ?_ N hN]
  · have e : (r.Not != s.Not) = !(r.Not == s.Not) := rfl
    have e2 : (r.Operand != s.Operand) = !(r.Operand == s.Operand) := rfl
    have e3 : (r.Mod != s.Mod) = !(r.Mod == s.Mod) := rfl
    rw [e, e2, e3]
    cases (r.Operand == s.Operand) <;> cases (r.Mod == s.Mod) <;> cases (r.Not == s.Not) <;> rfl
  · unfold calqueref08_equal_b1
    simp only [dnlt, cond_false]
  · unfold calqueref08_equal_b1
    simp only [dltx hx, cond_true, idx_some hx, idx_some hy, Option.bind_some]
    show (bif !(eqS x y) then _ else _) = _
    cases eqS x y <;> rfl
theorem Equal_eq {N : Nat} {a : Cnd} (b : Cnd) (S : Sz N a) : condition_Equal N a b = some (eqC a b) := by
  unfold condition_Equal slices_EqualFunc_api_Cond_api_Cond_api_Relation_api_Relation__46
  rw [eqL_body (body := fun k => slices_EqualFunc_api_Cond_api_Cond_api_Relation_api_Relation__46_b1 N a b k) (eqL eqR) a b (fun k x y hx hy => ?_) ?_ N S.len]
  · rfl
  · unfold slices_EqualFunc_api_Cond_api_Cond_api_Relation_api_Relation__46_b1
    simp only [dnlt, cond_false]
  · have hm := List.mem_of_getElem? hx
    unfold slices_EqualFunc_api_Cond_api_Cond_api_Relation_api_Relation__46_b1 condition_Equal_1 slices_EqualFunc_api_Relation_api_Relation_api_Relation_api_Relation__48
    simp only [dltx hx, cond_true, idx_some hx, idx_some hy, Option.bind_some]
    rw [eqL_body (body := fun k => slices_EqualFunc_api_Relation_api_Relation_api_Relation_api_Relation__48_b1 N x y k) eqR x y (fun j r s hr hs => ?_) ?_ N (S.lens x hm)]
    · cases eqL eqR x y <;> rfl
    · unfold slices_EqualFunc_api_Relation_api_Relation_api_Relation_api_Relation__48_b1
      simp only [dnlt, cond_false]
    · unfold slices_EqualFunc_api_Relation_api_Relation_api_Relation_api_Relation__48_b1
      simp only [dltx hr, cond_true, idx_some hr, idx_some hs, Option.bind_some, rel_Equal r s (S.spans x hm r (List.mem_of_getElem? hr))]
      cases eqR r s <;> rfl
theorem ref_Equal_eq {N : Nat} {a : Cnd} (b : Cnd) (S : Sz N a) : calqueref08_Equal N a b = some (eqC a b) := by
  unfold calqueref08_Equal
  refine eqL_body (body := fun k => calqueref08_Equal_b1 N a b k) (eqL eqR) a b (fun k x y hx hy => ?_) ?_ N S.len
  · have hm := List.mem_of_getElem? hx
    unfold calqueref08_Equal_b1
    simp only [dltx hx, cond_true, idx_some hx, idx_some hy, Option.bind_some]
    by_cases hl : x.length = y.length
    · rw [show ((x.length : Int) != (y.length : Int)) = false by simp [hl], cond_false]
      have h := iter_eqL (body := fun j => calqueref08_Equal_b2 N a b k j) eqR x y hl (fun j r s hr hs => ?_) ?_ N (S.lens x hm)
      · cases ho : iter (fun j => calqueref08_Equal_b2 N a b k j) N 0 with
        | none => rw [ho] at h; cases h
        | some o =>
          rw [ho] at h
          cases o with
          | inl _ =>
            simp only [Option.bind_some, Sum.elim_inl, Option.some.injEq] at h
            rw [← h]; rfl
          | inr v =>
            simp only [Option.bind_some, Sum.elim_inr, Option.some.injEq] at h
            have key : ∀ (N' : Nat) (s : Int), iter (fun j => calqueref08_Equal_b2 N a b k j) N' s = some (.inr v) → v = false := by
              intro N'
              induction N' with
              | zero => intro s h; cases h
              | succ N' ih =>
                intro s h
                rw [iter] at h
                cases hb : calqueref08_Equal_b2 N a b k s with
                | none => rw [hb] at h; cases h
                | some r =>
                  rw [hb] at h
                  cases r with
                  | inl s' => exact ih s' h
                  | inr w =>
                    simp only [Option.some.injEq] at h
                    subst h
                    unfold calqueref08_Equal_b2 at hb
                    obtain ⟨x0, _, hb⟩ := bnd hb
                    cases hd : decide (s < (x0.length : Int)) with
                    | false => rw [hd] at hb; simp at hb
                    | true =>
                      rw [hd] at hb
                      simp only [cond_true] at hb
                      obtain ⟨_, _, hb⟩ := bnd hb
                      obtain ⟨_, _, hb⟩ := bnd hb
                      obtain ⟨_, _, hb⟩ := bnd hb
                      obtain ⟨_, _, hb⟩ := bnd hb
                      obtain ⟨q, _, hb⟩ := bnd hb
                      cases q with
                      | true => simp at hb
                      | false => simp at hb; exact hb
            have := key N 0 ho
            subst this
            rw [← h]; rfl
      · unfold calqueref08_Equal_b2
        simp only [idx_some hx, dltx hr, cond_true, idx_some hr, idx_some hy, idx_some hs, Option.bind_some, ref_equal r s (S.spans x hm r (List.mem_of_getElem? hr))]
        cases eqR r s <;> rfl
      · unfold calqueref08_Equal_b2
        simp only [idx_some hx, dnlt, cond_false, Option.bind_some]
    · rw [show ((x.length : Int) != (y.length : Int)) = true by simp; omega, cond_true]
      cases h : eqL eqR x y with
      | false => rfl
      | true => exact absurd (eqL_len h) hl
  · unfold calqueref08_Equal_b1
    simp only [dnlt, cond_false]

/-! ### numerals -/
theorem itoa_of {n : Int} (h : 0 ≤ n) : Lib.itoa n = Lib.decDigits n.toNat := by unfold Lib.itoa; rw [if_neg (by omega)]
theorem dd_lt {u : Nat} (h : u < 10) : Lib.decDigits u = [UInt8.ofNat (48 + u)] := Lib.decDigits_one h
theorem dd_ge {u : Nat} (h : 10 ≤ u) : Lib.decDigits u = Lib.decDigits (u / 10) ++ [UInt8.ofNat (48 + u % 10)] := by rw [Lib.decDigits, dif_neg (by omega)]
theorem dd_len {u : Nat} (h : u ≤ 999) : 1 ≤ (Lib.decDigits u).length ∧ (Lib.decDigits u).length ≤ 3 := by
  by_cases h1 : u < 10
  · rw [dd_lt h1]; simp
  · rw [dd_ge (by omega)]
    by_cases h2 : u / 10 < 10
    · rw [dd_lt h2]; simp
    · rw [dd_ge (by omega), dd_lt (by omega)]; simp
theorem itoa_len {n : Int} (h0 : 0 ≤ n) (h : n ≤ 999) : 1 ≤ (Lib.itoa n).length ∧ (Lib.itoa n).length ≤ 3 := by
  rw [itoa_of h0]; exact dd_len (by omega)
theorem Itoa_eq (N : Nat) {n : Int} (h0 : 0 ≤ n) (h : n ≤ 999) : strconv_ItoaT N n = some (Lib.itoa n) := by
  have := itoa_len h0 h
  unfold strconv_ItoaT; rw [if_pos (by unfold LIMS; omega)]
theorem digit_byte {n : Nat} (h : n < 10) : bytesOf [IntKind.wrap .u8 (IntKind.wrap .i64 ((48 : Int) + (n : Int)))] = [UInt8.ofNat (48 + n)] := by
  rw [wrap_id (by omega) (by omega), wrap_of (inR_u8.2 ⟨by omega, by omega⟩)]
  unfold bytesOf
  simp only [List.map_cons, List.map_nil]
  rw [show ((48 : Int) + (n : Int)).toNat = 48 + n by omega]
theorem ref_decimal_eq : ∀ (k N u : Nat), u < 10 ^ (k + 1) → k < N → u ≤ 999 → calqueref08_decimal N (u : Int) = some (Lib.decDigits u) := by
  intro k
  induction k with
  | zero =>
    intro N u hu hN _
    obtain ⟨N, rfl⟩ : ∃ M, N = M + 1 := ⟨N - 1, by omega⟩
    simp only [Nat.zero_add, Nat.pow_one] at hu
    rw [calqueref08_decimal, show decide ((u : Int) ≥ 10) = false from decide_eq_false (by omega), cond_false, digit_byte hu, dd_lt hu]
  | succ k ih =>
    intro N u hu hN h9
    obtain ⟨N, rfl⟩ : ∃ M, N = M + 1 := ⟨N - 1, by omega⟩
    by_cases h10 : u < 10
    · rw [calqueref08_decimal, show decide ((u : Int) ≥ 10) = false from decide_eq_false (by omega), cond_false, digit_byte h10, dd_lt h10]
    · rw [calqueref08_decimal, show decide ((u : Int) ≥ 10) = true from decide_eq_true (by omega), cond_true]
      have e1 : IntKind.wrap .i64 ((u : Int).tdiv 10) = ((u / 10 : Nat) : Int) := by
        rw [show (u : Int).tdiv 10 = ((u / 10 : Nat) : Int) from rfl]
        exact wrap_id (by omega) (by omega)
      have e2 : rm (u : Int) 10 = some (((u % 10 : Nat)) : Int) := rfl
      rw [e1, e2, ih N (u / 10) (by rw [Nat.pow_succ] at hu; omega) (by omega) (by omega)]
      simp only [Option.bind_some]
      obtain ⟨M, rfl⟩ : ∃ M, N = M + 1 := ⟨N - 1, by omega⟩
      have e3 : calqueref08_decimal (M + 1) ((u % 10 : Nat) : Int) = some [UInt8.ofNat (48 + u % 10)] := by
        rw [calqueref08_decimal, show decide (((u % 10 : Nat) : Int) ≥ 10) = false from decide_eq_false (by omega), cond_false, digit_byte (by omega)]
      rw [e3]
      have hl := dd_len (u := u / 10) (by omega)
      simp only [Option.bind_some]
      rw [cat_some (by simp; omega)]
      simp only [Option.bind_some]
      rw [dd_ge (u := u) (by omega)]
theorem ref_dec {N : Nat} (hN : 3000 ≤ N) {n : Int} (h0 : 0 ≤ n) (h : n ≤ 999) : calqueref08_decimal N n = some (Lib.itoa n) := by
  obtain ⟨u, rfl⟩ := Int.eq_ofNat_of_zero_le h0
  rw [itoa_of (by omega)]
  exact ref_decimal_eq 2 N u (by simp; omega) (by omega) (by omega)

/-! ### the texts -/
def spt (s : Span) : List UInt8 := if s.From = s.To then Lib.itoa s.From else Lib.itoa s.From ++ ([46, 46] ++ Lib.itoa s.To)
def letter (o : Int) : List UInt8 := [(([110, 105, 118, 119, 102, 116] : List UInt8).getD (o - 1).toNat 0)]
def hdr (r : Relation) : List UInt8 := letter r.Operand ++ ((if r.Mod = 0 then [] else [32, 37, 32] ++ Lib.itoa r.Mod) ++ (if r.Not then [32, 33, 61] else [32, 61]))
def rlt (r : Relation) : List UInt8 := hdr r ++ (32 :: Lib.join (r.Spans.map spt) [44])
def lst (l : List Relation) : List UInt8 := Lib.join (l.map rlt) [32, 97, 110, 100, 32]
def cdt (c : Cnd) : List UInt8 := Lib.join (c.map lst) [32, 111, 114, 32]

theorem spt_len {o : Int} {s : Span} (h : spn o s = true) : (spt s).length ≤ 8 := by
  have hs := spn_iff.1 h
  have := gr_le o
  have h1 := itoa_len (n := s.From) (by omega) (by omega)
  have h2 := itoa_len (n := s.To) (by omega) (by omega)
  unfold spt
  split
  · omega
  · simp only [List.length_append, List.length_cons, List.length_nil]; omega
theorem join_len (B : Nat) (sep : List UInt8) : ∀ xs : List (List UInt8), (∀ x ∈ xs, x.length ≤ B) → (Lib.join xs sep).length ≤ xs.length * (B + sep.length)
  | [], _ => by simp [Lib.join_nil]
  | x :: xs, h => by
    rw [Lib.join_cons, List.length_append]
    have hx := h x (by simp)
    have ht : ∀ ys : List (List UInt8), (∀ y ∈ ys, y.length ≤ B) → (Lib.joinTail sep ys).length ≤ ys.length * (B + sep.length) := by
      intro ys
      induction ys with
      | nil => intro _; simp [Lib.joinTail]
      | cons y ys ih =>
        intro h
        have := ih fun z hz => h z (by simp [hz])
        have hy := h y (by simp)
        have e : Lib.joinTail sep (y :: ys) = sep ++ y ++ Lib.joinTail sep ys := by simp [Lib.joinTail]
        rw [e, List.length_append, List.length_append, List.length_cons, Nat.add_mul]
        omega
    have := ht xs fun y hy => h y (by simp [hy])
    rw [List.length_cons, Nat.add_mul]
    omega
theorem join_snoc (xs : List (List UInt8)) (y sep : List UInt8) : Lib.join (xs ++ [y]) sep = Lib.join xs sep ++ ((if xs = [] then [] else sep) ++ y) := by
  cases xs with
  | nil => simp [Lib.join_one, Lib.join_nil]
  | cons x xs => rw [List.cons_append, Lib.join_cons, Lib.join_cons]; simp [Lib.joinTail]

theorem hdr_len {r : Relation} (h : prp r = true) : (hdr r).length ≤ 10 := by
  unfold prp at h
  simp only [Bool.and_eq_true, decide_eq_true_eq, Bool.or_eq_true] at h
  have hm : r.Mod = 0 ∨ (0 ≤ r.Mod ∧ r.Mod ≤ 999) := by
    rcases h.2.2.1 with h | h
    · exact .inl h
    · right
      unfold per at h
      split at h
      · rw [List.contains_iff_mem] at h
        simp only [List.mem_cons, List.not_mem_nil, or_false] at h
        omega
      · split at h
        · simp at h; omega
        · cases h
  unfold hdr letter
  rcases hm with hm | hm
  · rw [if_pos hm]; split <;> simp
  · have := itoa_len hm.1 hm.2
    split <;> split <;> simp <;> omega
theorem mod_le {r : Relation} (h : prp r = true) : 0 ≤ r.Mod ∧ r.Mod ≤ 999 := by
  unfold prp at h
  simp only [Bool.and_eq_true, decide_eq_true_eq, Bool.or_eq_true] at h
  rcases h.2.2.1 with h | h
  · omega
  · unfold per at h
    split at h
    · rw [List.contains_iff_mem] at h
      simp only [List.mem_cons, List.not_mem_nil, or_false] at h
      omega
    · split at h
      · simp at h; omega
      · cases h
structure Prp (r : Relation) : Prop where
  o1 : 1 ≤ r.Operand
  o6 : r.Operand ≤ 6
  l1 : 1 ≤ r.Spans.length
  l4 : r.Spans.length ≤ 4
  sp : ∀ s ∈ r.Spans, spn r.Operand s = true
theorem Prp.of {r : Relation} (h : prp r = true) : Prp r := by
  unfold prp at h
  simp only [Bool.and_eq_true, decide_eq_true_eq] at h
  obtain ⟨h1, h2, _, h3, h4, h5⟩ := h
  exact ⟨h1, h2, h3, h4, fun s hs => List.all_eq_true.1 h5 s hs⟩
theorem rlt_len {r : Relation} (h : prp r = true) : (rlt r).length ≤ 47 := by
  have hp := Prp.of h
  have h1 := hdr_len h
  have h2 := join_len 8 [44] (r.Spans.map spt) (fun x hx => by obtain ⟨s, hs, rfl⟩ := List.mem_map.1 hx; exact spt_len (hp.sp s hs))
  have h3 := hp.l4
  unfold rlt
  simp only [List.length_append, List.length_cons, List.length_map, List.length_nil] at *
  have : r.Spans.length * (8 + (0 + 1)) ≤ 4 * (8 + (0 + 1)) := Nat.mul_le_mul_right _ h3
  omega

theorem prog_span {N : Nat} {o : Int} {s : Span} (h : spn o s = true) : condition_span N s = some (spt s) := by
  have hs := spn_iff.1 h
  have := gr_le o
  have h1 := itoa_len (n := s.From) (by omega) (by omega)
  have h2 := itoa_len (n := s.To) (by omega) (by omega)
  unfold condition_span spt
  rw [Itoa_eq N (by omega) (by omega), Itoa_eq N (by omega) (by omega)]
  simp only [Option.bind_some]
  by_cases he : s.From = s.To
  · rw [if_pos he, show (s.From == s.To) = true by simp [he], cond_true]
  · rw [if_neg he, show (s.From == s.To) = false by simp [he], cond_false, cat_some (by simp; omega)]
    simp only [Option.bind_some]
    rw [cat_some (by simp; omega)]
    simp only [Option.bind_some, List.append_assoc]
/-- A loop that collects. -/
theorem iter_collect {α γ : Type} {body : List γ × Int → Option ((List γ × Int) ⊕ List γ)} (xs : List α) (g : α → γ) (hlen : xs.length ≤ 4294967296)
    (h1 : ∀ (acc : List γ) (k : Nat) x, xs[k]? = some x → body (acc, (k : Int)) = (app acc [g x]).bind fun l => some (.inl (l, (k : Int) + 1)))
    (h2 : ∀ acc, body (acc, (xs.length : Int)) = some (.inr acc)) (N : Nat) (hN : xs.length < N) : iter body N ([], 0) = some (xs.map g) := by
  have hrun : ∀ (ys : List α) (acc : List γ), run (σ := List γ) (β := List γ) (fun acc x => .inl (acc ++ [g x])) (fun acc => acc) acc ys = acc ++ ys.map g := by
    intro ys
    induction ys with
    | nil => intro acc; simp [run]
    | cons y ys ih => intro acc; rw [run]; simp only; rw [ih]; simp
  have h := iter_list (body := body) (fun (acc : List γ) k => (acc, k)) xs (fun acc x => .inl (acc ++ [g x])) (fun acc => acc) (fun k acc => acc.length = k) (fun acc k x hk hI => ?_) (fun acc _ => h2 acc) N [] hN rfl
  · rw [show ((([] : List γ), (0 : Int)) : List γ × Int) = (fun acc k => (acc, k)) [] (0 : Int) from rfl, h, hrun]; rfl
  · have hlt := getlt hk
    refine ⟨?_, ?_⟩
    · rw [h1 acc k x hk, app_some (by simp; omega)]; rfl
    · rintro s' ⟨⟩; simp [hI]
theorem letter_prog {o : Int} (h1 : 1 ≤ o) (h6 : o ≤ 6) : slc ([32, 110, 105, 118, 119, 102, 116] : List UInt8) o (IntKind.wrap .i64 (o + 1)) = some (letter o) := by
  obtain rfl | rfl | rfl | rfl | rfl | rfl : o = 1 ∨ o = 2 ∨ o = 3 ∨ o = 4 ∨ o = 5 ∨ o = 6 := by omega
  all_goals rfl
theorem letter_ref {o : Int} (h1 : 1 ≤ o) (h6 : o ≤ 6) : slc ([110, 105, 118, 119, 102, 116] : List UInt8) (IntKind.wrap .i64 (o - 1)) o = some (letter o) := by
  obtain rfl | rfl | rfl | rfl | rfl | rfl : o = 1 ∨ o = 2 ∨ o = 3 ∨ o = 4 ∨ o = 5 ∨ o = 6 := by omega
  all_goals rfl
theorem prog_relation {N : Nat} {r : Relation} (h : prp r = true) (hN : 3000 ≤ N) : condition_relation N r = some (rlt r) := by
  have hp := Prp.of h
  have hm := mod_le h
  have hl4 := hp.l4
  have hml := itoa_len hm.1 hm.2
  have hhl := hdr_len h
  have hsp : iter (fun s => condition_relation_b1 N r s.1 s.2) N (([] : List (List UInt8)), (0 : Int)) = some (r.Spans.map spt) := by
    refine iter_collect (body := fun s => condition_relation_b1 N r s.1 s.2) r.Spans spt (by omega) (fun acc k s hk => ?_) (fun acc => ?_) N (by omega)
    · show condition_relation_b1 N r acc k = _
      unfold condition_relation_b1
      simp only [dltx hk, cond_true, idx_some hk, Option.bind_some, prog_span (hp.sp s (List.mem_of_getElem? hk))]
    · show condition_relation_b1 N r acc r.Spans.length = _
      unfold condition_relation_b1
      simp only [dnlt, cond_false]
  have h2 := join_len 8 [44] (r.Spans.map spt) (fun x hx => by obtain ⟨s, hs, rfl⟩ := List.mem_map.1 hx; exact spt_len (hp.sp s hs))
  have h3 : r.Spans.length * (8 + ([44] : List UInt8).length) ≤ 36 := Nat.le_trans (Nat.mul_le_mul_right _ hl4) (by decide)
  rw [List.length_map] at h2
  have hj : strings_Join N (r.Spans.map spt) [44] = some (Lib.join (r.Spans.map spt) [44]) := by
    unfold strings_Join; rw [if_pos ⟨by rw [List.length_map]; omega, by omega⟩]
  unfold condition_relation
  rw [letter_prog hp.o1 hp.o6, Itoa_eq N hm.1 hm.2, hsp]
  simp only [Option.bind_some, hj]
  have hlet : (letter r.Operand).length = 1 := rfl
  unfold rlt
  unfold hdr at hhl ⊢
  by_cases h0 : r.Mod = 0
  · rw [if_pos h0] at hhl ⊢
    simp only [h0, show ((0 : Int) != 0) = false from rfl, cond_false, Option.bind_some]
    cases r.Not with
    | true =>
      simp only [cond_true, if_true]
      rw [cat_some (by simp only [List.length_cons, List.length_nil]; omega)]
      simp only [Option.bind_some]
      rw [cat_some (by simp only [List.length_append, List.length_cons, List.length_nil]; omega)]
      simp
    | false =>
      simp only [cond_false, Bool.false_eq_true, if_false]
      rw [cat_some (by simp only [List.length_cons, List.length_nil]; omega)]
      simp only [Option.bind_some]
      rw [cat_some (by simp only [List.length_append, List.length_cons, List.length_nil]; omega)]
      simp
  · rw [if_neg h0] at hhl ⊢
    simp only [show (r.Mod != 0) = true by simp [h0], cond_true]
    rw [cat_some (by simp only [List.length_cons, List.length_nil]; omega)]
    simp only [Option.bind_some]
    rw [cat_some (by simp only [List.length_append, List.length_cons, List.length_nil]; omega)]
    simp only [Option.bind_some]
    cases r.Not with
    | true =>
      simp only [cond_true, if_true]
      rw [cat_some (by simp only [List.length_append, List.length_cons, List.length_nil]; omega)]
      simp only [Option.bind_some]
      rw [cat_some (by simp only [List.length_append, List.length_cons, List.length_nil]; omega)]
      simp
    | false =>
      simp only [cond_false, Bool.false_eq_true, if_false]
      rw [cat_some (by simp only [List.length_append, List.length_cons, List.length_nil]; omega)]
      simp only [Option.bind_some]
      rw [cat_some (by simp only [List.length_append, List.length_cons, List.length_nil]; omega)]
      simp
/-- A loop that writes, with something ahead of the first and something else ahead of each further one. -/
theorem iter_write {α : Type} {body : List UInt8 × Int → Option ((List UInt8 × Int) ⊕ List UInt8)} (xs : List α) (t : α → List UInt8) (a b : List UInt8) (K B : Nat) (hB : ∀ x ∈ xs, (t x).length + (a.length + b.length) ≤ B) (hK : K + xs.length * B ≤ 900000)
    (h1 : ∀ (s : List UInt8) (k : Nat) x, xs[k]? = some x → s.length + B ≤ 900000 → body (s, (k : Int)) = some (.inl (s ++ ((if k = 0 then a else b) ++ t x), (k : Int) + 1)))
    (h2 : ∀ s, body (s, (xs.length : Int)) = some (.inr s)) (N : Nat) (hN : xs.length < N) (s0 : List UInt8) (hs0 : s0.length ≤ K) :
    iter body N (s0, 0) = some (s0 ++ (if xs = [] then [] else a ++ Lib.join (xs.map t) b)) := by
  have hrun : ∀ (ys : List α) (s : List UInt8) (j : Nat), run (σ := List UInt8 × Nat) (β := List UInt8) (fun s x => .inl (s.1 ++ ((if s.2 = 0 then a else b) ++ t x), s.2 + 1)) (fun s => s.1) (s, j) ys = s ++ (if ys = [] then [] else if j = 0 then a ++ Lib.join (ys.map t) b else Lib.joinTail b (ys.map t)) := by
    intro ys
    induction ys with
    | nil => intro s j; simp [run]
    | cons y ys ih =>
      intro s j
      rw [run]
      simp only
      rw [ih]
      rw [if_neg (show ¬ (j + 1 = 0) by omega), if_neg (show ¬ (y :: ys = []) by simp), List.map_cons, Lib.join_cons]
      cases ys with
      | nil => by_cases h : j = 0 <;> simp [h, Lib.joinTail]
      | cons z zs => by_cases h : j = 0 <;> simp [h, Lib.joinTail]
  have h := iter_list (body := body) (fun (s : List UInt8 × Nat) k => (s.1, k)) xs (fun s x => .inl (s.1 ++ ((if s.2 = 0 then a else b) ++ t x), s.2 + 1)) (fun s => s.1) (fun k s => s.2 = k ∧ s.1.length ≤ K + k * B) (fun s k x hk hI => ?_) (fun s _ => h2 s.1) N (s0, 0) hN ⟨rfl, by simpa using hs0⟩
  · rw [show ((s0, (0 : Int)) : List UInt8 × Int) = (fun (s : List UInt8 × Nat) (k : Int) => (s.1, k)) (s0, 0) (0 : Int) from rfl, h, hrun]
    simp
  · have hlt := getlt hk
    have hm : (k + 1) * B ≤ xs.length * B := Nat.mul_le_mul_right _ hlt
    rw [Nat.add_mul] at hm
    obtain ⟨hk2, hlen⟩ := hI
    subst hk2
    constructor
    · rw [h1 s.1 s.2 x hk (by omega)]
    · rintro s' ⟨⟩
      refine ⟨rfl, ?_⟩
      have := hB x (List.mem_of_getElem? hk)
      simp only [List.length_append]
      rw [Nat.add_mul]
      split <;> omega
theorem ref_relation {N : Nat} {r : Relation} (h : prp r = true) (hN : 3000 ≤ N) : calqueref08_relation N r = some (rlt r) := by
  have hp := Prp.of h
  have hm := mod_le h
  have hl4 := hp.l4
  have hml := itoa_len hm.1 hm.2
  have hhl := hdr_len h
  have hloop : ∀ s0 : List UInt8, s0.length ≤ 20 → iter (fun s => calqueref08_relation_b1 N r s.1 s.2) N (s0, (0 : Int)) = some (s0 ++ (32 :: Lib.join (r.Spans.map spt) [44])) := by
    intro s0 hs0
    have h := iter_write (body := fun s => calqueref08_relation_b1 N r s.1 s.2) r.Spans spt [32] [44] 20 20 (fun x hx => by have := spt_len (hp.sp x hx); simp; omega) (by omega) (fun s k x hk hs => ?_) (fun s => ?_) N (by omega) s0 hs0
    · rw [h, if_neg (by intro e; have := hp.l1; rw [e] at this; simp at this)]; rfl
    · have hx := hp.sp x (List.mem_of_getElem? hk)
      have hs2 := spn_iff.1 hx
      have hg := gr_le r.Operand
      have hi1 := itoa_len (n := x.From) (by omega) (by omega)
      have hi2 := itoa_len (n := x.To) (by omega) (by omega)
      show calqueref08_relation_b1 N r s k = _
      unfold calqueref08_relation_b1
      simp only [dltx hk, cond_true, idx_some hk, Option.bind_some, ref_dec hN (show 0 ≤ x.From by omega) (show x.From ≤ 999 by omega), ref_dec hN (show 0 ≤ x.To by omega) (show x.To ≤ 999 by omega)]
      have ho : (bif ((k : Int) == 0) then (cat s [32]).bind fun s40 => some s40 else (cat s [44]).bind fun s42 => some s42) = some (s ++ (if k = 0 then [32] else [44])) := by
        by_cases hk0 : k = 0
        · subst hk0
          rw [show ((((0 : Nat) : Int) == 0) = true) from rfl, cond_true, cat_some (by simp; omega)]; rfl
        · rw [show (((k : Int) == 0) = false) from beq_eq_false_iff_ne.2 (by omega), cond_false, cat_some (by simp; omega), if_neg hk0]; rfl
      rw [ho]
      have hl1 : (s ++ (if k = 0 then ([32] : List UInt8) else [44])).length = s.length + 1 := by split <;> simp
      simp only [Option.bind_some]
      rw [cat_some (by omega)]
      simp only [Option.bind_some]
      unfold spt
      by_cases he : x.From = x.To
      · rw [if_pos he, show (x.To != x.From) = false by simp [he], cond_false]
        simp only [List.append_assoc]
      · rw [if_neg he, show (x.To != x.From) = true by simp; exact fun e => he e.symm, cond_true, cat_some (by simp; omega)]
        simp only [Option.bind_some]
        rw [cat_some (by simp only [List.length_append, List.length_cons, List.length_nil] at *; omega)]
        simp only [Option.bind_some, List.append_assoc]
    · show calqueref08_relation_b1 N r s r.Spans.length = _
      unfold calqueref08_relation_b1
      simp only [dnlt, cond_false]
  unfold calqueref08_relation
  rw [letter_ref hp.o1 hp.o6, ref_dec hN hm.1 hm.2]
  simp only [Option.bind_some]
  have hlet : (letter r.Operand).length = 1 := rfl
  unfold rlt
  unfold hdr at hhl ⊢
  by_cases h0 : r.Mod = 0
  · rw [if_pos h0] at hhl ⊢
    simp only [h0, show ((0 : Int) != 0) = false from rfl, cond_false, Option.bind_some]
    cases r.Not with
    | true =>
      simp only [cond_true, if_true] at hhl ⊢
      rw [cat_some (by simp only [List.length_cons, List.length_nil]; omega)]
      simp only [Option.bind_some]
      rw [hloop _ (by simp [hlet])]
      simp
    | false =>
      simp only [cond_false, Bool.false_eq_true, if_false] at hhl ⊢
      rw [cat_some (by simp only [List.length_cons, List.length_nil]; omega)]
      simp only [Option.bind_some]
      rw [hloop _ (by simp [hlet])]
      simp
  · rw [if_neg h0] at hhl ⊢
    simp only [show (r.Mod != 0) = true by simp [h0], cond_true]
    rw [cat_some (by simp only [List.length_cons, List.length_nil]; omega)]
    simp only [Option.bind_some]
    rw [cat_some (by simp only [List.length_append, List.length_cons, List.length_nil]; omega)]
    simp only [Option.bind_some]
    cases r.Not with
    | true =>
      simp only [cond_true, if_true] at hhl ⊢
      rw [cat_some (by simp only [List.length_append, List.length_cons, List.length_nil]; omega)]
      simp only [Option.bind_some]
      rw [hloop _ (by simp only [List.length_append, List.length_cons, List.length_nil]; omega)]
      simp
    | false =>
      simp only [cond_false, Bool.false_eq_true, if_false] at hhl ⊢
      rw [cat_some (by simp only [List.length_append, List.length_cons, List.length_nil]; omega)]
      simp only [Option.bind_some]
      rw [hloop _ (by simp only [List.length_append, List.length_cons, List.length_nil]; omega)]
      simp

/-! ### conditions -/
structure Sml (c : Cnd) : Prop where
  n : c.length ≤ 30
  l : ∀ l ∈ c, l.length ≤ 80
def prt (c : Cnd) : List UInt8 × Int := if vd c then (cdt c, 0) else ([], 1)
theorem lst_len {l : List Relation} (h : ∀ r ∈ l, prp r = true) (hl : l.length ≤ 80) : (lst l).length ≤ 4160 := by
  have := join_len 47 [32, 97, 110, 100, 32] (l.map rlt) (fun x hx => by obtain ⟨r, hr, rfl⟩ := List.mem_map.1 hx; exact rlt_len (h r hr))
  rw [List.length_map] at this
  have h3 : l.length * (47 + ([32, 97, 110, 100, 32] : List UInt8).length) ≤ 4160 := Nat.le_trans (Nat.mul_le_mul_right _ hl) (by decide)
  unfold lst; omega
theorem prog_Print {N : Nat} {c : Cnd} (S : Sz N c) (M : vd c = true → Sml c) : condition_Print N c = some (prt c) := by
  unfold condition_Print prt
  rw [Valid_eq S]
  cases hv : vd c with
  | false => rfl
  | true =>
  have hM := M hv
  have hp := vd_prp hv
  simp only [Option.bind_some, Bool.not_true, cond_false, if_true]
  have h1 : iter (fun s => condition_Print_b1 N c s.1 s.2) N (([] : List (List UInt8)), (0 : Int)) = some (c.map lst) := by
    refine iter_collect (body := fun s => condition_Print_b1 N c s.1 s.2) c lst (by have := hM.n; omega) (fun acc k l hk => ?_) (fun acc => ?_) N S.len
    · have hm := List.mem_of_getElem? hk
      have hl80 := hM.l l hm
      show condition_Print_b1 N c acc k = _
      unfold condition_Print_b1
      have h2 : iter (fun s => condition_Print_b2 N l s.1 s.2) N (([] : List (List UInt8)), (0 : Int)) = some (l.map rlt) := by
        refine iter_collect (body := fun s => condition_Print_b2 N l s.1 s.2) l rlt (by omega) (fun acc j r hj => ?_) (fun acc => ?_) N (S.lens l hm)
        · show condition_Print_b2 N l acc j = _
          unfold condition_Print_b2
          simp only [dltx hj, cond_true, idx_some hj, Option.bind_some, prog_relation (hp l hm r (List.mem_of_getElem? hj)) S.n]
        · show condition_Print_b2 N l acc l.length = _
          unfold condition_Print_b2
          simp only [dnlt, cond_false]
      have hll := lst_len (hp l hm) hl80
      have hj : strings_Join N (l.map rlt) [32, 97, 110, 100, 32] = some (lst l) := by
        unfold strings_Join; rw [if_pos ⟨by rw [List.length_map]; omega, by unfold lst at hll; omega⟩]; rfl
      simp only [dltx hk, cond_true, idx_some hk, Option.bind_some, h2, hj]
    · show condition_Print_b1 N c acc c.length = _
      unfold condition_Print_b1
      simp only [dnlt, cond_false]
  have hlen := join_len 4160 [32, 111, 114, 32] (c.map lst) (fun x hx => by obtain ⟨l, hl, rfl⟩ := List.mem_map.1 hx; exact lst_len (hp l hl) (hM.l l hl))
  rw [List.length_map] at hlen
  have hn := hM.n
  have h3 : c.length * (4160 + ([32, 111, 114, 32] : List UInt8).length) ≤ 124920 := Nat.le_trans (Nat.mul_le_mul_right _ hn) (by decide)
  have hj : strings_Join N (c.map lst) [32, 111, 114, 32] = some (cdt c) := by
    unfold strings_Join; rw [if_pos ⟨by rw [List.length_map]; omega, by omega⟩]; rfl
  rw [h1]
  simp only [Option.bind_some, hj]
theorem ref_Print {N : Nat} {c : Cnd} (S : Sz N c) (M : vd c = true → Sml c) : calqueref08_Print N c = some (prt c) := by
  unfold calqueref08_Print prt
  rw [ref_Valid_c S]
  cases hv : vd c with
  | false => rfl
  | true =>
  have hM := M hv
  have hp := vd_prp hv
  simp only [Option.bind_some, Bool.not_true, cond_false, if_true]
  have hn := hM.n
  have h1 := iter_write (body := fun s => calqueref08_Print_b1 N c s.1 s.2) c lst [] [32, 111, 114, 32] 0 4180 (fun l hl => by have := lst_len (hp l hl) (hM.l l hl); simp; omega) (by omega) (fun s k l hk hs => ?_) (fun s => ?_) N S.len [] (by simp)
  · rw [h1]
    obtain ⟨r, l, c', rfl⟩ := vd_nonempty hv
    simp only [reduceCtorEq, if_false, List.nil_append, Option.bind_some]
    rfl
  · have hm := List.mem_of_getElem? hk
    have hl80 := hM.l l hm
    show calqueref08_Print_b1 N c s k = _
    unfold calqueref08_Print_b1
    have ho : (bif decide ((k : Int) > 0) then (cat s [32, 111, 114, 32]).bind fun s17 => some s17 else some s) = some (s ++ (if k = 0 then [] else [32, 111, 114, 32])) := by
      by_cases hk0 : k = 0
      · subst hk0; simp
      · rw [show decide ((k : Int) > 0) = true from decide_eq_true (by omega), cond_true, cat_some (by simp; omega), if_neg hk0]; rfl
    have hl1 : (s ++ (if k = 0 then ([] : List UInt8) else [32, 111, 114, 32])).length ≤ s.length + 4 := by split <;> simp
    have h2 := iter_write (body := fun t => calqueref08_Print_b2 N c k t.1 t.2) l rlt [] [32, 97, 110, 100, 32] (s.length + 4) 52 (fun r hr => by have := rlt_len (hp l hm r hr); simp; omega) (by omega) (fun t j r hj ht => ?_) (fun t => ?_) N (S.lens l hm) (s ++ (if k = 0 then [] else [32, 111, 114, 32])) hl1
    · simp only [dltx hk, cond_true, ho, Option.bind_some, h2]
      have hne : l ≠ [] := by
        intro e
        have := hv
        unfold vd at this
        simp only [Bool.and_eq_true] at this
        have := List.all_eq_true.1 this.2.1 l hm
        rw [e] at this; simp [fine] at this
      rw [if_neg hne]
      simp only [List.nil_append, List.append_assoc]
      rfl
    · show calqueref08_Print_b2 N c k t j = _
      unfold calqueref08_Print_b2
      have ho2 : (bif decide ((j : Int) > 0) then (cat t [32, 97, 110, 100, 32]).bind fun s44 => some s44 else some t) = some (t ++ (if j = 0 then [] else [32, 97, 110, 100, 32])) := by
        by_cases hj0 : j = 0
        · subst hj0; simp
        · rw [show decide ((j : Int) > 0) = true from decide_eq_true (by omega), cond_true, cat_some (by simp; omega), if_neg hj0]; rfl
      have hl2 : (t ++ (if j = 0 then ([] : List UInt8) else [32, 97, 110, 100, 32])).length ≤ t.length + 5 := by split <;> simp
      have hr := rlt_len (hp l hm r (List.mem_of_getElem? hj))
      simp only [idx_some hk, Option.bind_some, dltx hj, cond_true, ho2, idx_some hj, ref_relation (hp l hm r (List.mem_of_getElem? hj)) S.n]
      rw [cat_some (by omega)]
      simp only [Option.bind_some, List.append_assoc]
    · show calqueref08_Print_b2 N c k t l.length = _
      unfold calqueref08_Print_b2
      simp only [idx_some hk, Option.bind_some, dnlt, cond_false]
  · show calqueref08_Print_b1 N c s c.length = _
    unfold calqueref08_Print_b1
    simp only [dnlt, cond_false]
theorem Sml.of {N : Nat} {c : Cnd} (S : Sz N c) (hc : CndOk c) (h : calqueref08_Few N c = some true) (hv : vd c = true) : Sml c :=
  ⟨Few_len S h, Few_lists S hc (fun l hl r hr => (Prp.of (vd_prp hv l hl r hr)).l4) h⟩

theorem conditionPrint_law (c d : Cnd) (hc : CndOk c) : ∃ N, calquelaw08_ConditionPrint N c d = some true := by
  refine ⟨sz c + sz d + 6000, ?_⟩
  generalize hNN : sz c + sz d + 6000 = N
  have Sc : Sz N c := Sz.of (by omega)
  have Sd : Sz N d := Sz.of (by omega)
  have aw : calquelaw08_awake N = some true := by rw [show N = (N - 3000) + 3000 by omega]; exact awake_eq _
  unfold calquelaw08_ConditionPrint
  rw [aw]
  simp only [Option.bind_some, Bool.not_true, cond_false]
  obtain ⟨b, hb⟩ := Few_some Sc
  obtain ⟨b', hb'⟩ := Few_some Sd
  rw [hb, hb']
  simp only [Option.bind_some]
  cases b with
  | false => rfl
  | true =>
  cases b' with
  | false => rfl
  | true =>
  have M := Sml.of Sc hc hb
  simp only [Bool.not_true, cond_false, prog_Print Sc M, ref_Print Sc M, Option.bind_some, Valid_eq Sc, ref_Valid_c Sc, Equal_eq _ Sc, ref_Equal_eq _ Sc, eqC_refl]
  simp
end Go.Proofs.YtbaiahglondepaaGreatDoor
