/- Patterns with two places: both fills are one function at a pattern. -/
import Derived.Test.YtnmiodonophfbaaDoorLst2
namespace Go.Proofs.YtnmiodonophfbaaDoor
open Go.X

/-- A filled pattern. -/
def fl (x y z : List UInt8) (sw : Bool) (a b : List UInt8) : List UInt8 := x ++ ((if sw then b else a) ++ (y ++ ((if sw then a else b) ++ z)))
theorem fnd_nb' {r : List UInt8} (h : nb r) (sub : List UInt8) (b : List UInt8) : fnd (123 :: sub) (r ++ b) = r.length + fnd (123 :: sub) b := fnd_skip1 r b fun c hc => (h c hc).1
theorem f0_p1 (r : List UInt8) : fnd p0 (p1 ++ r) = 3 + fnd p0 r := by
  show fnd p0 (123 :: 49 :: 125 :: r) = _
  rw [fnd_cons, fnd_cons, fnd_cons]
  simp [p0, List.isPrefixOf]
  omega
theorem cut_hit {N : Nat} {u v sub : List UInt8} (hs : sub ≠ []) (hl : (u ++ (sub ++ v)).length ≤ 1000000) (h : fnd sub (u ++ (sub ++ v)) = u.length) : strings_Cut N (u ++ (sub ++ v)) sub = some (u, v, true) := by
  have hsl : 1 ≤ sub.length := by cases sub with | nil => exact absurd rfl hs | cons a t => simp
  unfold strings_Cut
  rw [if_pos (by omega), cut_fnd hs, h, if_pos (by simp only [List.length_append]; omega), List.take_left, ← List.drop_drop, List.drop_left, List.drop_left]
theorem cut_miss {N : Nat} {s sub : List UInt8} (hs : sub ≠ []) (hl : s.length ≤ 1000000) (h : ¬ fnd sub s < s.length) : strings_Cut N s sub = some (s, [], false) := by
  unfold strings_Cut
  rw [if_pos (by omega), cut_fnd hs, if_neg h]
theorem prog_fill {N : Nat} {s x y z a b : List UInt8} {sw : Bool} (h : Pat s x y z sw) (hs : s.length ≤ 1000) (ha : a.length ≤ 200000) (hb : b.length ≤ 200000) : list_fill N s a b = some (fl x y z sw a b) := by
  have n0 : p0 ≠ [] := by decide
  have n1 : p1 ≠ [] := by decide
  have e := h.eq
  unfold list_fill fl
  rw [show ([123, 48, 125] : List UInt8) = p0 from rfl, show ([123, 49, 125] : List UInt8) = p1 from rfl]
  cases sw with
  | false =>
    simp only [Bool.false_eq_true, if_false] at e ⊢
    have hlen : x.length + y.length + z.length ≤ 1000 := by rw [e] at hs; simp only [List.length_append] at hs; omega
    have f0 : fnd p0 (x ++ (p0 ++ (y ++ (p1 ++ z)))) = x.length := by rw [show p0 = 123 :: [48, 125] from rfl, fnd_nb' h.x, ← show p0 = 123 :: [48, 125] from rfl, fnd_here]; rfl
    have f1 : fnd p1 (y ++ (p1 ++ z)) = y.length := by rw [show p1 = 123 :: [49, 125] from rfl, fnd_nb' h.y, ← show p1 = 123 :: [49, 125] from rfl, fnd_here]; rfl
    rw [e, cut_hit n0 (by rw [← e]; omega) f0]
    simp only [Option.bind_some]
    rw [cut_miss n1 (by omega) (by rw [show p1 = 123 :: [49, 125] from rfl, fnd_nb h.x]; omega)]
    simp only [Option.bind_some, cond_false]
    rw [cut_hit n1 (by simp only [List.length_append, p1, List.length_cons, List.length_nil]; omega) f1]
    simp only [Option.bind_some]
    rw [cat_some (by omega), Option.bind_some, cat_some (by simp only [List.length_append]; omega), Option.bind_some, cat_some (by simp only [List.length_append]; omega), Option.bind_some, cat_some (by simp only [List.length_append]; omega), Option.bind_some]
    simp
  | true =>
    simp only [if_true] at e ⊢
    have hlen : x.length + y.length + z.length ≤ 1000 := by rw [e] at hs; simp only [List.length_append] at hs; omega
    have e' : s = (x ++ (p1 ++ y)) ++ (p0 ++ z) := by rw [e]; simp
    have f0 : fnd p0 ((x ++ (p1 ++ y)) ++ (p0 ++ z)) = (x ++ (p1 ++ y)).length := by
      rw [List.append_assoc, show p0 = 123 :: [48, 125] from rfl, fnd_nb' h.x, ← show p0 = 123 :: [48, 125] from rfl, List.append_assoc, f0_p1, show p0 = 123 :: [48, 125] from rfl, fnd_nb' h.y, ← show p0 = 123 :: [48, 125] from rfl, fnd_here]
      simp [p1]
      omega
    have f1 : fnd p1 (x ++ (p1 ++ y)) = x.length := by rw [show p1 = 123 :: [49, 125] from rfl, fnd_nb' h.x, ← show p1 = 123 :: [49, 125] from rfl, fnd_here]; rfl
    rw [e', cut_hit n0 (by rw [← e']; omega) f0]
    simp only [Option.bind_some]
    rw [cut_hit n1 (by simp only [List.length_append, p1, List.length_cons, List.length_nil]; omega) f1]
    simp only [Option.bind_some, cond_true]
    rw [cat_some (by omega), Option.bind_some, cat_some (by simp only [List.length_append]; omega), Option.bind_some, cat_some (by simp only [List.length_append]; omega), Option.bind_some, cat_some (by simp only [List.length_append]; omega), Option.bind_some]
    simp

/-! ### the reference's fill -/
section
variable {N0 : Nat} {s a b : List UInt8}
def rf (N0 : Nat) (s a b : List UInt8) (N : Nat) (out : List UInt8) (i : Nat) : Option (List UInt8) := iter (fun t => calqueref16_fill_b1 N0 s a b t.1 t.2) N (out, (i : Int))
theorem rf_text (hs : s.length ≤ 1000) : ∀ (x r : List UInt8) (i N : Nat) (out : List UInt8), s.drop i = x ++ r → nb x → x.length ≤ N → out.length + x.length ≤ 500000 → i ≤ s.length → rf N0 s a b N out i = rf N0 s a b (N - x.length) (out ++ x) (i + x.length)
  | [], r, i, N, out, _, _, _, _, _ => by simp
  | c :: x, r, i, N, out, hd, hx, hN, ho, hi => by
    simp only [List.length_cons] at hN ho
    obtain ⟨N, rfl⟩ : ∃ M, N = M + 1 := ⟨N - 1, by omega⟩
    have hlt : i < s.length := by
      have := congrArg List.length hd
      simp only [List.length_drop, List.length_append, List.length_cons] at this
      omega
    have ed : s.drop i = s[i] :: s.drop (i + 1) := List.drop_eq_getElem_cons hlt
    rw [ed, List.cons_append] at hd
    injection hd with e1 e2
    obtain ⟨h1, _⟩ := hx c (by simp)
    have hb : calqueref16_fill_b1 N0 s a b out (i : Int) = some (.inl (out ++ [c], (i : Int) + 1)) := by
      unfold calqueref16_fill_b1
      rw [decide_eq_true (show (i : Int) < (s.length : Int) by omega), cond_true, idx_some (List.getElem?_eq_getElem hlt), Option.bind_some, e1]
      have : ((c.toNat : Int) != 123) = true := by
        rw [bne_iff_ne]; intro e
        exact h1 (UInt8.toNat_inj.1 (by show c.toNat = 123; omega))
      rw [this, cond_true]
      have e3 : slc s (i : Int) ((i : Int) + 1) = some [c] := by
        have := slc_some (xs := s) (a := i) (b := i + 1) (by omega) (by omega)
        rw [show (((i + 1 : Nat)) : Int) = (i : Int) + 1 from rfl] at this
        rw [this, List.drop_eq_getElem_cons hlt, show i + 1 - i = 1 from by omega, e1]
        rfl
      rw [e3, Option.bind_some, cat_some (by simp only [List.length_cons, List.length_nil]; omega)]
      rfl
    unfold rf
    rw [iter_inl (body := fun t : List UInt8 × Int => calqueref16_fill_b1 N0 s a b t.1 t.2) (s := (out, (i : Int))) hb N]
    have := rf_text hs x r (i + 1) N (out ++ [c]) e2 (fun d hd => hx d (by simp [hd])) (by omega) (by simp only [List.length_append, List.length_cons, List.length_nil]; omega) hlt
    unfold rf at this
    rw [show ((i : Int) + 1) = ((i + 1 : Nat) : Int) from rfl, this]
    rw [show out ++ [c] ++ x = out ++ c :: x by simp, show N + 1 - (c :: x).length = N - x.length by simp only [List.length_cons]; omega, show i + (c :: x).length = i + 1 + x.length by simp only [List.length_cons]; omega]
theorem rf_place (hs : s.length ≤ 1000) (k : Bool) (r : List UInt8) (i N : Nat) (out : List UInt8) (hd : s.drop i = (if k then p1 else p0) ++ r) (ho : out.length + (if k then b else a).length ≤ 900000) (hi : i ≤ s.length) : rf N0 s a b (N + 1) out i = rf N0 s a b N (out ++ (if k then b else a)) (i + 3) := by
  have hl : i + 3 ≤ s.length := by
    have := congrArg List.length hd
    cases k <;> simp [p0, p1] at this <;> omega
  have g : ∀ j, j < 3 → s[i + j]? = (if k then p1 else p0)[j]? := fun j hj => by
    rw [← List.getElem?_drop, hd, List.getElem?_append_left (by cases k <;> simp [p0, p1] <;> omega)]
  have g0 : s[i]? = some 123 := by have := g 0 (by omega); rw [Nat.add_zero] at this; rw [this]; cases k <;> rfl
  have g1 : s[i + 1]? = some (if k then 49 else 48) := by rw [g 1 (by omega)]; cases k <;> rfl
  have hb : calqueref16_fill_b1 N0 s a b out (i : Int) = some (.inl (out ++ (if k then b else a), ((i + 3 : Nat) : Int))) := by
    unfold calqueref16_fill_b1
    have hw : IntKind.wrap .i64 (IntKind.wrap .i64 ((i : Int) + 2) + 1) = ((i + 3 : Nat) : Int) := by
      rw [wrap_id (z := (i : Int) + 2) (by omega) (by omega), wrap_id (by omega) (by omega)]; omega
    rw [decide_eq_true (show (i : Int) < (s.length : Int) by omega), cond_true, idx_some g0, Option.bind_some, show (((123 : UInt8).toNat : Int) != 123) = false from rfl, cond_false, show ((i : Int) + 1) = ((i + 1 : Nat) : Int) from rfl, idx_some g1, Option.bind_some, hw]
    cases k with
    | false =>
      simp only [Bool.false_eq_true, if_false] at ho ⊢
      rw [show (((48 : UInt8).toNat : Int) == 48) = true from rfl, cond_true, cat_some (by omega)]
      rfl
    | true =>
      simp only [if_true] at ho ⊢
      rw [show (((49 : UInt8).toNat : Int) == 48) = false from rfl, cond_false, cat_some (by omega)]
      rfl
  unfold rf
  rw [iter_inl (body := fun t : List UInt8 × Int => calqueref16_fill_b1 N0 s a b t.1 t.2) (s := (out, (i : Int))) hb N]
theorem rf_end {N : Nat} {out : List UInt8} : rf N0 s a b (N + 1) out s.length = some out := by
  have hb : calqueref16_fill_b1 N0 s a b out (s.length : Int) = some (.inr out) := by
    unfold calqueref16_fill_b1
    rw [decide_eq_false (show ¬ (s.length : Int) < (s.length : Int) by omega), cond_false]
  exact iter_inr (body := fun t : List UInt8 × Int => calqueref16_fill_b1 N0 s a b t.1 t.2) (s := (out, (s.length : Int))) hb N
theorem ref_fill {N : Nat} {x y z : List UInt8} {sw : Bool} (h : Pat s x y z sw) (hs : s.length ≤ 1000) (ha : a.length ≤ 200000) (hb : b.length ≤ 200000) (hN : 3000 ≤ N) : calqueref16_fill N s a b = some (fl x y z sw a b) := by
  unfold calqueref16_fill fl
  have e := h.eq
  have hsl : s.length = x.length + y.length + z.length + 6 := by rw [e]; cases sw <;> simp [p0, p1] <;> omega
  have hA : (if sw then b else a).length ≤ 200000 := by cases sw <;> simp <;> omega
  have hB : (if sw then a else b).length ≤ 200000 := by cases sw <;> simp <;> omega
  have d0 : s.drop 0 = x ++ ((if sw then p1 else p0) ++ (y ++ ((if sw then p0 else p1) ++ z))) := by rw [List.drop_zero]; exact e
  have l3 : ∀ k : Bool, (if k then p1 else p0 : List UInt8).length = 3 := fun k => by cases k <;> rfl
  have l3' : ∀ k : Bool, (if k then p0 else p1 : List UInt8).length = 3 := fun k => by cases k <;> rfl
  have d1 : s.drop (0 + x.length) = (if sw then p1 else p0) ++ (y ++ ((if sw then p0 else p1) ++ z)) := by rw [← List.drop_drop, d0, List.drop_left]
  have d2 : s.drop (0 + x.length + 3) = y ++ ((if sw then p0 else p1) ++ z) := by
    rw [← List.drop_drop, d1]
    have := List.drop_left (l₁ := (if sw then p1 else p0)) (l₂ := y ++ ((if sw then p0 else p1) ++ z))
    rwa [l3] at this
  have d3 : s.drop (0 + x.length + 3 + y.length) = (if sw then p0 else p1) ++ z := by rw [← List.drop_drop, d2, List.drop_left]
  have d4 : s.drop (0 + x.length + 3 + y.length + 3) = z ++ [] := by
    rw [← List.drop_drop, d3, List.append_nil]
    have := List.drop_left (l₁ := (if sw then p0 else p1)) (l₂ := z)
    rwa [l3'] at this
  show (rf N s a b N [] 0).bind (fun o3 => some o3) = _
  rw [rf_text hs x _ 0 N [] d0 h.x (by omega) (by simp only [List.length_nil]; omega) (by omega), List.nil_append]
  obtain ⟨M1, hM1⟩ : ∃ M, N - x.length = M + 1 := ⟨N - x.length - 1, by omega⟩
  rw [hM1, rf_place hs sw _ _ M1 x d1 (by omega) (by omega), rf_text hs y _ _ M1 _ d2 h.y (by omega) (by simp only [List.length_append]; omega) (by omega)]
  obtain ⟨M2, hM2⟩ : ∃ M, M1 - y.length = M + 1 := ⟨M1 - y.length - 1, by omega⟩
  have d3' : s.drop (0 + x.length + 3 + y.length) = (if !sw then p1 else p0) ++ z := by rw [d3]; cases sw <;> rfl
  have hB' : (if !sw then b else a) = if sw then a else b := by cases sw <;> rfl
  rw [hM2, rf_place hs (!sw) z _ M2 _ d3' (by rw [hB']; simp only [List.length_append]; omega) (by omega), hB', rf_text hs z [] _ M2 _ d4 h.z (by omega) (by simp only [List.length_append]; omega) (by omega)]
  obtain ⟨M3, hM3⟩ : ∃ M, M2 - z.length = M + 1 := ⟨M2 - z.length - 1, by omega⟩
  rw [hM3, show 0 + x.length + 3 + y.length + 3 + z.length = s.length from by omega, rf_end]
  simp
end
end Go.Proofs.YtnmiodonophfbaaDoor
