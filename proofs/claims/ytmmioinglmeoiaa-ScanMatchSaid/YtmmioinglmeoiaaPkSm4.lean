/- Texts of this proof, put together by pack.py: what its declarations name. -/
import Derived.Test.YtmmioinglmeoiaaPkSm3
import Derived.Test.YtmmioinglmeoiaaChecked
import Derived.Test.YtmmioinglmeoiaaProg
import Derived.Test.YtmmioinglmeoiaaRows
set_option linter.unusedVariables false
namespace Go.Proofs.Ytmmioinglmeoiaa
open Go.X
def inCls (x : Item) (c : Nat) : Bool := x.Not != x.Ranges.any (fun g => decide (g.From ≤ (c : Int)) && decide ((c : Int) ≤ g.To))
def hit (x : Item) (s : Str) : Option Nat :=
  if x.Text = [] then (match s with | [] => none | c :: _ => if inCls x c.toNat then some 1 else none)
  else if x.Text.isPrefixOf s then some x.Text.length else none
def run (x : Item) : Nat → Str → Nat → Nat × Nat
  | 0, _, c => (0, c)
  | f + 1, s, c => if x.Most < 0 ∨ (c : Int) < x.Most then (match hit x s with | some k => (k + (run x f (s.drop k) (c + 1)).1, (run x f (s.drop k) (c + 1)).2) | none => (0, c)) else (0, c)
def runs : List Item → Str → Option Nat
  | [], _ => some 0
  | x :: l, s => if ((run x (s.length + 1) s 0).2 : Int) < x.Least then none else (runs l (s.drop (run x (s.length + 1) s 0).1)).map ((run x (s.length + 1) s 0).1 + ·)
def bitsOf (x : Item) : Option (List Bool) := if x.Text = [] then some ((List.range 256).map (inCls x)) else none
theorem hit_le {x : Item} {s : Str} {k : Nat} (h : hit x s = some k) : 1 ≤ k ∧ k ≤ s.length := by
  unfold hit at h
  split at h
  · cases s with
    | nil => cases h
    | cons c s =>
      simp only at h
      split at h
      · cases h; simp
      · cases h
  · rename_i h0
    split at h
    · rename_i hp
      cases h
      have := (List.isPrefixOf_iff_prefix.1 hp).length_le
      exact ⟨List.length_pos_iff.2 h0, this⟩
    · cases h
theorem run_le (x : Item) : ∀ (f : Nat) (s : Str) (c : Nat), (run x f s c).1 ≤ s.length := by
  intro f
  induction f with
  | zero => intro s c; simp [run]
  | succ f ih =>
    intro s c
    unfold run
    split
    · cases h : hit x s with
      | none => simp
      | some k =>
        have h1 := hit_le h
        have h2 := ih (s.drop k) (c + 1)
        simp only [List.length_drop] at h2 ⊢
        omega
    · simp
theorem iter_hit {α β : Type} {body : Int → Option (Int ⊕ (Unit ⊕ β))} (p : α → Bool) (b : β) (xs : List α) {N : Nat} (hN : xs.length < N) (h1 : ∀ (k : Nat) x, xs[k]? = some x → body k = some (if p x then .inr (.inr b) else .inl ((k : Int) + 1))) (h2 : body xs.length = some (.inr (.inl ()))) :
    iter body N 0 = some (if xs.any p then .inr b else .inl ()) := by
  obtain ⟨r, h3, h4⟩ := iter_indE (body := body) (fun i s => s = (i : Int) ∧ (xs.take i).any p = false) xs.length (fun r => r = if xs.any p then .inr b else .inl ()) (fun i s hi ⟨hs, ha⟩ => by
    subst hs
    obtain ⟨x, hx⟩ := at_lt hi
    rw [h1 i x hx]
    cases hp : p x with
    | true => exact .inr ⟨_, rfl, by rw [if_pos]; exact List.any_eq_true.2 ⟨x, List.mem_of_getElem? hx, hp⟩⟩
    | false => exact .inl ⟨_, rfl, by simp, by rw [← take1 hx, List.any_append, ha]; simp [hp]⟩) (fun s ⟨hs, ha⟩ => by
    subst hs
    rw [List.take_length] at ha
    exact ⟨_, h2, by rw [ha]; rfl⟩) N 0 hN ⟨rfl, by simp⟩
  rw [h3, h4]
theorem ref_has_eq {N : Nat} {x : Item} (c : Nat) (hN : x.Ranges.length < N) : calqueref44_has N x (c : Int) = some (inCls x c) := by
  unfold calqueref44_has inCls
  rw [iter_hit (fun g : Range => decide (g.From ≤ (c : Int)) && decide ((c : Int) ≤ g.To)) (!x.Not) x.Ranges hN (fun k g hg => by
    simp only [calqueref44_has_b1, dk (getlt hg), cond_true, ixg hg, Option.bind_some, ge_iff_le]
    cases decide (g.From ≤ (c : Int)) <;> cases decide ((c : Int) ≤ g.To) <;> rfl) (by simp only [calqueref44_has_b1, dn, cond_false])]
  cases x.Ranges.any (fun g => decide (g.From ≤ (c : Int)) && decide ((c : Int) ≤ g.To)) <;> cases x.Not <;> rfl
theorem wrap_u8 {c : Nat} (h : c < 256) : IntKind.wrap .u8 (c : Int) = (c : Int) := wrap_of (inR_u8.2 ⟨by omega, by omega⟩)
theorem scan_has_eq {N : Nat} {x : Item} {c : Nat} (hc : c < 256) (hN : x.Ranges.length < N) : slices_ContainsFunc_scan_Range_scan_Range__76 N x.Ranges (c : Int) = some (x.Ranges.any (fun g => decide (g.From ≤ (c : Int)) && decide ((c : Int) ≤ g.To))) := by
  unfold slices_ContainsFunc_scan_Range_scan_Range__76 slices_IndexFunc_scan_Range_scan_Range__76
  rw [idxf x.Ranges (fun g : Range => decide (g.From ≤ (c : Int)) && decide ((c : Int) ≤ g.To)) hN (fun k g hg => by
    simp only [slices_IndexFunc_scan_Range_scan_Range__76_b1, dk (getlt hg), cond_true, ixg hg, Option.bind_some, scan_class_1, wrap_u8 hc, ge_iff_le]
    cases decide (g.From ≤ (c : Int)) <;> cases decide ((c : Int) ≤ g.To) <;> rfl) (by simp only [slices_IndexFunc_scan_Range_scan_Range__76_b1, dn, cond_false])]
  rw [Option.bind_some]
  exact congrArg some (find_ge _ _)
theorem setI_app {α : Type} {l r : List α} {k : Nat} (h : l.length = k) (y z : α) : setI (l ++ y :: r) (k : Int) z = some (l ++ z :: r) := by
  unfold setI
  subst h
  rw [if_pos (by simp)]
  simp
theorem rep_split {α : Type} (z : α) {k n : Nat} (h : k < n) : List.replicate (n - k) z = z :: List.replicate (n - (k + 1)) z := by
  rw [show n - k = (n - (k + 1)) + 1 by omega, List.replicate_succ]
theorem scan_class_eq {N : Nat} {x : Item} (hN : x.Ranges.length < N) (h2 : 300 ≤ N) : scan_class N x = some (some ((List.range 256).map (inCls x))) := by
  unfold scan_class
  refine (iter_atB (fun k : Nat => ((k : Int), (List.range k).map (inCls x) ++ List.replicate (256 - k) false)) 256 ((List.range 256).map (inCls x)) rfl (by omega) (fun k hk => ?_) ?_).trans rfl
  · have e : decide ((k : Int) < 256) = true := decide_eq_true (by omega)
    simp only [scan_class_b1, e, cond_true, scan_has_eq hk hN, Option.bind_some]
    rw [rep_split false hk, ix]
    have hl : ((List.range k).map (inCls x)).length = k := by simp
    rw [List.getElem?_append_right (by omega), hl, Nat.sub_self]
    simp only [List.getElem?_cons_zero, Option.bind_some]
    rw [setI_app hl]
    simp only [Option.bind_some, List.range_succ, List.map_append, List.append_assoc]
    rfl
  · simp [scan_class_b1]
theorem scan_classes_eq {N : Nat} {l : List Item} (hs : SzL N l) (h2 : 300 ≤ N) (hl : l.length ≤ 1000000) : scan_classes N l = some (l.map bitsOf) := by
  unfold scan_classes
  unfold Go.X.mk
  rw [if_pos (by unfold LIM; omega)]
  simp only [Option.bind_some, Int.toNat_natCast]
  refine (iter_atB (fun k : Nat => ((k : Int), (l.take k).map bitsOf ++ List.replicate (l.length - k) none)) l.length (l.map bitsOf) (by simp) hs.1 (fun k hk => ?_) ?_).trans rfl
  · obtain ⟨x, hx⟩ := at_lt hk
    simp only [scan_classes_b1, dk hk, cond_true, ixg hx, Option.bind_some]
    have hl : ((l.take k).map bitsOf).length = k := by simp; omega
    rw [rep_split none hk, ← take1 hx]
    by_cases h0 : x.Text = []
    · have e : (x.Text == ([] : Str)) = true := by rw [h0]; rfl
      rw [e]
      simp only [cond_true, scan_class_eq (hs.2 x (List.mem_of_getElem? hx)).2 h2, Option.bind_some]
      rw [ix, List.getElem?_append_right (by omega), hl, Nat.sub_self]
      simp only [List.getElem?_cons_zero, Option.bind_some]
      rw [setI_app hl]
      simp [bitsOf, h0]
    · have e : (x.Text == ([] : Str)) = false := by simpa using h0
      rw [e]
      simp [bitsOf, h0]
  · simp [scan_classes_b1]
theorem slc_tail {α : Type} {s : List α} {n : Nat} (h : n ≤ s.length) : slc s (n : Int) (s.length : Int) = some (s.drop n) := by
  unfold slc
  rw [if_pos (by omega)]
  congr 1
  rw [Int.toNat_natCast, List.take_of_length_le]
  simp only [List.length_drop]
  omega
theorem slc_mid {α : Type} {s : List α} {a b : Nat} (h : a + b ≤ s.length) : slc s (a : Int) ((a : Int) + (b : Int)) = some ((s.drop a).take b) := by
  unfold slc
  rw [if_pos (by omega)]
  congr 2
  omega
theorem wrapN {n : Nat} (h : n ≤ 1000000000) : IntKind.wrap .i64 (n : Int) = (n : Int) := wrap_of (inR_i64.2 ⟨by omega, by omega⟩)
theorem drop_hd {s : Str} {n : Nat} (h : n < s.length) : ∃ c, s[n]? = some c ∧ s.drop n = c :: s.drop (n + 1) :=
  ⟨s[n], List.getElem?_eq_getElem h, by rw [List.drop_eq_getElem_cons h]⟩
theorem bits_at (x : Item) (c : UInt8) : idx ((List.range 256).map (inCls x)) (c.toNat : Int) = some (inCls x c.toNat) := by
  rw [ix]; simp [u8lt c]
theorem take_b1_eq {N : Nat} {x : Item} {s : Str} {n c : Nat} (hn : n ≤ s.length) (hl : s.length ≤ 1000000) (hc : c ≤ 1000000) :
    scan_take_b1 N x (bitsOf x) s n c = some (if x.Most < 0 ∨ (c : Int) < x.Most then (match hit x (s.drop n) with | some k => .inl (((n + k : Nat) : Int), ((c + 1 : Nat) : Int)) | none => .inr (.inr ((n : Int), decide ((c : Int) ≥ x.Least)))) else .inr (.inl ((n : Int), (c : Int)))) := by
  have hw : IntKind.wrap .i64 ((c + 1 : Nat) : Int) = ((c + 1 : Nat) : Int) := wrapN (by omega)
  have hw2 : ((c : Int) + 1) = ((c + 1 : Nat) : Int) := by omega
  by_cases h0 : x.Text = []
  · have e : (x.Text == ([] : Str)) = true := by rw [h0]; rfl
    have e2 : (x.Text != ([] : Str)) = false := by rw [h0]; rfl
    have hb : bitsOf x = some ((List.range 256).map (inCls x)) := by unfold bitsOf; rw [if_pos h0]
    have hh : hit x (s.drop n) = (match s.drop n with | [] => none | d :: _ => if inCls x d.toNat then some 1 else none) := by unfold hit; rw [if_pos h0]; cases s.drop n <;> rfl
    simp only [scan_take_b1, e, e2, cond_true, cond_false, hb, Option.bind_some, hw, hw2]
    have core : ∀ (A : Option ((Int × Int) ⊕ ((Int × Int) ⊕ (Int × Bool)))), A = some (match hit x (s.drop n) with | some k => .inl (((n + k : Nat) : Int), ((c + 1 : Nat) : Int)) | none => .inr (.inr ((n : Int), decide ((c : Int) ≥ x.Least)))) → (x.Most < 0 ∨ (c : Int) < x.Most) → A = some (if x.Most < 0 ∨ (c : Int) < x.Most then (match hit x (s.drop n) with | some k => .inl (((n + k : Nat) : Int), ((c + 1 : Nat) : Int)) | none => .inr (.inr ((n : Int), decide ((c : Int) ≥ x.Least)))) else .inr (.inl ((n : Int), (c : Int)))) := fun A h g => by rw [h, if_pos g]
    have inner : (bif decide ((n : Int) < (s.length : Int)) then
        (idx s n).bind fun c25 => (idx ((List.range 256).map (inCls x)) (c25.toNat : Int)).bind fun x37 =>
          bif x37 then some (.inl ((n : Int) + 1, ((c + 1 : Nat) : Int))) else some (.inr (.inr ((n : Int), decide ((c : Int) ≥ x.Least))))
        else some (.inr (.inr ((n : Int), decide ((c : Int) ≥ x.Least)))) : Option ((Int × Int) ⊕ ((Int × Int) ⊕ (Int × Bool)))) = some (match hit x (s.drop n) with | some k => .inl (((n + k : Nat) : Int), ((c + 1 : Nat) : Int)) | none => .inr (.inr ((n : Int), decide ((c : Int) ≥ x.Least)))) := by
      by_cases hlt : n < s.length
      · obtain ⟨d, hd, hdr⟩ := drop_hd hlt
        rw [hh, hdr, decide_eq_true (by omega)]
        simp only [cond_true, ixg hd, Option.bind_some, bits_at]
        cases inCls x d.toNat <;> rfl
      · rw [hh, List.drop_of_length_le (by omega), decide_eq_false (by omega)]
        rfl
    by_cases hm : x.Most < 0
    · rw [decide_eq_true hm]
      exact core _ inner (.inl hm)
    · rw [decide_eq_false hm]
      by_cases hm2 : (c : Int) < x.Most
      · rw [decide_eq_true hm2]
        exact core _ inner (.inr hm2)
      · rw [decide_eq_false hm2, if_neg (by omega)]
        rfl
  · have e : (x.Text == ([] : Str)) = false := by simpa using h0
    have e2 : (x.Text != ([] : Str)) = true := by simpa using h0
    have hh : hit x (s.drop n) = (if x.Text.isPrefixOf (s.drop n) then some x.Text.length else none) := by unfold hit; rw [if_neg h0]
    simp only [scan_take_b1, e, e2, cond_true, cond_false, slc_tail hn, Option.bind_some, hw, hw2, strings_HasPrefix, Lib.hasPrefix]
    have inner : (bif x.Text.isPrefixOf (s.drop n) then some (.inl (IntKind.wrap .i64 ((n : Int) + (x.Text.length : Int)), ((c + 1 : Nat) : Int))) else some (.inr (.inr ((n : Int), decide ((c : Int) ≥ x.Least)))) : Option ((Int × Int) ⊕ ((Int × Int) ⊕ (Int × Bool)))) = some (match hit x (s.drop n) with | some k => .inl (((n + k : Nat) : Int), ((c + 1 : Nat) : Int)) | none => .inr (.inr ((n : Int), decide ((c : Int) ≥ x.Least)))) := by
      rw [hh]
      cases hp : x.Text.isPrefixOf (s.drop n) with
      | true =>
        have := (List.isPrefixOf_iff_prefix.1 hp).length_le
        simp only [List.length_drop] at this
        simp only [cond_true, if_true]
        rw [show (n : Int) + (x.Text.length : Int) = ((n + x.Text.length : Nat) : Int) by omega, wrapN (by omega)]
      | false => simp
    by_cases hm : x.Most < 0
    · rw [decide_eq_true hm, if_pos (.inl hm)]
      exact inner
    · rw [decide_eq_false hm]
      by_cases hm2 : (c : Int) < x.Most
      · rw [decide_eq_true hm2, if_pos (.inr hm2)]
        exact inner
      · rw [decide_eq_false hm2, if_neg (by omega)]
        rfl
theorem scan_take_eq {N : Nat} {x : Item} {s : Str} (hl : s.length ≤ 1000000) (hN : s.length + 1 ≤ N) :
    scan_take N x (bitsOf x) s = some (((run x (s.length + 1) s 0).1 : Int), decide (((run x (s.length + 1) s 0).2 : Int) ≥ x.Least)) := by
  unfold scan_take
  have key : ∀ (f M n c : Nat), s.length - n < f → f ≤ M → n ≤ s.length → c ≤ n → ((iter (fun st : Int × Int => scan_take_b1 N x (bitsOf x) s st.1 st.2) M ((n : Int), (c : Int))).bind fun o9 =>
      Sum.elim (fun o9 : Int × Int => some (o9.1, (decide (o9.2 ≥ x.Least)))) (fun o9 : Int × Bool => some o9) o9) = some (((n + (run x f (s.drop n) c).1 : Nat) : Int), decide (((run x f (s.drop n) c).2 : Int) ≥ x.Least)) := by
    intro f
    induction f with
    | zero => intro M n c h; omega
    | succ f ih =>
      intro M n c hf hM hn hc
      obtain ⟨M, rfl⟩ : ∃ M', M = M' + 1 := ⟨M - 1, by omega⟩
      have hb := take_b1_eq (N := N) (x := x) (c := c) hn hl (by omega)
      unfold run
      by_cases hm : x.Most < 0 ∨ (c : Int) < x.Most
      · rw [if_pos hm] at hb ⊢
        cases hh : hit x (s.drop n) with
        | none =>
          rw [hh] at hb
          simp only [iter, hb, Option.bind_some, Sum.elim_inr]
          rfl
        | some k =>
          rw [hh] at hb
          have hk := hit_le hh
          simp only [List.length_drop] at hk
          simp only [iter, hb]
          have := ih M (n + k) (c + 1) (by omega) (by omega) (by omega) (by omega)
          rw [this]
          simp only [List.drop_drop, Nat.add_assoc]
      · rw [if_neg hm] at hb ⊢
        simp only [iter, hb, Option.bind_some, Sum.elim_inl]
        rfl
  have := key (s.length + 1) N 0 0 (by omega) hN (by omega) (by omega)
  simpa using this
theorem scan_match_eq {N : Nat} {l : List Item} {s : Str} (hs : l.length < N) (hl : s.length ≤ 1000000) (hN : s.length + 1 ≤ N) :
    scan_match N l (l.map bitsOf) s = some (match runs l s with | some n => ((n : Int), true) | none => (0, false)) := by
  unfold scan_match
  have key : ∀ (j k M n : Nat), k + j = l.length → j < M → n ≤ s.length → ((iter (fun st : Int × Int => scan_match_b1 N l (l.map bitsOf) s st.1 st.2) M ((n : Int), (k : Int))).bind fun o3 =>
      Sum.elim (fun o3 : Int => some (o3, true)) (fun o3 : Int × Bool => some o3) o3) = some (match runs (l.drop k) (s.drop n) with | some m => (((n + m : Nat) : Int), true) | none => (0, false)) := by
    intro j
    induction j with
    | zero =>
      intro k M n hk hM hn
      obtain ⟨M, rfl⟩ : ∃ M', M = M' + 1 := ⟨M - 1, by omega⟩
      obtain rfl : k = l.length := by omega
      simp only [iter, scan_match_b1, dn, cond_false, Option.bind_some, Sum.elim_inl, List.drop_length, runs]
      rfl
    | succ j ih =>
      intro k M n hk hM hn
      obtain ⟨M, rfl⟩ : ∃ M', M = M' + 1 := ⟨M - 1, by omega⟩
      have hkl : k < l.length := by omega
      obtain ⟨x, hx⟩ := at_lt hkl
      have hxe : l[k] = x := by rw [List.getElem?_eq_getElem hkl] at hx; exact Option.some.inj hx
      have hb : idx (l.map bitsOf) (k : Int) = some (bitsOf x) := by rw [ix, List.getElem?_map, hx]; rfl
      have ht := scan_take_eq (N := N) (x := x) (s := s.drop n) (by simp; omega) (by simp; omega)
      have hr := run_le x ((s.drop n).length + 1) (s.drop n) 0
      rw [List.drop_eq_getElem_cons hkl, hxe]
      simp only [runs]
      generalize hg : run x ((s.drop n).length + 1) (s.drop n) 0 = g at ht hr ⊢
      simp only [List.length_drop] at hr
      by_cases hc : (g.2 : Int) < x.Least
      · have hbd : scan_match_b1 N l (l.map bitsOf) s n k = some (.inr (.inr (0, false))) := by
          simp only [scan_match_b1, dk hkl, cond_true, ixg hx, hb, Option.bind_some, slc_tail hn, ht]
          rw [decide_eq_false (by omega)]
          rfl
        simp only [iter, hbd, if_pos hc]
        rfl
      · have hbd : scan_match_b1 N l (l.map bitsOf) s n k = some (.inl (((n + g.1 : Nat) : Int), ((k + 1 : Nat) : Int))) := by
          simp only [scan_match_b1, dk hkl, cond_true, ixg hx, hb, Option.bind_some, slc_tail hn, ht]
          rw [decide_eq_true (by omega)]
          simp only [Bool.not_true, cond_false]
          rw [show (n : Int) + (g.1 : Int) = ((n + g.1 : Nat) : Int) by omega, wrapN (by omega), show (k : Int) + 1 = ((k + 1 : Nat) : Int) by omega]
        simp only [iter, hbd, if_neg hc]
        have := ih (k + 1) M (n + g.1) (by omega) (by omega) (by omega)
        rw [this, List.drop_drop]
        cases runs (l.drop (k + 1)) (s.drop (n + g.1)) with
        | none => rfl
        | some m => simp only [Option.map_some, Nat.add_assoc]
  have := key l.length 0 N 0 (by omega) hs (by omega)
  simpa using this
theorem ref_taken_eq {N : Nat} {x : Item} {s : Str} {n : Nat} (hn : n ≤ s.length) (hl : s.length ≤ 1000000) (hx : x.Text.length ≤ 200000000000000) (hN : x.Ranges.length < N) :
    calqueref44_taken N x s n = some (match hit x (s.drop n) with | some k => (k : Int) | none => -1) := by
  unfold calqueref44_taken
  by_cases h0 : x.Text = []
  · have e : (x.Text == ([] : Str)) = true := by rw [h0]; rfl
    have e2 : (x.Text != ([] : Str)) = false := by rw [h0]; rfl
    have hh : hit x (s.drop n) = (match s.drop n with | [] => none | d :: _ => if inCls x d.toNat then some 1 else none) := by unfold hit; rw [if_pos h0]; cases s.drop n <;> rfl
    simp only [e, e2, cond_true, cond_false]
    by_cases hlt : n < s.length
    · obtain ⟨d, hd, hdr⟩ := drop_hd hlt
      rw [hh, hdr, decide_eq_true (by omega)]
      simp only [cond_true, ixg hd, Option.bind_some, ref_has_eq _ hN]
      cases inCls x d.toNat <;> rfl
    · rw [hh, List.drop_of_length_le (by omega), decide_eq_false (by omega)]
      rfl
  · have e : (x.Text == ([] : Str)) = false := by simpa using h0
    have e2 : (x.Text != ([] : Str)) = true := by simpa using h0
    have hh : hit x (s.drop n) = (if x.Text.isPrefixOf (s.drop n) then some x.Text.length else none) := by unfold hit; rw [if_neg h0]
    simp only [e, e2, cond_true, cond_false]
    have hw : IntKind.wrap .i64 ((n : Int) + (x.Text.length : Int)) = (n : Int) + (x.Text.length : Int) := wrap_of (inR_i64.2 ⟨by omega, by omega⟩)
    rw [hw, hh]
    by_cases hle : n + x.Text.length ≤ s.length
    · rw [decide_eq_true (by omega), slc_mid hle]
      simp only [cond_true, Option.bind_some]
      cases hp : x.Text.isPrefixOf (s.drop n) with
      | true =>
        have := List.prefix_iff_eq_take.1 (List.isPrefixOf_iff_prefix.1 hp)
        rw [← this]
        simp
      | false =>
        have : ((s.drop n).take x.Text.length == x.Text) = false := by
          rw [beq_eq_false_iff_ne]
          intro h
          have := List.isPrefixOf_iff_prefix.2 (List.prefix_iff_eq_take.2 h.symm)
          rw [this] at hp
          cases hp
        rw [this]
        rfl
    · rw [decide_eq_false (by omega)]
      cases hp : x.Text.isPrefixOf (s.drop n) with
      | true =>
        have := (List.isPrefixOf_iff_prefix.1 hp).length_le
        simp only [List.length_drop] at this
        omega
      | false => rfl
theorem ref_run_eq {N : Nat} {x : Item} {s : Str} (hl : s.length ≤ 1000000) (hx : x.Text.length ≤ 200000000000000) (hR : x.Ranges.length < N) {n : Nat} (hn : n ≤ s.length) (hN : s.length + 1 ≤ N) :
    iter (fun st : Int × Int => calqueref44_Match_b2 N s x st.1 st.2) N ((n : Int), 0) = some (((n + (run x ((s.drop n).length + 1) (s.drop n) 0).1 : Nat) : Int), ((run x ((s.drop n).length + 1) (s.drop n) 0).2 : Int)) := by
  have key : ∀ (f M n c : Nat), s.length - n < f → f ≤ M → n ≤ s.length → c ≤ n → (iter (fun st : Int × Int => calqueref44_Match_b2 N s x st.1 st.2) M ((n : Int), (c : Int))) = some (((n + (run x f (s.drop n) c).1 : Nat) : Int), ((run x f (s.drop n) c).2 : Int)) := by
    intro f
    induction f with
    | zero => intro M n c h; omega
    | succ f ih =>
      intro M n c hf hM hn hc
      obtain ⟨M, rfl⟩ : ∃ M', M = M' + 1 := ⟨M - 1, by omega⟩
      have ht := ref_taken_eq (N := N) hn hl hx hR
      have hb : calqueref44_Match_b2 N s x n c = some (if x.Most < 0 ∨ (c : Int) < x.Most then (match hit x (s.drop n) with | some k => .inl (((n + k : Nat) : Int), ((c + 1 : Nat) : Int)) | none => .inr ((n : Int), (c : Int))) else .inr ((n : Int), (c : Int))) := by
        have hw : IntKind.wrap .i64 ((c + 1 : Nat) : Int) = ((c + 1 : Nat) : Int) := wrapN (by omega)
        have hw2 : ((c : Int) + 1) = ((c + 1 : Nat) : Int) := by omega
        simp only [calqueref44_Match_b2, ht, Option.bind_some, hw, hw2]
        cases hh : hit x (s.drop n) with
        | none =>
          by_cases hm : x.Most < 0
          · rw [decide_eq_true hm, if_pos (.inl hm)]; rfl
          · rw [decide_eq_false hm]
            by_cases hm2 : (c : Int) < x.Most
            · rw [decide_eq_true hm2, if_pos (.inr hm2)]; rfl
            · rw [decide_eq_false hm2, if_neg (by omega)]; rfl
        | some k =>
          have hk := hit_le hh
          simp only [List.length_drop] at hk
          simp only
          rw [show (n : Int) + (k : Int) = ((n + k : Nat) : Int) by omega, wrapN (by omega), decide_eq_true (show (k : Int) ≥ 0 by omega)]
          by_cases hm : x.Most < 0
          · rw [decide_eq_true hm, if_pos (.inl hm)]; rfl
          · rw [decide_eq_false hm]
            by_cases hm2 : (c : Int) < x.Most
            · rw [decide_eq_true hm2, if_pos (.inr hm2)]; rfl
            · rw [decide_eq_false hm2, if_neg (by omega)]; rfl
      unfold run
      by_cases hm : x.Most < 0 ∨ (c : Int) < x.Most
      · rw [if_pos hm] at hb ⊢
        cases hh : hit x (s.drop n) with
        | none =>
          rw [hh] at hb
          simp only [iter, hb]
          rfl
        | some k =>
          rw [hh] at hb
          have hk := hit_le hh
          simp only [List.length_drop] at hk
          simp only [iter, hb]
          have := ih M (n + k) (c + 1) (by omega) (by omega) (by omega) (by omega)
          rw [this]
          simp only [List.drop_drop, Nat.add_assoc]
      · rw [if_neg hm] at hb ⊢
        simp only [iter, hb]
        rfl
  refine key _ N n 0 ?_ ?_ hn (by omega)
  all_goals simp only [List.length_drop]; omega
theorem ref_Match_eq {N : Nat} {l : List Item} {s : Str} {n : Nat} (hs : SzL N l) (hx : ∀ x ∈ l, x.Text.length ≤ 200000000000000) (hn : n ≤ s.length) (hl : s.length ≤ 1000000) (hN : s.length + 1 ≤ N) :
    calqueref44_Match N l s n = some (match runs l (s.drop n) with | some m => ((m : Int), true) | none => (0, false)) := by
  unfold calqueref44_Match
  rw [decide_eq_false (by omega), decide_eq_false (by omega)]
  simp only [cond_false]
  have key : ∀ (j k M n0 : Nat), k + j = l.length → j < M → n ≤ n0 → n0 ≤ s.length → ((iter (fun st : Int × Int => calqueref44_Match_b1 N l s st.1 st.2) M ((n0 : Int), (k : Int))).bind fun o5 =>
      Sum.elim (fun o5 : Int => some ((IntKind.wrap .i64 (o5 - (n : Int))), true)) (fun o5 : Int × Bool => some o5) o5) = some (match runs (l.drop k) (s.drop n0) with | some m => (((n0 - n + m : Nat) : Int), true) | none => (0, false)) := by
    intro j
    induction j with
    | zero =>
      intro k M n0 hk hM h1 h2
      obtain ⟨M, rfl⟩ : ∃ M', M = M' + 1 := ⟨M - 1, by omega⟩
      obtain rfl : k = l.length := by omega
      simp only [iter, calqueref44_Match_b1, dn, cond_false, Option.bind_some, Sum.elim_inl, List.drop_length, runs]
      rw [show (n0 : Int) - (n : Int) = ((n0 - n + 0 : Nat) : Int) by omega, wrapN (by omega)]
    | succ j ih =>
      intro k M n0 hk hM h1 h2
      obtain ⟨M, rfl⟩ : ∃ M', M = M' + 1 := ⟨M - 1, by omega⟩
      have hkl : k < l.length := by omega
      obtain ⟨x, hx'⟩ := at_lt hkl
      have hxe : l[k] = x := by rw [List.getElem?_eq_getElem hkl] at hx'; exact Option.some.inj hx'
      have hm := List.mem_of_getElem? hx'
      have ht := ref_run_eq (N := N) (x := x) hl (hx x hm) (hs.2 x hm).2 h2 hN
      have hr := run_le x ((s.drop n0).length + 1) (s.drop n0) 0
      rw [List.drop_eq_getElem_cons hkl, hxe]
      simp only [runs]
      generalize hg : run x ((s.drop n0).length + 1) (s.drop n0) 0 = g at ht hr ⊢
      simp only [List.length_drop] at hr
      by_cases hc : (g.2 : Int) < x.Least
      · have hbd : calqueref44_Match_b1 N l s n0 k = some (.inr (.inr (0, false))) := by
          simp only [calqueref44_Match_b1, dk hkl, cond_true, ixg hx', Option.bind_some, ht]
          rw [decide_eq_true hc]
          rfl
        simp only [iter, hbd, if_pos hc]
        rfl
      · have hbd : calqueref44_Match_b1 N l s n0 k = some (.inl (((n0 + g.1 : Nat) : Int), ((k + 1 : Nat) : Int))) := by
          simp only [calqueref44_Match_b1, dk hkl, cond_true, ixg hx', Option.bind_some, ht]
          rw [decide_eq_false hc]
          simp only [cond_false]
          rw [show (k : Int) + 1 = ((k + 1 : Nat) : Int) by omega]
        simp only [iter, hbd, if_neg hc]
        have := ih (k + 1) M (n0 + g.1) (by omega) (by omega) (by omega) (by omega)
        rw [this, List.drop_drop]
        cases runs (l.drop (k + 1)) (s.drop (n0 + g.1)) with
        | none => rfl
        | some m =>
          simp only [Option.map_some]
          rw [show n0 + g.1 - n + m = n0 - n + (g.1 + m) by omega]
  have := key l.length 0 N n (by omega) hs.1 (Nat.le_refl n) hn
  simpa using this
end Go.Proofs.Ytmmioinglmeoiaa
namespace Go.Proofs.Ytmmioinglmeoiaa
open Go.X
end Go.Proofs.Ytmmioinglmeoiaa
namespace Go.Proofs.Ytmmioinglmeoiaa
open Go.X
end Go.Proofs.Ytmmioinglmeoiaa
namespace Go.Proofs.Ytmmioinglmeoiaa
open Go.X
theorem scanMatch_law (l : List Item) (s : Str) (p : Int) (h : l.length * 64 ≤ reachBytes ∧ ∀ y ∈ l, ItOk y) (hs : s.length ≤ reachBytes) (hp : InR .i64 p) : ∃ N, calquelaw44_ScanMatch N l s p = some true := by
  obtain ⟨n, hn⟩ : ∃ n, n = szL l + s.length + 10 := ⟨_, rfl⟩
  refine ⟨n + 300, ?_⟩
  have hz : SzL (n + 300) l := SzL.of (by omega)
  have hx : ∀ x ∈ l, x.Text.length ≤ 200000000000000 := fun x hx => by
    have := (h.2 x hx).1
    unfold reachBytes at this
    omega
  unfold calquelaw44_ScanMatch
  simp only [awake_true, Option.bind_some, Bool.not_true, cond_false]
  by_cases h1 : (l.length : Int) > 30
  · rw [decide_eq_true h1]; rfl
  rw [decide_eq_false h1]
  by_cases h2 : (s.length : Int) > 300
  · rw [decide_eq_true h2]; rfl
  rw [decide_eq_false h2]
  obtain ⟨b, hb⟩ := Few_some (N := n + 300) (s := [State.mk [] [Rule.mk [] l []]]) ⟨by simp, fun x hx => by
    obtain rfl := List.mem_singleton.1 hx
    exact ⟨by simp, by simp, fun r hr => by
      obtain rfl := List.mem_singleton.1 hr
      exact ⟨by simp, by simp, hz⟩⟩⟩
  simp only [cond_false, hb, Option.bind_some]
  cases b with
  | false => rfl
  | true =>
    simp only [Bool.not_true, cond_false, items_eq h hz, Option.bind_some]
    have fin : ∀ q : Int × Bool, scan_Match (n + 300) l s p = some q → calqueref44_Match (n + 300) l s p = some q → ((scan_Match (n + 300) l s p).bind fun r27 => (calqueref44_Match (n + 300) l s p).bind fun r30 => bif (r27.1 == r30.1) then some (r27.2 == r30.2) else some false) = some true := fun q g1 g2 => by
      rw [g1, g2]; simp
    by_cases g1 : p < 0
    · refine fin (0, false) ?_ ?_
      · unfold scan_Match; rw [decide_eq_true g1]; rfl
      · unfold calqueref44_Match; rw [decide_eq_true g1]; rfl
    by_cases g2 : p > (s.length : Int)
    · refine fin (0, false) ?_ ?_
      · unfold scan_Match; rw [decide_eq_false g1, decide_eq_true g2]; rfl
      · unfold calqueref44_Match; rw [decide_eq_false g1, decide_eq_true g2]; rfl
    obtain ⟨a, rfl⟩ : ∃ a : Nat, p = (a : Int) := ⟨p.toNat, by omega⟩
    refine fin _ ?_ (ref_Match_eq hz hx (by omega) (by omega) (by omega))
    unfold scan_Match
    rw [decide_eq_false g1, decide_eq_false g2]
    simp only [cond_false, scan_classes_eq hz (by omega : 300 ≤ n + 300) (by omega), Option.bind_some, slc_tail (by omega : a ≤ s.length)]
    rw [scan_match_eq hz.1 (by simp; omega) (by simp; omega)]
    rfl
end Go.Proofs.Ytmmioinglmeoiaa
