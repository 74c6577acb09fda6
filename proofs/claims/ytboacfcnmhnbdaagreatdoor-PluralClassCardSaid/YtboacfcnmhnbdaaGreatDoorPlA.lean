/- Valid and Class of rules: the program's and the reference's are one function; the law PluralClass. -/
import Derived.Test.YtboacfcnmhnbdaaGreatDoorCndC
set_option linter.unusedVariables false
namespace Go.Proofs.YtboacfcnmhnbdaaGreatDoor
open Go.X

def cls5 : List (List UInt8) := [[122, 101, 114, 111], [111, 110, 101], [116, 119, 111], [102, 101, 119], [109, 97, 110, 121]]
def oth : List UInt8 := [111, 116, 104, 101, 114]
theorem slices_findS {N : Nat} (l : List (List UInt8)) (m : List UInt8) (hN : l.length < N) : slices_Contains_string_string N l m = some (l.contains m) := by
  unfold slices_Contains_string_string slices_Index_string_string
  rw [iter_find l (fun x => m == x) (fun k x hk => ?_) ?_ N hN]
  · rw [find_any, Option.bind_some, find_ge, List.contains_eq_any_beq]
  · unfold slices_Index_string_string_b1
    simp only [dnlt, cond_false]
  · unfold slices_Index_string_string_b1
    simp only [dltx hk, cond_true, idx_some hk, Option.bind_some]
    cases m == x <;> rfl
theorem known_eq {N : Nat} (hN : 100 ≤ N) (c : List UInt8) : plural_known N c = some ((cls5 ++ [oth]).contains c) := by
  unfold plural_known
  show (slices_Contains_string_string N (cls5 ++ [oth]) c).bind (fun r15 => some r15) = _
  rw [slices_findS _ _ (by simp [cls5]; omega)]
  rfl
theorem has14_eq {N : Nat} (l : List (List UInt8)) (m : List UInt8) (hN : l.length < N) : calqueref14_has N l m = some (l.contains m) := by
  unfold calqueref14_has
  rw [iter_anyL (fun x => x == m) l (fun k x hk => ?_) ?_ N hN]
  · have e : l.any (fun x => x == m) = l.contains m := by
      rw [List.contains_eq_any_beq]
      congr 1
      funext x
      exact Bool.eq_iff_iff.2 ⟨fun h => beq_iff_eq.2 (beq_iff_eq.1 h).symm, fun h => beq_iff_eq.2 (beq_iff_eq.1 h).symm⟩
    rw [e]
    cases l.contains m <;> rfl
  · unfold calqueref14_has_b1
    simp only [dnlt, cond_false]
  · unfold calqueref14_has_b1
    simp only [dltx hk, cond_true, idx_some hk, Option.bind_some]
    cases (x == m) <;> rfl
def tsz (l : List Rule) : Nat := (l.map fun x => sz x.Cond).sum
structure Tz (N : Nat) (l : List Rule) : Prop where
  n : 4000 ≤ N
  len : l.length < N
  s : ∀ x ∈ l, Sz N x.Cond
theorem Tz.of {N : Nat} {l : List Rule} (h : tsz l + l.length + 4000 ≤ N) : Tz N l :=
  ⟨by omega, by omega, fun x hx => Sz.of (by have := mem_sum (f := fun x : Rule => sz x.Cond) hx; unfold tsz at h; omega)⟩
def dup (l : List Rule) (k : Nat) (x : Rule) : Bool := (l.take k).any fun y => y.Class == x.Class
def okr (l : List Rule) (k : Nat) (x : Rule) : Bool := cls5.contains x.Class && (vd x.Cond && !dup l k x)
def fR (l : List Rule) (k : Nat) (x : Rule) : Nat ⊕ (Unit ⊕ Bool) := if okr l k x then .inl (k + 1) else .inr (.inr false)
def rv (l : List Rule) : Unit ⊕ Bool := run (fR l) (fun _ => .inl ()) 0 l
def vdl (l : List Rule) : Bool := match rv l with | .inl _ => true | .inr b => b
theorem oth_not : cls5.contains oth = false := by decide
theorem prog_dup {N : Nat} {l : List Rule} {k : Nat} {x : Rule} (hk : k ≤ l.length) (hN : l.length < N) : ((slc l 0 (k : Int)).bind fun l27 => slices_ContainsFunc_api_Rule_api_Rule__32 N l27 x) = some (dup l k x) := by
  rw [slc_take hk, Option.bind_some]
  unfold slices_ContainsFunc_api_Rule_api_Rule__32 slices_IndexFunc_api_Rule_api_Rule__32
  rw [iter_find (l.take k) (fun y => y.Class == x.Class) (fun j y hj => ?_) ?_ N (by rw [List.length_take]; omega)]
  · rw [find_any, Option.bind_some, find_ge]; rfl
  · unfold slices_IndexFunc_api_Rule_api_Rule__32_b1
    simp only [dnlt, cond_false]
  · unfold slices_IndexFunc_api_Rule_api_Rule__32_b1 plural_Valid_1
    simp only [dltx hj, cond_true, idx_some hj, Option.bind_some]
    cases (y.Class == x.Class) <;> rfl
theorem plural_Valid_eq {N : Nat} {l : List Rule} (S : Tz N l) : plural_Valid N l = some (vdl l) := by
  have hn := S.n
  have hlen := S.len
  have h := iter_list (body := fun s => plural_Valid_b1 N l s) (σ := Nat) (fun _ i => i) l (fR l) (fun _ => .inl ()) (fun i k => k = i) (fun k i x hi hk => ?_) (fun k _ => ?_) N 0 S.len rfl
  · unfold plural_Valid
    rw [h]
    unfold vdl rv
    cases run (fR l) (fun _ => Sum.inl ()) 0 l <;> rfl
  · subst hk
    constructor
    · show plural_Valid_b1 N l k = _
      unfold plural_Valid_b1
      simp only [dltx hi, cond_true, idx_some hi, Option.bind_some, known_eq (N := N) (by omega), Valid_eq (S.s x (List.mem_of_getElem? hi))]
      have hd := prog_dup (N := N) (l := l) (k := k) (x := x) (by have := getlt hi; omega) hlen
      unfold fR okr
      have hk5 : (cls5 ++ [oth]).contains x.Class = (cls5.contains x.Class || x.Class == oth) := by
        rw [List.contains_eq_any_beq, List.any_append, ← List.contains_eq_any_beq]; simp
      rw [hk5]
      cases h1 : cls5.contains x.Class with
      | false =>
        simp only [Bool.false_or, Bool.false_and, Bool.false_eq_true, if_false]
        by_cases ho : x.Class = oth
        · rw [show (x.Class == oth) = true by simp [ho]]
          simp only [Bool.not_true, cond_false]
          rw [show (x.Class == ([111, 116, 104, 101, 114] : List UInt8)) = true from (show (x.Class == oth) = true by simp [ho])]
          rfl
        · rw [show (x.Class == oth) = false by simp [ho]]; rfl
      | true =>
        have ho : x.Class ≠ oth := fun e => by rw [e, oth_not] at h1; cases h1
        simp only [Bool.true_or, Bool.not_true, cond_false, Bool.true_and]
        rw [show (x.Class == ([111, 116, 104, 101, 114] : List UInt8)) = false from (show (x.Class == oth) = false by simp [ho])]
        simp only [cond_false]
        cases h2 : vd x.Cond with
        | false => simp
        | true =>
          simp only [Bool.not_true, cond_false, Bool.true_and]
          cases hs : slc l 0 (k : Int) with
          | none => rw [hs] at hd; cases hd
          | some l27 =>
            rw [hs, Option.bind_some] at hd
            simp only [Option.bind_some, hd]
            cases dup l k x <;> simp
    · intro s' h
      unfold fR at h
      split at h
      · cases h; rfl
      · cases h
  · show plural_Valid_b1 N l l.length = _
    unfold plural_Valid_b1
    simp only [dnlt, cond_false]
theorem ref_dup {N : Nat} {l : List Rule} {k : Nat} {x : Rule} (hk : l[k]? = some x) (hN : l.length < N) : iter (fun s => calqueref14_Valid_b2 N l (k : Int) s) N 0 = some (if dup l k x then .inr false else .inl ()) := by
  have hlt := getlt hk
  have hl : (l.take k).length = k := by rw [List.length_take]; omega
  have h := iter_allL (body := fun s => calqueref14_Valid_b2 N l (k : Int) s) (fun y : Rule => !(y.Class == x.Class)) (l.take k) (fun j y hj => ?_) ?_ N (by omega)
  · rw [h]
    have e : (l.take k).all (fun y => !(y.Class == x.Class)) = !dup l k x := by unfold dup; rw [List.all_eq_not_any_not]; simp
    rw [e]
    cases dup l k x <;> rfl
  · have hj2 := getlt hj
    rw [hl] at hj2
    rw [List.getElem?_take_of_lt hj2] at hj
    unfold calqueref14_Valid_b2
    simp only [decide_eq_true (show (j : Int) < (k : Int) by omega), cond_true, idx_some hj, idx_some hk, Option.bind_some]
    cases (y.Class == x.Class) <;> rfl
  · rw [hl]
    unfold calqueref14_Valid_b2
    simp only [decide_eq_false (show ¬ (k : Int) < (k : Int) by omega), cond_false]
theorem ref14_Valid_eq {N : Nat} {l : List Rule} (S : Tz N l) : calqueref14_Valid N l = some (vdl l) := by
  have hn := S.n
  have hlen := S.len
  have h := iter_list (body := fun s => calqueref14_Valid_b1 N l s) (σ := Nat) (fun _ i => i) l (fR l) (fun _ => .inl ()) (fun i k => k = i) (fun k i x hi hk => ?_) (fun k _ => ?_) N 0 S.len rfl
  · unfold calqueref14_Valid
    rw [h]
    unfold vdl rv
    cases run (fR l) (fun _ => Sum.inl ()) 0 l <;> rfl
  · subst hk
    constructor
    · show calqueref14_Valid_b1 N l k = _
      unfold calqueref14_Valid_b1
      simp only [dltx hi, cond_true, idx_some hi, Option.bind_some, ref_Valid_c (S.s x (List.mem_of_getElem? hi)), show calqueref12_Classes N = some cls5 from rfl, has14_eq cls5 x.Class (show cls5.length < N by simp [cls5]; omega), ref_dup hi hlen]
      unfold fR okr
      cases cls5.contains x.Class with
      | false => rfl
      | true =>
        cases vd x.Cond with
        | false => rfl
        | true => cases dup l k x <;> rfl
    · intro s' h
      unfold fR at h
      split at h
      · cases h; rfl
      · cases h
  · show calqueref14_Valid_b1 N l l.length = _
    unfold calqueref14_Valid_b1
    simp only [dnlt, cond_false]
theorem run_vd (l : List Rule) : ∀ (ys : List Rule) (k : Nat), run (fR l) (fun _ => .inl ()) k ys = .inl () → ∀ x ∈ ys, vd x.Cond = true
  | [], _, _, _, h => by cases h
  | y :: ys, k, h, x, hx => by
    rw [run] at h
    unfold fR at h
    cases ho : okr l k y with
    | false => rw [ho] at h; simp at h
    | true =>
      rw [ho] at h
      simp only [if_true] at h
      rcases List.mem_cons.1 hx with rfl | hx
      · unfold okr at ho
        simp only [Bool.and_eq_true] at ho
        exact ho.2.1
      · exact run_vd l ys (k + 1) h x hx
theorem run_inr (l : List Rule) : ∀ (ys : List Rule) (k : Nat) (b : Bool), run (fR l) (fun _ => .inl ()) k ys = .inr b → b = false
  | [], _, _, h => by cases h
  | y :: ys, k, b, h => by
    rw [run] at h
    unfold fR at h
    cases ho : okr l k y with
    | false => rw [ho] at h; simp at h; exact h
    | true =>
      rw [ho] at h
      simp only [if_true] at h
      exact run_inr l ys (k + 1) b h
theorem vdl_vd {l : List Rule} (h : vdl l = true) : ∀ x ∈ l, vd x.Cond = true := by
  unfold vdl rv at h
  cases hr : run (fR l) (fun _ => Sum.inl ()) 0 l with
  | inl u => exact run_vd l l 0 hr
  | inr b => rw [hr] at h; have := run_inr l l 0 b hr; subst this; cases h
/-! ### the class of a number -/
def fC (s : List UInt8) (_ : Unit) (x : Rule) : Unit ⊕ (Unit ⊕ (List UInt8 × Int)) := if hd s x.Cond then .inr (.inr (x.Class, 0)) else .inl ()
def clr (l : List Rule) (s : List UInt8) : Unit ⊕ (List UInt8 × Int) := run (fC s) (fun _ => .inl ()) () l
def clo (l : List Rule) (s : List UInt8) : List UInt8 × Int := match clr l s with | .inl _ => (oth, 0) | .inr r => r
def cla (l : List Rule) (s : List UInt8) : List UInt8 × Int := if vdl l && vld s then clo l s else ([], 1)
theorem prog_Class {N : Nat} {l : List Rule} {s : List UInt8} (S : Tz N l) (hs : s.length ≤ 1000) : plural_Class N l s = some (cla l s) := by
  have hn := S.n
  unfold plural_Class cla
  rw [plural_Valid_eq S]
  simp only [Option.bind_some]
  cases hv : vdl l with
  | false => rfl
  | true =>
    simp only [Bool.not_true, cond_false, Bool.true_and]
    have Sa : Sz N [[Relation.mk 2 0 true [Span.mk 0 0]]] := Sz.of (by simp [sz]; omega)
    rw [Holds_eq Sa hs]
    have hva : vd [[Relation.mk 2 0 true [Span.mk 0 0]]] = true := by decide
    unfold hr
    rw [hva]
    simp only [Option.bind_some, Bool.true_and]
    cases hw : vld s with
    | false => rfl
    | true =>
      simp only [if_true]
      rw [show ((0 : Int) != 0) = false from rfl, cond_false]
      have h := iter_list' (body := fun i => plural_Class_b1 N l s i) (σ := Unit) (fun _ i => i) l (fC s) (fun _ => .inl ()) (fun _ k x hk => ?_) (fun _ => ?_) N () S.len
      · rw [h]
        unfold clo clr
        cases run (fC s) (fun _ => Sum.inl ()) () l <;> rfl
      · have hm := List.mem_of_getElem? hk
        unfold plural_Class_b1
        simp only [dltx hk, cond_true, idx_some hk, Option.bind_some, Holds_eq (S.s x hm) hs]
        unfold hr fC
        rw [vdl_vd hv x hm, hw]
        simp only [Bool.and_self, if_true]
        rw [show ((0 : Int) != 0) = false from rfl, cond_false]
        cases hd s x.Cond <;> rfl
      · unfold plural_Class_b1
        simp only [dnlt, cond_false]
theorem ref14_Class {N : Nat} {l : List Rule} {s : List UInt8} (S : Tz N l) (hs : s.length ≤ 1000) : calqueref14_Class N l s = some (cla l s) := by
  have hn := S.n
  unfold calqueref14_Class cla
  rw [ref14_Valid_eq S]
  simp only [Option.bind_some]
  cases hv : vdl l with
  | false => rfl
  | true =>
    simp only [Bool.not_true, cond_false, Bool.true_and]
    rw [ref_Valid_eq hs (by omega)]
    simp only [Option.bind_some]
    cases hw : vld s with
    | false => rfl
    | true =>
      simp only [Bool.not_true, cond_false, if_true]
      have h := iter_list' (body := fun i => calqueref14_Class_b1 N l s i) (σ := Unit) (fun _ i => i) l (fC s) (fun _ => .inl ()) (fun _ k x hk => ?_) (fun _ => ?_) N () S.len
      · rw [h]
        unfold clo clr
        cases run (fC s) (fun _ => Sum.inl ()) () l <;> rfl
      · have hm := List.mem_of_getElem? hk
        unfold calqueref14_Class_b1
        simp only [dltx hk, cond_true, idx_some hk, Option.bind_some, ref_Holds_eq (S.s x hm) hs]
        unfold hr fC
        rw [vdl_vd hv x hm, hw]
        simp only [Bool.and_self, if_true]
        cases hd s x.Cond <;> rfl
      · unfold calqueref14_Class_b1
        simp only [dnlt, cond_false]
theorem awake14_eq (M : Nat) : calquelaw14_awake (M + 3000) = some true := by kernel_rfl
theorem Few14_some {N : Nat} {l : List Rule} (S : Tz N l) : ∃ b, calqueref14_Few N l = some b := by
  unfold calqueref14_Few
  have h := iter_list' (body := fun i => calqueref14_Few_b1 N l i) (σ := Unit) (fun _ i => i) l (fun _ x => if (calqueref08_Few N x.Cond).getD false then .inl () else .inr (.inr false)) (fun _ => .inl ()) (fun _ k x hk => ?_) (fun _ => ?_) N () S.len
  · rw [h]
    cases run _ _ () l with
    | inl _ => exact ⟨_, rfl⟩
    | inr b => exact ⟨_, rfl⟩
  · obtain ⟨b, hb⟩ := Few_some (S.s x (List.mem_of_getElem? hk))
    unfold calqueref14_Few_b1
    simp only [dltx hk, cond_true, idx_some hk, Option.bind_some, hb]
    cases b <;> rfl
  · unfold calqueref14_Few_b1
    simp only [dnlt, cond_false]
theorem pluralClass_law (l : List Rule) (s : List UInt8) : ∃ N, calquelaw14_PluralClass N l s = some true := by
  refine ⟨tsz l + l.length + 6000, ?_⟩
  generalize hNN : tsz l + l.length + 6000 = N
  have S : Tz N l := Tz.of (by omega)
  have aw : calquelaw14_awake N = some true := by rw [show N = (N - 3000) + 3000 by omega]; exact awake14_eq _
  unfold calquelaw14_PluralClass
  rw [aw]
  simp only [Option.bind_some, Bool.not_true, cond_false]
  obtain ⟨b, hb⟩ := Few14_some S
  rw [hb]
  simp only [Option.bind_some]
  cases b with
  | false => rfl
  | true =>
    simp only [Bool.not_true, cond_false]
    by_cases h : (s.length : Int) > 60
    · rw [decide_eq_true h]; rfl
    · rw [decide_eq_false h, cond_false, prog_Class S (by omega), ref14_Class S (by omega)]
      simp only [Option.bind_some, plural_Valid_eq S, ref14_Valid_eq S]
      simp
end Go.Proofs.YtboacfcnmhnbdaaGreatDoor
