/- Chapter 34: names, classes, keys, skeletons: the program's and the reference's are one function. -/
import Derived.Test.YtmghnmfefpeelaaDoorCndA
import Derived.Test.YtmghnmfefpeelaaDoorExt34p3
set_option linter.unusedVariables false
namespace Go.Proofs.YtmghnmfefpeelaaDoor
open Go.X

abbrev Str := List UInt8
/-! ### names -/
def lwr (c : UInt8) : Bool := decide (97 ≤ c.toNat) && decide (c.toNat ≤ 122)
def ltr (c : UInt8) : Bool := lwr c || (decide (65 ≤ c.toNat) && decide (c.toNat ≤ 90))
def inn (c : UInt8) : Bool := ltr c || dgt c || c == 95 || c == 45
def hdl : Str → Bool
  | [] => false
  | c :: _ => lwr c
def nam (s : Str) : Bool := decide (s.length ≤ 40) && (hdl s && s.all inn)
theorem byteAll {P : UInt8 → Prop} [DecidablePred P] (h : ∀ n, n < 256 → P (UInt8.ofNat n)) (c : UInt8) : P c := by
  have := h c.toNat c.toNat_lt
  simpa using this
theorem letter_eq (N : Nat) (c : UInt8) : token_letter N (c.toNat : Int) = some (ltr c || dgt c) := by
  show token_letter 0 (c.toNat : Int) = _
  revert c
  exact byteAll (by decide +kernel)
theorem eq95 (c : UInt8) : ((c.toNat : Int) != 95) = !(c == 95) := by
  revert c
  exact byteAll (by decide +kernel)
theorem eq45 (c : UInt8) : ((c.toNat : Int) != 45) = !(c == 45) := by
  revert c
  exact byteAll (by decide +kernel)
theorem prog_Name {N : Nat} {s : Str} (hN : s.length < N) : token_Name N s = some (nam s) := by
  unfold token_Name nam
  cases s with
  | nil => rfl
  | cons c t =>
    have e1 : (c :: t == ([] : Str)) = false := rfl
    simp only [e1, cond_false]
    by_cases h1 : (c :: t).length ≤ 40
    · simp only [decide_eq_false (show ¬ (((c :: t).length : Nat) : Int) > 40 by omega), cond_false, decide_eq_true h1, Bool.true_and, show idx (c :: t) 0 = some c from rfl, Option.bind_some, hdl]
      by_cases h2 : 97 ≤ c.toNat
      · simp only [decide_eq_false (show ¬ (c.toNat : Int) < 97 by omega), cond_false]
        by_cases h3 : c.toNat ≤ 122
        · simp only [decide_eq_false (show ¬ (c.toNat : Int) > 122 by omega), cond_false]
          rw [iter_all inn false (c :: t) (fun k x hk => ?_) ?_ N hN]
          · unfold lwr
            rw [decide_eq_true h2, decide_eq_true h3]
            cases (c :: t).all inn <;> rfl
          · unfold token_Name_b1
            simp only [dnlt, cond_false]
          · unfold token_Name_b1
            simp only [dltx hk, cond_true, idx_some hk, Option.bind_some, letter_eq, eq95, eq45]
            unfold inn
            cases (ltr x || dgt x) <;> cases (x == 95) <;> cases (x == 45) <;> rfl
        · simp only [decide_eq_true (show (c.toNat : Int) > 122 by omega), cond_true, lwr, decide_eq_false h3, Bool.and_false, Bool.false_and]
      · simp only [decide_eq_true (show (c.toNat : Int) < 97 by omega), cond_true, lwr, decide_eq_false h2, Bool.false_and]
    · simp only [decide_eq_true (show (((c :: t).length : Nat) : Int) > 40 by omega), cond_true, decide_eq_false h1, Bool.false_and]
theorem ref_Inner (N : Nat) (c : UInt8) : calqueref25_Inner N (c.toNat : Int) = some (inn c) := by
  show calqueref25_Inner 0 (c.toNat : Int) = _
  revert c
  exact byteAll (by decide +kernel)
theorem ref_lower (N : Nat) (c : UInt8) : calqueref25_lower N (c.toNat : Int) = some (lwr c) := by
  show calqueref25_lower 0 (c.toNat : Int) = _
  revert c
  exact byteAll (by decide +kernel)
theorem ref_Name {N : Nat} {s : Str} (hN : s.length < N) : calqueref25_Name N s = some (nam s) := by
  unfold calqueref25_Name
  rw [iter_all inn false s (fun k x hk => ?_) ?_ N hN]
  · cases s with
    | nil => rfl
    | cons c t =>
      simp only [show idx (c :: t) 0 = some c from rfl, ref_lower]
      unfold nam hdl
      have e : decide ((((c :: t).length : Nat) : Int) ≥ 1) = true := decide_eq_true (by simp only [List.length_cons]; omega)
      have e2 : decide ((((c :: t).length : Nat) : Int) ≤ 40) = decide ((c :: t).length ≤ 40) := decide_eq_decide.2 (by omega)
      rw [e2]
      cases (c :: t).all inn with
      | false => simp
      | true =>
        simp only [if_true, Option.bind_some, Sum.elim_inl, e, cond_true]
        cases decide ((c :: t).length ≤ 40) <;> cases lwr c <;> rfl
  · unfold calqueref25_Name_b1
    simp only [dnlt, cond_false]

  · unfold calqueref25_Name_b1
    simp only [dltx hk, cond_true, idx_some hk, Option.bind_some, ref_Inner]
    cases inn x <;> rfl
/-! ### classes -/
def clss : List Str := [[122, 101, 114, 111], [111, 110, 101], [116, 119, 111], [102, 101, 119], [109, 97, 110, 121], [111, 116, 104, 101, 114]]
theorem slices_findS {N : Nat} (l : List Str) (m : Str) (hN : l.length < N) : slices_Contains_string_string N l m = some (l.contains m) := by
  unfold slices_Contains_string_string slices_Index_string_string
  rw [iter_find l (fun x => m == x) (fun k x hk => ?_) ?_ N hN]
  · rw [find_any, Option.bind_some, find_ge, List.contains_eq_any_beq]
  · unfold slices_Index_string_string_b1
    simp only [dnlt, cond_false]
  · unfold slices_Index_string_string_b1
    simp only [dltx hk, cond_true, idx_some hk, Option.bind_some]
    cases m == x <;> rfl
theorem prog_class {N : Nat} (hN : 100 ≤ N) (s : Str) : verify_class N s = some (clss.contains s) := by
  unfold verify_class
  show (slices_Contains_string_string N clss s).bind (fun r => some r) = _
  rw [slices_findS _ _ (by simp [clss]; omega)]
  rfl
theorem ref_Class (N : Nat) (s : Str) : calqueref26_Class N s = some (clss.contains s) := by
  unfold calqueref26_Class clss
  simp only [List.contains_cons, List.contains_nil, Bool.or_false]
  cases (s == ([122, 101, 114, 111] : Str)) <;> cases (s == ([111, 110, 101] : Str)) <;> cases (s == ([116, 119, 111] : Str)) <;> cases (s == ([102, 101, 119] : Str)) <;> cases (s == ([109, 97, 110, 121] : Str)) <;> cases (s == ([111, 116, 104, 101, 114] : Str)) <;> rfl

/-! ### keys -/
def key (B : Int) (s : Str) : Bool := if B == 9 then nam s else clss.contains s || (([61] : Str).isPrefixOf s && vld (s.drop 1))
theorem prog_key {N : Nat} {B : Int} {s : Str} (hs : s.length ≤ 1000) (hN : 3000 ≤ N) : verify_key N B s = some (key B s) := by
  unfold verify_key key
  cases h : (B == 9) with
  | true =>
    simp only [cond_true, if_true, prog_Name (show s.length < N by omega)]
    rfl
  | false =>
    simp only [cond_false, Bool.false_eq_true, if_false, prog_class (show 100 ≤ N by omega)]
    unfold strings_CutPrefix
    simp only [Option.bind_some]
    cases clss.contains s with
    | true => rfl
    | false =>
      simp only [cond_false, Bool.false_or]
      show (bif ([61] : Str).isPrefixOf s then (decimal_Valid N (if ([61] : Str).isPrefixOf s then s.drop 1 else s)).bind (fun r => some r) else some false) = _
      cases ([61] : Str).isPrefixOf s with
      | false => rfl
      | true =>
        simp only [cond_true, if_true, decimal_Valid_eq (show (s.drop 1).length ≤ 1000 by rw [List.length_drop]; omega)]
        rfl
theorem eq61 (c : UInt8) : ((c.toNat : Int) == 61) = (c == 61) := by
  revert c
  exact byteAll (by decide +kernel)
theorem ref_Key {N : Nat} {B : Int} {s : Str} (hs : s.length ≤ 1000) (hN : 3000 ≤ N) : calqueref26_Key N B s = some (key B s) := by
  unfold calqueref26_Key key
  cases h : (B == 9) with
  | true =>
    simp only [cond_true, if_true, ref_Name (show s.length < N by omega)]
    rfl
  | false =>
    simp only [cond_false, Bool.false_eq_true, if_false, ref_Class, Option.bind_some]
    cases clss.contains s with
    | true => rfl
    | false =>
      simp only [cond_false, Bool.false_or]
      cases s with
      | nil => rfl
      | cons c t =>
        cases t with
        | nil =>
          have : vld (([c] : Str).drop 1) = false := show vld [] = false by decide
          rw [this, Bool.and_false]
          rfl
        | cons d t =>
          have e : decide ((((c :: d :: t).length : Nat) : Int) > 1) = true := decide_eq_true (by simp only [List.length_cons]; omega)
          have e2 : ([61] : Str).isPrefixOf (c :: d :: t) = (c == 61) := by
            simp only [List.isPrefixOf, Bool.and_true]
            exact Bool.eq_iff_iff.2 ⟨fun h => beq_iff_eq.2 (beq_iff_eq.1 h).symm, fun h => beq_iff_eq.2 (beq_iff_eq.1 h).symm⟩
          have e3 := slc_drop (xs := c :: d :: t) (a := 1) (by simp)
          rw [show ((1 : Nat) : Int) = 1 from rfl] at e3
          simp only [e, cond_true, show idx (c :: d :: t) 0 = some c from rfl, Option.bind_some, eq61, e2, e3]
          cases (c == 61) with
          | false => rfl
          | true =>
            simp only [cond_true, Bool.true_and]
            rw [ref_Valid_eq (by rw [List.length_drop]; omega) hN]
            rfl

/-! ### skeletons -/
def skel (s : Str) : Bool := s.all ltr && (decide (1 ≤ s.length) && decide (s.length ≤ 40))
theorem or32 (c : UInt8) : (!decide (ibits .or .u8 (c.toNat : Int) 32 < 97) && !decide (ibits .or .u8 (c.toNat : Int) 32 > 122)) = ltr c := by
  revert c
  exact byteAll (by decide +kernel)
theorem prog_skel {N : Nat} {s : Str} (hN : s.length < N) : verify_skeleton N s = some (skel s) := by
  unfold verify_skeleton
  rw [iter_all ltr false s (fun k x hk => ?_) ?_ N hN]
  · unfold skel
    have e2 : decide (((s.length : Nat) : Int) ≤ 40) = decide (s.length ≤ 40) := decide_eq_decide.2 (by omega)
    rw [e2]
    cases s with
    | nil => rfl
    | cons c t =>
      rw [show ((c :: t) != ([] : Str)) = true from rfl, show decide (1 ≤ (c :: t).length) = true from decide_eq_true (by simp)]
      cases (c :: t).all ltr <;> rfl
  · unfold verify_skeleton_b1
    simp only [dnlt, cond_false]
  · unfold verify_skeleton_b1
    simp only [dltx hk, cond_true, idx_some hk, Option.bind_some]
    rw [← or32 x]
    cases decide (ibits .or .u8 (x.toNat : Int) 32 < 97) <;> cases decide (ibits .or .u8 (x.toNat : Int) 32 > 122) <;> rfl
theorem ref_skel {N : Nat} {s : Str} (hN : s.length < N) : calqueref26_Skeleton N s = some (skel s) := by
  unfold calqueref26_Skeleton
  rw [iter_all ltr false s (fun k x hk => ?_) ?_ N hN]
  · unfold skel
    have e2 : decide (((s.length : Nat) : Int) ≤ 40) = decide (s.length ≤ 40) := decide_eq_decide.2 (by omega)
    have e1 : decide (((s.length : Nat) : Int) ≥ 1) = decide (1 ≤ s.length) := decide_eq_decide.2 (by omega)
    rw [e2, e1]
    cases s.all ltr <;> cases decide (1 ≤ s.length) <;> rfl
  · unfold calqueref26_Skeleton_b1
    simp only [dnlt, cond_false]

  · unfold calqueref26_Skeleton_b1 ltr lwr
    simp only [dltx hk, cond_true, idx_some hk, Option.bind_some]
    have a1 : decide ((x.toNat : Int) ≥ 97) = decide (97 ≤ x.toNat) := decide_eq_decide.2 (by omega)
    have a2 : decide ((x.toNat : Int) ≤ 122) = decide (x.toNat ≤ 122) := decide_eq_decide.2 (by omega)
    have a3 : decide ((x.toNat : Int) ≥ 65) = decide (65 ≤ x.toNat) := decide_eq_decide.2 (by omega)
    have a4 : decide ((x.toNat : Int) ≤ 90) = decide (x.toNat ≤ 90) := decide_eq_decide.2 (by omega)
    rw [a1, a2, a3, a4]
    cases decide (97 ≤ x.toNat) <;> cases decide (x.toNat ≤ 122) <;> cases decide (65 ≤ x.toNat) <;> cases decide (x.toNat ≤ 90) <;> rfl
/-! ### lists of names -/
theorem In_eq {N : Nat} (l : List Str) (m : Str) (hN : l.length < N) : calqueref26_In N l m = some (l.contains m) := by
  unfold calqueref26_In
  rw [iter_anyL (fun x => x == m) l (fun k x hk => ?_) ?_ N hN]
  · have e : l.any (fun x => x == m) = l.contains m := by
      rw [List.contains_eq_any_beq]
      congr 1
      funext x
      exact Bool.eq_iff_iff.2 ⟨fun h => beq_iff_eq.2 (beq_iff_eq.1 h).symm, fun h => beq_iff_eq.2 (beq_iff_eq.1 h).symm⟩
    rw [e]
    cases l.contains m <;> rfl
  · unfold calqueref26_In_b1
    simp only [dnlt, cond_false]
  · unfold calqueref26_In_b1
    simp only [dltx hk, cond_true, idx_some hk, Option.bind_some]
    cases (x == m) <;> rfl
def tt (l : List Str) : List (Str × Bool) := l.map fun s => (s, true)
theorem tt_get (s : Str) : ∀ l : List Str, (mget (tt l) s).getD false = l.contains s
  | [] => rfl
  | x :: l => by
    have ih := tt_get s l
    unfold mget tt at ih ⊢
    rw [List.map_cons, List.find?_cons, List.contains_cons]
    cases h : (s == x) with
    | true => simp
    | false => simpa using ih
theorem tt_set {l : List Str} {s : Str} (h : l.contains s = false) (hl : l.length < 4294967296) : mset (tt l) s true = some (tt (l ++ [s])) := by
  unfold mset
  rw [if_pos (by unfold tt LIM; simpa using hl), mput_new]
  · unfold tt; simp
  · intro p hp e
    obtain ⟨x, hx, rfl⟩ := List.mem_map.1 hp
    simp only at e
    subst e
    rw [List.contains_iff_mem.2 hx] at h
    cases h
def okN (l : List Str) (k : Nat) (x : Str) : Bool := nam x && !(l.take k).contains x
def fN (l : List Str) (k : Nat) (x : Str) : Nat ⊕ (Unit ⊕ Bool) := if okN l k x then .inl (k + 1) else .inr (.inr false)
def nmd (l : List Str) : Bool := match run (fN l) (fun _ => .inl ()) 0 l with | .inl _ => decide (l.length ≤ 20) | .inr b => b
theorem prog_named {N : Nat} {l : List Str} (hl : l.length ≤ 1000) (hs : ∀ x ∈ l, x.length ≤ 1000) (hN : 3000 ≤ N) : verify_named N l = some (nmd l) := by
  have h := iter_list (body := fun s => verify_named_b1 N l s.1 s.2) (σ := Nat) (fun i k => (k, tt (l.take i))) l (fN l) (fun _ => .inl ()) (fun i k => k = i) (fun k i x hi hk => ?_) (fun k hk => ?_) N 0 (by omega) rfl
  · unfold verify_named nmd
    simp only [List.take_zero] at h
    rw [show (([] : List (Str × Bool))) = tt [] from rfl, h]
    have e2 : decide (((l.length : Nat) : Int) ≤ 20) = decide (l.length ≤ 20) := decide_eq_decide.2 (by omega)
    rw [e2]
    cases run (fN l) (fun _ => Sum.inl ()) 0 l <;> rfl
  · subst hk
    constructor
    · show verify_named_b1 N l k (tt (l.take k)) = _
      unfold verify_named_b1
      simp only [dltx hi, cond_true, idx_some hi, Option.bind_some, prog_Name (show x.length < N by have := hs x (List.mem_of_getElem? hi); omega), tt_get]
      unfold fN okN
      cases nam x with
      | false => rfl
      | true =>
        cases hc : (l.take k).contains x with
        | true => rfl
        | false =>
          simp only [Bool.not_true, cond_false, Bool.not_false, Bool.and_self, if_true]
          have e : l.take (k + 1) = l.take k ++ [x] := by rw [List.take_add_one, hi]; rfl
          rw [tt_set hc (by rw [List.length_take]; omega), e]
          rfl
    · intro s' h
      unfold fN at h
      split at h
      · cases h; rfl
      · cases h
  · show verify_named_b1 N l l.length (tt (l.take k)) = _
    unfold verify_named_b1
    simp only [dnlt, cond_false]
theorem ref_named {N : Nat} {l : List Str} (hl : l.length ≤ 1000) (hs : ∀ x ∈ l, x.length ≤ 1000) (hN : 3000 ≤ N) : calqueref34_Named N l = some (nmd l) := by
  have h := iter_list (body := fun s => calqueref34_Named_b1 N l s) (σ := Nat) (fun i k => k) l (fN l) (fun _ => .inl ()) (fun i k => k = i) (fun k i x hi hk => ?_) (fun k hk => ?_) N 0 (by omega) rfl
  · unfold calqueref34_Named nmd
    rw [h]
    have e2 : decide (((l.length : Nat) : Int) ≤ 20) = decide (l.length ≤ 20) := decide_eq_decide.2 (by omega)
    rw [e2]
    cases run (fN l) (fun _ => Sum.inl ()) 0 l <;> rfl
  · subst hk
    constructor
    · show calqueref34_Named_b1 N l k = _
      unfold calqueref34_Named_b1
      have hlt := getlt hi
      simp only [dltx hi, cond_true, idx_some hi, Option.bind_some, ref_Name (show x.length < N by have := hs x (List.mem_of_getElem? hi); omega), slc_take (show k ≤ l.length by omega), In_eq (l.take k) x (show (l.take k).length < N by rw [List.length_take]; omega)]
      unfold fN okN
      cases nam x with
      | false => rfl
      | true => cases (l.take k).contains x <;> rfl
    · intro s' h
      unfold fN at h
      split at h
      · cases h; rfl
      · cases h
  · show calqueref34_Named_b1 N l l.length = _
    unfold calqueref34_Named_b1
    simp only [dnlt, cond_false]
end Go.Proofs.YtmghnmfefpeelaaDoor
