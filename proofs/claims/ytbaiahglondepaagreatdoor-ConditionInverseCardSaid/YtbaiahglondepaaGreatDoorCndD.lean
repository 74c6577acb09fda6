/- The laws ConditionLogic, ConditionValues. -/
import Derived.Test.YtbaiahglondepaaGreatDoorCndC
import Derived.Test.YtbaiahglondepaaGreatDoorExt08d
set_option linter.unusedVariables false
namespace Go.Proofs.YtbaiahglondepaaGreatDoor
open Go.X

/-! ### the text of a number's parts, and back -/
def mkt (n : Bool) (w f : List UInt8) : List UInt8 := (if n && !(w.all zr && f.all zr) then [45] else []) ++ (w ++ if f = [] then [] else 46 :: f)
/-- A whole part: digits, not empty, no needless zero. -/
def Wh (w : List UInt8) : Prop := w.all dgt = true ∧ (w = [48] ∨ ∃ c t, w = c :: t ∧ c ≠ 48)
theorem vld_parts {s : List UInt8} (h : vld s = true) : Wh (wh s) ∧ (wh s).length ≤ 15 ∧ (fr s).all dgt = true ∧ (fr s).length ≤ 6 ∧ (pt s = true → fr s ≠ []) := by
  unfold vld at h
  simp only [Bool.and_eq_true, Bool.not_eq_true', decide_eq_false_iff_not, Bool.and_eq_false_imp, decide_eq_true_eq] at h
  obtain ⟨h1, h2, h3, h4, h5, h6, h7, _⟩ := h
  refine ⟨⟨h3, ?_⟩, by omega, h7, by omega, fun hp e => ?_⟩
  · cases hw : wh s with
    | nil => rw [hw] at h1; simp at h1
    | cons c t =>
      by_cases hc : c = 48
      · left
        cases t with
        | nil => rw [hc]
        | cons d t =>
          rw [hw] at h4
          have := h4 (by simp only [List.length_cons]; omega)
          subst hc
          exact Bool.noConfusion (show true = false from this)
      · exact .inr ⟨c, t, rfl, hc⟩
  · have := h5 hp
    rw [e] at this
    simp at this
theorem fnd_digits : ∀ (w r : List UInt8), w.all dgt = true → (r = [] ∨ ∃ t, r = 46 :: t) → fnd [46] (w ++ r) = w.length
  | [], r, _, hr => by
    rcases hr with rfl | ⟨t, rfl⟩ <;> rfl
  | c :: w, r, h, hr => by
    rw [List.all_cons, Bool.and_eq_true] at h
    have hc : c ≠ 46 := fun e => by rw [e] at h; exact absurd h.1 (by decide)
    rw [List.cons_append, fnd_cons, if_neg (by simp [List.isPrefixOf, Ne.symm hc]), fnd_digits w r h.2 hr]
    rfl
theorem parse_mkt {n : Bool} {w f : List UInt8} (hw : Wh w) (hf : f.all dgt = true) : neg (mkt n w f) = (n && !(w.all zr && f.all zr)) ∧ wh (mkt n w f) = w ∧ fr (mkt n w f) = f ∧ pt (mkt n w f) = decide (f ≠ []) := by
  have hne : w ≠ [] := by rcases hw.2 with rfl | ⟨c, t, rfl, _⟩ <;> simp
  have hneg : neg (mkt n w f) = (n && !(w.all zr && f.all zr)) := by
    unfold mkt
    cases (n && !(w.all zr && f.all zr)) with
    | true => rfl
    | false =>
      cases w with
      | nil => exact absurd rfl hne
      | cons c t =>
        have h := hw.1
        rw [List.all_cons, Bool.and_eq_true] at h
        have hc : c ≠ 45 := fun e => by rw [e] at h; exact absurd h.1 (by decide)
        simp [neg, List.isPrefixOf, Ne.symm hc]
  have hbod : bod (mkt n w f) = w ++ if f = [] then [] else 46 :: f := by
    unfold bod
    rw [hneg]
    unfold mkt
    cases (n && !(w.all zr && f.all zr)) <;> rfl
  have hfnd : fnd [46] (w ++ if f = [] then [] else 46 :: f) = w.length := by
    refine fnd_digits w _ hw.1 ?_
    split
    · exact .inl rfl
    · exact .inr ⟨f, rfl⟩
  have hpt : pt (mkt n w f) = decide (f ≠ []) := by
    unfold pt
    rw [hbod, hfnd]
    cases f with
    | nil => simp
    | cons a t => simp
  refine ⟨hneg, ?_, ?_, hpt⟩
  · unfold wh
    rw [hbod, hfnd, List.take_left]
  · unfold fr
    rw [hpt, hbod, hfnd]
    cases f with
    | nil => simp
    | cons a t =>
      rw [if_pos (by simp), if_neg (by simp), List.drop_append]
      simp
theorem vld_mkt {n : Bool} {w f : List UInt8} (hw : Wh w) (hw15 : w.length ≤ 15) (hf : f.all dgt = true) (hf6 : f.length ≤ 6) : vld (mkt n w f) = true := by
  obtain ⟨e1, e2, e3, e4⟩ := parse_mkt (n := n) hw hf
  unfold vld
  rw [e1, e2, e3, e4, hw.1, hf]
  have hl : 1 ≤ w.length := by rcases hw.2 with rfl | ⟨c, t, rfl, _⟩ <;> simp
  have h4 : (decide ((w.length : Int) > 1) && ((w.getD 0 0).toNat : Int) == 48) = false := by
    rcases hw.2 with rfl | ⟨c, t, rfl, hc⟩
    · rfl
    · have : (((c :: t).getD 0 0).toNat : Int) = c.toNat := rfl
      rw [this]
      have : ((c.toNat : Int) == 48) = false := by
        rw [beq_eq_false_iff_ne]; intro e
        exact hc (UInt8.toNat_inj.1 (by show c.toNat = 48; omega))
      rw [this, Bool.and_false]
  rw [h4, decide_eq_false (show ¬ ((w.length : Int) < 1) by omega), decide_eq_false (show ¬ ((w.length : Int) > 15) by omega), decide_eq_false (show ¬ ((f.length : Int) > 6) by omega)]
  have h5 : (decide (f ≠ []) && ((f.length : Int) == 0)) = false := by
    cases f with
    | nil => rfl
    | cons a t => simp; omega
  rw [h5]
  cases n <;> cases (w.all zr && f.all zr) <;> rfl
theorem vld_len {s : List UInt8} (h : vld s = true) : s.length ≤ 30 := by
  obtain ⟨_, p2, _, p4, _⟩ := vld_parts h
  have h1 : s.length ≤ (bod s).length + 1 := by
    unfold bod
    split
    · rw [List.length_drop]; omega
    · omega
  have h2 : (bod s).length ≤ (wh s).length + (fr s).length + 1 := by
    have := scan_le (fun l => ([46] : List UInt8).isPrefixOf l) (bod s)
    unfold wh fr pt fnd
    rw [List.length_take]
    split
    · rw [List.length_drop]; omega
    · rename_i h3
      have := of_decide_eq_false (Bool.eq_false_iff.2 h3)
      simp only [List.length_nil]; omega
  omega

/-! ### sizes of what is joined -/
theorem sz_append (c d : Cnd) : sz (c ++ d) = sz c + sz d := by
  unfold sz
  rw [List.map_append, List.sum_append, List.length_append]
  omega
theorem Few_len {N : Nat} {c : Cnd} (S : Sz N c) (h : calqueref08_Few N c = some true) : c.length ≤ 30 := by
  unfold calqueref08_Few at h
  cases ho : iter (fun s => calqueref08_Few_b1 N c s.1 s.2) N ((0 : Int), (0 : Int)) with
  | none => rw [ho] at h; cases h
  | some o =>
    rw [ho] at h
    simp only [Option.bind_some] at h
    cases o with
    | inl _ =>
      simp only [Sum.elim_inl, Option.some.injEq, decide_eq_true_eq] at h
      omega
    | inr b =>
      -- an early end says no
      have key : ∀ (N' : Nat) (s : Int × Int), iter (fun s => calqueref08_Few_b1 N c s.1 s.2) N' s = some (.inr b) → b = false := by
        intro N'
        induction N' with
        | zero => intro s h; cases h
        | succ N' ih =>
          intro s h
          rw [iter] at h
          cases hb : calqueref08_Few_b1 N c s.1 s.2 with
          | none => rw [hb] at h; cases h
          | some r =>
            rw [hb] at h
            cases r with
            | inl s' => exact ih s' h
            | inr x =>
              simp only [Option.some.injEq] at h
              subst h
              unfold calqueref08_Few_b1 at hb
              cases hd : decide (s.2 < (c.length : Int)) with
              | false => rw [hd] at hb; simp at hb
              | true =>
                rw [hd] at hb
                simp only [cond_true] at hb
                obtain ⟨o, _, hb⟩ := bnd hb
                cases hg : decide (o > 80) with
                | false => rw [hg] at hb; simp at hb
                | true => rw [hg] at hb; simp at hb; exact hb
      have := key N _ ho
      subst this
      simp at h
theorem vd_nonempty {c : Cnd} (h : vd c = true) : ∃ r l c', c = (r :: l) :: c' := by
  unfold vd at h
  simp only [Bool.and_eq_true, decide_eq_true_eq] at h
  obtain ⟨h1, h2, _⟩ := h
  cases c with
  | nil => simp at h1
  | cons l c =>
    rw [List.all_cons, Bool.and_eq_true] at h2
    cases l with
    | nil => simp [fine] at h2
    | cons r l => exact ⟨r, l, c, rfl⟩
theorem vd_prp {c : Cnd} (h : vd c = true) : ∀ l ∈ c, ∀ r ∈ l, prp r = true := by
  unfold vd at h
  simp only [Bool.and_eq_true, decide_eq_true_eq] at h
  intro l hl r hr
  have := List.all_eq_true.1 h.2.1 l hl
  unfold fine at this
  rw [Bool.and_eq_true] at this
  exact List.all_eq_true.1 this.2 r hr
theorem vd_one {r : Relation} (h : prp r = true) : vd [[r]] = true := by
  unfold vd fine tot
  simp [h]
  decide
theorem app_some {α : Type} {xs ys : List α} (h : xs.length + ys.length ≤ 4294967296) : app xs ys = some (xs ++ ys) := by unfold app LIM; rw [if_pos h]
theorem hold_not {s : List UInt8} {r : Relation} (r' : Relation) (h1 : r'.Operand = r.Operand) (h2 : r'.Mod = r.Mod) (h3 : r'.Spans = r.Spans) (h4 : r'.Not = !r.Not) : hold s r' = !hold s r := by
  unfold hold red
  rw [h1, h2, h3, h4]
  split
  · generalize ins r.Spans _ = b
    cases b <;> cases r.Not <;> rfl
  · rfl

theorem conditionLogic_law (c d : Cnd) (s : List UInt8) (hs : s.length ≤ LIMS) : ∃ N, calquelaw08_ConditionLogic N c d s = some true := by
  refine ⟨sz c + sz d + s.length + 6000, ?_⟩
  generalize hNN : sz c + sz d + s.length + 6000 = N
  have Sc : Sz N c := Sz.of (by omega)
  have Sd : Sz N d := Sz.of (by omega)
  have aw : calquelaw08_awake N = some true := by rw [show N = (N - 3000) + 3000 by omega]; exact awake_eq _
  unfold calquelaw08_ConditionLogic
  rw [aw]
  simp only [Option.bind_some, Bool.not_true, cond_false]
  obtain ⟨b, hb⟩ := Few_some Sc
  obtain ⟨b', hb'⟩ := Few_some Sd
  rw [hb, hb']
  simp only [Option.bind_some]
  cases b with
  | false => rfl
  | true =>
  cases b' with
  | false => rfl
  | true =>
  simp only [Bool.not_true, cond_false, ref_Valid_c Sc, ref_Valid_c Sd, Option.bind_some, ref_Valid_big hs (show s.length + 1000 ≤ N by omega)]
  cases hvc : vd c with
  | false => rfl
  | true =>
  cases hvd : vd d with
  | false => rfl
  | true =>
  cases hvs : vld s with
  | false => rfl
  | true =>
  have hl := vld_len hvs
  simp only [Bool.not_true, cond_false, Holds_eq Sc (show s.length ≤ 1000 by omega), Holds_eq Sd (show s.length ≤ 1000 by omega), Option.bind_some, hr, hvc, hvd, hvs, Bool.and_self, if_true]
  have hcl := Few_len Sc hb
  have hdl := Few_len Sd hb'
  rw [app_some (show ([] : Cnd).length + c.length ≤ 4294967296 by simp; omega)]
  simp only [Option.bind_some, List.nil_append]
  rw [app_some (show c.length + d.length ≤ 4294967296 by omega)]
  have Scd : Sz N (c ++ d) := Sz.of (by rw [sz_append]; omega)
  obtain ⟨r, l, c', rfl⟩ := vd_nonempty hvc
  have hr1 : prp r = true := vd_prp hvc (r :: l) (by simp) r (by simp)
  have hsp : r.Spans.length < N := Sc.spans (r :: l) (by simp) r (by simp)
  have S1 : Sz N [[r]] := ⟨Sc.n, by simp; have := Sc.n; omega, fun l hl => by simp at hl; subst hl; simp; have := Sc.n; omega, fun l hl x hx => by simp at hl; subst hl; simp at hx; subst hx; exact hsp⟩
  have hr2 : prp (Relation.mk r.Operand r.Mod (!r.Not) r.Spans) = true := hr1
  have S2 : Sz N [[Relation.mk r.Operand r.Mod (!r.Not) r.Spans]] := ⟨Sc.n, by simp; have := Sc.n; omega, fun l hl => by simp at hl; subst hl; simp; have := Sc.n; omega, fun l hl x hx => by simp at hl; subst hl; simp at hx; subst hx; exact hsp⟩
  simp only [Option.bind_some, ref_Valid_c Scd, Holds_eq Scd (show s.length ≤ 1000 by omega), hr, hvs]
  have e1 : idx ((r :: l) :: c') 0 = some (r :: l) := rfl
  have e2 : idx (r :: l) 0 = some r := rfl
  simp only [e1, e2, Option.bind_some, Holds_eq S1 (show s.length ≤ 1000 by omega), Holds_eq S2 (show s.length ≤ 1000 by omega), hr, vd_one hr1, vd_one hr2, hvs, Bool.and_self, if_true]
  have e3 : hd s [[r]] = hold s r := by simp [hd]
  have e4 : hd s [[Relation.mk r.Operand r.Mod (!r.Not) r.Spans]] = !hold s r := by
    simp only [hd, List.any_cons, List.any_nil, List.all_cons, List.all_nil, Bool.and_true, Bool.or_false]
    exact hold_not _ rfl rfl rfl rfl
  rw [e3, e4]
  have e5 : hd s ((r :: l) :: c' ++ d) = (hd s ((r :: l) :: c') || hd s d) := by unfold hd; rw [List.any_append]
  rw [e5]
  cases vd ((r :: l) :: c' ++ d) <;> cases hd s ((r :: l) :: c') <;> cases hd s d <;> cases hold s r <;> rfl

/-! ### the same value -/
theorem opd_of {s t : List UInt8} (hs : vld s = true) (ht : vld t = true) (hw : wh t = wh s) (hf : fr t = fr s) (o : Int) : opd t o = opd s o := by
  unfold opd; rw [hs, ht, hw, hf]
theorem rt_rt (f : List UInt8) : rt (rt f) = rt f := by
  induction f using snoc_ind with
  | h0 => rfl
  | h1 l c ih =>
    rw [rt_snoc]
    split
    · exact ih
    · rename_i h
      rw [rt_snoc, if_neg h]
theorem rt_zr (f : List UInt8) : (rt f).all zr = f.all zr := by
  induction f using snoc_ind with
  | h0 => rfl
  | h1 l c ih =>
    rw [rt_snoc]
    split
    · rename_i h
      rw [ih, List.all_append]; simp [h]
    · rfl
theorem opd_rt {s t : List UInt8} (hs : vld s = true) (ht : vld t = true) (hw : wh t = wh s) (hf : fr t = rt (fr s)) (o : Int) (h3 : o ≠ 3) (h5 : o ≠ 5) : opd t o = opd s o := by
  unfold opd; rw [hs, ht, hw, hf, rt_zr, rt_rt]
  simp only [h3, h5, if_false]
theorem hd_of {s t : List UInt8} {c : Cnd} (h : ∀ l ∈ c, ∀ r ∈ l, opd t r.Operand = opd s r.Operand) : hd t c = hd s c := by
  unfold hd
  have : ∀ l ∈ c, l.all (hold t) = l.all (hold s) := by
    intro l hl
    rw [Bool.eq_iff_iff, List.all_eq_true, List.all_eq_true]
    have e : ∀ r ∈ l, hold t r = hold s r := fun r hr => by unfold hold; rw [h l hl r hr]
    exact ⟨fun k r hr => by rw [← e r hr]; exact k r hr, fun k r hr => by rw [e r hr]; exact k r hr⟩
  rw [Bool.eq_iff_iff, List.any_eq_true, List.any_eq_true]
  exact ⟨fun ⟨l, hl, k⟩ => ⟨l, hl, by rw [← this l hl]; exact k⟩, fun ⟨l, hl, k⟩ => ⟨l, hl, by rw [this l hl]; exact k⟩⟩
theorem ref_Text_eq {N : Nat} {n : Bool} {w f : List UInt8} (hw : w.length ≤ 1000) (hf : f.length ≤ 1000) (hN : 3000 ≤ N) : calqueref07_Text N (Number2.mk n w f) = some (mkt n w f) := by
  unfold calqueref07_Text mkt
  have ho : (bif f != [] then (cat [46] f).bind fun s7 => (cat w s7).bind fun s9 => some s9 else some w) = some (w ++ if f = [] then [] else 46 :: f) := by
    cases f with
    | nil => simp
    | cons a t =>
      rw [show ((a :: t : List UInt8) != []) = true from rfl, cond_true, cat_some (by simp only [List.length_cons, List.length_nil] at *; omega), Option.bind_some, cat_some (by simp only [List.length_append, List.length_cons, List.length_nil] at *; omega)]
      rfl
  rw [ho]
  simp only [Option.bind_some]
  rw [cat_some (by omega)]
  simp only [Option.bind_some]
  rw [ref_Zero_eq (by rw [List.length_append]; omega), List.all_append]
  have hc : cat [45] (w ++ if f = [] then [] else 46 :: f) = some (45 :: (w ++ if f = [] then [] else 46 :: f)) := by
    rw [cat_some (by split <;> simp only [List.length_append, List.length_cons, List.length_nil] <;> omega)]; rfl
  simp only [Option.bind_some, hc]
  cases n <;> cases (w.all zr && f.all zr) <;> rfl
theorem mkt_len (n : Bool) (w f : List UInt8) : (mkt n w f).length ≤ w.length + f.length + 2 := by
  unfold mkt
  split <;> split <;> simp only [List.length_append, List.length_cons, List.length_nil] <;> omega

theorem conditionValues_law (c : Cnd) (s : List UInt8) (hs : s.length ≤ LIMS) : ∃ N, calquelaw08_ConditionValues N c s = some true := by
  refine ⟨sz c + s.length + 6000, ?_⟩
  generalize hNN : sz c + s.length + 6000 = N
  have Sc : Sz N c := Sz.of (by omega)
  have aw : calquelaw08_awake N = some true := by rw [show N = (N - 3000) + 3000 by omega]; exact awake_eq _
  unfold calquelaw08_ConditionValues
  rw [aw]
  simp only [Option.bind_some, Bool.not_true, cond_false]
  obtain ⟨b, hb⟩ := Few_some Sc
  rw [hb]
  simp only [Option.bind_some]
  cases b with
  | false => rfl
  | true =>
  simp only [Bool.not_true, cond_false, ref_Valid_c Sc, Option.bind_some, ref_split_big hs (show s.length + 1000 ≤ N by omega)]
  cases hvc : vd c with
  | false => rfl
  | true =>
  cases hvs : vld s with
  | false => rfl
  | true =>
  have hl := vld_len hvs
  obtain ⟨hw1, hw2, hf1, hf2, _⟩ := vld_parts hvs
  simp only [Bool.not_true, cond_false, if_true]
  rw [ref_Text_eq (by omega) (by omega) (by omega)]
  have hv2 : vld (mkt (!neg s) (wh s) (fr s)) = true := vld_mkt hw1 hw2 hf1 hf2
  obtain ⟨_, p1, p2, _⟩ := parse_mkt (n := !neg s) hw1 hf1
  have hm1 := mkt_len (!neg s) (wh s) (fr s)
  have hrl := rt_len (fr s)
  have hrd := rt_all (fr s) hf1
  have hm2 := mkt_len (neg s) (wh s) (rt (fr s))
  have hv3 : vld (mkt (neg s) (wh s) (rt (fr s))) = true := vld_mkt hw1 hw2 hrd (by omega)
  obtain ⟨_, p3, p4, _⟩ := parse_mkt (n := neg s) hw1 hrd
  simp only [Option.bind_some, Holds_eq Sc (show s.length ≤ 1000 by omega), Holds_eq Sc (show (mkt (!neg s) (wh s) (fr s)).length ≤ 1000 by omega), hr, hvc, hvs, hv2, Bool.and_self, if_true]
  rw [hd_of (s := s) (t := mkt (!neg s) (wh s) (fr s)) (fun l _ r _ => opd_of hvs hv2 p1 p2 _)]
  simp only [show ((0 : Int) != 0) = false from rfl, cond_false, bne_self_eq_false]
  -- the loop over the relations
  have hin : ∀ (l : List Relation), l ∈ c → iter (fun t => calquelaw08_ConditionValues_b2 N l t) N 0 = some (if l.any (fun r => r.Operand == 3 || r.Operand == 5) then .inr true else .inl ()) := by
    intro l hl
    refine iter_anyL (fun r : Relation => r.Operand == 3 || r.Operand == 5) l (fun k r hk => ?_) ?_ N (Sc.lens l hl)
    · unfold calquelaw08_ConditionValues_b2
      simp only [dltx hk, cond_true, idx_some hk, Option.bind_some]
      cases (r.Operand == 3) <;> cases (r.Operand == 5) <;> rfl
    · unfold calquelaw08_ConditionValues_b2
      simp only [dnlt, cond_false]
  have hout : iter (fun t => calquelaw08_ConditionValues_b1 N c t) N 0 = some (if c.any (fun l => l.any (fun r => r.Operand == 3 || r.Operand == 5)) then .inr true else .inl ()) := by
    refine iter_anyL (fun l : List Relation => l.any (fun r => r.Operand == 3 || r.Operand == 5)) c (fun k l hk => ?_) ?_ N Sc.len
    · unfold calquelaw08_ConditionValues_b1
      simp only [dltx hk, cond_true, idx_some hk, Option.bind_some, hin l (List.mem_of_getElem? hk)]
      cases l.any (fun r => r.Operand == 3 || r.Operand == 5) <;> rfl
    · unfold calquelaw08_ConditionValues_b1
      simp only [dnlt, cond_false]
  rw [hout]
  cases hany : c.any (fun l => l.any (fun r => r.Operand == 3 || r.Operand == 5)) with
  | true => rfl
  | false =>
  have hno : ∀ l ∈ c, ∀ r ∈ l, r.Operand ≠ 3 ∧ r.Operand ≠ 5 := by
    intro l hl r hr
    have h1 := List.any_eq_false.1 hany l hl
    rw [Bool.not_eq_true] at h1
    have h2 := List.any_eq_false.1 h1 r hr
    simpa using h2
  have hnorm : calqueref07_Normal N s = some (mkt (neg s) (wh s) (rt (fr s)), 0) := by
    unfold calqueref07_Normal
    rw [ref_split_big hs (show s.length + 1000 ≤ N by omega)]
    simp only [hvs, if_true, Option.bind_some, Bool.not_true, cond_false]
    rw [ref_Trim_eq (by omega) (by omega)]
    simp only [Option.bind_some]
    rw [ref_Text_eq (by omega) (by omega) (by omega)]
    rfl
  simp only [Bool.false_eq_true, if_false, Option.bind_some, Sum.elim_inl, hnorm, Holds_eq Sc (show (mkt (neg s) (wh s) (rt (fr s))).length ≤ 1000 by omega), hr, hvc, hv3, Bool.and_self, if_true]
  rw [hd_of (s := s) (t := mkt (neg s) (wh s) (rt (fr s))) (fun l hl r hr => opd_rt hvs hv3 p3 p4 _ (hno l hl r hr).1 (hno l hl r hr).2)]
  simp
end Go.Proofs.YtbaiahglondepaaGreatDoor
