/- Chapter 34: the laws Names, Damage, Straight. -/
import Derived.Test.YtmghnmfefpeelaaDoorVrf4
set_option linter.unusedVariables false
namespace Go.Proofs.YtmghnmfefpeelaaDoor
open Go.X

theorem chk_ok {c : Code} (h : (chk c).2 = 0) : ∃ f, flw c = .inl f := by
  unfold chk at h
  cases hf : flw c with
  | inl f => exact ⟨f, rfl⟩
  | inr r =>
    rw [hf] at h
    simp only at h
    unfold flw at hf
    cases h1 : nmd c.Names with
    | false => rw [h1] at hf; simp at hf; subst hf; cases h
    | true =>
      cases h2 : bad c.Names.length c.Ins with
      | some k => rw [h1, h2] at hf; simp at hf; subst hf; cases h
      | none =>
        cases h3 : stops c.Ins with
        | false => rw [h1, h2, h3] at hf; simp at hf; subst hf; cases h
        | true =>
          cases h4 : fl c.Ins c.Ins.length 0 (f0 c.Ins.length) with
          | inl f => rw [h1, h2, h3, h4] at hf; simp at hf
          | inr k => rw [h1, h2, h3, h4] at hf; simp at hf; subst hf; cases h
theorem flw_ok {c : Code} {f : Fs} (h : flw c = .inl f) : nmd c.Names = true ∧ bad c.Names.length c.Ins = none ∧ stops c.Ins = true ∧ fl c.Ins c.Ins.length 0 (f0 c.Ins.length) = .inl f := by
  unfold flw at h
  cases h1 : nmd c.Names with
  | false => rw [h1] at h; cases h
  | true =>
    cases h2 : bad c.Names.length c.Ins with
    | some k => rw [h1, h2] at h; cases h
    | none =>
      cases h3 : stops c.Ins with
      | false => rw [h1, h2, h3] at h; cases h
      | true =>
        cases hf : fl c.Ins c.Ins.length 0 (f0 c.Ins.length) with
        | inl f' => rw [h1, h2, h3, hf] at h; cases h; exact ⟨rfl, rfl, rfl, rfl⟩
        | inr k => rw [h1, h2, h3, hf] at h; cases h
theorem flw_of {c : Code} {f : Fs} (h1 : nmd c.Names = true) (h2 : bad c.Names.length c.Ins = none) (h3 : stops c.Ins = true) (h4 : fl c.Ins c.Ins.length 0 (f0 c.Ins.length) = .inl f) : flw c = .inl f := by
  unfold flw
  rw [h1, h2, h3, h4]
  rfl
theorem chk_inl {c : Code} {f : Fs} (h : flw c = .inl f) : chk c = (0, 0) := by unfold chk; rw [h]
theorem argA_mono {nn nn' : Nat} (h : nn ≤ nn') {A : Int} (ha : argA nn A = true) : argA nn' A = true := by
  unfold argA at ha ⊢
  simp only [Bool.and_eq_true, decide_eq_true_eq] at ha ⊢
  omega
theorem prx_mono {nn nn' : Nat} (h : nn ≤ nn') {l : List Ins} {i : Nat} {x : Ins} (hp : prx nn l i x = true) : prx nn' l i x = true := by
  obtain ⟨o, A, B, S⟩ := x
  have ha := fun a => argA_mono h (A := A) a
  rcases op_cases o with e | e | e | e | e | e | e | e | e | e | e | e | e | e
  · subst e; rw [prx_1] at hp ⊢; exact hp
  · subst e; rw [prx_2] at hp ⊢; exact hp
  · subst e; rw [prx_3] at hp ⊢; exact hp
  · subst e; rw [prx_4] at hp ⊢; exact hp
  · subst e; rw [prx_5, Bool.and_eq_true] at hp ⊢; exact ⟨ha hp.1, hp.2⟩
  · subst e; rw [prx_6, Bool.and_eq_true] at hp ⊢; exact ⟨ha hp.1, hp.2⟩
  · subst e; rw [prx_7, Bool.and_eq_true] at hp ⊢; exact ⟨ha hp.1, hp.2⟩
  · subst e; rw [prx_8, Bool.and_eq_true] at hp ⊢; exact ⟨ha hp.1, hp.2⟩
  · subst e; rw [prx_9, Bool.and_eq_true] at hp ⊢; exact ⟨ha hp.1, hp.2⟩
  · subst e; rw [prx_10, Bool.and_eq_true] at hp ⊢; exact ⟨ha hp.1, hp.2⟩
  · subst e; rw [prx_11] at hp ⊢; exact hp
  · subst e; rw [prx_12] at hp ⊢; exact hp
  · subst e; rw [prx_13] at hp ⊢; exact hp
  · rw [prx_out _ _ _ _ e] at hp; cases hp
theorem bad_mono {nn nn' : Nat} (h : nn ≤ nn') {l : List Ins} (hb : bad nn l = none) : bad nn' l = none := by
  rw [bad_none] at hb ⊢
  intro i hi
  have := hb i hi
  unfold prp at this ⊢
  rw [List.getElem?_eq_getElem hi] at this ⊢
  exact prx_mono h this
structure Few1 (N : Nat) (c : Code) : Prop where
  z : Cz N c
  n : c.Names.length ≤ 30
  i : c.Ins.length ≤ 400
theorem verifyNames_law (c : Code) (name : List UInt8) : ∃ N, calquelaw34_VerifyNames N c name = some true := by
  refine ⟨c.Names.length + c.Ins.length + 5000, ?_⟩
  generalize hNN : c.Names.length + c.Ins.length + 5000 = N
  have aw : calquelaw34_awake N = some true := by rw [show N = (N - 3000) + 3000 by omega]; exact awake_eq _
  unfold calquelaw34_VerifyNames
  rw [aw]
  simp only [Option.bind_some, Bool.not_true, cond_false]
  rw [Few_eq (by omega)]
  simp only [Option.bind_some]
  cases hf : few c with
  | false => rfl
  | true =>
    obtain ⟨Z, h1, h2⟩ := few_Cz (N := N) (by omega) hf
    simp only [Bool.not_true, cond_false]
    by_cases hn : name.length ≤ 100
    · rw [decide_eq_false (show ¬ (name.length : Int) > 100 by omega), cond_false, Own_eq Z.il Z.n]
      simp only [Option.bind_some]
      rw [prog_Check Z]
      simp only [Option.bind_some]
      by_cases hc : (chk c).2 = 0
      · rw [hc, show ((0 : Int) != 0) = false from rfl, cond_false]
        rw [app_some (show ([] : List Str).length + c.Names.length ≤ 4294967296 by simp; omega)]
        simp only [Option.bind_some, List.nil_append]
        rw [app_some (show c.Names.length + [name].length ≤ 4294967296 by simp; omega)]
        simp only [Option.bind_some]
        have Z' : Cz N (Code.mk (c.Names ++ [name]) c.Ins) := ⟨Z.n, by simp; omega, Z.il, fun x hx => by
          rcases List.mem_append.1 hx with h | h
          · exact Z.ns x h
          · simp at h; subst h; omega, Z.is⟩
        rw [prog_Check Z', ref_named (l := c.Names ++ [name]) Z'.nl Z'.ns Z.n]
        simp only [Option.bind_some]
        obtain ⟨f, hfl⟩ := chk_ok hc
        obtain ⟨a1, a2, a3, a4⟩ := flw_ok hfl
        cases hm : nmd (c.Names ++ [name]) with
        | true =>
          have : flw (Code.mk (c.Names ++ [name]) c.Ins) = .inl f := flw_of hm (bad_mono (by simp) a2) a3 a4
          rw [chk_inl this]
          rfl
        | false =>
          have : chk (Code.mk (c.Names ++ [name]) c.Ins) = (0, 1) := by unfold chk flw; simp only [hm]; rfl
          rw [this]
          rfl
      · rw [show ((chk c).2 != 0) = true by simp [hc]]
        rfl
    · rw [decide_eq_true (show (name.length : Int) > 100 by omega)]
      rfl

/-! ### damages -/
theorem stops_at {l : List Ins} (h : stops l = true) : ∃ x, l[l.length - 1]? = some x ∧ x.Op = 13 := by
  unfold stops at h
  cases hx : l[l.length - 1]? with
  | none => rw [hx] at h; cases h
  | some x => rw [hx] at h; exact ⟨x, rfl, by simpa using h⟩
theorem prp_stop {nn : Nat} {l : List Ins} {i : Nat} {x : Ins} (hx : l[i]? = some x) (h : x.Op = 13) (hp : prp nn l i = true) : i + 1 = l.length := by
  unfold prp at hp
  rw [hx] at hp
  obtain ⟨o, A, B, S⟩ := x
  simp only at h
  subst h
  simp only at hp
  rw [prx_13] at hp
  simp only [Bool.and_eq_true, beq_iff_eq] at hp
  exact hp.2.2.2
theorem shorter_not {c : Code} {f : Fs} (h : flw c = .inl f) : (chk (Code.mk c.Names (c.Ins.take (c.Ins.length - 1)))).2 ≠ 0 := by
  intro e
  obtain ⟨g, hg⟩ := chk_ok e
  obtain ⟨a1, a2, a3, a4⟩ := flw_ok h
  obtain ⟨b1, b2, b3, b4⟩ := flw_ok hg
  obtain ⟨x, hx, ho⟩ := stops_at b3
  have hlt := getlt hx
  simp only [List.length_take] at hx hlt
  rw [List.getElem?_take_of_lt (by omega)] at hx
  have := prp_stop hx ho (bad_none.1 a2 _ (by omega))
  omega
theorem longer_not {c : Code} {f : Fs} (m : Ins) (h : flw c = .inl f) : (chk (Code.mk c.Names (c.Ins ++ [m]))).2 ≠ 0 := by
  intro e
  obtain ⟨g, hg⟩ := chk_ok e
  obtain ⟨a1, a2, a3, a4⟩ := flw_ok h
  obtain ⟨b1, b2, b3, b4⟩ := flw_ok hg
  obtain ⟨x, hx, ho⟩ := stops_at a3
  have hlt := getlt hx
  have hx' : (c.Ins ++ [m])[c.Ins.length - 1]? = some x := by rw [List.getElem?_append_left hlt]; exact hx
  have := prp_stop hx' ho (bad_none.1 b2 _ (by simp only [List.length_append, List.length_singleton]; omega))
  simp only [List.length_append, List.length_singleton] at this
  omega
theorem back_bad {c : Code} {f : Fs} (h : flw c = .inl f) {k : Nat} {x : Ins} (hx : c.Ins[k]? = some x) (ho : x.Op = 11 ∨ x.Op = 12) {A : Int} (hA : A ≤ k) :
    ∃ j : Nat, chk (Code.mk c.Names (c.Ins.set k (Ins.mk x.Op A x.B x.S))) = ((j : Int), 4) ∧ j ≤ k := by
  obtain ⟨a1, a2, a3, a4⟩ := flw_ok h
  have hlt := getlt hx
  have hy : (c.Ins.set k (Ins.mk x.Op A x.B x.S))[k]? = some (Ins.mk x.Op A x.B x.S) := by simp [hlt]
  have hp : prp c.Names.length (c.Ins.set k (Ins.mk x.Op A x.B x.S)) k = false := by
    unfold prp
    rw [hy]
    have ht : ∀ l : List Ins, tgt l k A = false := fun l => by unfold tgt; rw [decide_eq_false (by omega)]; rfl
    rcases ho with e | e
    · simp only [e]; rw [prx_11, ht, Bool.and_false, Bool.and_false]
    · simp only [e]; rw [prx_12, ht, Bool.and_false, Bool.and_false]
  cases hb : bad c.Names.length (c.Ins.set k (Ins.mk x.Op A x.B x.S)) with
  | none =>
    have := bad_none.1 hb k (by simpa using hlt)
    rw [hp] at this
    cases this
  | some j =>
    obtain ⟨b1, b2, b3⟩ := bad_some hb
    refine ⟨j, ?_, ?_⟩
    · unfold chk flw
      simp only [a1, hb]
      rfl
    · by_cases e : j ≤ k
      · exact e
      · have := b3 k (by omega)
        rw [hp] at this
        cases this
theorem rm_nat {a : Int} {b : Nat} (ha : 0 ≤ a) (hb : 0 < b) : rm a (b : Int) = some ((a.toNat % b : Nat) : Int) := by
  unfold rm
  rw [if_neg (by omega)]
  congr 1
  obtain ⟨n, rfl⟩ : ∃ n : Nat, a = n := ⟨a.toNat, by omega⟩
  rw [Int.tmod_eq_emod_of_nonneg (by omega)]
  simp
theorem verifyDamage_law (c : Code) (more : Ins) (p : Arr2_Int) (h0 : 0 ≤ p.e0 ∧ p.e0 < 65536) (h1 : 0 ≤ p.e1 ∧ p.e1 < 65536) : ∃ N, calquelaw34_VerifyDamage N c more p = some true := by
  refine ⟨c.Names.length + c.Ins.length + 5000, ?_⟩
  generalize hNN : c.Names.length + c.Ins.length + 5000 = N
  have aw : calquelaw34_awake N = some true := by rw [show N = (N - 3000) + 3000 by omega]; exact awake_eq _
  unfold calquelaw34_VerifyDamage
  rw [aw]
  simp only [Option.bind_some, Bool.not_true, cond_false]
  rw [Few_eq (by omega)]
  simp only [Option.bind_some]
  cases hf : few c with
  | false => rfl
  | true =>
    obtain ⟨Z, hn1, hn2⟩ := few_Cz (N := N) (by omega) hf
    simp only [Bool.not_true, cond_false]
    by_cases hn : more.S.length ≤ 300
    · rw [decide_eq_false (show ¬ (more.S.length : Int) > 300 by omega), cond_false, Own_eq Z.il Z.n]
      simp only [Option.bind_some]
      rw [prog_Check Z]
      simp only [Option.bind_some]
      by_cases hc : (chk c).2 = 0
      · obtain ⟨f, hfl⟩ := chk_ok hc
        obtain ⟨a1, a2, a3, a4⟩ := flw_ok hfl
        obtain ⟨z, hz, hzo⟩ := stops_at a3
        have hlen := getlt hz
        rw [hc, show ((0 : Int) != 0) = false from rfl, cond_false, beq_eq_false_iff_ne.2 (show (c.Ins.length : Int) ≠ 0 by omega), cond_false]
        rw [show IntKind.wrap .i64 ((c.Ins.length : Int) - 1) = ((c.Ins.length - 1 : Nat) : Int) by rw [wrap_id (by omega) (by omega)]; omega]
        rw [slc_take (by omega), app_some (show ([] : List Ins).length + c.Ins.length ≤ 4294967296 by simp; omega)]
        simp only [Option.bind_some, List.nil_append]
        rw [app_some (show c.Ins.length + [more].length ≤ 4294967296 by simp; omega)]
        simp only [Option.bind_some]
        have Z1 : Cz N (Code.mk c.Names (c.Ins.take (c.Ins.length - 1))) := ⟨Z.n, Z.nl, by simp only [List.length_take]; omega, Z.ns, fun x hx => Z.is x (List.mem_of_mem_take hx)⟩
        have Z2 : Cz N (Code.mk c.Names (c.Ins ++ [more])) := ⟨Z.n, Z.nl, by simp; omega, Z.ns, fun x hx => by
          rcases List.mem_append.1 hx with h | h
          · exact Z.is x h
          · simp at h; subst h; omega⟩
        rw [prog_Check Z1, prog_Check Z2]
        simp only [Option.bind_some]
        rw [beq_eq_false_iff_ne.2 (shorter_not hfl), cond_false, beq_eq_false_iff_ne.2 (longer_not more hfl), cond_false]
        rw [wrap_id (show -1000000 ≤ p.e0 by omega) (by omega), rm_nat h0.1 (by omega)]
        simp only [Option.bind_some]
        have hk : p.e0.toNat % c.Ins.length < c.Ins.length := Nat.mod_lt _ (by omega)
        generalize p.e0.toNat % c.Ins.length = k at hk ⊢
        have hx := List.getElem?_eq_getElem hk
        generalize c.Ins[k] = x at hx
        rw [idx_some hx]
        simp only [Option.bind_some]
        have hback : ∀ (o : x.Op = 11 ∨ x.Op = 12), ((rm (IntKind.wrap .i64 p.e1) (IntKind.wrap .i64 ((k : Int) + 1))).bind fun q => (some x).bind fun x => (setI c.Ins (k : Int) (Ins.mk x.Op q x.B x.S)).bind fun l => some (Code.mk c.Names l)).bind (fun o => (verify_Check N o).bind fun r => bif (r.2 == 4) then some (decide (r.1 ≤ (k : Int))) else some false) = some true := by
          intro ho
          rw [wrap_id (show -1000000 ≤ p.e1 by omega) (by omega), show IntKind.wrap .i64 ((k : Int) + 1) = ((k + 1 : Nat) : Int) by rw [wrap_id (by omega) (by omega)]; omega, rm_nat h1.1 (by omega)]
          simp only [Option.bind_some]
          rw [setI_some hk]
          simp only [Option.bind_some]
          have hq : p.e1.toNat % (k + 1) < k + 1 := Nat.mod_lt _ (by omega)
          generalize p.e1.toNat % (k + 1) = q at hq
          have Z3 : Cz N (Code.mk c.Names (c.Ins.set k (Ins.mk x.Op (q : Int) x.B x.S))) := ⟨Z.n, Z.nl, by simp only [List.length_set]; exact Z.il, Z.ns, fun y hy => by
            rcases List.mem_or_eq_of_mem_set hy with h | h
            · exact Z.is y h
            · subst h; exact Z.is x (List.mem_of_getElem? hx)⟩
          rw [prog_Check Z3]
          obtain ⟨j, hj, hjk⟩ := back_bad hfl hx ho (A := (q : Int)) (by omega)
          rw [hj]
          simp only [Option.bind_some, show ((4 : Int) == 4) = true from rfl, cond_true]
          rw [decide_eq_true (by omega)]
        by_cases o11 : x.Op = 11
        · have e : (x.Op != 11) = false := by simp [o11]
          rw [e, cond_false]
          exact hback (.inl o11)
        · have e : (x.Op != 11) = true := by simp [o11]
          rw [e, cond_true]
          by_cases o12 : x.Op = 12
          · have e : (x.Op != 12) = false := by simp [o12]
            rw [e, cond_false]
            exact hback (.inr o12)
          · have e : (x.Op != 12) = true := by simp [o12]
            rw [e, cond_true]
      · rw [show ((chk c).2 != 0) = true by simp [hc]]
        rfl
    · rw [decide_eq_true (show (more.S.length : Int) > 300 by omega)]
      rfl

/-! ### straight codes -/
def plain (x : Ins) : Bool := x.Op == 1 || (decide (5 ≤ x.Op) && decide (x.Op ≤ 9))
structure Inv (f : Fs) : Prop where
  c : ∀ j : Nat, f.cl[j]? ≠ some true
  o : ∀ (j : Nat) o, f.op[j]? = some o → o = []
theorem Inv.ld {f : Fs} (I : Inv f) (j : Nat) : Inv (ldF j [] f) := by
  unfold ldF
  split
  · refine ⟨fun k => ?_, I.o⟩
    simp only
    rw [List.getElem?_set]
    have h1 : f.cl[j]?.getD false = false := by
      have := I.c j
      cases h : f.cl[j]? with
      | none => rfl
      | some b => cases b with
        | false => rfl
        | true => rw [h] at this; exact absurd rfl this
    have h2 : f.op[j]?.getD [] = [] := by
      cases h : f.op[j]? with
      | none => rfl
      | some o => exact I.o j o h
    rw [h1, h2]
    split
    · split <;> simp
    · exact I.c k
  · refine ⟨I.c, fun k o h => ?_⟩
    simp only at h
    rw [List.getElem?_set] at h
    split at h
    · split at h
      · simp at h; exact h
      · cases h
    · exact I.o k o h
theorem straight_fl {l : List Ins} (hl : ∀ x ∈ l, plain x = true ∨ x.Op = 13) : ∀ (m i : Nat) (f : Fs), i + m = l.length → Inv f → ∃ f', fl l m i f = .inl f'
  | 0, i, f, _, I => ⟨f, rfl⟩
  | m + 1, i, f, hi, I => by
    have hlt : i < l.length := by omega
    have hx := List.getElem?_eq_getElem hlt
    rw [fl, hx]
    split
    · have ho : f.op[i]?.getD [] = [] := by
        cases h : f.op[i]? with
        | none => rfl
        | some o => exact I.o i o h
      have hm := hl l[i] (List.getElem_mem hlt)
      generalize l[i] = x at *
      have h2 : x.Op ≠ 2 ∧ x.Op ≠ 3 ∧ x.Op ≠ 10 ∧ x.Op ≠ 12 := by
        rcases hm with h | h
        · unfold plain at h
          simp only [Bool.or_eq_true, beq_iff_eq, Bool.and_eq_true, decide_eq_true_eq] at h
          omega
        · omega
      have ha : act x [] = some [] := by
        unfold act
        rw [if_neg h2.1, if_neg h2.2.1]
        split <;> rfl
      have hs : stp l i x f = some ((nx l i x).foldl (fun f t => ldF t.toNat [] f) f) := by
        unfold stp
        rw [if_neg (I.c i), ho, ha]
        rfl
      simp only [hs]
      refine straight_fl hl m (i + 1) _ (by omega) ?_
      unfold nx
      rw [if_neg h2.2.2.1, if_neg h2.2.2.2]
      split
      · exact I
      · exact I.ld _
    · exact straight_fl hl m (i + 1) f (by omega) I
theorem f0_inv (n : Nat) : Inv (f0 n) := by
  refine ⟨fun j h => ?_, fun j o h => ?_⟩
  · unfold f0 at h
    simp only [List.getElem?_replicate] at h
    split at h <;> cases h
  · unfold f0 at h
    simp only [List.getElem?_replicate] at h
    split at h <;> cases h
    rfl
theorem fold_filter (p : Ins → Bool) : ∀ (xs acc : List Ins), xs.foldl (fun s x => if p x then s ++ [x] else s) acc = acc ++ xs.filter p
  | [], acc => by simp
  | x :: xs, acc => by
    rw [List.foldl_cons, fold_filter p xs]
    cases h : p x <;> simp [h]
theorem fold_all (nn : Nat) (l : List Ins) : ∀ (ys : List Ins) (b : Bool) (k : Nat), (ys.foldl (fun (s : Bool × Nat) _ => (s.1 && prp nn l s.2, s.2 + 1)) (b, k)).1 = (b && match run (fP nn l) (fun _ => .inl ()) k ys with | .inl _ => true | .inr _ => false)
  | [], b, k => by simp [run]
  | y :: ys, b, k => by
    rw [List.foldl_cons, fold_all nn l ys, run]
    unfold fP
    cases h : prp nn l k with
    | true => simp
    | false => simp
theorem verifyStraight_law (c : Code) : ∃ N, calquelaw34_VerifyStraight N c = some true := by
  refine ⟨c.Names.length + c.Ins.length + 5000, ?_⟩
  generalize hNN : c.Names.length + c.Ins.length + 5000 = N
  have aw : calquelaw34_awake N = some true := by rw [show N = (N - 3000) + 3000 by omega]; exact awake_eq _
  unfold calquelaw34_VerifyStraight
  rw [aw]
  simp only [Option.bind_some, Bool.not_true, cond_false]
  rw [Few_eq (by omega)]
  simp only [Option.bind_some]
  cases hf : few c with
  | false => rfl
  | true =>
    obtain ⟨Z, hn1, hn2⟩ := few_Cz (N := N) (by omega) hf
    simp only [Bool.not_true, cond_false]
    have h := iter_list (body := fun s => calquelaw34_VerifyStraight_b1 N c s.1 s.2) (σ := List Ins) (fun s k => (k, Code.mk c.Names s)) c.Ins (fun s x => .inl (if plain x then s ++ [x] else s)) (fun s => Code.mk c.Names s) (fun k s => s.length ≤ k) (fun s k x hk hs => ?_) (fun s hs => ?_) N [] (by omega) (by simp)
    · rw [h, run_fold, fold_filter]
      simp only [Option.bind_some, List.nil_append]
      have hfl := List.length_filter_le plain c.Ins
      rw [app_some (show (c.Ins.filter plain).length + [Ins.mk 13 0 0 []].length ≤ 4294967296 by simp; omega)]
      simp only [Option.bind_some]
      generalize hl : c.Ins.filter plain ++ [Ins.mk 13 0 0 []] = l
      have hll : l.length ≤ 401 := by rw [← hl]; simp; omega
      have hlp : ∀ x ∈ l, plain x = true ∨ x.Op = 13 := by
        intro x hx
        rw [← hl] at hx
        rcases List.mem_append.1 hx with h | h
        · exact .inl (List.mem_filter.1 h).2
        · simp at h; subst h; exact .inr rfl
      have hls : stops l = true := by
        unfold stops
        rw [← hl, List.length_append, List.length_singleton, Nat.add_sub_cancel, List.getElem?_append_right (Nat.le_refl _), Nat.sub_self]
        rfl
      have Z' : Cz N (Code.mk c.Names l) := ⟨Z.n, Z.nl, by simp only; omega, Z.ns, fun x hx => by
        simp only at hx
        rw [← hl] at hx
        rcases List.mem_append.1 hx with h | h
        · exact Z.is x (List.mem_filter.1 h).1
        · simp at h; subst h; simp⟩
      rw [Own_eq Z'.il Z'.n, ref_named Z.nl Z.ns Z.n]
      simp only [Option.bind_some]
      have hb := iter_list (body := fun s => calquelaw34_VerifyStraight_b2 N l (Code.mk c.Names l) s.1 s.2) (σ := Bool × Nat) (fun s k => (s.1, k)) l (fun s _ => .inl (s.1 && prp c.Names.length l s.2, s.2 + 1)) (fun s => s.1) (fun k s => s.2 = k) (fun s k x hk hs => ?_) (fun s hs => ?_) N (nmd c.Names, 0) (by omega) rfl
      · rw [hb, run_fold, fold_all, prog_Check Z']
        simp only [Option.bind_some, Option.some.injEq]
        have hbad : (match run (fP c.Names.length l) (fun _ => .inl ()) 0 l with | .inl _ => true | .inr _ => false) = (bad c.Names.length l).isNone := by
          unfold bad
          cases run (fP c.Names.length l) (fun _ => .inl ()) 0 l <;> rfl
        rw [hbad]
        cases hm : nmd c.Names with
        | false =>
          have : chk (Code.mk c.Names l) = (0, 1) := by unfold chk flw; simp only [hm]; rfl
          rw [this]; rfl
        | true =>
          cases hbb : bad c.Names.length l with
          | some k =>
            have : chk (Code.mk c.Names l) = ((k : Int), 4) := by unfold chk flw; simp only [hm, hbb]; rfl
            rw [this]; rfl
          | none =>
            obtain ⟨f', hf'⟩ := straight_fl hlp l.length 0 (f0 l.length) (by omega) (f0_inv _)
            have : flw (Code.mk c.Names l) = .inl f' := flw_of hm hbb hls hf'
            rw [chk_inl this]; rfl
      · constructor
        · show calquelaw34_VerifyStraight_b2 N l (Code.mk c.Names l) s.1 k = _
          unfold calquelaw34_VerifyStraight_b2
          simp only [dltx hk, cond_true, prog_Proper Z', Option.bind_some]
          rw [hs]
          cases s.1 <;> rfl
        · intro s' h
          cases h
          simp [hs]
      · show calquelaw34_VerifyStraight_b2 N l (Code.mk c.Names l) s.1 l.length = _
        unfold calquelaw34_VerifyStraight_b2
        simp only [dnlt, cond_false]
    · have hlt := getlt hk
      constructor
      · show calquelaw34_VerifyStraight_b1 N c k (Code.mk c.Names s) = _
        unfold calquelaw34_VerifyStraight_b1 plain
        simp only [dltx hk, cond_true, idx_some hk, Option.bind_some, app_some (show s.length + [x].length ≤ 4294967296 by simp; omega)]
        have e : decide (x.Op ≥ 5) = decide (5 ≤ x.Op) := rfl
        rw [e]
        cases (x.Op == 1) <;> cases decide (5 ≤ x.Op) <;> cases decide (x.Op ≤ 9) <;> rfl
      · intro s' h
        cases h
        split
        · simp; omega
        · omega
    · show calquelaw34_VerifyStraight_b1 N c c.Ins.length (Code.mk c.Names s) = _
      unfold calquelaw34_VerifyStraight_b1
      simp only [dnlt, cond_false]
theorem u16_of {x : Int} (h : InR .u16 x) : 0 ≤ x ∧ x < 65536 := by
  have h2 : (0 : Int) ≤ x ∧ x ≤ 65535 := h
  omega
end Go.Proofs.YtmghnmfefpeelaaDoor
