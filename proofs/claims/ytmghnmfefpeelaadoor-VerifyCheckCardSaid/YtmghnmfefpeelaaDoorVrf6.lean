/- Chapter 34: the ways of the reference keep what the program's loop keeps; the law Check. -/
import Derived.Test.YtmghnmfefpeelaaDoorVrf4
import Derived.Test.YtmghnmfefpeelaaDoorExt34c
set_option linter.unusedVariables false
namespace Go.Proofs.YtmghnmfefpeelaaDoor
open Go.X

theorem same_eq {N : Nat} {a b : Stk} (hN : a.length < N) : calqueref34_same N a b = some (a == b) := by
  unfold calqueref34_same
  by_cases hl : a.length = b.length
  · rw [show ((a.length : Int) != (b.length : Int)) = false by simp [hl], cond_false]
    have h := iter_list (body := fun s => calqueref34_same_b1 N a b s) (σ := Nat) (fun i k => k) a (fun k x => if b[k]? = some x then .inl (k + 1) else .inr (.inr false)) (fun _ => .inl ()) (fun i k => k = i) (fun k i x hi hk => ?_) (fun k hk => ?_) N 0 (by omega) rfl
    · rw [h]
      have e : ∀ (xs ys : Stk) (k : Nat), (∀ i, b[k + i]? = ys[i]?) → xs.length = ys.length → run (σ := Nat) (β := Unit ⊕ Bool) (fun k x => if b[k]? = some x then .inl (k + 1) else .inr (.inr false)) (fun _ => .inl ()) k xs = if xs == ys then .inl () else .inr false := by
        intro xs
        induction xs with
        | nil => intro ys k h1 h2; cases ys with
          | nil => rfl
          | cons y ys => simp at h2
        | cons x xs ih =>
          intro ys k h1 h2
          cases ys with
          | nil => simp at h2
          | cons y ys =>
            have h0 := h1 0
            simp only [Nat.add_zero, List.getElem?_cons_zero] at h0
            rw [run, h0]
            by_cases hxy : y = x
            · subst hxy
              simp only [if_true]
              rw [ih ys (k + 1) (fun i => by have := h1 (i + 1); rw [List.getElem?_cons_succ] at this; rw [← this]; congr 1; omega) (by simpa using h2)]
              simp
            · rw [if_neg (by simpa using hxy)]
              simp [Ne.symm hxy]
      rw [e a b 0 (fun i => by rw [Nat.zero_add]) hl]
      cases (a == b) <;> rfl
    · subst hk
      constructor
      · show calqueref34_same_b1 N a b k = _
        have hlt : k < b.length := by have := getlt hi; omega
        unfold calqueref34_same_b1
        simp only [dltx hi, cond_true, idx_some hi, idx_some (List.getElem?_eq_getElem hlt), Option.bind_some]
        rw [List.getElem?_eq_getElem hlt]
        by_cases hx : b[k] = x
        · rw [show (x != b[k]) = false by simp [hx], if_pos (by rw [hx])]; rfl
        · rw [show (x != b[k]) = true by simp [Ne.symm hx], if_neg (by simpa using hx)]; rfl
      · intro s' h
        split at h
        · cases h; rfl
        · cases h
    · show calqueref34_same_b1 N a b a.length = _
      unfold calqueref34_same_b1
      simp only [dnlt, cond_false]
  · rw [show ((a.length : Int) != (b.length : Int)) = true by simp only [bne_iff_ne, ne_eq]; omega, cond_true]
    have : (a == b) = false := beq_eq_false_iff_ne.2 (fun e => hl (by rw [e]))
    rw [this]
theorem Next_eq {N nn : Nat} {c : Code} (Z : Cz N c) {i : Nat} {x : Ins} (hx : c.Ins[i]? = some x) : calqueref34_Next N c i = some (nx c.Ins i x) := by
  have hn := Z.n
  have hil := Z.il
  have hlt := getlt hx
  have hw : IntKind.wrap .i64 ((i : Int) + 1) = ((i + 1 : Nat) : Int) := by rw [wrap_id (by omega) (by omega)]; omega
  unfold calqueref34_Next nx
  rw [hw]
  simp only [idx_some hx, Option.bind_some]
  by_cases h10 : x.Op = 10
  · rw [beq_iff_eq.2 h10, cond_true, if_pos h10]
    have h := iter_tw (body := fun s => calqueref34_Next_b1 N c s.1 s.2) (σ := List Int) (fun s k => (s, k)) c.Ins isC (fun s x => .inl (s ++ [x.A])) (fun s => s) (fun k s => s.length ≤ k) (fun s k y hk hp hs => ?_) (fun s k y hk hp hs => ?_) (fun s hs => ?_) N [] (i + 1) (by omega) (by omega) (by simp)
    · rw [h, run_fold]
      have e : ∀ (xs : List Ins) (acc : List Int), xs.foldl (fun s x => s ++ [x.A]) acc = acc ++ xs.map (·.A) := by
        intro xs
        induction xs with
        | nil => intro acc; simp
        | cons y ys ih => intro acc; rw [List.foldl_cons, ih]; simp
      rw [e]
      rfl
    · have := getlt hk
      constructor
      · show calqueref34_Next_b1 N c s k = _
        unfold calqueref34_Next_b1
        simp only [dltx hk, cond_true, idx_some hk, Option.bind_some, app_some (show s.length + [y.A].length ≤ 4294967296 by simp; omega)]
        rw [show (y.Op == 11) = true from hp]
        rfl
      · intro s' h
        cases h; simp; omega
    · show calqueref34_Next_b1 N c s k = _
      unfold calqueref34_Next_b1
      simp only [dltx hk, cond_true, idx_some hk, Option.bind_some]
      rw [show (y.Op == 11) = false from hp]
      rfl
    · show calqueref34_Next_b1 N c s c.Ins.length = _
      unfold calqueref34_Next_b1
      simp only [dnlt, cond_false]
  · rw [beq_eq_false_iff_ne.2 h10, cond_false, if_neg h10]
    by_cases h12 : x.Op = 12
    · rw [beq_iff_eq.2 h12, cond_true, if_pos h12]
    · rw [beq_eq_false_iff_ne.2 h12, cond_false, if_neg h12]
      by_cases h13 : x.Op = 13
      · rw [beq_iff_eq.2 h13, cond_true, if_pos h13]
      · rw [beq_eq_false_iff_ne.2 h13, cond_false, if_neg h13]
/-- The reference's state and the program's. -/
structure At (f : Fs) (l : List Way) (j : Nat) : Prop where
  h : ∃ b cl o w, f.re[j]? = some b ∧ f.cl[j]? = some cl ∧ f.op[j]? = some o ∧ l[j]? = some w ∧ w.reached = b ∧ (b = true → cl = false → w.open_ = o.reverse) ∧ w.open_.length ≤ j
structure Rl (n : Nat) (f : Fs) (l : List Way) (d : List Bool) : Prop where
  w : Wf n f
  ll : l.length = n
  dd : d = f.cl
  a : ∀ j, j < n → At f l j
def ldR (j : Nat) (o : Stk) (s : List Way × List Bool) : List Way × List Bool :=
  (s.1.set j (Way.mk true o), s.2.set j (s.2[j]?.getD false || (match s.1[j]? with | some w => w.reached && !(w.open_ == o) | none => false)))
theorem rev_beq (a b : Stk) : (a.reverse == b.reverse) = (a == b) := by
  rw [Bool.eq_iff_iff, beq_iff_eq, beq_iff_eq]
  exact List.reverse_inj
theorem set_same {α : Type} {l : List α} {j : Nat} {v : α} (h : l[j]? = some v) : l.set j v = l := by
  apply List.ext_getElem?
  intro k
  rw [List.getElem?_set]
  split
  · next e => subst e; rw [if_pos (getlt h), h]
  · rfl
theorem Rl.ld {n : Nat} {f : Fs} {l : List Way} {d : List Bool} (R : Rl n f l d) {j : Nat} (hj : j < n) {o : Stk} (ho : o.length ≤ j) : Rl n (ldF j o f) (ldR j o.reverse (l, d)).1 (ldR j o.reverse (l, d)).2 := by
  obtain ⟨b, cl, p, w, h1, h2, h3, h4, h5, h6, h7⟩ := (R.a j hj).h
  have hd := R.dd
  subst hd
  unfold ldR
  simp only [h2, h4, Option.getD_some]
  refine ⟨ldF_wf R.w _ _, by simp [R.ll], ?_, ?_⟩
  · unfold ldF
    rw [h1, h2, h3]
    simp only [Option.some.injEq, Option.getD_some]
    cases b with
    | false =>
      simp only [Bool.false_eq_true, if_false]
      rw [h5, Bool.false_and, Bool.or_false]
      exact set_same h2
    | true =>
      simp only [if_true]
      rw [h5, Bool.true_and]
      cases cl with
      | true => rfl
      | false => rw [h6 rfl rfl, rev_beq]
  · intro k hk
    by_cases e : j = k
    · subst e
      refine ⟨?_⟩
      unfold ldF
      rw [h1, h2, h3]
      simp only [Option.some.injEq, Option.getD_some]
      have hjl : j < l.length := by rw [R.ll]; exact hj
      have hjo : j < f.op.length := by rw [R.w.o]; exact hj
      have hjr : j < f.re.length := by rw [R.w.r]; exact hj
      have hjc : j < f.cl.length := by rw [R.w.c]; exact hj
      cases b with
      | false =>
        refine ⟨true, cl, o, Way.mk true o.reverse, ?_, ?_, ?_, ?_, rfl, fun _ _ => rfl, by simpa using ho⟩
        · simp [hjr]
        · simp [h2]
        · simp [hjo]
        · simp [hjl]
      | true =>
        refine ⟨true, cl || !(p == o), p, Way.mk true o.reverse, ?_, ?_, ?_, ?_, rfl, fun _ hc => ?_, by simpa using ho⟩
        · simp [h1]
        · simp [hjc]
        · simp [h3]
        · simp [hjl]
        · cases cl with
          | true => cases hc
          | false =>
            have : p = o := by simpa using hc
            rw [this]
    · obtain ⟨b', cl', p', w', g1, g2, g3, g4, g5, g6, g7⟩ := (R.a k hk).h
      refine ⟨b', cl', p', w', ?_, ?_, ?_, ?_, g5, g6, g7⟩
      · unfold ldF; split
        · exact g1
        · rw [List.getElem?_set_ne e]; exact g1
      · unfold ldF; split
        · rw [List.getElem?_set_ne e]; exact g2
        · exact g2
      · unfold ldF; split
        · exact g3
        · rw [List.getElem?_set_ne e]; exact g3
      · rw [List.getElem?_set_ne e]; exact g4
theorem Rl.fold {n : Nat} {o : Stk} : ∀ (ts : List Int) (f : Fs) (l : List Way) (d : List Bool), Rl n f l d → (∀ t ∈ ts, (o.length : Int) ≤ t ∧ t < n) →
    Rl n (ts.foldl (fun f t => ldF t.toNat o f) f) (ts.foldl (fun s t => ldR t.toNat o.reverse s) (l, d)).1 (ts.foldl (fun s t => ldR t.toNat o.reverse s) (l, d)).2
  | [], f, l, d, R, _ => R
  | t :: ts, f, l, d, R, h => by
    have ht := h t (by simp)
    exact Rl.fold ts _ _ _ (R.ld (j := t.toNat) (by omega) (by omega)) (fun u hu => h u (by simp [hu]))
theorem b2_eq {N n : Nat} {o : Stk} {ts : List Int} (ht : ∀ t ∈ ts, (o.length : Int) ≤ t ∧ t < n) (hts : ts.length < N) (hn : n ≤ 1000) (hN : 3000 ≤ N) {f : Fs} {l : List Way} {d : List Bool} (R : Rl n f l d) :
    iter (fun s => calqueref34_ways_b2 N o.reverse ts s.1 s.2.1 s.2.2) N (0, l, d) = some (ts.foldl (fun s t => ldR t.toNat o.reverse s) (l, d)) := by
  have h := iter_list (body := fun s => calqueref34_ways_b2 N o.reverse ts s.1 s.2.1 s.2.2) (σ := List Way × List Bool) (fun s k => (k, s.1, s.2)) ts (fun s t => .inl (ldR t.toNat o.reverse s)) (fun s => s) (fun k s => ∃ f, Rl n f s.1 s.2) (fun s k t hk hs => ?_) (fun s hs => ?_) N (l, d) hts ⟨f, R⟩
  · rw [h, run_fold]
  · have hr := ht t (List.mem_of_getElem? hk)
    have he : t = (t.toNat : Int) := by omega
    obtain ⟨f, R⟩ := hs
    obtain ⟨l, d⟩ := s
    simp only at R
    have hd := R.dd
    subst hd
    generalize ht' : t.toNat = j at *
    have hj : j < n := by omega
    obtain ⟨b, cl, p, w, h1, h2, h3, h4, h5, h6, h7⟩ := (R.a j hj).h
    have hjl : j < l.length := by rw [R.ll]; exact hj
    have hjc : j < f.cl.length := by rw [R.w.c]; exact hj
    constructor
    · show calqueref34_ways_b2 N o.reverse ts k l f.cl = _
      unfold calqueref34_ways_b2 ldR
      simp only [dltx hk, cond_true, idx_some hk, Option.bind_some]
      rw [he]
      simp only [idx_some h2, idx_some h4, Option.bind_some, setI_some hjl, setI_some hjc, h2, h4, Option.getD_some]
      rw [same_eq (show w.open_.length < N by omega)]
      cases cl with
      | true => rfl
      | false =>
        cases hw : w.reached with
        | true => simp
        | false => simp
    · intro s' h
      cases h
      exact ⟨_, R.ld hj (by omega)⟩
  · show calqueref34_ways_b2 N o.reverse ts ts.length s.1 s.2 = _
    unfold calqueref34_ways_b2
    simp only [dnlt, cond_false]
theorem act_len {x : Ins} {o o' : Stk} (h : act x o = some o') : o'.length ≤ o.length + 1 := by
  unfold act at h
  split at h
  · cases h; simp
  · split at h
    · cases o with
      | nil => cases h
      | cons s r =>
        simp only at h
        split at h
        · cases h; simp; omega
        · cases h
    · split at h
      · cases o with
        | nil => cases h; simp
        | cons s r => cases h
      · cases h; omega
theorem ways_loop {N nn : Nat} {c : Code} (Z : Cz N c) (P : Pp nn c.Ins) : ∀ (m i M : Nat) (f : Fs) (l : List Way) (d : List Bool), i + m = c.Ins.length → m < M → Rl c.Ins.length f l d →
    ∃ r, iter (fun s => calqueref34_ways_b1 N c s.1 s.2.1 s.2.2) M ((i : Int), l, d) = some r ∧ (match fl c.Ins m i f with | .inl f' => ∃ l', r = .inl l' ∧ l'.map (·.reached) = f'.re | .inr k => ∃ l', r = .inr (l', (k : Int))) := by
  intro m
  induction m with
  | zero =>
    intro i M f l d hi hM R
    obtain ⟨M, rfl⟩ : ∃ K, M = K + 1 := ⟨M - 1, by omega⟩
    obtain rfl : i = c.Ins.length := by omega
    rw [iter]
    dsimp only
    unfold calqueref34_ways_b1
    simp only [dnlt, cond_false]
    refine ⟨_, rfl, l, rfl, ?_⟩
    apply List.ext_getElem?
    intro j
    by_cases hj : j < c.Ins.length
    · obtain ⟨b, cl, p, w, h1, h2, h3, h4, h5, h6, h7⟩ := (R.a j hj).h
      rw [List.getElem?_map, h4, h1]
      simp [h5]
    · rw [List.getElem?_eq_none (by rw [List.length_map, R.ll]; omega), List.getElem?_eq_none (by rw [R.w.r]; omega)]
  | succ m ih =>
    intro i M f l d hi hM R
    obtain ⟨M, rfl⟩ : ∃ K, M = K + 1 := ⟨M - 1, by omega⟩
    have hn := Z.n
    have hil := Z.il
    have hlt : i < c.Ins.length := by omega
    have hx := List.getElem?_eq_getElem hlt
    generalize c.Ins[i] = x at hx
    have hd := R.dd
    subst hd
    obtain ⟨b, cl, p, w, h1, h2, h3, h4, h5, h6, h7⟩ := (R.a i hlt).h
    rw [iter]
    dsimp only
    unfold calqueref34_ways_b1
    rw [fl, hx, h1]
    simp only [dlt hlt, cond_true, idx_some h4, idx_some h2, idx_some hx, Option.bind_some, Option.some.injEq, h5]
    cases b with
    | false =>
      simp only [Bool.not_false, cond_true, Bool.false_eq_true, if_false]
      rw [show ((i : Int) + 1) = ((i + 1 : Nat) : Int) by omega]
      exact ih (i + 1) M f l f.cl (by omega) (by omega) R
    | true =>
      simp only [Bool.not_true, cond_false, if_true]
      have hstp : stp c.Ins i x f = if cl = true then none else (act x p).map fun o => (nx c.Ins i x).foldl (fun f t => ldF t.toNat o f) f := by
        unfold stp
        rw [h2, h3]
        simp
      rw [hstp]
      cases cl with
      | true => exact ⟨_, rfl, l, rfl⟩
      | false =>
        have hw := h6 rfl rfl
        have hp : p.length ≤ i := by rw [hw, List.length_reverse] at h7; exact h7
        simp only [cond_false, Bool.false_eq_true, if_false]
        have hact : (show Option (((List (List UInt8))) ⊕ ((List (Way)) × Int)) from
          bif (x.Op == 2) then
            (show Option ((List (List UInt8))) from
              (app ([] : List (List UInt8)) w.open_).bind fun l123 =>
              (app l123 ([x.S] : List (List UInt8))).bind fun l131 =>
              some l131).bind fun o116 =>
            some (.inl o116)
          else
            bif (x.Op == 3) then
              bif ((w.open_.length : Int) == 0) then
                some (.inr (l, (i : Int)))
              else
                (idx w.open_ (IntKind.wrap .i64 ((w.open_.length : Int) - 1))).bind fun x178 =>
                (show Option Bool from
                  bif (x178 != x.S) then
                    some (x178 != x.S)
                  else
                    bif (x.Op == 13) then
                      some (decide ((w.open_.length : Int) > 0))
                    else
                      some false).bind fun o188 =>
                bif o188 then
                  some (.inr (l, (i : Int)))
                else
                  bif (x.Op == 3) then
                    (slc w.open_ 0 (IntKind.wrap .i64 ((w.open_.length : Int) - 1))).bind fun l195 =>
                    some (.inl l195)
                  else
                    some (.inl w.open_)
            else
              bif (x.Op == 13) then
                bif (decide ((w.open_.length : Int) > 0)) then
                  some (.inr (l, (i : Int)))
                else
                  bif (x.Op == 3) then
                    (slc w.open_ 0 (IntKind.wrap .i64 ((w.open_.length : Int) - 1))).bind fun l205 =>
                    some (.inl l205)
                  else
                    some (.inl w.open_)
              else
                bif (x.Op == 3) then
                  (slc w.open_ 0 (IntKind.wrap .i64 ((w.open_.length : Int) - 1))).bind fun l211 =>
                  some (.inl l211)
                else
                  some (.inl w.open_)) = some (match act x p with | some o => .inl o.reverse | none => .inr (l, (i : Int))) := by
          rw [hw]
          unfold act
          by_cases e2 : x.Op = 2
          · rw [e2]
            simp only [show ((2 : Int) == 2) = true from rfl, cond_true, if_true]
            rw [app_some (show ([] : Stk).length + p.reverse.length ≤ 4294967296 by simp; omega)]
            simp only [Option.bind_some, List.nil_append]
            rw [app_some (show p.reverse.length + [x.S].length ≤ 4294967296 by simp; omega)]
            simp
          · rw [beq_eq_false_iff_ne.2 e2, cond_false, if_neg e2]
            by_cases e3 : x.Op = 3
            · rw [e3]
              simp only [show ((3 : Int) == 3) = true from rfl, show ((3 : Int) == 13) = false from rfl, cond_true, cond_false, if_true]
              cases p with
              | nil => rfl
              | cons s r =>
                have hlen : (s :: r).reverse.length = r.length + 1 := by simp
                simp only [List.length_cons] at hp
                have hwr : IntKind.wrap .i64 ((((s :: r).reverse.length : Nat) : Int) - 1) = (r.length : Int) := by rw [hlen, wrap_id (by omega) (by omega)]; omega
                rw [hwr, beq_eq_false_iff_ne.2 (show (((s :: r).reverse.length : Nat) : Int) ≠ 0 by rw [hlen]; omega), cond_false]
                have hi : (s :: r).reverse[r.length]? = some s := by
                  rw [List.reverse_cons, List.getElem?_append_right (by simp)]
                  simp
                rw [idx_some hi, slc_take (by rw [hlen]; omega)]
                simp only [Option.bind_some]
                have ht : (s :: r).reverse.take r.length = r.reverse := by
                  rw [List.reverse_cons, List.take_append_of_le_length (by simp), List.take_of_length_le (by simp)]
                rw [ht]
                by_cases hs : s = x.S
                · rw [show (s != x.S) = false by simp [hs], if_pos hs]; rfl
                · rw [show (s != x.S) = true by simp [hs], if_neg hs]; rfl
            · rw [beq_eq_false_iff_ne.2 e3, cond_false, if_neg e3]
              by_cases e13 : x.Op = 13
              · rw [beq_iff_eq.2 e13, cond_true, if_pos e13]
                cases p with
                | nil => rfl
                | cons s r =>
                  rw [decide_eq_true (show (((s :: r).reverse.length : Nat) : Int) > 0 by simp)]
                  rfl
              · rw [beq_eq_false_iff_ne.2 e13, cond_false, if_neg e13]
                rfl
        simp only at hact
        rw [hact]
        cases ha : act x p with
        | none => exact ⟨_, rfl, l, rfl⟩
        | some o' =>
          have ho' := act_len ha
          have hnx := nx_lt P hx
          have hts : ∀ t ∈ nx c.Ins i x, (o'.length : Int) ≤ t ∧ t < c.Ins.length := fun t ht => by have := hnx t ht; omega
          have hnl : (nx c.Ins i x).length < N := by
            unfold nx
            have := csl_len c.Ins i
            split
            · rw [List.length_map]; omega
            · split
              · simp; omega
              · split
                · simp; omega
                · simp; omega
          simp only [Option.bind_some, Sum.elim_inl, Option.map_some]
          rw [Next_eq (nn := nn) Z hx]
          simp only [Option.bind_some]
          rw [b2_eq hts hnl Z.il Z.n R]
          simp only [Option.bind_some]
          rw [show ((i : Int) + 1) = ((i + 1 : Nat) : Int) by omega]
          exact ih (i + 1) M _ _ _ (by omega) (by omega) (Rl.fold (o := o') (nx c.Ins i x) f l f.cl R hts)
theorem ref_ways {N nn : Nat} {c : Code} (Z : Cz N c) (P : Pp nn c.Ins) (hpos : 0 < c.Ins.length) : ∃ l a, calqueref34_ways N c = some (l, a) ∧ (match fl c.Ins c.Ins.length 0 (f0 c.Ins.length) with | .inl f' => l.map (·.reached) = f'.re ∧ a = -1 | .inr k => a = (k : Int)) := by
  have hn := Z.n
  have hil := Z.il
  unfold calqueref34_ways
  rw [mk_some Z.il, mk_some Z.il]
  simp only [Option.bind_some]
  have e0 : idx (List.replicate c.Ins.length (Way.mk false [])) 0 = some (Way.mk false []) := idx_some (k := 0) (by rw [List.getElem?_replicate, if_pos hpos])
  have e1 : setI (List.replicate c.Ins.length (Way.mk false [])) 0 (Way.mk true []) = some ((List.replicate c.Ins.length (Way.mk false [])).set 0 (Way.mk true [])) := setI_some (j := 0) (by simpa using hpos) _
  simp only [e0, Option.bind_some, e1]
  have R : Rl c.Ins.length (f0 c.Ins.length) ((List.replicate c.Ins.length (Way.mk false [])).set 0 (Way.mk true [])) (List.replicate c.Ins.length false) := by
    refine ⟨f0_wf _, by simp, rfl, fun j hj => ⟨?_⟩⟩
    unfold f0
    by_cases h0 : j = 0
    · subst h0
      refine ⟨true, false, [], Way.mk true [], ?_, ?_, ?_, ?_, rfl, fun _ _ => rfl, by simp⟩
      · simp [hj]
      · simp [hj]
      · simp [hj]
      · simp [hj]
    · refine ⟨false, false, [], Way.mk false [], ?_, ?_, ?_, ?_, rfl, fun _ _ => rfl, by simp⟩
      · rw [List.getElem?_set_ne (Ne.symm h0)]; simp [hj]
      · simp [hj]
      · simp [hj]
      · rw [List.getElem?_set_ne (Ne.symm h0)]; simp [hj]
  obtain ⟨r, h1, h2⟩ := ways_loop Z P c.Ins.length 0 N (f0 c.Ins.length) _ _ (by omega) (by omega) R
  rw [show ((0 : Nat) : Int) = 0 from rfl] at h1
  rw [h1]
  cases hf : fl c.Ins c.Ins.length 0 (f0 c.Ins.length) with
  | inl f' =>
    rw [hf] at h2
    obtain ⟨l', rfl, hl⟩ := h2
    exact ⟨l', -1, rfl, hl, rfl⟩
  | inr k =>
    rw [hf] at h2
    obtain ⟨l', rfl⟩ := h2
    exact ⟨l', k, rfl, rfl⟩
theorem ref_bad {N : Nat} {c : Code} (Z : Cz N c) : iter (fun s => calqueref34_Check_b1 N c s) N 0 = some (match bad c.Names.length c.Ins with | none => .inl () | some k => .inr ((k : Int), 4)) := by
  have hn := Z.n
  have hil := Z.il
  have h := iter_list (body := fun s => calqueref34_Check_b1 N c s) (β := Unit ⊕ (Int × Int)) (σ := Nat) (fun i k => k) c.Ins (fun k x => match fP c.Names.length c.Ins k x with | .inl k => .inl k | .inr (.inl u) => .inr (.inl u) | .inr (.inr j) => .inr (.inr ((j : Int), 4))) (fun _ => .inl ()) (fun i k => k = i) (fun k i x hi hk => ?_) (fun k hk => ?_) N 0 (by omega) rfl
  · rw [h]
    unfold bad
    have e : ∀ (ys : List Ins) (k : Nat), run (β := Unit ⊕ (Int × Int)) (fun k x => match fP c.Names.length c.Ins k x with | .inl k => .inl k | .inr (.inl u) => .inr (.inl u) | .inr (.inr j) => .inr (.inr ((j : Int), 4))) (fun _ => .inl ()) k ys = (match run (fP c.Names.length c.Ins) (fun _ => .inl ()) k ys with | .inl u => .inl u | .inr j => .inr ((j : Int), 4)) := by
      intro ys
      induction ys with
      | nil => intro k; rfl
      | cons y ys ih =>
        intro k
        rw [run, run]
        unfold fP at ih ⊢
        cases prp c.Names.length c.Ins k with
        | false => rfl
        | true => simp only [if_true]; exact ih (k + 1)
    rw [e]
    cases run (fP c.Names.length c.Ins) (fun _ => .inl ()) 0 c.Ins <;> rfl
  · subst hk
    constructor
    · show calqueref34_Check_b1 N c k = _
      unfold calqueref34_Check_b1 fP
      simp only [dltx hi, cond_true, ref_Proper Z, Option.bind_some]
      cases prp c.Names.length c.Ins k <;> rfl
    · intro s' h
      unfold fP at h
      cases hp : prp c.Names.length c.Ins k with
      | false => rw [hp] at h; cases h
      | true => rw [hp] at h; cases h; rfl
  · show calqueref34_Check_b1 N c c.Ins.length = _
    unfold calqueref34_Check_b1
    simp only [dnlt, cond_false]
theorem ref_Check {N : Nat} {c : Code} (Z : Cz N c) : calqueref34_Check N c = some (chk c) := by
  have hn := Z.n
  have hil := Z.il
  unfold calqueref34_Check chk flw
  rw [ref_named Z.nl Z.ns Z.n]
  simp only [Option.bind_some]
  cases nmd c.Names with
  | false => rfl
  | true =>
    rw [decide_eq_false (show ¬ (c.Ins.length : Int) > 10000 by omega), ref_bad Z]
    simp only [Bool.not_true, cond_false, if_true, Option.bind_some]
    cases hb : bad c.Names.length c.Ins with
    | some k => rfl
    | none =>
      simp only [Sum.elim_inl]
      by_cases h0 : c.Ins.length = 0
      · have : c.Ins = [] := List.eq_nil_of_length_eq_zero h0
        rw [this]
        rfl
      · rw [beq_eq_false_iff_ne.2 (show (c.Ins.length : Int) ≠ 0 by omega), cond_false]
        have hlt : c.Ins.length - 1 < c.Ins.length := by omega
        have hx := List.getElem?_eq_getElem hlt
        rw [show IntKind.wrap .i64 ((c.Ins.length : Int) - 1) = ((c.Ins.length - 1 : Nat) : Int) by rw [wrap_id (by omega) (by omega)]; omega, idx_some hx]
        have hst : stops c.Ins = (c.Ins[c.Ins.length - 1].Op == 13) := by unfold stops; rw [hx]
        simp only [Option.bind_some, bne]
        rw [← hst]
        cases hs : stops c.Ins with
        | false => rfl
        | true =>
          obtain ⟨l, a, hw, hm⟩ := ref_ways Z (pp_of hb hs) (by omega)
          rw [hw]
          simp only [Bool.not_true, cond_false, Option.bind_some, if_true]
          cases hf : fl c.Ins c.Ins.length 0 (f0 c.Ins.length) with
          | inl f' =>
            rw [hf] at hm
            rw [hm.2]
            rfl
          | inr k =>
            rw [hf] at hm
            simp only at hm
            rw [hm, decide_eq_true (by omega)]
            rfl
theorem fl_wf {n : Nat} {l : List Ins} : ∀ (m i : Nat) (f f' : Fs), Wf n f → fl l m i f = .inl f' → Wf n f'
  | 0, i, f, f', W, h => by rw [fl] at h; cases h; exact W
  | m + 1, i, f, f', W, h => by
    rw [fl] at h
    split at h
    · split at h
      · next x hx =>
        split at h
        · next g hg => exact fl_wf m (i + 1) g f' (stp_wf W hg) h
        · cases h
      · cases h
    · exact fl_wf m (i + 1) f f' W h
/-- What Reached returns. -/
def rch (c : Code) : List Bool × Int := match flw c with | .inl f => (f.re, 0) | .inr r => ([], r.2)
theorem flw_err {c : Code} {a e : Int} (h : flw c = .inr (a, e)) : e ≠ 0 := by
  intro he
  have : (chk c).2 = 0 := by unfold chk; rw [h]; exact he
  obtain ⟨f, hf⟩ := chk_ok this
  rw [hf] at h
  cases h
theorem prog_Reached {N : Nat} {c : Code} (Z : Cz N c) : verify_Reached N c = some (rch c) := by
  unfold verify_Reached rch
  rw [follow_eq Z]
  cases hf : flw c with
  | inl f => rfl
  | inr r =>
    obtain ⟨a, e⟩ := r
    simp only [Option.bind_some]
    rw [show (e != 0) = true by simp [flw_err hf]]
    rfl
theorem ref_Reached {N : Nat} {c : Code} (Z : Cz N c) : calqueref34_Reached N c = some (rch c) := by
  have hn := Z.n
  have hil := Z.il
  unfold calqueref34_Reached
  rw [ref_Check Z]
  simp only [Option.bind_some]
  cases hf : flw c with
  | inr r =>
    obtain ⟨a, e⟩ := r
    have hc : chk c = (a, e) := by unfold chk; rw [hf]
    rw [hc, show (((a, e) : Int × Int).2 != 0) = true by simp [flw_err hf], cond_true]
    unfold rch
    rw [hf]
  | inl f =>
    obtain ⟨a1, a2, a3, a4⟩ := flw_ok hf
    obtain ⟨z, hz, hzo⟩ := stops_at a3
    have hpos := getlt hz
    obtain ⟨l, a, hw, hm⟩ := ref_ways Z (pp_of a2 a3) (by omega)
    rw [a4] at hm
    rw [chk_inl hf, show (((0, 0) : Int × Int).2 != 0) = false from rfl, cond_false, hw]
    simp only [Option.bind_some]
    have hll : l.length = f.re.length := by rw [← hm.1, List.length_map]
    have hfr : f.re.length ≤ 1000 := by
      have h := (fl_wf _ _ _ _ (f0_wf _) a4).r
      omega
    have h := iter_list (body := fun s => calqueref34_Reached_b1 N (l, a) s.1 s.2) (σ := List Bool) (fun s k => (s, k)) l (fun s w => .inl (s ++ [w.reached])) (fun s => s) (fun k s => s.length = k) (fun s k w hk hs => ?_) (fun s hs => ?_) N [] (by omega) rfl
    · rw [h, run_fold]
      have e : ∀ (xs : List Way) (acc : List Bool), xs.foldl (fun s w => s ++ [w.reached]) acc = acc ++ xs.map (·.reached) := by
        intro xs
        induction xs with
        | nil => intro acc; simp
        | cons y ys ih => intro acc; rw [List.foldl_cons, ih]; simp
      rw [e, List.nil_append, hm.1]
      unfold rch
      rw [hf]
      rfl
    · have := getlt hk
      constructor
      · show calqueref34_Reached_b1 N (l, a) s k = _
        unfold calqueref34_Reached_b1
        simp only [dltx hk, cond_true, idx_some hk, Option.bind_some, app_some (show s.length + [w.reached].length ≤ 4294967296 by simp; omega)]
      · intro s' h
        cases h; simp [hs]
    · show calqueref34_Reached_b1 N (l, a) s l.length = _
      unfold calqueref34_Reached_b1
      simp only [dnlt, cond_false]
theorem rch_len {N : Nat} {c : Code} (Z : Cz N c) : (rch c).1.length ≤ 1000 := by
  have hil := Z.il
  unfold rch
  cases hf : flw c with
  | inr r => simp
  | inl f =>
    obtain ⟨a1, a2, a3, a4⟩ := flw_ok hf
    have h := (fl_wf _ _ _ _ (f0_wf _) a4).r
    simp only
    omega
theorem verifyCheck_law (c : Code) : ∃ N, calquelaw34_VerifyCheck N c = some true := by
  refine ⟨c.Names.length + c.Ins.length + 5000, ?_⟩
  generalize hNN : c.Names.length + c.Ins.length + 5000 = N
  have aw : calquelaw34_awake N = some true := by rw [show N = (N - 3000) + 3000 by omega]; exact awake_eq _
  unfold calquelaw34_VerifyCheck
  rw [aw]
  simp only [Option.bind_some, Bool.not_true, cond_false]
  rw [Few_eq (by omega)]
  simp only [Option.bind_some]
  cases hf : few c with
  | false => rfl
  | true =>
    obtain ⟨Z, hn1, hn2⟩ := few_Cz (N := N) (by omega) hf
    simp only [Bool.not_true, cond_false, Own_eq Z.il Z.n, Option.bind_some]
    rw [prog_Check Z, ref_Check Z, prog_Reached Z, ref_Reached Z]
    simp only [Option.bind_some, bne_self_eq_false, cond_false]
    have hl := rch_len Z
    have hn := Z.n
    rw [iter_allL (fun _ : Bool => true) (rch c).1 (fun k x hk => ?_) ?_ N (by omega)]
    · simp
    · unfold calquelaw34_VerifyCheck_b1
      simp only [dnlt, cond_false]
    · unfold calquelaw34_VerifyCheck_b1
      simp only [dltx hk, cond_true, idx_some hk, Option.bind_some, bne_self_eq_false, cond_false, if_true]
end Go.Proofs.YtmghnmfefpeelaaDoor
