/- The pure law of AutomatonShortest, second part: the program's search, and the order of words. -/
import Derived.Test.YtdlaobjbjmecnaaPure09b
namespace Go.Proofs.Ytdlaobjbjmecnaa
open Go.X

def fM (F : Fo) : List (Int × List UInt8) := F.map fun x => ((x.1 : Int), x.2)
theorem fM_keys (F : Fo) : (fM F).map (·.1) = fI F := by unfold fM fI; rw [List.map_map]; rfl
theorem fI_nodup {F : Fo} (h : (F.map (·.1)).Nodup) : (fI F).Nodup := by
  unfold fI
  have : F.map (fun x => (x.1 : Int)) = (F.map (·.1)).map (fun n : Nat => (n : Int)) := by rw [List.map_map]; rfl
  rw [this]
  exact List.Pairwise.map _ (fun a b h e => h (by omega)) h

theorem aShort_in {d : DFA} (v : ValidP d) (N i : Nat) {y : Nat × List UInt8} {F : Fo} (hI : Mid d i y 0 F) (hN' : 12 ≤ N) {row : List Int} (hrow : d.Next[y.1]? = some row) :
    iter (fun s => automaton_Shortest_b2 N (y.1 : Int) row s.1 s.2.1 s.2.2) N (fI (F.drop (i + 1)), 0, fM F) = some (fM (addTo d y F 11), fI ((addTo d y F 11).drop (i + 1))) := by
  obtain ⟨row', q1, q2, q3⟩ := v.rows y.1 (hI.lt y (List.mem_of_getElem? hI.yi))
  have : row' = row := by rw [hrow] at q1; exact (Option.some.inj q1).symm
  subst this
  refine iter_from (fun c => (fI ((addTo d y F c).drop (i + 1)), (c : Int), fM (addTo d y F c))) 11 _ _ rfl ?_ ?_ N (by omega)
  · intro c hc
    have hM := Mid.all v hI c (by omega)
    have hy : y ∈ addTo d y F c := List.mem_of_getElem? hM.yi
    have hil := (List.getElem?_eq_some_iff.1 hM.yi).1
    have hlen := hM.length_le
    have hmost := v.most
    simp only [automaton_Shortest_b2]
    rw [cond_pos (by omega)]
    obtain ⟨row2, h1, h2, h3⟩ := v.step (hM.lt y hy) hc
    have : row2 = row' := by rw [hrow] at h1; exact (Option.some.inj h1).symm
    subst this
    rw [idx_nat, h2]
    simp only [Option.bind_some]
    by_cases hm : stp d y.1 c ∈ (addTo d y F c).map (·.1)
    · have : (mget (fM (addTo d y F c)) (stp d y.1 c : Int)).isSome = true := by rw [mget_isSome, fM_keys]; exact (mem_fI _ _).2 hm
      rw [this]
      simp only [Bool.not_true, cond_false, addTo]
      rw [addOne, if_pos hm]; rfl
    · have hm' : (stp d y.1 c : Int) ∉ (fM (addTo d y F c)).map (·.1) := by rw [fM_keys]; exact fun h => hm ((mem_fI _ _).1 h)
      have : (mget (fM (addTo d y F c)) (stp d y.1 c : Int)).isSome = false := by
        cases e : (mget (fM (addTo d y F c)) (stp d y.1 c : Int)).isSome with
        | false => rfl
        | true => exact absurd ((mget_isSome _ _).1 e) hm'
      rw [this]
      simp only [Bool.not_false, cond_true]
      obtain ⟨r, hr, hrs⟩ := aChar N c hc
      rw [hr]
      simp only [Option.bind_some]
      have hg : mget (fM (addTo d y F c)) (y.1 : Int) = some y.2 := mget_of _ (by rw [fM_keys]; exact fI_nodup hM.nod) (List.mem_map.2 ⟨y, hy, rfl⟩)
      rw [hg, hrs]
      simp only [Option.getD_some]
      have hyl := hM.len y hy
      rw [cat, if_pos (by unfold LIMS; simp; omega)]
      simp only [Option.bind_some]
      rw [mset, if_pos (by unfold fM LIM; simp; omega), mput_fresh _ _ _ hm']
      simp only [Option.bind_some]
      rw [app, if_pos (by unfold fI LIM; simp; omega)]
      simp only [Option.bind_some, addTo]
      rw [addOne, if_neg hm, List.drop_append_of_le_length (by omega)]
      simp [fI, fM]
  · simp only [automaton_Shortest_b2]
    rw [cond_neg (by omega)]

open Classical in
theorem aShort {d : DFA} (v : ValidP d) (N k : Nat) (hN : d.Next.length + 1 < N) (hN' : 12 ≤ N) (hk : k ≤ d.Next.length) (h1 : ¬ goesOn d k) (h2 : ∀ i, i < k → goesOn d i) (h3 : ∀ i, i ≤ k → Inv d i (G d i)) :
    automaton_Shortest N d = some (shortest d k) := by
  have hst : d.Start = (d.Start.toNat : Int) := (Int.toNat_of_nonneg v.lo).symm
  unfold automaton_Shortest
  rw [aValid N d hN' (by omega), decide_eq_true v]
  simp only [Option.bind_some, Bool.not_true, cond_false]
  rw [mset, if_pos (by unfold LIM; simp)]
  simp only [Option.bind_some, mput]
  have hb : iter (fun s => automaton_Shortest_b1 N d s.1 s.2) N ([d.Start], [(d.Start, [])]) = some (match (G d k)[k]? with | none => .inl () | some x => .inr (x.2, true, 0)) := by
    refine iter_from (fun i => (fI ((G d i).drop i), fM (G d i))) k _ _ ?_ ?_ ?_ N (by omega)
    · simp only [G, fI, fM, List.map_cons, List.map_nil, List.drop_zero]
      rw [← hst]
    · intro i hi
      obtain ⟨x, hx, hacc⟩ := h2 i hi
      have hI := h3 i (by omega)
      have hlen := hI.length_le
      have hmost := v.most
      have hxl := (List.getElem?_eq_some_iff.1 hx).1
      have hx' : (G d i)[i] = x := (List.getElem?_eq_some_iff.1 hx).2
      have hd : fI ((G d i).drop i) = (x.1 : Int) :: fI ((G d i).drop (i + 1)) := by
        rw [List.drop_eq_getElem_cons hxl, hx']; rfl
      simp only [automaton_Shortest_b1]
      rw [hd]
      rw [cond_pos (by simp), show idx ((x.1 : Int) :: fI ((G d i).drop (i + 1))) 0 = some (x.1 : Int) from rfl]
      simp only [Option.bind_some]
      rw [slc, if_pos ⟨by omega, by rw [List.length_cons]; omega, by simp⟩]
      simp only [Option.bind_some]
      rw [idx_nat, hacc]
      simp only [Option.bind_some, cond_false]
      obtain ⟨row, q1, _⟩ := v.rows x.1 (hI.lt x (List.mem_of_getElem? hx))
      rw [idx_nat, q1]
      simp only [Option.bind_some]
      have hq : (List.drop (1 : Int).toNat ((x.1 : Int) :: fI ((G d i).drop (i + 1)))).take ((((x.1 : Int) :: fI ((G d i).drop (i + 1))).length : Int) - 1).toNat = fI ((G d i).drop (i + 1)) := by
        rw [show (1 : Int).toNat = 1 from rfl, List.drop_one, List.tail_cons]
        apply List.take_of_length_le
        simp
      rw [hq]
      rw [aShort_in v N i (hI.mid hx) hN' q1]
      simp only [Option.bind_some, G, hx]
    · have hI := h3 k (Nat.le_refl _)
      simp only [automaton_Shortest_b1]
      cases hx : (G d k)[k]? with
      | none =>
        have := List.getElem?_eq_none_iff.1 hx
        rw [List.drop_eq_nil_of_le this]
        rfl
      | some x =>
        have hxl := (List.getElem?_eq_some_iff.1 hx).1
        have hx' : (G d k)[k] = x := (List.getElem?_eq_some_iff.1 hx).2
        have hd : fI ((G d k).drop k) = (x.1 : Int) :: fI ((G d k).drop (k + 1)) := by
          rw [List.drop_eq_getElem_cons hxl, hx']; rfl
        rw [hd]
        rw [cond_pos (by simp), show idx ((x.1 : Int) :: fI ((G d k).drop (k + 1))) 0 = some (x.1 : Int) from rfl]
        simp only [Option.bind_some]
        rw [slc, if_pos ⟨by omega, by rw [List.length_cons]; omega, by simp⟩]
        simp only [Option.bind_some]
        have hlt : x.1 < d.Accept.length := by rw [v.acc]; exact hI.lt x (List.mem_of_getElem? hx)
        have : d.Accept[x.1] = true := by
          cases e : d.Accept[x.1] with
          | true => rfl
          | false => exact absurd ⟨x, hx, by rw [List.getElem?_eq_getElem hlt, e]⟩ h1
        rw [idx_lt _ hlt, this]
        simp only [Option.bind_some, cond_true]
        have hg : mget (fM (G d k)) (x.1 : Int) = some x.2 := mget_of _ (by rw [fM_keys]; exact fI_nodup hI.nod) (List.mem_map.2 ⟨x, List.mem_of_getElem? hx, rfl⟩)
        rw [hg]; rfl
  rw [hb]
  simp only [Option.bind_some, shortest]
  cases (G d k)[k]? <;> rfl

/-! ### the order of words -/
theorem fold_lt : ∀ (a b : List UInt8) (p q : Nat), a.length = b.length → p < q → a.foldl vstep p < b.foldl vstep q
  | [], [], p, q, _, h => h
  | x :: a, y :: b, p, q, hl, h => by
    refine fold_lt a b _ _ (by simpa using hl) ?_
    have := sym_le x
    unfold vstep
    omega
  | [], _ :: _, _, _, hl, _ => by simp at hl
  | _ :: _, [], _, _, hl, _ => by simp at hl

theorem fold_pos : ∀ (a : List UInt8) (p : Nat), 0 < a.length ∨ 0 < p → 0 < a.foldl vstep p
  | [], p, h => by rcases h with h | h; simp at h; exact h
  | x :: a, p, _ => fold_pos a _ (.inr (by unfold vstep; omega))

theorem val_short {a b : List UInt8} (h : a.length < b.length) : val a < val b := by
  have e : b = b.take (b.length - a.length) ++ b.drop (b.length - a.length) := (List.take_append_drop _ _).symm
  have : val b = (b.drop (b.length - a.length)).foldl vstep (val (b.take (b.length - a.length))) := by
    conv => lhs; rw [e]
    unfold val
    rw [List.foldl_append]
  rw [this]
  refine fold_lt _ _ _ _ (by rw [List.length_drop]; omega) (fold_pos _ _ (.inl ?_))
  rw [List.length_take]; omega

theorem val_at {a b : List UInt8} (hl : a.length = b.length) {k : Nat} (hk : k < a.length) (heq : ∀ i, i < k → a[i]? = b[i]?) (hlt : (sym (a[k])).getD 0 < (sym (b[k]'(hl ▸ hk))).getD 0) : val a < val b := by
  have ea : a = a.take k ++ a[k] :: a.drop (k + 1) := by rw [← List.drop_eq_getElem_cons hk, List.take_append_drop]
  have eb : b = b.take k ++ b[k]'(hl ▸ hk) :: b.drop (k + 1) := by rw [← List.drop_eq_getElem_cons (hl ▸ hk), List.take_append_drop]
  have et : a.take k = b.take k := by
    apply List.ext_getElem?
    intro i
    by_cases hi : i < k
    · rw [List.getElem?_take_of_lt hi, List.getElem?_take_of_lt hi, heq i hi]
    · rw [List.getElem?_eq_none (by rw [List.length_take]; omega), List.getElem?_eq_none (by rw [List.length_take]; omega)]
  have va : val a = (a.drop (k + 1)).foldl vstep (vstep (val (a.take k)) a[k]) := by
    conv => lhs; rw [ea]
    unfold val
    rw [List.foldl_append]; rfl
  have vb : val b = (b.drop (k + 1)).foldl vstep (vstep (val (b.take k)) (b[k]'(hl ▸ hk))) := by
    conv => lhs; rw [eb]
    unfold val
    rw [List.foldl_append]; rfl
  rw [va, vb, et]
  refine fold_lt _ _ _ _ (by rw [List.length_drop, List.length_drop]; omega) ?_
  unfold vstep
  omega

theorem go_syms {d : DFA} : ∀ (w : List UInt8) (s t : Nat), go d s w = some t → ∀ c ∈ w, ∃ k, sym c = some k
  | [], _, _, _, _, h => by cases h
  | x :: w, s, t, h, c, hc => by
    simp only [go] at h
    cases hx : sym x with
    | none => rw [hx] at h; cases h
    | some k =>
      rw [hx] at h
      rcases List.mem_cons.1 hc with rfl | hc
      · exact ⟨k, hx⟩
      · exact go_syms w _ _ h c hc

theorem before_false (N : Nat) (a b : List UInt8) (ha : ∀ c ∈ a, ∃ k, sym c = some k) (hb : ∀ c ∈ b, ∃ k, sym c = some k) (h : val b ≤ val a) (hN : a.length < N) : calquelaw09_before N a b = some false := by
  unfold calquelaw09_before
  rw [cond_bne]
  by_cases hl : (a.length : Int) = (b.length : Int)
  case neg =>
    rw [if_neg hl, decide_eq_false]
    intro hlt
    have := val_short (a := a) (b := b) (by omega)
    omega
  rw [if_pos hl]
  have hl : a.length = b.length := by omega
  by_cases he : ∀ i, i < a.length → a[i]? = b[i]?
  · rw [iter_from (fun i => (i : Int)) a.length 0 (.inl ()) rfl ?_ ?_ N hN]
    · rfl
    · intro i hi
      have hi2 : i < b.length := by omega
      have := he i hi
      rw [List.getElem?_eq_getElem hi, List.getElem?_eq_getElem hi2] at this
      simp only [calquelaw09_before_b1]
      rw [cond_pos (by omega), idx_lt a hi]
      simp only [Option.bind_some]
      rw [idx_lt b hi2]
      simp only [Option.bind_some]
      rw [cond_bne, if_pos (by rw [Option.some.inj this])]
      rfl
    · simp only [calquelaw09_before_b1]
      rw [cond_neg (by omega)]
  · obtain ⟨k, h1, h2, h3⟩ := first_not he
    have hk2 : k < b.length := by omega
    rw [iter_from (fun i => (i : Int)) k 0 (.inr false) rfl ?_ ?_ N (by omega)]
    · rfl
    · intro i hi
      have hi1 : i < a.length := by omega
      have hi2 : i < b.length := by omega
      have := h3 i hi
      rw [List.getElem?_eq_getElem hi1, List.getElem?_eq_getElem hi2] at this
      simp only [calquelaw09_before_b1]
      rw [cond_pos (by omega), idx_lt a hi1]
      simp only [Option.bind_some]
      rw [idx_lt b hi2]
      simp only [Option.bind_some]
      rw [cond_bne, if_pos (by rw [Option.some.inj this])]
      rfl
    · rw [List.getElem?_eq_getElem h1, List.getElem?_eq_getElem hk2] at h2
      have hne : a[k] ≠ b[k] := fun e => h2 (by rw [e])
      simp only [calquelaw09_before_b1]
      rw [cond_pos (by omega), idx_lt a h1]
      simp only [Option.bind_some]
      rw [idx_lt b hk2]
      simp only [Option.bind_some]
      rw [cond_bne, if_neg (fun e => hne (UInt8.toNat_inj.1 (by omega)))]
      obtain ⟨p, hp⟩ := ha a[k] (List.getElem_mem h1)
      obtain ⟨q, hq⟩ := hb b[k] (List.getElem_mem hk2)
      rw [rSym, rSym, hp, hq]
      simp only [Option.bind_some]
      rw [decide_eq_false]
      intro hlt
      have := val_at hl h1 h3 (by rw [hp, hq]; simp; omega)
      omega

theorem acc_go {d : DFA} (v : ValidP d) {w : List UInt8} (h : acc d w = true) : ∃ s, go d d.Start.toNat w = some s ∧ s < d.Next.length ∧ d.Accept[s]? = some true := by
  unfold acc at h
  cases hg : go d d.Start.toNat w with
  | none => rw [hg] at h; cases h
  | some s =>
    rw [hg] at h
    have hs := v.go_lt w (by have := v.hi; have := v.lo; omega) hg
    refine ⟨s, rfl, hs, ?_⟩
    simp only [] at h
    rw [List.getElem?_eq_getElem (by rw [v.acc]; exact hs)] at h ⊢
    simpa using h

open Classical in
theorem automatonShortest_pure (d : DFA) (w : List UInt8) : ∃ N, calquelaw09_AutomatonShortest N d w = some true := by
  refine ⟨(d.Next.length + w.length + 1) + 100, ?_⟩
  unfold calquelaw09_AutomatonShortest
  rw [awake_true]
  obtain ⟨b, hb⟩ := few_some (d.Next.length + w.length + 1 + 100) d 40 (by omega)
  rw [hb]
  simp only [Option.bind_some, Bool.not_true, cond_false]
  cases b
  · rfl
  simp only [Bool.not_true, cond_false, calquelaw09_to, Option.bind_some]
  rw [cond_dec]
  split
  · rfl
  generalize hNN : d.Next.length + w.length + 1 + 100 = N
  rw [aRun _ d w (by omega) (by omega) (by omega)]
  by_cases v : ValidP d
  case neg =>
    have e1 : automaton_Shortest N d = some ([], false, 1) := by
      unfold automaton_Shortest
      rw [aValid _ d (by omega) (by omega), decide_eq_false v]; rfl
    have e2 : calqueref09_Shortest N d = some ([], false, 1) := by
      unfold calqueref09_Shortest
      rw [rValid _ d (by omega) (by omega), decide_eq_false v]; rfl
    rw [e1, e2, decide_eq_false v]
    rfl
  obtain ⟨k, h0, h1, h2, hI⟩ := stops v
  have h3 : ∀ i, i ≤ k → Inv d i (G d i) := by
    intro i hi
    refine inv_G v i ?_
    rcases Nat.lt_or_eq_of_le hi with h | rfl
    · obtain ⟨x, hx, _⟩ := h2 i h
      exact Nat.le_of_lt (List.getElem?_eq_some_iff.1 hx).1
    · cases i with
      | zero => exact Nat.zero_le _
      | succ i =>
        obtain ⟨x, hx, _⟩ := h2 i (Nat.lt_succ_self i)
        have hi' : Inv d i (G d i) := inv_G v i (Nat.le_of_lt (List.getElem?_eq_some_iff.1 hx).1)
        have hm := Mid.all v (hi'.mid hx) 11 (Nat.le_refl _)
        simp only [G, hx]
        exact (List.getElem?_eq_some_iff.1 hm.yi).1
  rw [aShort v N k (by omega) (by omega) h0 h1 h2 h3, rShort v N k (by omega) (by omega) h0 h1 h2 h3, decide_eq_true v]
  simp only [Option.bind_some, bne_self_eq_false, cond_false, Bool.true_and]
  have before : ∀ (j : Nat) (x : Nat × List UInt8), j < k → (G d k)[j]? = some x → d.Accept[x.1]? = some false := by
    have grow : ∀ (i j : Nat) (x : Nat × List UInt8), j < (G d i).length → (G d i)[j]? = some x → (G d (i + 1))[j]? = some x := by
      intro i j x hj hx
      simp only [G]
      cases hy : (G d i)[i]? with
      | none => exact hx
      | some y =>
        simp only []
        have : ∀ c, (addTo d y (G d i) c)[j]? = some x := by
          intro c
          induction c with
          | zero => exact hx
          | succ c ih => exact addOne_get ih
        exact this 11
    have grow2 : ∀ (e i j : Nat) (x : Nat × List UInt8), (G d i)[j]? = some x → (G d (i + e))[j]? = some x := by
      intro e
      induction e with
      | zero => intro i j x h; exact h
      | succ e ih => intro i j x h; exact grow _ j x (List.getElem?_eq_some_iff.1 (ih i j x h)).1 (ih i j x h)
    intro j x hj hx
    obtain ⟨y, hy, hacc⟩ := h2 j hj
    have := grow2 (k - j) j j y hy
    rw [show j + (k - j) = k by omega, hx] at this
    cases this
    exact hacc
  have know : acc d w = true → ∃ j x, k ≤ j ∧ (G d k)[j]? = some x ∧ val x.2 ≤ val w := by
    intro ha
    obtain ⟨s, hs, _, hacc⟩ := acc_go v ha
    rcases hI.know hs with ⟨j, x, q1, q2, q3, _⟩ | h
    · have := before j x q1 q2
      rw [q3, hacc] at this
      cases this
    · exact h
  cases hx : (G d k)[k]? with
  | none =>
    have hl := List.getElem?_eq_none_iff.1 hx
    have : acc d w = false := by
      cases e : acc d w with
      | false => rfl
      | true =>
        obtain ⟨j, x, q1, q2, _⟩ := know e
        have := (List.getElem?_eq_some_iff.1 q2).1
        omega
    rw [this]
    simp only [shortest, hx]
    rfl
  | some x =>
    have hxm := List.mem_of_getElem? hx
    have hlt := hI.lt x hxm
    have hrun := hI.run x hxm
    have hacc : d.Accept[x.1]? = some true := by
      rw [List.getElem?_eq_getElem (by rw [v.acc]; exact hlt)]
      cases e : d.Accept[x.1]'(by rw [v.acc]; exact hlt) with
      | true => rfl
      | false => exact absurd ⟨x, hx, by rw [List.getElem?_eq_getElem (by rw [v.acc]; exact hlt), e]⟩ h1
    have hax : acc d x.2 = true := by unfold acc; rw [hrun]; simp [hacc]
    have hlen := hI.len x hxm
    have hle := hI.length_le
    simp only [shortest, hx]
    rw [aRun _ d x.2 (by omega) (by omega) (by omega), decide_eq_true v, hax]
    simp only [bne_self_eq_false, cond_false, Bool.not_true, Bool.true_and, Option.bind_some, cond_true]
    cases e : acc d w with
    | false => rfl
    | true =>
      obtain ⟨j, z, q1, q2, q3⟩ := know e
      have hv : val x.2 ≤ val w := by
        rcases Nat.lt_or_eq_of_le q1 with h | h
        · obtain ⟨hk1, hk2⟩ := List.getElem?_eq_some_iff.1 hx
          obtain ⟨hj1, hj2⟩ := List.getElem?_eq_some_iff.1 q2
          have := List.pairwise_iff_getElem.1 hI.srt k j hk1 hj1 h
          rw [hk2, hj2] at this
          omega
        · subst h
          rw [hx] at q2; cases q2
          exact q3
      obtain ⟨s, hs, _, _⟩ := acc_go v e
      rw [before_false N w x.2 (go_syms w _ _ hs) (go_syms x.2 _ _ hrun) hv (by omega)]
      rfl

end Go.Proofs.Ytdlaobjbjmecnaa
