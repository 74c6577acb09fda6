/- The reference's product; the pure law of AutomatonSets. -/
import Derived.Test.YtdlaobjbjmecnaaMinG
import Derived.Test.YtdlaobjbjmecnaaExt09e
set_option linter.unusedVariables false
namespace Go.Proofs.Ytdlaobjbjmecnaa
open Go.X

section
variable {a b : DFA}
theorem enc_wrap {k x y : Nat} (h : x * k + y < 5000000) : IntKind.wrap .i64 (IntKind.wrap .i64 ((x : Int) * (k : Int)) + (y : Int)) = ((x * k + y : Nat) : Int) := by
  have e : (x : Int) * (k : Int) = ((x * k : Nat) : Int) := by simp
  have h1 : IntKind.wrap .i64 ((x * k : Nat) : Int) = ((x * k : Nat) : Int) := wrap64 (by omega) (by omega)
  rw [e, h1, wrap64 (by omega) (by omega)]
  simp

theorem rProd_in (va : WF a) (vb : WF b) (hm : sz a * sz b ≤ 5000000) (M : Nat) (hM : sz a * sz b < M) {i y : Nat} {F : List Nat} (hF : F[i]? = some y) (hS : SeaP a b F (11 * i)) {rows : List (List Int)} (hR : RowsP a b F i rows) (N : Nat) (hN : 12 ≤ N) :
    ∃ o, iter (fun s => calqueref09_product_b2 M a b ((y / sz b : Nat) : Int) ((y % sz b : Nat) : Int) s.1 s.2.1 s.2.2) N (ints F, [], 0) = some o ∧
      ∃ F' row, o = (ints F', row) ∧ F'[i]? = some y ∧ SeaP a b F' (11 * i + 11) ∧ RowsP a b F' i rows ∧ RowP a b F' y 11 row ∧ (∀ j z : Nat, F[j]? = some z → F'[j]? = some z) := by
  refine iter_ind (fun c s => ∃ F' row, s = (ints F', row, (c : Int)) ∧ F'[i]? = some y ∧ SeaP a b F' (11 * i + c) ∧ RowsP a b F' i rows ∧ RowP a b F' y c row ∧ (∀ j z : Nat, F[j]? = some z → F'[j]? = some z)) 11 _ ?_ ?_ N _ (by omega)
    ⟨F, [], rfl, hF, hS, hR, ⟨rfl, fun e he => absurd he (Nat.not_lt_zero e)⟩, fun _ _ h => h⟩
  · rintro c s hc ⟨F', row, rfl, hy, hs, hr, hrow, hext⟩
    have hys := hs.ok y (List.mem_of_getElem? hy)
    have hyb := pOk.snd (p := y) vb
    obtain ⟨ra, h1, h2, h3⟩ := va.step hys.fst hc
    obtain ⟨rb, g1, g2, g3⟩ := vb.step hyb hc
    have hso := pSucc_ok va vb hys hc
    have hso : stp a (y / sz b) c * sz b + stp b (y % sz b) c < sz a * sz b := hso
    have hnext := hs.next (y := y) (fun p c hp hc => pSucc_ok va vb hp hc) (by rw [show (11 * i + c) / 11 = i by omega]; exact hy)
    rw [show (11 * i + c) % 11 = c by omega] at hnext
    have hl' := hs.len_le (B := sz a * sz b) (fun p hp => hp)
    have hrl := hrow.1
    simp only [calqueref09_product_b2]
    rw [cond_pos (by omega), idx_some h1]
    simp only [Option.bind_some]
    rw [idx_some h2]
    simp only [Option.bind_some]
    rw [idx_some g1]
    simp only [Option.bind_some]
    rw [idx_some g2]
    simp only [Option.bind_some]
    rw [enc_wrap (by unfold sz at *; omega)]
    have hsu : stp a (y / sz b) c * List.length b.Next + stp b (y % sz b) c = pSucc a b y c := rfl
    rw [hsu, rIndexX M _ _ (by rw [ints_len]; omega)]
    simp only [Option.bind_some, mem_ints, idxOf_ints, ints_len]
    by_cases hm' : pSucc a b y c ∈ F'
    · rw [if_pos hm', cond_neg (by omega)]
      simp only [Option.bind_some]
      rw [app_some (by simp; omega)]
      simp only [Option.bind_some]
      have hf : fnd (pSucc a b) isId F' y c = F' := by unfold fnd; rw [if_pos (by rw [map_isId]; exact hm')]
      have hrn := hrow.next
      rw [hf, num_isId] at hrn
      rw [hf] at hnext
      exact ⟨_, rfl, F', row ++ [((F'.idxOf (pSucc a b y c) : Nat) : Int)], by simp, hy, hnext, hr, hrn, hext⟩
    · rw [if_neg hm', cond_pos (by omega), ints_app (by omega)]
      simp only [Option.bind_some]
      rw [app_some (by simp; omega)]
      simp only [Option.bind_some]
      have hnm : isId (pSucc a b y c) ∉ F'.map isId := by rw [map_isId]; exact hm'
      have hf : fnd (pSucc a b) isId F' y c = F' ++ [pSucc a b y c] := by unfold fnd; rw [if_neg hnm]
      have hrn := hrow.next
      rw [num_fnd_new hnm] at hrn
      refine ⟨_, rfl, fnd (pSucc a b) isId F' y c, row ++ [(F'.length : Int)], by rw [hf]; simp, fnd_get hy, hnext, hr.fnd (by have := get_lt hy; omega) y c, hrn, fun j z hz => fnd_get (hext j z hz)⟩
  · rintro s ⟨F', row, rfl, hy, hs, hr, hrow, hext⟩
    simp only [calqueref09_product_b2]
    rw [cond_neg (by omega)]
    exact ⟨_, rfl, F', row, rfl, hy, hs, hr, hrow, hext⟩

def fB (both x y : Bool) : Bool := if both then x && y else x || y

theorem rProd (both : Bool) (va : WF a) (vb : WF b) (hm : sz a * sz b ≤ 5000000) (M : Nat) (hM : sz a * sz b + 12 < M) (N : Nat) (hN : sz a * sz b < N) :
    ∃ o, iter (fun s => calqueref09_product_b1 M a b both s.1 s.2.1 s.2.2) N (ints [pStart a b], 0, ⟨0, [], []⟩) = some o ∧ ProdOk (fB both) a b o := by
  have hkb : 0 < sz b := vb.one
  refine iter_meas (fun s => ∃ F i R, s = (ints F, ((i : Nat) : Int), R) ∧ i ≤ F.length ∧ SeaP a b F (11 * i) ∧ RowsP a b F i R.Next ∧ R.Start = 0 ∧ R.Accept.length = i ∧ ∀ j y, j < i → F[j]? = some y → R.Accept[j]? = some (fB both (Acc a (y / sz b)) (Acc b (y % sz b))))
    (fun s => sz a * sz b - s.2.1.toNat) _ ?_ N _ (by simp only [Int.toNat_zero]; omega) ⟨[pStart a b], 0, ⟨0, [], []⟩, rfl, by simp, Sea.start (pStart_ok va vb), ⟨rfl, fun j y hj => absurd hj (Nat.not_lt_zero j)⟩, rfl, rfl, fun j y hj => absurd hj (Nat.not_lt_zero j)⟩
  rintro s ⟨F, i, R, rfl, hi, hs, hr, h0, ha, hac⟩
  have hl := hs.len_le (B := sz a * sz b) (fun p hp => hp)
  simp only [calqueref09_product_b1]
  by_cases hlt : i < F.length
  · left
    have hy : F[i]? = some F[i] := List.getElem?_eq_getElem hlt
    have hys := hs.ok _ (List.mem_of_getElem? hy)
    have hys' : F[i] < sz a * sz b := hys
    have hq : qt .i64 (F[i] : Int) (List.length b.Next : Int) = some ((F[i] / sz b : Nat) : Int) := by
      unfold qt
      rw [if_neg (by unfold sz at hkb; omega)]
      have : ((F[i] : Int).tdiv (List.length b.Next : Int)) = ((F[i] / sz b : Nat) : Int) := rfl
      rw [this]
      have := Nat.div_le_self F[i] (sz b)
      obtain ⟨q, hq⟩ : ∃ q, q = F[i] / sz b := ⟨_, rfl⟩
      rw [← hq] at this ⊢
      rw [wrap64 (by omega) (by omega)]
    have hrm : rm (F[i] : Int) (List.length b.Next : Int) = some ((F[i] % sz b : Nat) : Int) := by
      unfold rm
      rw [if_neg (by unfold sz at hkb; omega)]
      rfl
    rw [cond_pos (by rw [ints_len]; omega), ints_get hy]
    simp only [Option.bind_some]
    rw [hq]
    simp only [Option.bind_some]
    rw [hrm]
    simp only [Option.bind_some]
    obtain ⟨o, e1, F', row, rfl, e2, e3, e4, e5, e6⟩ := rProd_in va vb hm M (by omega) hy hs hr M (by omega)
    rw [e1]
    have hrl := e4.len
    simp only [Option.bind_some]
    rw [app_some (by simp; omega)]
    simp only [Option.bind_some]
    rw [idx_some (va.Acc_some hys.fst), idx_some (vb.Acc_some (pOk.snd vb))]
    have hap : ∀ x : Bool, app R.Accept [x] = some (R.Accept ++ [x]) := fun x => app_some (by simp; omega)
    simp only [Option.bind_some, hap]
    have hb : (bif Acc a (F[i] / sz b) then
        bif Acc b (F[i] % sz b) then some (DFA.mk R.Start (R.Next ++ [row]) (R.Accept ++ [true]))
        else bif !both then bif Acc a (F[i] / sz b) then some (DFA.mk R.Start (R.Next ++ [row]) (R.Accept ++ [true])) else some (DFA.mk R.Start (R.Next ++ [row]) (R.Accept ++ [Acc b (F[i] % sz b)]))
          else some (DFA.mk R.Start (R.Next ++ [row]) (R.Accept ++ [false]))
      else bif !both then bif Acc a (F[i] / sz b) then some (DFA.mk R.Start (R.Next ++ [row]) (R.Accept ++ [true])) else some (DFA.mk R.Start (R.Next ++ [row]) (R.Accept ++ [Acc b (F[i] % sz b)]))
        else some (DFA.mk R.Start (R.Next ++ [row]) (R.Accept ++ [false]))) = some (DFA.mk R.Start (R.Next ++ [row]) (R.Accept ++ [fB both (Acc a (F[i] / sz b)) (Acc b (F[i] % sz b))])) := by
      unfold fB
      cases both <;> cases Acc a (F[i] / sz b) <;> cases Acc b (F[i] % sz b) <;> rfl
    rw [hb]
    simp only [Option.bind_some]
    refine ⟨_, rfl, ⟨F', i + 1, ⟨R.Start, R.Next ++ [row], R.Accept ++ [fB both (Acc a (F[i] / sz b)) (Acc b (F[i] % sz b))]⟩, by simp, by have := get_lt e2; omega, by rw [show 11 * (i + 1) = 11 * i + 11 by omega]; exact e3, e4.add e2 e5, h0, by simp [ha], fun j y hj hy' => ?_⟩, ?_⟩
    · simp only []
      by_cases e : j = i
      · subst e
        rw [e2] at hy'; cases hy'
        rw [List.getElem?_append_right (by omega)]
        simp [ha]
      · have ej : F[j]? = some F[j] := List.getElem?_eq_getElem (by omega)
        have := e6 j _ ej
        rw [hy'] at this; cases this
        rw [List.getElem?_append_left (by omega)]
        exact hac j _ (by omega) ej
    · simp only []; omega
  · right
    have hi' : i = F.length := by omega
    subst hi'
    rw [cond_neg (by rw [ints_len]; omega)]
    exact ⟨_, rfl, prod_ok va vb hm hs (hr.found ha h0) fun i y hy => hac i y (get_lt hy) hy⟩

theorem rProduct (both : Bool) (va : ValidP a) (vb : ValidP b) (hm : sz a * sz b ≤ 2000) (N : Nat) (hN : sz a + sz b + sz a * sz b + 20 < N) : ∃ D R, calqueref09_product N a b both = some (R, 0) ∧ ProdOk (fB both) a b D ∧ MinOk D R := by
  unfold calqueref09_product
  open Classical in
  rw [rValid N a (by omega) (by unfold sz at *; omega), rValid N b (by omega) (by unfold sz at *; omega), decide_eq_true va, decide_eq_true vb]
  simp only [Option.bind_some, Bool.not_true, cond_false]
  have hst := pStart_ok va.wf vb.wf
  have hst' : st0 a * sz b + st0 b < sz a * sz b := hst
  rw [va.wf.st0_eq, vb.wf.st0_eq, enc_wrap (by unfold sz at *; omega)]
  obtain ⟨D, h1, h2⟩ := rProd both va.wf vb.wf (by omega) N (by omega) N (by omega)
  have h1' : iter (fun s => calqueref09_product_b1 N a b both s.1 s.2.1 s.2.2) N ([((st0 a * List.length b.Next + st0 b : Nat) : Int)], 0, ⟨0, [], []⟩) = some D := h1
  rw [h1']
  simp only [Option.bind_some]
  have hD := h2.le
  obtain ⟨R, h3, h4⟩ := rMinimal D h2.wf N (by omega)
  rw [h3]
  have hR := h4.le
  simp only [Option.bind_some]
  rw [cond_neg (by unfold sz at *; omega)]
  exact ⟨D, R, rfl, h2, h4⟩
theorem rProd_no (both : Bool) (h : ¬ (ValidP a ∧ ValidP b)) (N : Nat) (hN : sz a + sz b + 20 < N) : calqueref09_product N a b both = some (⟨0, [], []⟩, 1) := by
  unfold calqueref09_product
  open Classical in
  rw [rValid N a (by omega) (by unfold sz at *; omega), rValid N b (by omega) (by unfold sz at *; omega)]
  by_cases va : ValidP a
  · rw [decide_eq_true va, decide_eq_false (fun vb => h ⟨va, vb⟩)]
    rfl
  · rw [decide_eq_false va]
    rfl
end

theorem sets_prod (a b : DFA) (la : sz a ≤ 12) (lb : sz b ≤ 12) (N : Nat) (hN : sz a + sz b + 200 < N) : ∃ R R' e, automaton_And N a b = some (R, e) ∧ calqueref09_And N a b = some (R, e) ∧ automaton_Or N a b = some (R', e) ∧ calqueref09_Or N a b = some (R', e) ∧ (R = ⟨0, [], []⟩ ∨ WF R ∧ sz R ≤ 144) ∧ (R' = ⟨0, [], []⟩ ∨ WF R' ∧ sz R' ≤ 144) := by
  have lab : sz a * sz b ≤ 144 := by have := Nat.mul_le_mul la lb; omega
  unfold calqueref09_And calqueref09_Or
  by_cases h : ValidP a ∧ ValidP b
  · obtain ⟨va, vb⟩ := h
    obtain ⟨D, R, d1, d2, d3⟩ := aAnd va vb (by omega) N (by omega)
    obtain ⟨D', R', e1, e2, e3⟩ := aOr va vb (by omega) N (by omega)
    obtain ⟨G, Q, f1, f2, f3⟩ := rProduct true va vb (by omega) N (by omega)
    obtain ⟨G', Q', g1, g2, g3⟩ := rProduct false va vb (by omega) N (by omega)
    have f2' : ProdOk (· && ·) a b G := ⟨f2.wf, f2.le, fun w hw => by rw [f2.lang w hw]; rfl⟩
    have g2' : ProdOk (· || ·) a b G' := ⟨g2.wf, g2.le, fun w hw => by rw [g2.lang w hw]; rfl⟩
    have eR := MinOk.same_prod d2 f2' d3 f3
    have eR' := MinOk.same_prod e2 g2' e3 g3
    subst eR; subst eR'
    rw [f1, g1]
    have l1 := Nat.le_trans d3.le d2.le
    have l2 := Nat.le_trans e3.le e2.le
    exact ⟨R, R', 0, d1, rfl, e1, rfl, .inr ⟨d3.can.wf, by omega⟩, .inr ⟨e3.can.wf, by omega⟩⟩
  · rw [rProd_no true h N (by omega), rProd_no false h N (by omega)]
    obtain ⟨h1, h2⟩ := aAnd_no h N (by omega)
    exact ⟨_, _, 1, h1, rfl, h2, rfl, .inl rfl, .inl rfl⟩

theorem equal_self {R : DFA} {m : Nat} (h : R = ⟨0, [], []⟩ ∨ WF R ∧ sz R ≤ m) (n : Nat) (hn : m ≤ n) : calqueref09_Equal (n + 100) R R = some true := by
  rcases h with rfl | ⟨h1, h2⟩
  · exact equal_nil n
  · open Classical in
    rw [rEqual h1 h1 _ (by omega), decide_eq_true rfl]

theorem automatonSets_pure (a b : DFA) : ∃ N, calquelaw09_AutomatonSets N a b = some true := by
  refine ⟨(sz a + sz b + 200) + 100, ?_⟩
  unfold calquelaw09_AutomatonSets
  rw [awake_true]
  obtain ⟨fa, hfa⟩ := few_some (sz a + sz b + 200 + 100) a 12 (by unfold sz; omega)
  obtain ⟨fb, hfb⟩ := few_some (sz a + sz b + 200 + 100) b 12 (by unfold sz; omega)
  rw [hfa, hfb]
  simp only [Option.bind_some, Bool.not_true, cond_false]
  cases fa
  · rfl
  cases fb
  · rfl
  have la := few_le _ a 12 (by unfold sz; omega) hfa
  have lb := few_le _ b 12 (by unfold sz; omega) hfb
  simp only [Bool.not_true, cond_false, calquelaw09_to, calquelaw09_from, Option.bind_some]
  have hc : ∃ C e, automaton_Complement (sz a + sz b + 200 + 100) a = some (C, e) ∧ calqueref09_Complement (sz a + sz b + 200 + 100) a = some (C, e) ∧ (C = ⟨0, [], []⟩ ∨ WF C ∧ sz C ≤ 144) := by
    by_cases va : ValidP a
    · obtain ⟨C, c1, c2⟩ := aCompl a va (sz a + sz b + 200 + 100) (by omega)
      obtain ⟨C', d1, d2⟩ := rCompl a va (sz a + sz b + 200 + 100) (by omega)
      have := c2.unique d2 (Sim.refl _ _)
      subst this
      have hl : sz C ≤ sz a := c2.le
      exact ⟨C, 0, c1, d1, .inr ⟨c2.can.wf, by omega⟩⟩
    · exact ⟨_, 1, aCompl_no a va _ (by omega), rCompl_no a va _ (by omega), .inl rfl⟩
  obtain ⟨C, e, c1, c2, c3⟩ := hc
  obtain ⟨R, R', e', h1, h2, h3, h4, h5, h6⟩ := sets_prod a b la lb (sz a + sz b + 200 + 100) (by omega)
  rw [c1, c2, h1, h2, h3, h4]
  simp only [Option.bind_some, beq_self_eq_true, cond_true]
  rw [equal_self c3 _ (by omega)]
  simp only [Option.bind_some, cond_true]
  rw [equal_self h5 _ (by omega)]
  simp only [Option.bind_some, cond_true]
  rw [equal_self h6 _ (by omega)]
  rfl
end Go.Proofs.Ytdlaobjbjmecnaa
