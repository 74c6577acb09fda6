/- Products of automata: the program's and the reference's; And, Or. -/
import Derived.Test.YtdlaobjbjmecnaaMinF
import Derived.Test.YtdlaobjbjmecnaaExt09d
set_option linter.unusedVariables false
namespace Go.Proofs.Ytdlaobjbjmecnaa
open Go.X

theorem idxOf_inj {α : Type} [DecidableEq α] {f : Nat → α} (hf : ∀ x y, f x = f y → x = y) (a : Nat) : ∀ l : List Nat, (l.map f).idxOf (f a) = l.idxOf a
  | [] => rfl
  | x :: l => by
    rw [List.map_cons, List.idxOf_cons, List.idxOf_cons, idxOf_inj hf a l]
    by_cases e : x = a
    · subst e; simp
    · have h1 : (f x == f a) = false := by simpa using fun h => e (hf _ _ h)
      have h2 : (x == a) = false := by simpa using e
      rw [h1, h2]
theorem mem_inj {α : Type} {f : Nat → α} (hf : ∀ x y, f x = f y → x = y) (a : Nat) (l : List Nat) : f a ∈ l.map f ↔ a ∈ l := by
  rw [List.mem_map]
  constructor
  · rintro ⟨x, h, e⟩; rw [← hf _ _ e]; exact h
  · intro h; exact ⟨a, h, rfl⟩

section
variable (a b : DFA)
/-- A pair of states as one number. -/
def pSucc (p c : Nat) : Nat := stp a (p / sz b) c * sz b + stp b (p % sz b) c
def pStart : Nat := st0 a * sz b + st0 b
def pOk (p : Nat) : Prop := p < sz a * sz b
end

section
variable {a b : DFA}
theorem pair_div {x y k : Nat} (h : y < k) : (x * k + y) / k = x := by
  rw [Nat.mul_comm, Nat.mul_add_div (by omega), Nat.div_eq_of_lt h]; rfl
theorem pair_mod {x y k : Nat} (h : y < k) : (x * k + y) % k = y := by
  rw [Nat.mul_comm, Nat.mul_add_mod, Nat.mod_eq_of_lt h]
theorem pair_lt {x y k n : Nat} (hx : x < n) (hy : y < k) : x * k + y < n * k := by
  have := Nat.mul_le_mul_right k (show x + 1 ≤ n by omega)
  rw [Nat.add_mul] at this
  omega
theorem pOk.fst {p : Nat} (h : pOk a b p) : p / sz b < sz a := Nat.div_lt_of_lt_mul (by rw [Nat.mul_comm]; exact h)
theorem pOk.snd {p : Nat} (vb : WF b) : p % sz b < sz b := Nat.mod_lt _ (by have := vb.one; unfold sz; omega)
theorem pSucc_div (va : WF a) (vb : WF b) {p c : Nat} (h : pOk a b p) (hc : c < 11) : pSucc a b p c / sz b = stp a (p / sz b) c := pair_div (vb.stp_lt (pOk.snd vb) hc)
theorem pSucc_mod (va : WF a) (vb : WF b) {p c : Nat} (h : pOk a b p) (hc : c < 11) : pSucc a b p c % sz b = stp b (p % sz b) c := pair_mod (vb.stp_lt (pOk.snd vb) hc)
theorem pSucc_ok (va : WF a) (vb : WF b) {p c : Nat} (h : pOk a b p) (hc : c < 11) : pOk a b (pSucc a b p c) := pair_lt (va.stp_lt h.fst hc) (vb.stp_lt (pOk.snd vb) hc)
theorem pStart_ok (va : WF a) (vb : WF b) : pOk a b (pStart a b) := pair_lt va.st0_lt vb.st0_lt

abbrev SeaP (a b : DFA) (F : List Nat) (P : Nat) : Prop := Sea (pSucc a b) isId (pStart a b) (pOk a b) F P
abbrev RowP (a b : DFA) (F : List Nat) (y c : Nat) (row : List Int) : Prop := RowTo (pSucc a b) isId F y c row
abbrev RowsP (a b : DFA) (F : List Nat) (i : Nat) (rows : List (List Int)) : Prop := Rows (pSucc a b) isId F i rows

/-- D accepts the words for which f of what both accept is true. -/
structure ProdOk (f : Bool → Bool → Bool) (a b D : DFA) : Prop where
  wf : WF D
  le : sz D ≤ sz a * sz b
  lang : ∀ w, Word w → Go.Proofs.Ytdlaobjbjmecnaa.lang D (st0 D) w = f (Go.Proofs.Ytdlaobjbjmecnaa.lang a (st0 a) w) (Go.Proofs.Ytdlaobjbjmecnaa.lang b (st0 b) w)

theorem prod_ok (va : WF a) (vb : WF b) (hm : sz a * sz b ≤ 5000000) {f : Bool → Bool → Bool} {F : List Nat} {D : DFA} (hs : SeaP a b F (11 * F.length)) (hf : Found (succ := pSucc a b) (key := isId) F D)
    (hac : ∀ i y : Nat, F[i]? = some y → D.Accept[i]? = some (f (Acc a (y / sz b)) (Acc b (y % sz b)))) : ProdOk f a b D := by
  have hl := hs.len_le (B := sz a * sz b) (fun _ h => h)
  have hD : sz D = F.length := hf.len
  have key : ∀ (w : List Nat) (i y : Nat), Word w → F[i]? = some y → lang D i w = f (lang a (y / sz b) w) (lang b (y % sz b) w) := by
    intro w
    induction w with
    | nil =>
      intro i y _ hy
      show Acc D i = _
      unfold Acc
      rw [hac i y hy]
      rfl
    | cons c w ih =>
      intro i y hw hy
      obtain ⟨hc, hw⟩ := hw.tail
      have hyk := hs.ok y (List.mem_of_getElem? hy)
      obtain ⟨z, h1, h2⟩ := hf.to hs hy hc
      have h2 : z = pSucc a b y c := h2
      have := ih _ z hw h1
      rw [h2, pSucc_div va vb hyk hc, pSucc_mod va vb hyk hc] at this
      exact this
  refine ⟨hf.wf hs (by omega), by omega, fun w hw => ?_⟩
  have e : st0 D = 0 := by show D.Start.toNat = 0; rw [hf.st]; rfl
  rw [e, key w 0 _ hw hs.hd]
  have e1 : pStart a b / sz b = st0 a := pair_div vb.st0_lt
  have e2 : pStart a b % sz b = st0 b := pair_mod vb.st0_lt
  rw [e1, e2]

/-! ### the program's product -/
def pr (k : Nat) (p : Nat) : Arr2_Int := ⟨((p / k : Nat) : Int), ((p % k : Nat) : Int)⟩
theorem pr_inj {k : Nat} (x y : Nat) (h : pr k x = pr k y) : x = y := by
  simp only [pr, Arr2_Int.mk.injEq] at h
  have h1 : x / k = y / k := by omega
  have h2 : x % k = y % k := by omega
  rw [← Nat.div_add_mod x k, ← Nat.div_add_mod y k, h1, h2]

/-- The row that is written in place. -/
def RowW (a b : DFA) (F : List Nat) (y c : Nat) (row : List Int) : Prop := row.length = 11 ∧ ∀ e, e < c → row[e]? = some (num isId F (pSucc a b y e) : Int) ∧ isId (pSucc a b y e) ∈ F.map isId

theorem RowW.next {F : List Nat} {y c : Nat} {row : List Int} (hc : c < 11) (h : RowW a b F y c row) : RowW a b (fnd (pSucc a b) isId F y c) y (c + 1) (row.set c (num isId (fnd (pSucc a b) isId F y c) (pSucc a b y c) : Int)) := by
  refine ⟨by simpa using h.1, fun e he => ?_⟩
  rw [get_set (by rw [h.1]; exact hc)]
  by_cases e' : e = c
  · subst e'
    rw [if_pos rfl]
    exact ⟨rfl, fnd_new F y e⟩
  · rw [if_neg e']
    obtain ⟨h1, h2⟩ := h.2 e (by omega)
    exact ⟨by rw [h1, num_fnd h2], fnd_mem h2⟩

/-- What the two printed functions (one for And, one for Or) have in common. -/
structure ProdBody (f : Bool → Bool → Bool) (b2 : Nat → DFA → DFA → Arr2_Int → Arr2_Int → List Arr2_Int → Int → List (Arr2_Int × Int) → List Int → Option ((List Arr2_Int × Int × List (Arr2_Int × Int) × List Int) ⊕ (List (Arr2_Int × Int) × List Arr2_Int × List Int)))
    (b1 : Nat → DFA → DFA → List Arr2_Int → Int → DFA → List (Arr2_Int × Int) → Option ((List Arr2_Int × Int × DFA × List (Arr2_Int × Int)) ⊕ DFA)) : Prop where
  e2 : ∀ N a b x y ps i nu row, b2 N a b x y ps i nu row = automaton_product__45_b2 N a b x y ps i nu row
  e1 : ∀ N a b ps i d nu, b1 N a b ps i d nu = (bif (decide (i < (ps.length : Int))) then
    (idx ps i).bind fun x89 =>
    (idx ps i).bind fun x101 =>
    (mk 11 (0 : Int)).bind fun l113 =>
    (iter (fun s => automaton_product__45_b2 N a b x89 x101 s.1 s.2.1 s.2.2.1 s.2.2.2) N (ps, 0, nu, l113)).bind fun o132 =>
    (app d.Next ([o132.2.2] : List (List (Int)))).bind fun l300 =>
    ((idx a.Accept x89.e0).bind fun x313 =>
      (idx b.Accept x101.e1).bind fun x322 =>
      (app d.Accept ([f x313 x322] : List (Bool))).bind fun l336 =>
      some (DFA.mk d.Start l300 l336)).bind fun o305 =>
    some (.inl (o132.2.1, (i + 1), o305, o132.1))
  else
    some (.inr d))
theorem body_and : ProdBody (· && ·) automaton_product__45_b2 automaton_product__45_b1 := ⟨fun _ _ _ _ _ _ _ _ _ => rfl, fun N a b ps i d nu => by
  unfold automaton_product__45_b1 automaton_And_1
  have : ∀ x y : Bool, (bif x then some y else some false) = some (x && y) := by intro x y; cases x <;> rfl
  simp only [this, Option.bind_some]⟩
theorem body_or : ProdBody (· || ·) automaton_product__47_b2 automaton_product__47_b1 := ⟨fun _ _ _ _ _ _ _ _ _ => rfl, fun N a b ps i d nu => by
  have e : automaton_product__47_b2 = automaton_product__45_b2 := rfl
  unfold automaton_product__47_b1 automaton_Or_1
  have : ∀ x y : Bool, (bif x then some true else some y) = some (x || y) := by intro x y; cases x <;> rfl
  simp only [this, Option.bind_some, e]⟩

theorem num_isId (F : List Nat) (x : Nat) : num isId F x = F.idxOf x := by
  unfold num; rw [map_isId]; rfl

theorem aProd_in (va : WF a) (vb : WF b) (hm : sz a * sz b ≤ 5000000) (M : Nat) {i y : Nat} {F : List Nat} (hF : F[i]? = some y) (hS : SeaP a b F (11 * i)) {rows : List (List Int)} (hR : RowsP a b F i rows) (l0 : List Int) (hl0 : l0.length = 11) (N : Nat) (hN : 12 ≤ N) :
    ∃ o, iter (fun s => automaton_product__45_b2 M a b (pr (sz b) y) (pr (sz b) y) s.1 s.2.1 s.2.2.1 s.2.2.2) N (F.map (pr (sz b)), 0, tabN 0 (F.map (pr (sz b))), l0) = some o ∧
      ∃ F' row, o = (tabN 0 (F'.map (pr (sz b))), F'.map (pr (sz b)), row) ∧ F'[i]? = some y ∧ SeaP a b F' (11 * i + 11) ∧ RowsP a b F' i rows ∧ RowP a b F' y 11 row ∧ (∀ j z : Nat, F[j]? = some z → F'[j]? = some z) := by
  refine iter_ind (fun c s => ∃ F' row, s = (F'.map (pr (sz b)), (c : Int), tabN 0 (F'.map (pr (sz b))), row) ∧ F'[i]? = some y ∧ SeaP a b F' (11 * i + c) ∧ RowsP a b F' i rows ∧ RowW a b F' y c row ∧ (∀ j z : Nat, F[j]? = some z → F'[j]? = some z)) 11 _ ?_ ?_ N _ (by omega)
    ⟨F, l0, rfl, hF, hS, hR, ⟨hl0, fun e he => absurd he (Nat.not_lt_zero e)⟩, fun _ _ h => h⟩
  · rintro c s hc ⟨F', row, rfl, hy, hs, hr, hrow, hext⟩
    have hys := hs.ok y (List.mem_of_getElem? hy)
    have hyb := pOk.snd (p := y) vb
    obtain ⟨ra, h1, h2, h3⟩ := va.step hys.fst hc
    obtain ⟨rb, g1, g2, g3⟩ := vb.step hyb hc
    have hnext := hs.next (y := y) (fun p c hp hc => pSucc_ok va vb hp hc) (by rw [show (11 * i + c) / 11 = i by omega]; exact hy)
    rw [show (11 * i + c) % 11 = c by omega] at hnext
    have hl' := hs.len_le (B := sz a * sz b) (fun p hp => hp)
    have hrl := hrow.1
    have ho : (Arr2_Int.mk ((stp a (y / sz b) c : Nat) : Int) ((stp b (y % sz b) c : Nat) : Int)) = pr (sz b) (pSucc a b y c) := by
      unfold pr
      rw [pSucc_div va vb hys hc, pSucc_mod va vb hys hc]
    simp only [automaton_product__45_b2]
    rw [cond_pos (by omega)]
    simp only [pr]
    rw [idx_some h1]
    simp only [Option.bind_some]
    rw [idx_some h2]
    simp only [Option.bind_some]
    rw [idx_some g1]
    simp only [Option.bind_some]
    rw [idx_some g2]
    simp only [Option.bind_some]
    rw [ho]
    have hpr : ∀ l : List Nat, (l.map fun p => (⟨((p / sz b : Nat) : Int), ((p % sz b : Nat) : Int)⟩ : Arr2_Int)) = l.map (pr (sz b)) := fun _ => rfl
    simp only [tabN_get, mem_inj pr_inj, idxOf_inj pr_inj, Nat.zero_add, List.length_map]
    by_cases hm' : pSucc a b y c ∈ F'
    · rw [if_pos hm']
      simp only [Option.isSome_some, Bool.not_true, cond_false, Option.bind_some, Option.getD_some]
      rw [idx_lt row (by omega)]
      simp only [Option.bind_some]
      rw [setI_nat (by omega)]
      simp only [Option.bind_some]
      have hf : fnd (pSucc a b) isId F' y c = F' := by unfold fnd; rw [if_pos (by rw [map_isId]; exact hm')]
      have hrn := hrow.next hc
      rw [hf] at hrn hnext
      refine ⟨_, rfl, F', row.set c ((F'.idxOf (pSucc a b y c) : Nat) : Int), by simp, hy, hnext, hr, ?_, hext⟩
      rw [num_isId] at hrn; exact hrn
    · rw [if_neg hm']
      simp only [Option.isSome_none, Bool.not_false, cond_true]
      have hnm : isId (pSucc a b y c) ∉ F'.map isId := by rw [map_isId]; exact hm'
      have hf : fnd (pSucc a b) isId F' y c = F' ++ [pSucc a b y c] := by unfold fnd; rw [if_neg hnm]
      have hms : mset (tabN 0 (F'.map (pr (sz b)))) (pr (sz b) (pSucc a b y c)) ((F'.length : Nat) : Int) = some (tabN 0 ((F' ++ [pSucc a b y c]).map (pr (sz b)))) := by
        unfold mset
        rw [if_pos (by rw [tabN_len, List.length_map]; unfold LIM; omega)]
        have := tabN_put (F'.map (pr (sz b))) 0 (pr (sz b) (pSucc a b y c)) (by rw [mem_inj pr_inj]; exact hm')
        rw [Nat.zero_add, List.length_map] at this
        rw [this]; simp
      rw [hms]
      simp only [Option.bind_some]
      rw [app_some (by simp; omega)]
      simp only [Option.bind_some]
      rw [idx_lt row (by omega)]
      simp only [Option.bind_some]
      rw [setI_nat (by omega)]
      simp only [Option.bind_some]
      have hrn := hrow.next hc
      rw [num_fnd_new hnm] at hrn
      refine ⟨_, rfl, fnd (pSucc a b) isId F' y c, row.set c (F'.length : Int), by rw [hf]; simp, fnd_get hy, hnext, hr.fnd (by have := get_lt hy; omega) y c, hrn, fun j z hz => fnd_get (hext j z hz)⟩
  · rintro s ⟨F', row, rfl, hy, hs, hr, hrow, hext⟩
    simp only [automaton_product__45_b2]
    rw [cond_neg (by omega)]
    exact ⟨_, rfl, F', row, rfl, hy, hs, hr, hrow, hext⟩

theorem aProd {f : Bool → Bool → Bool} {b2} {b1} (B : ProdBody f b2 b1) (va : WF a) (vb : WF b) (hm : sz a * sz b ≤ 5000000) (M : Nat) (hM : 12 ≤ M) (N : Nat) (hN : sz a * sz b < N) :
    ∃ o, iter (fun s => b1 M a b s.1 s.2.1 s.2.2.1 s.2.2.2) N ([pr (sz b) (pStart a b)], 0, ⟨0, [], []⟩, tabN 0 [pr (sz b) (pStart a b)]) = some o ∧ ProdOk f a b o := by
  refine iter_meas (fun s => ∃ F i R, s = (F.map (pr (sz b)), ((i : Nat) : Int), R, tabN 0 (F.map (pr (sz b)))) ∧ i ≤ F.length ∧ SeaP a b F (11 * i) ∧ RowsP a b F i R.Next ∧ R.Start = 0 ∧ R.Accept.length = i ∧ ∀ j y, j < i → F[j]? = some y → R.Accept[j]? = some (f (Acc a (y / sz b)) (Acc b (y % sz b))))
    (fun s => sz a * sz b - s.2.1.toNat) _ ?_ N _ (by simp only [Int.toNat_zero]; omega) ⟨[pStart a b], 0, ⟨0, [], []⟩, rfl, by simp, Sea.start (pStart_ok va vb), ⟨rfl, fun j y hj => absurd hj (Nat.not_lt_zero j)⟩, rfl, rfl, fun j y hj => absurd hj (Nat.not_lt_zero j)⟩
  rintro s ⟨F, i, R, rfl, hi, hs, hr, h0, ha, hac⟩
  have hl := hs.len_le (B := sz a * sz b) (fun p hp => hp)
  simp only [B.e1]
  by_cases hlt : i < F.length
  · left
    have hy : F[i]? = some F[i] := List.getElem?_eq_getElem hlt
    have hys := hs.ok _ (List.mem_of_getElem? hy)
    have hyp : idx (F.map (pr (sz b))) (i : Int) = some (pr (sz b) F[i]) := by rw [idx_nat, List.getElem?_map, hy]; rfl
    rw [cond_pos (by rw [List.length_map]; omega), hyp]
    simp only [Option.bind_some]
    rw [show (11 : Int) = ((11 : Nat) : Int) from rfl, mk_some (by omega)]
    simp only [Option.bind_some]
    obtain ⟨o, e1, F', row, rfl, e2, e3, e4, e5, e6⟩ := aProd_in va vb hm M hy hs hr (List.replicate 11 0) (by simp) M hM
    rw [e1]
    have hrl := e4.len
    simp only [Option.bind_some]
    rw [app_some (by simp; omega)]
    simp only [Option.bind_some, pr]
    rw [idx_some (va.Acc_some hys.fst)]
    simp only [Option.bind_some]
    rw [idx_some (vb.Acc_some (pOk.snd vb))]
    simp only [Option.bind_some]
    rw [app_some (by simp; omega)]
    simp only [Option.bind_some]
    refine ⟨_, rfl, ⟨F', i + 1, ⟨R.Start, R.Next ++ [row], R.Accept ++ [f (Acc a (F[i] / sz b)) (Acc b (F[i] % sz b))]⟩, by simp, by have := get_lt e2; omega, by rw [show 11 * (i + 1) = 11 * i + 11 by omega]; exact e3, e4.add e2 e5, h0, by simp [ha], fun j y hj hy' => ?_⟩, ?_⟩
    · simp only []
      by_cases e : j = i
      · subst e
        rw [e2] at hy'; cases hy'
        rw [List.getElem?_append_right (by omega)]
        simp [ha]
      · have ej : F[j]? = some F[j] := List.getElem?_eq_getElem (by omega)
        have := e6 j _ ej
        rw [hy'] at this; cases this
        rw [List.getElem?_append_left (by omega)]
        exact hac j _ (by omega) ej
    · simp only []; omega
  · right
    have hi' : i = F.length := by omega
    subst hi'
    rw [cond_neg (by rw [List.length_map]; omega)]
    exact ⟨_, rfl, prod_ok va vb hm hs (hr.found ha h0) fun i y hy => hac i y (get_lt hy) hy⟩

theorem pr_start (va : WF a) (vb : WF b) : Arr2_Int.mk a.Start b.Start = pr (sz b) (pStart a b) := by
  have e1 : pStart a b / sz b = st0 a := pair_div vb.st0_lt
  have e2 : pStart a b % sz b = st0 b := pair_mod vb.st0_lt
  unfold pr
  rw [e1, e2, va.st0_eq, vb.st0_eq]

theorem aAnd (va : ValidP a) (vb : ValidP b) (hm : sz a * sz b ≤ 2000) (N : Nat) (hN : sz a + sz b + sz a * sz b + 20 < N) : ∃ D R, automaton_And N a b = some (R, 0) ∧ ProdOk (· && ·) a b D ∧ MinOk D R := by
  unfold automaton_And automaton_product__45
  open Classical in
  rw [aValid N a (by omega) (by unfold sz at *; omega), aValid N b (by omega) (by unfold sz at *; omega), decide_eq_true va, decide_eq_true vb]
  simp only [Option.bind_some, Bool.not_true, cond_false]
  rw [pr_start va.wf vb.wf]
  have hms : mset ([] : List (Arr2_Int × Int)) (pr (sz b) (pStart a b)) 0 = some (tabN 0 [pr (sz b) (pStart a b)]) := rfl
  rw [hms]
  simp only [Option.bind_some]
  obtain ⟨D, h1, h2⟩ := aProd body_and va.wf vb.wf (by omega) N (by omega) N (by omega)
  rw [h1]
  simp only [Option.bind_some]
  have hD := h2.le
  obtain ⟨R, h3, h4⟩ := aMinimal D h2.wf N (by omega)
  rw [h3]
  have hR := h4.le
  simp only [Option.bind_some]
  rw [cond_neg (by unfold sz at *; omega)]
  exact ⟨D, R, rfl, h2, h4⟩
theorem aOr (va : ValidP a) (vb : ValidP b) (hm : sz a * sz b ≤ 2000) (N : Nat) (hN : sz a + sz b + sz a * sz b + 20 < N) : ∃ D R, automaton_Or N a b = some (R, 0) ∧ ProdOk (· || ·) a b D ∧ MinOk D R := by
  unfold automaton_Or automaton_product__47
  open Classical in
  rw [aValid N a (by omega) (by unfold sz at *; omega), aValid N b (by omega) (by unfold sz at *; omega), decide_eq_true va, decide_eq_true vb]
  simp only [Option.bind_some, Bool.not_true, cond_false]
  rw [pr_start va.wf vb.wf]
  have hms : mset ([] : List (Arr2_Int × Int)) (pr (sz b) (pStart a b)) 0 = some (tabN 0 [pr (sz b) (pStart a b)]) := rfl
  rw [hms]
  simp only [Option.bind_some]
  obtain ⟨D, h1, h2⟩ := aProd body_or va.wf vb.wf (by omega) N (by omega) N (by omega)
  rw [h1]
  simp only [Option.bind_some]
  have hD := h2.le
  obtain ⟨R, h3, h4⟩ := aMinimal D h2.wf N (by omega)
  rw [h3]
  have hR := h4.le
  simp only [Option.bind_some]
  rw [cond_neg (by unfold sz at *; omega)]
  exact ⟨D, R, rfl, h2, h4⟩
theorem aAnd_no (h : ¬ (ValidP a ∧ ValidP b)) (N : Nat) (hN : sz a + sz b + 20 < N) : automaton_And N a b = some (⟨0, [], []⟩, 1) ∧ automaton_Or N a b = some (⟨0, [], []⟩, 1) := by
  unfold automaton_And automaton_product__45 automaton_Or automaton_product__47
  open Classical in
  rw [aValid N a (by omega) (by unfold sz at *; omega), aValid N b (by omega) (by unfold sz at *; omega)]
  by_cases va : ValidP a
  · rw [decide_eq_true va, decide_eq_false (fun vb => h ⟨va, vb⟩)]
    exact ⟨rfl, rfl⟩
  · rw [decide_eq_false va]
    exact ⟨rfl, rfl⟩

theorem MinOk.same_prod {f : Bool → Bool → Bool} {D D' R R' : DFA} (h : ProdOk f a b D) (h' : ProdOk f a b D') (r : MinOk D R) (r' : MinOk D' R') : R = R' :=
  r.unique r' fun w hw => (h.lang w hw).trans (h'.lang w hw).symm
end

theorem few_le (N : Nat) (d : DFA) (n : Nat) (hN' : d.Next.length < N) (h : calqueref09_Few N d (n : Int) = some true) : sz d ≤ n := by
  unfold calqueref09_Few at h
  open Classical in
  rw [iter_all d.Next.length (fun i => ∃ row, d.Next[i]? = some row ∧ row.length ≤ 22) _ false ?_ ?_ ?_ N hN'] at h
  · split at h
    · simp only [Option.bind_some, Sum.elim_inl] at h
      rw [cond_dec] at h
      split at h
      · unfold sz; omega
      · cases h
    · cases h
  · rintro i hi ⟨row, r1, r2⟩
    simp only [calqueref09_Few_b1]
    rw [cond_pos (by omega), idx_nat, r1]
    simp only [Option.bind_some]
    rw [cond_neg (by omega)]
  · intro i hi hn
    simp only [calqueref09_Few_b1]
    rw [cond_pos (by omega), idx_lt d.Next hi]
    simp only [Option.bind_some]
    rw [cond_pos]
    exact Int.not_le.1 fun h => hn ⟨d.Next[i], by simp, by omega⟩
  · simp only [calqueref09_Few_b1]
    rw [cond_neg (by omega)]
end Go.Proofs.Ytdlaobjbjmecnaa
