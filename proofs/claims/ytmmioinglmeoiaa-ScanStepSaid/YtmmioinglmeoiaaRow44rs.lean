/- From the pure laws and the walks to the rows, printed by row.py. -/
import Derived.Test.YtmmioinglmeoiaaRows
import Derived.Test.YtmmioinglmeoiaaWalk44a1
import Derived.Test.YtmmioinglmeoiaaWalk44a2
import Derived.Test.YtmmioinglmeoiaaWalk44b1
import Derived.Test.YtmmioinglmeoiaaWalk44b2
import Derived.Test.YtmmioinglmeoiaaWalk44c
import Derived.Test.YtmmioinglmeoiaaWalk44s
import Derived.Test.YtmmioinglmeoiaaLibO
import Derived.Test.YtmmioinglmeoiaaLibOA
import Derived.Test.YtmmioinglmeoiaaLibOB
set_option linter.unusedVariables false
namespace Go.Proofs.Ytmmioinglmeoiaa
open Go.ChangeShapes Go.WideShapes Go.ChangeAt Go.RowKit Go.X

theorem own : ownKnob Try.prog.godebug = none := by kernel_rfl
theorem laidOut : laidOutB Try.prog = true := by kernel_rfl
theorem shut_true {H : Type} {enc : TypeId × Value → H} {W : World} {base : Nat} {sp : Nat → Bool} {held : Bool} (b : Bool) : DataW.Trod enc Try.prog W base sp held 4 (.bool b) (.lit (.bool b)) [] :=
  ⟨1, by simp [DataW.trod, Value.cells, Try.underlying4]⟩

theorem glob_of {W : World} (h : W.ShapedOpen Try.prog) : Glob W := cell_of_shapedOpen_int (g := 0) (t := 3) (zero := #[.int .i64 0]) h (of_decide_eq_true (by kernel_rfl)) (by kernel_rfl) (by kernel_rfl) (by kernel_rfl) (by kernel_rfl) Try.underlying3

theorem ce3 : Try.prog.cellsOf 3 = 1 := by kernel_rfl
theorem ce4 : Try.prog.cellsOf 4 = 1 := by kernel_rfl
theorem ce5 : Try.prog.cellsOf 5 = 1 := by kernel_rfl
theorem ce9 : Try.prog.cellsOf 9 = 1 := by kernel_rfl
theorem ce49 : Try.prog.cellsOf 49 = 1 := by kernel_rfl
theorem ce51 : Try.prog.cellsOf 51 = 3 := by kernel_rfl
theorem ce52 : Try.prog.cellsOf 52 = 1 := by kernel_rfl
theorem ce54 : Try.prog.cellsOf 54 = 2 := by kernel_rfl
theorem ce65 : Try.prog.cellsOf 65 = 2 := by kernel_rfl
theorem ce72 : Try.prog.cellsOf 72 = 1 := by kernel_rfl
theorem ce74 : Try.prog.cellsOf 74 = 5 := by kernel_rfl
theorem ce98 : Try.prog.cellsOf 98 = 2 := by kernel_rfl

theorem o_98 : OpnS Try.prog 98 pRange (fun x => (InR .u8 x.From ∧ InR .u8 x.To)) := fun h hz => by
  obtain ⟨hl, hf⟩ := s_struct Try.underlying98 h hz
  obtain ⟨c0, c1, rfl⟩ := len2 (hl.trans ce98)
  obtain ⟨a0, h0, q0⟩ := hf 0 _ 1 rfl ce5 (s_int Try.underlying5)
  obtain ⟨a1, h1, q1⟩ := hf 1 _ 1 rfl ce5 (s_int Try.underlying5)
  have h0 : (pI .u8) _ [c0] a0 := h0
  obtain ⟨rfl, g0⟩ := pI_inv h0
  have h1 : (pI .u8) _ [c1] a1 := h1
  obtain ⟨rfl, g1⟩ := pI_inv h1
  exact ⟨⟨a0, a1⟩, ⟨rfl, g0, g1⟩, ⟨q0, q1⟩⟩

theorem o_74 : OpnS Try.prog 74 pItem (fun x => (x.Text.length ≤ reachBytes ∧ (x.Ranges.length * 2 ≤ reachBytes ∧ ∀ y14 ∈ x.Ranges, (InR .u8 y14.From ∧ InR .u8 y14.To)) ∧ InR .i64 x.Least ∧ InR .i64 x.Most)) := fun h hz => by
  obtain ⟨hl, hf⟩ := s_struct Try.underlying74 h hz
  obtain ⟨c0, c1, c2, c3, c4, rfl⟩ := len5 (hl.trans ce74)
  obtain ⟨a0, h0, q0⟩ := hf 0 _ 1 rfl ce9 (s_str Try.underlying9)
  obtain ⟨a1, h1, q1⟩ := hf 1 _ 1 rfl ce72 (s_sliceB 2 (of_decide_eq_true (by kernel_rfl)) (Nat.succ_pos _) Try.underlying72 ce98 (Nat.succ_pos _) o_98)
  obtain ⟨a2, h2, q2⟩ := hf 2 _ 1 rfl ce4 (s_bool Try.underlying4)
  obtain ⟨a3, h3, q3⟩ := hf 3 _ 1 rfl ce3 (s_int Try.underlying3)
  obtain ⟨a4, h4, q4⟩ := hf 4 _ 1 rfl ce3 (s_int Try.underlying3)
  have h0 : pS _ [c0] a0 := h0
  obtain ⟨rfl, g0⟩ := pS_inv h0
  have h1 : (pL 2 pRange) _ [c1] a1 := h1
  have h2 : pB _ [c2] a2 := h2
  obtain rfl := pB_inv h2
  have h3 : (pI .i64) _ [c3] a3 := h3
  obtain ⟨rfl, g3⟩ := pI_inv h3
  have h4 : (pI .i64) _ [c4] a4 := h4
  obtain ⟨rfl, g4⟩ := pI_inv h4
  exact ⟨⟨a0, a1, a2, a3, a4⟩, ⟨c1, rfl, g0, h1, g3, g4⟩, ⟨q0, q1, q3, q4⟩⟩

theorem o_51 : OpnS Try.prog 51 pRule (fun x => (x.Kind.length ≤ reachBytes ∧ (x.Items.length * 64 ≤ reachBytes ∧ ∀ y12 ∈ x.Items, (y12.Text.length ≤ reachBytes ∧ (y12.Ranges.length * 2 ≤ reachBytes ∧ ∀ y13 ∈ y12.Ranges, (InR .u8 y13.From ∧ InR .u8 y13.To)) ∧ InR .i64 y12.Least ∧ InR .i64 y12.Most)) ∧ x.Next.length ≤ reachBytes)) := fun h hz => by
  obtain ⟨hl, hf⟩ := s_struct Try.underlying51 h hz
  obtain ⟨c0, c1, c2, rfl⟩ := len3 (hl.trans ce51)
  obtain ⟨a0, h0, q0⟩ := hf 0 _ 1 rfl ce9 (s_str Try.underlying9)
  obtain ⟨a1, h1, q1⟩ := hf 1 _ 1 rfl ce49 (s_sliceB 64 (of_decide_eq_true (by kernel_rfl)) (Nat.succ_pos _) Try.underlying49 ce74 (Nat.succ_pos _) o_74)
  obtain ⟨a2, h2, q2⟩ := hf 2 _ 1 rfl ce9 (s_str Try.underlying9)
  have h0 : pS _ [c0] a0 := h0
  obtain ⟨rfl, g0⟩ := pS_inv h0
  have h1 : (pL 5 pItem) _ [c1] a1 := h1
  have h2 : pS _ [c2] a2 := h2
  obtain ⟨rfl, g2⟩ := pS_inv h2
  exact ⟨⟨a0, a1, a2⟩, ⟨c1, rfl, g0, h1, g2⟩, ⟨q0, q1, q2⟩⟩

theorem o_54 : OpnS Try.prog 54 pState (fun x => (x.Name.length ≤ reachBytes ∧ (x.Rules.length * 56 ≤ reachBytes ∧ ∀ y9 ∈ x.Rules, (y9.Kind.length ≤ reachBytes ∧ (y9.Items.length * 64 ≤ reachBytes ∧ ∀ y10 ∈ y9.Items, (y10.Text.length ≤ reachBytes ∧ (y10.Ranges.length * 2 ≤ reachBytes ∧ ∀ y11 ∈ y10.Ranges, (InR .u8 y11.From ∧ InR .u8 y11.To)) ∧ InR .i64 y10.Least ∧ InR .i64 y10.Most)) ∧ y9.Next.length ≤ reachBytes)))) := fun h hz => by
  obtain ⟨hl, hf⟩ := s_struct Try.underlying54 h hz
  obtain ⟨c0, c1, rfl⟩ := len2 (hl.trans ce54)
  obtain ⟨a0, h0, q0⟩ := hf 0 _ 1 rfl ce9 (s_str Try.underlying9)
  obtain ⟨a1, h1, q1⟩ := hf 1 _ 1 rfl ce52 (s_sliceB 56 (of_decide_eq_true (by kernel_rfl)) (Nat.succ_pos _) Try.underlying52 ce51 (Nat.succ_pos _) o_51)
  have h0 : pS _ [c0] a0 := h0
  obtain ⟨rfl, g0⟩ := pS_inv h0
  have h1 : (pL 3 pRule) _ [c1] a1 := h1
  exact ⟨⟨a0, a1⟩, ⟨c1, rfl, g0, h1⟩, ⟨q0, q1⟩⟩

theorem o_65 : OpnS Try.prog 65 pPlace (fun x => (InR .i64 x.State ∧ InR .i64 x.At)) := fun h hz => by
  obtain ⟨hl, hf⟩ := s_struct Try.underlying65 h hz
  obtain ⟨c0, c1, rfl⟩ := len2 (hl.trans ce65)
  obtain ⟨a0, h0, q0⟩ := hf 0 _ 1 rfl ce3 (s_int Try.underlying3)
  obtain ⟨a1, h1, q1⟩ := hf 1 _ 1 rfl ce3 (s_int Try.underlying3)
  have h0 : (pI .i64) _ [c0] a0 := h0
  obtain ⟨rfl, g0⟩ := pI_inv h0
  have h1 : (pI .i64) _ [c1] a1 := h1
  obtain ⟨rfl, g1⟩ := pI_inv h1
  exact ⟨⟨a0, a1⟩, ⟨rfl, g0, g1⟩, ⟨q0, q1⟩⟩

set_option maxRecDepth 100000 in
theorem scanStep_lifted (hp : ∀ x0 x1 x2, (x0.length * 40 ≤ reachBytes ∧ ∀ y5 ∈ x0, (y5.Name.length ≤ reachBytes ∧ (y5.Rules.length * 56 ≤ reachBytes ∧ ∀ y6 ∈ y5.Rules, (y6.Kind.length ≤ reachBytes ∧ (y6.Items.length * 64 ≤ reachBytes ∧ ∀ y7 ∈ y6.Items, (y7.Text.length ≤ reachBytes ∧ (y7.Ranges.length * 2 ≤ reachBytes ∧ ∀ y8 ∈ y7.Ranges, (InR .u8 y8.From ∧ InR .u8 y8.To)) ∧ InR .i64 y7.Least ∧ InR .i64 y7.Most)) ∧ y6.Next.length ≤ reachBytes)))) → (x1.length ≤ reachBytes) → (InR .i64 x2.State ∧ InR .i64 x2.At) → ∃ N, calquelaw44_ScanStep N x0 x1 x2 = some true) (os : Os) (started : os.Started) (H : Type) (enc : TypeId × Value → H) :
    ReturnsInHanded {} Try.checked os 8 .any (Rows.scanStepSpec.pre6 enc Try.prog Try.f8 Rows.scanStepRow.domain false) (Rows.scanStepSpec.post enc Try.prog Try.f8 false true false false) := by
  refine returns_sized6 (C := Try.checked) own started (by kernel_rfl) Try.func8
    (ChangeSpec.witness6 (enc := enc) (C := Try.checked) false ⟨#[], #[.slice none 0 0, .string (bs []), .agg #[.int .i64 0, .int .i64 0]], []⟩ 8 (by kernel_rfl) (by kernel_rfl) (by kernel_rfl) (by kernel_rfl)) ?_
  intro W base args ds gs before hval0 hW hsh hz
  have hval : ∀ (j : Nat) t v, Try.f8.params[j]? = some t → args[j]? = some v → Value.okWide Try.prog W .any base t v := hval0
  have hW' := hW
  obtain ⟨p, q, hA0, hV, rfl, _, _⟩ := hW
  have hA : DataW.TrodAll enc Try.prog W 0 (fun _ => true) true Try.f8.params.toList args.toList ds p := hA0
  rw [Try.params8] at hA hval
  obtain ⟨v0, v1, v2, d0, d1, d2, p0, p1, p2, rfl, rfl, rfl, k0, k1, k2⟩ := trodAll_three hA
  obtain ⟨rfl, rfl⟩ := trodVars_none hV
  obtain ⟨fu0, hf0⟩ := id k0
  have hz0 : ∀ n ∈ d0.weights Try.prog 23, n ≤ reachBytes := fun n hn => by
    have := List.all_eq_true.1 hz n (DataW.weights_mem_each (j := 0) (t := 23) (d := d0) (by rw [Try.params8]; rfl) rfl n hn)
    simpa using this
  obtain ⟨s0, u0, w0, rfl⟩ := okWide_slice Try.underlying23 (hval 0 23 v0 rfl rfl)
  obtain ⟨a0, r0, q0⟩ := (s_sliceB 40 (of_decide_eq_true (by kernel_rfl)) (Nat.succ_pos _) Try.underlying23 ce54 (Nat.succ_pos _) o_54) hf0 hz0
  obtain ⟨fu1, hf1⟩ := id k1
  have hz1 : ∀ n ∈ d1.weights Try.prog 9, n ≤ reachBytes := fun n hn => by
    have := List.all_eq_true.1 hz n (DataW.weights_mem_each (j := 1) (t := 9) (d := d1) (by rw [Try.params8]; rfl) rfl n hn)
    simpa using this
  obtain ⟨s1, rfl⟩ := okWide_string Try.underlying9 (hval 1 9 v1 rfl rfl)
  obtain ⟨a1, r1, q1⟩ := (s_str Try.underlying9) hf1 hz1
  obtain ⟨e1, l1⟩ := pS_inv (show pS (hm W) [.string s1] a1 from r1)
  obtain ⟨fu2, hf2⟩ := id k2
  have hz2 : ∀ n ∈ d2.weights Try.prog 65, n ≤ reachBytes := fun n hn => by
    have := List.all_eq_true.1 hz n (DataW.weights_mem_each (j := 2) (t := 65) (d := d2) (by rw [Try.params8]; rfl) rfl n hn)
    simpa using this
  obtain ⟨s2, rfl, _⟩ := okWide_struct Try.underlying65 (hval 2 65 v2 rfl rfl)
  obtain ⟨a2, r2, q2⟩ := o_65 hf2 hz2
  clear hA0 hval0
  have hlt : ∀ x ∈ p0 ++ p1 ++ p2, x.block < W.heap.size := fun x hx => by
    refine hW'.lt x ?_
    simpa using hx
  have hlt0 : ∀ x ∈ p0, x.block < W.heap.size := fun x hx => hlt x (by simp [hx])
  have hlt1 : ∀ x ∈ p1, x.block < W.heap.size := fun x hx => hlt x (by simp [hx])
  have hlt2 : ∀ x ∈ p2, x.block < W.heap.size := fun x hx => hlt x (by simp [hx])
  obtain ⟨N, hN⟩ := hp a0 a1 a2 q0 q1 q2
  have hw := calquelaw44_ScanStep_w N _ a0 r0 a1 l1 s2.toList a2 r2 hN (glob_of hsh) (Ok.start W)
  rw [← e1] at hw
  refine hw.mono fun e W' ⟨he, ok⟩ => ?_
  subst he
  have hn := ok.below
  have t0 := Below.trod laidOut (by kernel_rfl) (of_decide_eq_true (by kernel_rfl)) k0 hn hlt0
  have t1 := Below.trod laidOut (by kernel_rfl) (of_decide_eq_true (by kernel_rfl)) k1 hn hlt1
  have t2 := Below.trod laidOut (by kernel_rfl) (of_decide_eq_true (by kernel_rfl)) k2 hn hlt2
  refine ⟨_, rfl, _, _, _, [], p0 ++ (p1 ++ p2), [], hW', ?_, ?_, rfl, hn.frame _, fun h => by cases h⟩
  · exact trodAll_mk1 (shut_true true)
  · exact trodAll_mk3 t0 t1 t2

theorem scanStep_holds (hp : ∀ x0 x1 x2, (x0.length * 40 ≤ reachBytes ∧ ∀ y5 ∈ x0, (y5.Name.length ≤ reachBytes ∧ (y5.Rules.length * 56 ≤ reachBytes ∧ ∀ y6 ∈ y5.Rules, (y6.Kind.length ≤ reachBytes ∧ (y6.Items.length * 64 ≤ reachBytes ∧ ∀ y7 ∈ y6.Items, (y7.Text.length ≤ reachBytes ∧ (y7.Ranges.length * 2 ≤ reachBytes ∧ ∀ y8 ∈ y7.Ranges, (InR .u8 y8.From ∧ InR .u8 y8.To)) ∧ InR .i64 y7.Least ∧ InR .i64 y7.Most)) ∧ y6.Next.length ≤ reachBytes)))) → (x1.length ≤ reachBytes) → (InR .i64 x2.State ∧ InR .i64 x2.At) → ∃ N, calquelaw44_ScanStep N x0 x1 x2 = some true) : Rows.ScanStepSaid :=
  OpenClaim.holds_of_wide 8 Try.f8 rfl rfl rfl rfl rfl rfl rfl ⟨rfl, rfl, rfl, rfl, rfl⟩ rfl rfl rfl rfl rfl (by kernel_rfl) Try.func8 (by kernel_rfl)
    (of_decide_eq_true (by kernel_rfl)) (by unfold Func.isWrapper; rw [if_neg (of_decide_eq_false (by kernel_rfl))]; exact ⟨rfl, rfl⟩)
    (fun os started H enc _ => scanStep_lifted hp os started H enc)

end Go.Proofs.Ytmmioinglmeoiaa
