/- The walks of this part: the model's run of each function yields what the plain function says. Printed by gen.py. -/
import Derived.Test.YthecjdgffboedaaDoorExt15b
import Derived.Test.YthecjdgffboedaaDoorWalk15a
import Derived.Test.YthecjdgffboedaaDoorChecked
import Derived.Test.YthecjdgffboedaaDoorShelf
set_option linter.unusedVariables false
namespace Go.Proofs.YthecjdgffboedaaDoor
open Go.X

def pNumber2 : Rp Number2 := fun _ cs x => cs = [.bool x.Neg, .string (bs x.Whole), .string (bs x.Frac)] ∧ x.Whole.length ≤ LIMS ∧ x.Frac.length ≤ LIMS
theorem mNumber2 : Mono pNumber2 := ⟨fun _ h => by
  obtain ⟨e, h1, h2⟩ := h
  exact ⟨e, h1, h2⟩, fun h => by
  obtain ⟨rfl, h1, h2⟩ := h
  exact ⟨rfl, rfl, rfl, trivial⟩⟩

def pSpan : Rp Span := fun _ cs x => cs = [.int .i64 x.From, .int .i64 x.To] ∧ InR .i64 x.From ∧ InR .i64 x.To
theorem mSpan : Mono pSpan := ⟨fun _ h => by
  obtain ⟨e, h0, h1⟩ := h
  exact ⟨e, h0, h1⟩, fun h => by
  obtain ⟨rfl, h0, h1⟩ := h
  exact ⟨rfl, rfl, trivial⟩⟩

def pRelation : Rp Relation := fun m cs x => ∃ c3, cs = [.int .i64 x.Operand, .int .i64 x.Mod, .bool x.Not, c3] ∧ InR .i64 x.Operand ∧ InR .i64 x.Mod ∧ (pL 2 pSpan) m [c3] x.Spans
theorem mRelation : Mono pRelation := ⟨fun hm h => by
  obtain ⟨c3, e, h0, h1, h3⟩ := h
  exact ⟨c3, e, h0, h1, (mL mSpan).up hm h3⟩, fun h => by
  obtain ⟨c3, rfl, h0, h1, h3⟩ := h
  exact ⟨rfl, rfl, rfl, ((mL mSpan).one h3).1, trivial⟩⟩

def pRule : Rp Rule := fun m cs x => ∃ c1, cs = [.string (bs x.Class), c1] ∧ x.Class.length ≤ LIMS ∧ (pL 1 (pL 4 pRelation)) m [c1] x.Cond
theorem mRule : Mono pRule := ⟨fun hm h => by
  obtain ⟨c1, e, h0, h1⟩ := h
  exact ⟨c1, e, h0, (mL (mL mRelation)).up hm h1⟩, fun h => by
  obtain ⟨c1, rfl, h0, h1⟩ := h
  exact ⟨rfl, ((mL (mL mRelation)).one h1).1, trivial⟩⟩

def pListPattern : Rp ListPattern := fun _ cs x => cs = [.string (bs x.Style), .string (bs x.Two), .string (bs x.Start), .string (bs x.Middle), .string (bs x.End)] ∧ x.Style.length ≤ LIMS ∧ x.Two.length ≤ LIMS ∧ x.Start.length ≤ LIMS ∧ x.Middle.length ≤ LIMS ∧ x.End.length ≤ LIMS
theorem mListPattern : Mono pListPattern := ⟨fun _ h => by
  obtain ⟨e, h0, h1, h2, h3, h4⟩ := h
  exact ⟨e, h0, h1, h2, h3, h4⟩, fun h => by
  obtain ⟨rfl, h0, h1, h2, h3, h4⟩ := h
  exact ⟨rfl, rfl, rfl, rfl, rfl, trivial⟩⟩

def pUnitPattern : Rp UnitPattern := fun _ cs x => cs = [.string (bs x.Unit), .string (bs x.Class), .string (bs x.Pattern)] ∧ x.Unit.length ≤ LIMS ∧ x.Class.length ≤ LIMS ∧ x.Pattern.length ≤ LIMS
theorem mUnitPattern : Mono pUnitPattern := ⟨fun _ h => by
  obtain ⟨e, h0, h1, h2⟩ := h
  exact ⟨e, h0, h1, h2⟩, fun h => by
  obtain ⟨rfl, h0, h1, h2⟩ := h
  exact ⟨rfl, rfl, rfl, trivial⟩⟩

def pDatePattern : Rp DatePattern := fun _ cs x => cs = [.string (bs x.Skeleton), .string (bs x.Pattern)] ∧ x.Skeleton.length ≤ LIMS ∧ x.Pattern.length ≤ LIMS
theorem mDatePattern : Mono pDatePattern := ⟨fun _ h => by
  obtain ⟨e, h0, h1⟩ := h
  exact ⟨e, h0, h1⟩, fun h => by
  obtain ⟨rfl, h0, h1⟩ := h
  exact ⟨rfl, rfl, trivial⟩⟩

def pLocale : Rp Locale := fun m cs x => ∃ c3 c4 c11 c12 c13 c14 c15, cs = [.string (bs x.Tag), .string (bs x.Parent), .string (bs x.Direction), c3, c4, .string (bs x.Symbols.Decimal), .string (bs x.Symbols.Group), .string (bs x.Symbols.Minus), .string (bs x.Symbols.Percent), .int .i64 x.Symbols.Primary, .int .i64 x.Symbols.Secondary, c11, c12, c13, c14, c15] ∧ x.Tag.length ≤ LIMS ∧ x.Parent.length ≤ LIMS ∧ x.Direction.length ≤ LIMS ∧ (pL 2 pRule) m [c3] x.Cardinal ∧ (pL 2 pRule) m [c4] x.Ordinal ∧ x.Symbols.Decimal.length ≤ LIMS ∧ x.Symbols.Group.length ≤ LIMS ∧ x.Symbols.Minus.length ≤ LIMS ∧ x.Symbols.Percent.length ≤ LIMS ∧ InR .i64 x.Symbols.Primary ∧ InR .i64 x.Symbols.Secondary ∧ (pL 5 pListPattern) m [c11] x.Lists ∧ (pL 3 pUnitPattern) m [c12] x.Units ∧ (pL 2 pDatePattern) m [c13] x.Dates ∧ (pL 1 pS) m [c14] x.Months ∧ (pL 1 pS) m [c15] x.Days
theorem mLocale : Mono pLocale := ⟨fun hm h => by
  obtain ⟨c3, c4, c11, c12, c13, c14, c15, e, h0, h1, h2, h3, h4, h5, h6, h7, h8, h9, h10, h11, h12, h13, h14, h15⟩ := h
  exact ⟨c3, c4, c11, c12, c13, c14, c15, e, h0, h1, h2, (mL mRule).up hm h3, (mL mRule).up hm h4, h5, h6, h7, h8, h9, h10, (mL mListPattern).up hm h11, (mL mUnitPattern).up hm h12, (mL mDatePattern).up hm h13, (mL mS).up hm h14, (mL mS).up hm h15⟩, fun h => by
  obtain ⟨c3, c4, c11, c12, c13, c14, c15, rfl, h0, h1, h2, h3, h4, h5, h6, h7, h8, h9, h10, h11, h12, h13, h14, h15⟩ := h
  exact ⟨rfl, rfl, rfl, ((mL mRule).one h3).1, ((mL mRule).one h4).1, rfl, rfl, rfl, rfl, rfl, rfl, ((mL mListPattern).one h11).1, ((mL mUnitPattern).one h12).1, ((mL mDatePattern).one h13).1, ((mL mS).one h14).1, ((mL mS).one h15).1, trivial⟩⟩

theorem agg_23 : aggB Tryd.prog 23 6 = true := by kernel_rfl
theorem agg_45 : aggB Tryd.prog 45 3 = true := by kernel_rfl
theorem fo_23_0 : fieldOffB Tryd.prog 23 0 0 = true := by kernel_rfl
theorem fo_23_2 : fieldOffB Tryd.prog 23 2 2 = true := by kernel_rfl
theorem fo_23_3 : fieldOffB Tryd.prog 23 3 3 = true := by kernel_rfl
theorem fo_35_5 : fieldOffB Tryd.prog 35 5 5 = true := by kernel_rfl
theorem fo_45_0 : fieldOffB Tryd.prog 45 0 0 = true := by kernel_rfl
theorem fo_45_1 : fieldOffB Tryd.prog 45 1 1 = true := by kernel_rfl
theorem fo_45_2 : fieldOffB Tryd.prog 45 2 2 = true := by kernel_rfl
theorem go_13 : goB Tryd.prog 13 = true := by kernel_rfl
theorem go_14 : goB Tryd.prog 14 = true := by kernel_rfl
theorem go_15 : goB Tryd.prog 15 = true := by kernel_rfl
theorem go_16 : goB Tryd.prog 16 = true := by kernel_rfl
theorem go_25 : goB Tryd.prog 25 = true := by kernel_rfl
theorem go_28 : goB Tryd.prog 28 = true := by kernel_rfl
theorem go_29 : goB Tryd.prog 29 = true := by kernel_rfl
theorem go_30 : goB Tryd.prog 30 = true := by kernel_rfl
theorem go_31 : goB Tryd.prog 31 = true := by kernel_rfl
theorem go_32 : goB Tryd.prog 32 = true := by kernel_rfl
theorem go_50 : goB Tryd.prog 50 = true := by kernel_rfl
theorem go_51 : goB Tryd.prog 51 = true := by kernel_rfl
theorem go_52 : goB Tryd.prog 52 = true := by kernel_rfl
set_option maxRecDepth 100000 in
theorem inf_4 : ∃ i, Tryd.prog.info? 4 = some i ∧ i.size = 1 := ⟨_, rfl, by kernel_rfl⟩
set_option maxRecDepth 100000 in
theorem inf_45 : ∃ i, Tryd.prog.info? 45 = some i ∧ i.size = 3 := ⟨_, rfl, by kernel_rfl⟩
theorem places_45 : placesB Tryd.prog 45 = some [(0, 1), (1, 1), (2, 1)] := by kernel_rfl
theorem zero_45 : zeroB Tryd.prog 45 = some [(Value.bool false), (Value.string (bs ([]))), (Value.string (bs ([])))] := by kernel_rfl
theorem zero_5 : zeroB Tryd.prog 5 = some [(Value.int .u8 0)] := by kernel_rfl

def calqueref07_Zero_R (u : World) (m0 : Mem) (S : Segs) (r : Bool) (a : Act) (w : World) : Prop :=
  Ok u m0 S w ∧ a.defers = [] ∧ RVs Tryd.prog a w [.t 2 (.bool r)]
set_option maxHeartbeats 4000000 in
set_option maxRecDepth 100000 in
theorem calqueref07_Zero_w {u : World} {m0 : Mem} {S : Segs} {w : World} (N : Nat) (s_0 : List UInt8) (ls_0 : s_0.length ≤ LIMS) {r : Bool} (hF : calqueref07_Zero N s_0 = some r) (hG : Glob u) (ok : Ok u m0 S w) :
    Calls Tryd.prog 32 [Value.string (bs s_0)].toArray w fun e w' => (e = .returned (.bool r) ∧ Ok u m0 S w') := by
  have hb0 := ok.base
  have le_m0 := Mem.le.refl m0
  unfold calqueref07_Zero at hF
  have fin : ∀ a w, calqueref07_Zero_R u m0 S r a w → bodyPost Tryd.prog Tryd.f32 (fun e w' => (e = .returned (.bool r) ∧ Ok u m0 S w')) .ret a w := by
    intro a w h
    obtain ⟨ok, hd, hrv⟩ := h
    exact c_ret2 [.t 2 (.bool r)] hd rfl hrv ⟨rfl, ok⟩
  refine enter Tryd.func32 rfl rfl rfl fun a E => ?_
  refine wp_seq ?_
  refine c_region ?_
  refine l_val E ok (y_assign rfl) rfl rfl fun a E => ?_
  refine wpList_nil ?_
  refine t_norm ?_
  refine wp_seq ?_
  refine wp_seq ?_
  refine c_region ?_
  refine l_val E ok (y_assign rfl) rfl rfl fun a E => ?_
  refine wpList_nil ?_
  refine t_norm ?_
  refine wp_block ?_
  obtain ⟨o2, hL, hF⟩ := bnd hF
  refine c_loop _ (fun (s : Int) a w => Ok u m0 (S) w ∧ Env 14 a [(0, (Value.string (bs s_0))), (3, (Value.int .i64 s))] ∧ InR .i64 s) (fun (b : (Unit ⊕ Bool)) e a w => (Sum.elim (fun b10 => e = (.exit 0) ∧ Ok u m0 (S) w ∧ Env 14 a []) (fun b11 => e = .ret ∧ calqueref07_Zero_R u m0 S b11 a w)) b) ?_ ?_ N _ a w hL ⟨ok, E.keep [0, 3], (show InR .i64 (0) by decide)⟩
  rotate_left
  · intro e a w _ hO
    rcases o2 with o2 | o2
    rotate_left
    · replace hF := elim_r hF
      obtain ⟨rfl, hret⟩ := hO
      refine b_ret ?_
      refine t_ret ?_
      obtain rfl := Option.some.inj hF
      exact fin _ _ hret
    replace hF := elim_l hF
    obtain ⟨rfl, ok, E⟩ := hO
    refine b_hit ?_
    refine t_norm ?_
    refine wp_seq ?_
    refine c_region ?_
    refine l_val E ok (y_assign rfl) rfl rfl fun a E => ?_
    refine wpList_nil ?_
    refine t_norm ?_
    refine wp_ret ?_
    have hret : calqueref07_Zero_R u m0 S true a w := ⟨ok, E.d, ⟨rv_t E rfl, trivial⟩⟩
    obtain rfl := Option.some.inj hF
    exact fin _ _ hret
  rintro i_4 a w r ⟨ok, E, r5⟩ hF
  replace hF : calqueref07_Zero_b1 N s_0 i_4 = some r := hF
  unfold calqueref07_Zero_b1 at hF
  refine wp_seq ?_
  refine wp_seq ?_
  refine c_region ?_
  refine l_val E ok (y_move rfl) rfl rfl fun a E => ?_
  refine l_val E ok (y_move rfl) rfl rfl fun a E => ?_
  refine l_val E ok (y_slen Tryd.underlying9 rfl) rfl rfl fun a E => ?_
  refine l_val E ok (y_lss rfl rfl) rfl rfl fun a E => ?_
  refine wpList_nil ?_
  refine t_norm ?_
  refine c_if E rfl (fun hc6 => ?_) (fun hc6 => ?_)
  rotate_left
  · replace hF := cond_f hc6 hF
    refine wp_exit ?_
    refine t_exit ?_
    obtain rfl := Option.some.inj hF
    exact step_o (by nofun) (sl ⟨rfl, ⟨ok, E.keep []⟩⟩)
  replace hF := cond_t hc6 hF
  refine wp_skip ?_
  refine t_norm ?_
  refine wp_seq ?_
  refine wp_block ?_
  refine wp_seq ?_
  refine c_region ?_
  refine l_val E ok (y_move rfl) rfl rfl fun a E => ?_
  refine l_val E ok (y_move rfl) rfl rfl fun a E => ?_
  obtain ⟨c7, e8, hF⟩ := bnd hF
  refine l_val E ok (y_index Tryd.underlying9 rfl rfl e8) rfl rfl fun a E => ?_
  refine l_val E ok (y_neq rfl rfl) rfl rfl fun a E => ?_
  refine wpList_nil ?_
  refine t_norm ?_
  refine c_if E rfl (fun hc9 => ?_) (fun hc9 => ?_)
  rotate_left
  · replace hF := cond_f hc9 hF
    refine wp_skip ?_
    refine b_norm ?_
    refine t_norm ?_
    refine c_region ?_
    refine l_val E ok (y_move rfl) rfl rfl fun a E => ?_
    refine l_val E ok (y_add rfl rfl (InR.inc r5 (InR.len ls_0) hc6)) rfl rfl fun a E => ?_
    refine l_val E ok (y_assign rfl) rfl rfl fun a E => ?_
    refine wpList_nil ?_
    obtain rfl := Option.some.inj hF
    exact step_n ⟨ok, E.keep [0, 3], (InR.inc r5 (InR.len ls_0) hc6)⟩
  replace hF := cond_t hc9 hF
  refine wp_seq ?_
  refine c_region ?_
  refine l_val E ok (y_assign rfl) rfl rfl fun a E => ?_
  refine wpList_nil ?_
  refine t_norm ?_
  refine wp_ret ?_
  refine b_ret ?_
  refine t_ret ?_
  have hret : calqueref07_Zero_R u m0 S false a w := ⟨ok, E.d, ⟨rv_t E rfl, trivial⟩⟩
  obtain rfl := Option.some.inj hF
  exact step_o (by nofun) (sr ⟨rfl, hret⟩)

def calqueref07_digits_R (u : World) (m0 : Mem) (S : Segs) (r : Bool) (a : Act) (w : World) : Prop :=
  Ok u m0 S w ∧ a.defers = [] ∧ RVs Tryd.prog a w [.t 2 (.bool r)]
set_option maxHeartbeats 4000000 in
set_option maxRecDepth 100000 in
theorem calqueref07_digits_w {u : World} {m0 : Mem} {S : Segs} {w : World} (N : Nat) (s_0 : List UInt8) (ls_0 : s_0.length ≤ LIMS) {r : Bool} (hF : calqueref07_digits N s_0 = some r) (hG : Glob u) (ok : Ok u m0 S w) :
    Calls Tryd.prog 50 [Value.string (bs s_0)].toArray w fun e w' => (e = .returned (.bool r) ∧ Ok u m0 S w') := by
  have hb0 := ok.base
  have le_m0 := Mem.le.refl m0
  unfold calqueref07_digits at hF
  have fin : ∀ a w, calqueref07_digits_R u m0 S r a w → bodyPost Tryd.prog Tryd.f50 (fun e w' => (e = .returned (.bool r) ∧ Ok u m0 S w')) .ret a w := by
    intro a w h
    obtain ⟨ok, hd, hrv⟩ := h
    exact c_ret2 [.t 2 (.bool r)] hd rfl hrv ⟨rfl, ok⟩
  refine enter Tryd.func50 rfl rfl rfl fun a E => ?_
  refine wp_seq ?_
  refine c_region ?_
  refine l_val E ok (y_assign rfl) rfl rfl fun a E => ?_
  refine wpList_nil ?_
  refine t_norm ?_
  refine wp_seq ?_
  refine wp_seq ?_
  refine c_region ?_
  refine l_val E ok (y_assign rfl) rfl rfl fun a E => ?_
  refine wpList_nil ?_
  refine t_norm ?_
  refine wp_block ?_
  obtain ⟨o2, hL, hF⟩ := bnd hF
  refine c_loop _ (fun (s : Int) a w => Ok u m0 (S) w ∧ Env 20 a [(0, (Value.string (bs s_0))), (3, (Value.int .i64 s))] ∧ InR .i64 s) (fun (b : (Unit ⊕ Bool)) e a w => (Sum.elim (fun b13 => e = (.exit 0) ∧ Ok u m0 (S) w ∧ Env 20 a []) (fun b14 => e = .ret ∧ calqueref07_digits_R u m0 S b14 a w)) b) ?_ ?_ N _ a w hL ⟨ok, E.keep [0, 3], (show InR .i64 (0) by decide)⟩
  rotate_left
  · intro e a w _ hO
    rcases o2 with o2 | o2
    rotate_left
    · replace hF := elim_r hF
      obtain ⟨rfl, hret⟩ := hO
      refine b_ret ?_
      refine t_ret ?_
      obtain rfl := Option.some.inj hF
      exact fin _ _ hret
    replace hF := elim_l hF
    obtain ⟨rfl, ok, E⟩ := hO
    refine b_hit ?_
    refine t_norm ?_
    refine wp_seq ?_
    refine c_region ?_
    refine l_val E ok (y_assign rfl) rfl rfl fun a E => ?_
    refine wpList_nil ?_
    refine t_norm ?_
    refine wp_ret ?_
    have hret : calqueref07_digits_R u m0 S true a w := ⟨ok, E.d, ⟨rv_t E rfl, trivial⟩⟩
    obtain rfl := Option.some.inj hF
    exact fin _ _ hret
  rintro i_4 a w r ⟨ok, E, r5⟩ hF
  replace hF : calqueref07_digits_b1 N s_0 i_4 = some r := hF
  unfold calqueref07_digits_b1 at hF
  refine wp_seq ?_
  refine wp_seq ?_
  refine c_region ?_
  refine l_val E ok (y_move rfl) rfl rfl fun a E => ?_
  refine l_val E ok (y_move rfl) rfl rfl fun a E => ?_
  refine l_val E ok (y_slen Tryd.underlying9 rfl) rfl rfl fun a E => ?_
  refine l_val E ok (y_lss rfl rfl) rfl rfl fun a E => ?_
  refine wpList_nil ?_
  refine t_norm ?_
  refine c_if E rfl (fun hc6 => ?_) (fun hc6 => ?_)
  rotate_left
  · replace hF := cond_f hc6 hF
    refine wp_exit ?_
    refine t_exit ?_
    obtain rfl := Option.some.inj hF
    exact step_o (by nofun) (sl ⟨rfl, ⟨ok, E.keep []⟩⟩)
  replace hF := cond_t hc6 hF
  refine wp_skip ?_
  refine t_norm ?_
  refine wp_seq ?_
  refine wp_block ?_
  refine wp_seq ?_
  refine c_region ?_
  refine l_val E ok (y_move rfl) rfl rfl fun a E => ?_
  refine l_val E ok (y_move rfl) rfl rfl fun a E => ?_
  obtain ⟨c7, e8, hF⟩ := bnd hF
  refine l_val E ok (y_index Tryd.underlying9 rfl rfl e8) rfl rfl fun a E => ?_
  refine l_val E ok (y_lss rfl rfl) rfl rfl fun a E => ?_
  refine l_val E ok (y_move rfl) rfl rfl fun a E => ?_
  refine bsplit (decide ((c7.toNat : Int) < 48)) (fun hc9 => ?_) (fun hc9 => ?_)
  · replace hF := cond_t hc9 hF
    replace E := E.upd 14 hc9 rfl
    refine l_skip E rfl rfl fun a E => ?_
    refine l_skip E rfl rfl fun a E => ?_
    refine l_skip E rfl rfl fun a E => ?_
    refine l_skip E rfl rfl fun a E => ?_
    refine l_val E ok (y_pickT rfl rfl) rfl rfl fun a E => ?_
    refine wpList_nil ?_
    refine t_norm ?_
    refine c_if E rfl (fun _ => ?_) (fun h => by cases h)
    refine wp_seq ?_
    refine c_region ?_
    refine l_val E ok (y_assign rfl) rfl rfl fun a E => ?_
    refine wpList_nil ?_
    refine t_norm ?_
    refine wp_ret ?_
    refine b_ret ?_
    refine t_ret ?_
    have hret : calqueref07_digits_R u m0 S false a w := ⟨ok, E.d, ⟨rv_t E rfl, trivial⟩⟩
    obtain rfl := Option.some.inj hF
    exact step_o (by nofun) (sr ⟨rfl, hret⟩)
  replace hF := cond_f hc9 hF
  replace E := E.upd 14 hc9 rfl
  refine l_val E ok (y_move rfl) rfl rfl fun a E => ?_
  refine l_val E ok (y_move rfl) rfl rfl fun a E => ?_
  obtain ⟨c10, e11, hF⟩ := bnd hF
  refine l_val E ok (y_index Tryd.underlying9 rfl rfl e11) rfl rfl fun a E => ?_
  refine l_val E ok (y_gtr rfl rfl) rfl rfl fun a E => ?_
  refine l_val E ok (y_pickF rfl rfl) rfl rfl fun a E => ?_
  refine wpList_nil ?_
  refine t_norm ?_
  refine c_if E rfl (fun hc12 => ?_) (fun hc12 => ?_)
  rotate_left
  · replace hF := cond_f hc12 hF
    refine wp_skip ?_
    refine b_norm ?_
    refine t_norm ?_
    refine c_region ?_
    refine l_val E ok (y_move rfl) rfl rfl fun a E => ?_
    refine l_val E ok (y_add rfl rfl (InR.inc r5 (InR.len ls_0) hc6)) rfl rfl fun a E => ?_
    refine l_val E ok (y_assign rfl) rfl rfl fun a E => ?_
    refine wpList_nil ?_
    obtain rfl := Option.some.inj hF
    exact step_n ⟨ok, E.keep [0, 3], (InR.inc r5 (InR.len ls_0) hc6)⟩
  replace hF := cond_t hc12 hF
  refine wp_seq ?_
  refine c_region ?_
  refine l_val E ok (y_assign rfl) rfl rfl fun a E => ?_
  refine wpList_nil ?_
  refine t_norm ?_
  refine wp_ret ?_
  refine b_ret ?_
  refine t_ret ?_
  have hret : calqueref07_digits_R u m0 S false a w := ⟨ok, E.d, ⟨rv_t E rfl, trivial⟩⟩
  obtain rfl := Option.some.inj hF
  exact step_o (by nofun) (sr ⟨rfl, hret⟩)

def calqueref07_Split_R (u : World) (m0 : Mem) (S : Segs) (r : Number2 × Bool) (a : Act) (w : World) : Prop :=
  ∃ m1 v0, m0.le m1 ∧ Ok u m1 S w ∧ a.defers = [] ∧ RVs Tryd.prog a w [.c 2 45 (.agg v0.toArray), .t 3 (.bool r.2)] ∧ pNumber2 m1 v0 r.1
set_option maxHeartbeats 4000000 in
set_option maxRecDepth 100000 in
theorem calqueref07_Split_w {u : World} {m0 : Mem} {S : Segs} {w : World} (N : Nat) (s_0 : List UInt8) (ls_0 : s_0.length ≤ LIMS) {r : Number2 × Bool} (hF : calqueref07_Split N s_0 = some r) (hG : Glob u) (ok : Ok u m0 S w) :
    Calls Tryd.prog 28 [Value.string (bs s_0)].toArray w fun e w' => ∃ m1 v0, e = .returned (.tuple [(.agg v0.toArray), (.bool r.2)].toArray) ∧ m0.le m1 ∧ Ok u m1 S w' ∧ pNumber2 m1 v0 r.1 := by
  have le_m0 := Mem.le.refl m0
  unfold calqueref07_Split at hF
  have fin : ∀ a w, calqueref07_Split_R u m0 S r a w → bodyPost Tryd.prog Tryd.f28 (fun e w' => ∃ m1 v0, e = .returned (.tuple [(.agg v0.toArray), (.bool r.2)].toArray) ∧ m0.le m1 ∧ Ok u m1 S w' ∧ pNumber2 m1 v0 r.1) .ret a w := by
    intro a w h
    obtain ⟨m1, v0, hle, ok, hd, hrv, h0⟩ := h
    exact c_ret2 [.c 2 45 (.agg v0.toArray), .t 3 (.bool r.2)] hd rfl hrv ⟨m1, v0, rfl, hle, ok, h0⟩
  refine enter Tryd.func28 rfl rfl rfl fun a E => ?_
  refine wp_seq ?_
  refine c_region ?_
  refine l_alloc E ok zero_45 rfl rfl fun b1 a w E ok => ?_
  refine l_val E ok (y_assign rfl) rfl rfl fun a E => ?_
  refine wpList_nil ?_
  refine t_norm ?_
  refine wp_seq ?_
  refine c_region ?_
  refine l_alloc E ok zero_45 rfl rfl fun b2 a w E ok => ?_
  refine wpList_nil ?_
  refine t_norm ?_
  refine wp_seq ?_
  refine wp_seq ?_
  refine c_region ?_
  refine l_val E ok (y_move rfl) rfl rfl fun a E => ?_
  refine l_val E ok (y_slen Tryd.underlying9 rfl) rfl rfl fun a E => ?_
  refine l_val E ok (y_gtr rfl rfl) rfl rfl fun a E => ?_
  refine l_val E ok (y_move rfl) rfl rfl fun a E => ?_
  refine bsplit (decide ((s_0.length : Int) > 0)) (fun hc3 => ?_) (fun hc3 => ?_)
  rotate_left
  · as_aux_lemma =>
      replace hF := cond_f hc3 hF
      replace E := E.upd 9 hc3 rfl
      refine l_skip E rfl rfl fun a E => ?_
      refine l_skip E rfl rfl fun a E => ?_
      refine l_skip E rfl rfl fun a E => ?_
      refine l_val E ok (y_pickF rfl rfl) rfl rfl fun a E => ?_
      refine wpList_nil ?_
      refine t_norm ?_
      refine c_if E rfl (fun h => by cases h) (fun _ => ?_)
      refine wp_skip ?_
      refine t_norm ?_
      refine wp_seq ?_
      refine c_region ?_
      refine l_val E ok (y_assign rfl) rfl rfl fun a E => ?_
      refine wpList_nil ?_
      refine t_norm ?_
      refine wp_seq ?_
      refine wp_block ?_
      obtain ⟨o73, hL, hF⟩ := bnd hF
      refine c_loop _ (fun (s : Int) a w => Ok u m0 ([(b2, Obj.cells [(Value.bool false), (Value.string (bs ([]))), (Value.string (bs ([])))].toArray 45 (0, 0))] :: [(b1, Obj.cells [(Value.bool false), (Value.string (bs ([]))), (Value.string (bs ([])))].toArray 45 (0, 0))] :: S) w ∧ Env 98 a [(0, (Value.string (bs s_0))), (2, (Value.pointer (some ⟨b1, 0, none⟩))), (4, (Value.pointer (some ⟨b2, 0, none⟩))), (5, (Value.int .i64 s))] ∧ InR .i64 s) (fun (b : Int) e a w => e = (.exit 0) ∧ Ok u m0 ([(b2, Obj.cells [(Value.bool false), (Value.string (bs ([]))), (Value.string (bs ([])))].toArray 45 (0, 0))] :: [(b1, Obj.cells [(Value.bool false), (Value.string (bs ([]))), (Value.string (bs ([])))].toArray 45 (0, 0))] :: S) w ∧ Env 98 a [(0, (Value.string (bs s_0))), (2, (Value.pointer (some ⟨b1, 0, none⟩))), (4, (Value.pointer (some ⟨b2, 0, none⟩))), (5, (Value.int .i64 b))] ∧ InR .i64 b) ?_ ?_ N _ a w hL ⟨ok, E.keep [0, 2, 4, 5], (show InR .i64 (0) by decide)⟩
      · rintro k_75 a w r ⟨ok, E, r76⟩ hF
        replace hF : calqueref07_Split_b2 N s_0 k_75 = some r := hF
        unfold calqueref07_Split_b2 at hF
        refine wp_seq ?_
        refine wp_seq ?_
        refine c_region ?_
        refine l_val E ok (y_move rfl) rfl rfl fun a E => ?_
        refine l_val E ok (y_move rfl) rfl rfl fun a E => ?_
        refine l_val E ok (y_slen Tryd.underlying9 rfl) rfl rfl fun a E => ?_
        refine l_val E ok (y_lss rfl rfl) rfl rfl fun a E => ?_
        refine l_val E ok (y_move rfl) rfl rfl fun a E => ?_
        refine bsplit (decide (k_75 < (s_0.length : Int))) (fun hc77 => ?_) (fun hc77 => ?_)
        rotate_left
        · replace hF := cond_f hc77 hF
          replace E := E.upd 21 hc77 rfl
          refine l_skip E rfl rfl fun a E => ?_
          refine l_skip E rfl rfl fun a E => ?_
          refine l_skip E rfl rfl fun a E => ?_
          refine l_skip E rfl rfl fun a E => ?_
          refine l_val E ok (y_pickF rfl rfl) rfl rfl fun a E => ?_
          refine wpList_nil ?_
          refine t_norm ?_
          refine c_if E rfl (fun h => by cases h) (fun _ => ?_)
          refine wp_exit ?_
          refine t_exit ?_
          obtain rfl := Option.some.inj hF
          exact step_o (by nofun) (⟨rfl, ⟨ok, E.keep [0, 2, 4, 5], r76⟩⟩)
        replace hF := cond_t hc77 hF
        replace E := E.upd 21 hc77 rfl
        refine l_val E ok (y_move rfl) rfl rfl fun a E => ?_
        refine l_val E ok (y_move rfl) rfl rfl fun a E => ?_
        obtain ⟨c78, e79, hF⟩ := bnd hF
        refine l_val E ok (y_index Tryd.underlying9 rfl rfl e79) rfl rfl fun a E => ?_
        refine l_val E ok (y_neq rfl rfl) rfl rfl fun a E => ?_
        refine l_val E ok (y_pickT rfl rfl) rfl rfl fun a E => ?_
        refine wpList_nil ?_
        refine t_norm ?_
        refine c_if E rfl (fun hc80 => ?_) (fun hc80 => ?_)
        rotate_left
        · replace hF := cond_f hc80 hF
          refine wp_exit ?_
          refine t_exit ?_
          obtain rfl := Option.some.inj hF
          exact step_o (by nofun) (⟨rfl, ⟨ok, E.keep [0, 2, 4, 5], r76⟩⟩)
        replace hF := cond_t hc80 hF
        refine wp_skip ?_
        refine t_norm ?_
        refine wp_block ?_
        refine c_region ?_
        refine l_val E ok (y_move rfl) rfl rfl fun a E => ?_
        refine l_val E ok (y_add rfl rfl (InR.inc r76 (InR.len ls_0) hc77)) rfl rfl fun a E => ?_
        refine l_val E ok (y_assign rfl) rfl rfl fun a E => ?_
        refine wpList_nil ?_
        refine b_norm ?_
        obtain rfl := Option.some.inj hF
        exact step_n ⟨ok, E.keep [0, 2, 4, 5], (InR.inc r76 (InR.len ls_0) hc77)⟩
      intro e a w _ hO
      obtain ⟨rfl, ok, E, r81⟩ := hO
      refine b_hit ?_
      refine t_norm ?_
      refine wp_seq ?_
      refine c_region ?_
      refine l_val E ok (y_move rfl) rfl rfl fun a E => ?_
      refine l_val E ok (y_move rfl) rfl rfl fun a E => ?_
      obtain ⟨s82, e83, hF⟩ := bnd hF
      refine l_val E ok (y_sslice Tryd.underlying9 e83 rfl rfl ⟨_, rfl⟩) rfl rfl fun a E => ?_
      refine l_val E ok (y_fieldAddr fo_45_1 rfl) rfl rfl fun a E => ?_
      refine l_storeB E ok 0 rfl rfl rfl inf_9 rfl rfl ⟨rfl, trivial⟩ rfl rfl fun w ok => ?_
      refine wpList_nil ?_
      refine t_norm ?_
      refine wp_seq ?_
      refine wp_seq ?_
      refine c_region ?_
      refine l_val E ok (y_move rfl) rfl rfl fun a E => ?_
      refine l_val E ok (y_move rfl) rfl rfl fun a E => ?_
      refine l_val E ok (y_slen Tryd.underlying9 rfl) rfl rfl fun a E => ?_
      refine l_val E ok (y_lss rfl rfl) rfl rfl fun a E => ?_
      refine wpList_nil ?_
      refine t_norm ?_
      obtain ⟨o84, hJ, hF⟩ := bnd hF
      refine c_mono (Q' := fun e a w => (Sum.elim (fun b85 => e = .normal ∧ Ok u m0 ([(b2, Obj.cells [(Value.bool b85.Neg), (Value.string (bs b85.Whole)), (Value.string (bs b85.Frac))].toArray 45 (0, 0))] :: [(b1, Obj.cells [(Value.bool false), (Value.string (bs ([]))), (Value.string (bs ([])))].toArray 45 (0, 0))] :: S) w ∧ Env 98 a [(2, (Value.pointer (some ⟨b1, 0, none⟩))), (4, (Value.pointer (some ⟨b2, 0, none⟩)))] ∧ b85.Whole.length ≤ LIMS ∧ b85.Frac.length ≤ LIMS) (fun b88 => e = .ret ∧ calqueref07_Split_R u m0 S b88 a w)) o84) ?_ ?_
      · replace hF := hJ
        clear hJ
        refine c_if E rfl (fun hc89 => ?_) (fun hc89 => ?_)
        rotate_left
        · replace hF := cond_f hc89 hF
          refine wp_skip ?_
          obtain rfl := Option.some.inj hF
          exact (sl ⟨rfl, ⟨ok, E.keep [2, 4], (Nat.le_trans (slc_len e83) ls_0), (Nat.zero_le _)⟩⟩)
        replace hF := cond_t hc89 hF
        refine wp_seq ?_
        refine c_region ?_
        refine l_val E ok (y_move rfl) rfl rfl fun a E => ?_
        refine l_val E ok (y_move rfl) rfl rfl fun a E => ?_
        refine l_val E ok (y_add rfl rfl (InR.inc r81 (InR.len ls_0) hc89)) rfl rfl fun a E => ?_
        obtain ⟨s90, e91, hF⟩ := bnd hF
        refine l_val E ok (y_sslice Tryd.underlying9 e91 rfl ⟨_, rfl⟩ rfl) rfl rfl fun a E => ?_
        refine l_val E ok (y_fieldAddr fo_45_2 rfl) rfl rfl fun a E => ?_
        refine l_storeB E ok 0 rfl rfl rfl inf_9 rfl rfl ⟨rfl, trivial⟩ rfl rfl fun w ok => ?_
        refine wpList_nil ?_
        refine t_norm ?_
        refine wp_seq ?_
        refine c_region ?_
        refine l_val E ok (y_fieldAddr fo_45_2 rfl) rfl rfl fun a E => ?_
        refine l_val E ok (y_load one_9 rfl (Holds.own 0 rfl rfl)) rfl rfl fun a E => ?_
        refine l_val E ok (y_slen Tryd.underlying9 rfl) rfl rfl fun a E => ?_
        refine l_val E ok (y_eql rfl rfl) rfl rfl fun a E => ?_
        refine wpList_nil ?_
        refine t_norm ?_
        refine c_if E rfl (fun hc92 => ?_) (fun hc92 => ?_)
        rotate_left
        · replace hF := cond_f hc92 hF
          refine wp_skip ?_
          obtain rfl := Option.some.inj hF
          exact (sl ⟨rfl, ⟨ok, E.keep [2, 4], (Nat.le_trans (slc_len e83) ls_0), (Nat.le_trans (slc_len e91) ls_0)⟩⟩)
        replace hF := cond_t hc92 hF
        refine wp_seq ?_
        refine c_region ?_
        refine l_val E ok (y_build (ps := []) (qs := []) (cs := [(Value.bool false), (Value.string (bs ([]))), (Value.string (bs ([])))]) zero_45 places_45 rfl trivial rfl) rfl rfl fun a E => ?_
        refine l_storeB E ok 1 rfl rfl rfl inf_45 rfl rfl ⟨rfl, rfl, rfl, trivial⟩ rfl rfl fun w ok => ?_
        refine l_val E ok (y_assign rfl) rfl rfl fun a E => ?_
        refine wpList_nil ?_
        refine t_norm ?_
        refine wp_ret ?_
        have hret : calqueref07_Split_R u m0 S ((Number2.mk false ([]) ([])), false) a w := ⟨m0, [(Value.bool false), (Value.string (bs ([]))), (Value.string (bs ([])))], le_m0, ok.drop.drop, E.d, ⟨rv_c (cs := [(Value.bool false), (Value.string (bs ([]))), (Value.string (bs ([])))]) E ok rfl agg_45 rfl (Holds.own 1 rfl rfl), rv_t E rfl, trivial⟩, ⟨rfl, (Nat.zero_le _), (Nat.zero_le _)⟩⟩
        obtain rfl := Option.some.inj hF
        exact (sr ⟨rfl, hret⟩)
      clear hJ
      intro e a w hO
      rcases o84 with o84 | o84
      rotate_left
      · replace hF := elim_r hF
        obtain ⟨rfl, hret⟩ := hO
        refine t_ret ?_
        obtain rfl := Option.some.inj hF
        exact fin _ _ hret
      replace hF := elim_l hF
      obtain ⟨rfl, ok, E, l93, l94⟩ := hO
      refine t_norm ?_
      refine wp_seq ?_
      refine wp_seq ?_
      refine c_region ?_
      refine l_val E ok (y_fieldAddr fo_45_1 rfl) rfl rfl fun a E => ?_
      refine l_val E ok (y_load one_9 rfl (Holds.own 0 rfl rfl)) rfl rfl fun a E => ?_
      refine l_val E ok (y_fieldAddr fo_45_2 rfl) rfl rfl fun a E => ?_
      refine l_val E ok (y_load one_9 rfl (Holds.own 0 rfl rfl)) rfl rfl fun a E => ?_
      obtain ⟨s95, e96, hF⟩ := bnd hF
      refine l_val E ok (y_cat rfl rfl e96) rfl rfl fun a E => ?_
      obtain ⟨r97, e98, hF⟩ := bnd hF
      refine l_call E go_50 rfl (calqueref07_digits_w N s95 (cat_len e96) e98 hG ok) rfl rfl ?_
      rintro _ w ⟨rfl, ok⟩
      refine ⟨_, rfl, fun a E => ?_⟩
      refine l_val E ok (y_not rfl) rfl rfl fun a E => ?_
      refine l_val E ok (y_move rfl) rfl rfl fun a E => ?_
      refine bsplit (!r97) (fun hc99 => ?_) (fun hc99 => ?_)
      · replace hF := cond_t hc99 hF
        replace E := E.upd 54 hc99 rfl
        refine l_skip E rfl rfl fun a E => ?_
        refine l_skip E rfl rfl fun a E => ?_
        refine l_skip E rfl rfl fun a E => ?_
        refine l_skip E rfl rfl fun a E => ?_
        refine l_val E ok (y_pickT rfl rfl) rfl rfl fun a E => ?_
        refine l_val E ok (y_move rfl) rfl rfl fun a E => ?_
        refine l_skip E rfl rfl fun a E => ?_
        refine l_skip E rfl rfl fun a E => ?_
        refine l_skip E rfl rfl fun a E => ?_
        refine l_skip E rfl rfl fun a E => ?_
        refine l_val E ok (y_pickT rfl rfl) rfl rfl fun a E => ?_
        refine l_val E ok (y_move rfl) rfl rfl fun a E => ?_
        refine l_skip E rfl rfl fun a E => ?_
        refine l_skip E rfl rfl fun a E => ?_
        refine l_skip E rfl rfl fun a E => ?_
        refine l_skip E rfl rfl fun a E => ?_
        refine l_skip E rfl rfl fun a E => ?_
        refine l_skip E rfl rfl fun a E => ?_
        refine l_skip E rfl rfl fun a E => ?_
        refine l_skip E rfl rfl fun a E => ?_
        refine l_skip E rfl rfl fun a E => ?_
        refine l_skip E rfl rfl fun a E => ?_
        refine l_val E ok (y_pickT rfl rfl) rfl rfl fun a E => ?_
        refine l_val E ok (y_move rfl) rfl rfl fun a E => ?_
        refine l_skip E rfl rfl fun a E => ?_
        refine l_skip E rfl rfl fun a E => ?_
        refine l_skip E rfl rfl fun a E => ?_
        refine l_skip E rfl rfl fun a E => ?_
        refine l_val E ok (y_pickT rfl rfl) rfl rfl fun a E => ?_
        refine l_val E ok (y_move rfl) rfl rfl fun a E => ?_
        refine l_skip E rfl rfl fun a E => ?_
        refine l_skip E rfl rfl fun a E => ?_
        refine l_skip E rfl rfl fun a E => ?_
        refine l_skip E rfl rfl fun a E => ?_
        refine l_skip E rfl rfl fun a E => ?_
        refine l_skip E rfl rfl fun a E => ?_
        refine l_skip E rfl rfl fun a E => ?_
        refine l_skip E rfl rfl fun a E => ?_
        refine l_skip E rfl rfl fun a E => ?_
        refine l_skip E rfl rfl fun a E => ?_
        refine l_val E ok (y_pickT rfl rfl) rfl rfl fun a E => ?_
        refine wpList_nil ?_
        refine t_norm ?_
        refine c_if E rfl (fun _ => ?_) (fun h => by cases h)
        refine wp_seq ?_
        refine c_region ?_
        refine l_val E ok (y_build (ps := []) (qs := []) (cs := [(Value.bool false), (Value.string (bs ([]))), (Value.string (bs ([])))]) zero_45 places_45 rfl trivial rfl) rfl rfl fun a E => ?_
        refine l_storeB E ok 1 rfl rfl rfl inf_45 rfl rfl ⟨rfl, rfl, rfl, trivial⟩ rfl rfl fun w ok => ?_
        refine l_val E ok (y_assign rfl) rfl rfl fun a E => ?_
        refine wpList_nil ?_
        refine t_norm ?_
        refine wp_ret ?_
        refine t_ret ?_
        have hret : calqueref07_Split_R u m0 S ((Number2.mk false ([]) ([])), false) a w := ⟨m0, [(Value.bool false), (Value.string (bs ([]))), (Value.string (bs ([])))], le_m0, ok.drop.drop, E.d, ⟨rv_c (cs := [(Value.bool false), (Value.string (bs ([]))), (Value.string (bs ([])))]) E ok rfl agg_45 rfl (Holds.own 1 rfl rfl), rv_t E rfl, trivial⟩, ⟨rfl, (Nat.zero_le _), (Nat.zero_le _)⟩⟩
        obtain rfl := Option.some.inj hF
        exact fin _ _ hret
      replace hF := cond_f hc99 hF
      replace E := E.upd 54 hc99 rfl
      refine l_val E ok (y_fieldAddr fo_45_1 rfl) rfl rfl fun a E => ?_
      refine l_val E ok (y_load one_9 rfl (Holds.own 0 rfl rfl)) rfl rfl fun a E => ?_
      refine l_val E ok (y_slen Tryd.underlying9 rfl) rfl rfl fun a E => ?_
      refine l_val E ok (y_lss rfl rfl) rfl rfl fun a E => ?_
      refine l_val E ok (y_pickF rfl rfl) rfl rfl fun a E => ?_
      refine l_val E ok (y_move rfl) rfl rfl fun a E => ?_
      refine bsplit (decide ((o84.Whole.length : Int) < 1)) (fun hc100 => ?_) (fun hc100 => ?_)
      · replace hF := cond_t hc100 hF
        replace E := E.upd 60 hc100 rfl
        refine l_skip E rfl rfl fun a E => ?_
        refine l_skip E rfl rfl fun a E => ?_
        refine l_skip E rfl rfl fun a E => ?_
        refine l_skip E rfl rfl fun a E => ?_
        refine l_val E ok (y_pickT rfl rfl) rfl rfl fun a E => ?_
        refine l_val E ok (y_move rfl) rfl rfl fun a E => ?_
        refine l_skip E rfl rfl fun a E => ?_
        refine l_skip E rfl rfl fun a E => ?_
        refine l_skip E rfl rfl fun a E => ?_
        refine l_skip E rfl rfl fun a E => ?_
        refine l_skip E rfl rfl fun a E => ?_
        refine l_skip E rfl rfl fun a E => ?_
        refine l_skip E rfl rfl fun a E => ?_
        refine l_skip E rfl rfl fun a E => ?_
        refine l_skip E rfl rfl fun a E => ?_
        refine l_skip E rfl rfl fun a E => ?_
        refine l_val E ok (y_pickT rfl rfl) rfl rfl fun a E => ?_
        refine l_val E ok (y_move rfl) rfl rfl fun a E => ?_
        refine l_skip E rfl rfl fun a E => ?_
        refine l_skip E rfl rfl fun a E => ?_
        refine l_skip E rfl rfl fun a E => ?_
        refine l_skip E rfl rfl fun a E => ?_
        refine l_val E ok (y_pickT rfl rfl) rfl rfl fun a E => ?_
        refine l_val E ok (y_move rfl) rfl rfl fun a E => ?_
        refine l_skip E rfl rfl fun a E => ?_
        refine l_skip E rfl rfl fun a E => ?_
        refine l_skip E rfl rfl fun a E => ?_
        refine l_skip E rfl rfl fun a E => ?_
        refine l_skip E rfl rfl fun a E => ?_
        refine l_skip E rfl rfl fun a E => ?_
        refine l_skip E rfl rfl fun a E => ?_
        refine l_skip E rfl rfl fun a E => ?_
        refine l_skip E rfl rfl fun a E => ?_
        refine l_skip E rfl rfl fun a E => ?_
        refine l_val E ok (y_pickT rfl rfl) rfl rfl fun a E => ?_
        refine wpList_nil ?_
        refine t_norm ?_
        refine c_if E rfl (fun _ => ?_) (fun h => by cases h)
        refine wp_seq ?_
        refine c_region ?_
        refine l_val E ok (y_build (ps := []) (qs := []) (cs := [(Value.bool false), (Value.string (bs ([]))), (Value.string (bs ([])))]) zero_45 places_45 rfl trivial rfl) rfl rfl fun a E => ?_
        refine l_storeB E ok 1 rfl rfl rfl inf_45 rfl rfl ⟨rfl, rfl, rfl, trivial⟩ rfl rfl fun w ok => ?_
        refine l_val E ok (y_assign rfl) rfl rfl fun a E => ?_
        refine wpList_nil ?_
        refine t_norm ?_
        refine wp_ret ?_
        refine t_ret ?_
        have hret : calqueref07_Split_R u m0 S ((Number2.mk false ([]) ([])), false) a w := ⟨m0, [(Value.bool false), (Value.string (bs ([]))), (Value.string (bs ([])))], le_m0, ok.drop.drop, E.d, ⟨rv_c (cs := [(Value.bool false), (Value.string (bs ([]))), (Value.string (bs ([])))]) E ok rfl agg_45 rfl (Holds.own 1 rfl rfl), rv_t E rfl, trivial⟩, ⟨rfl, (Nat.zero_le _), (Nat.zero_le _)⟩⟩
        obtain rfl := Option.some.inj hF
        exact fin _ _ hret
      replace hF := cond_f hc100 hF
      replace E := E.upd 60 hc100 rfl
      refine l_val E ok (y_fieldAddr fo_45_1 rfl) rfl rfl fun a E => ?_
      refine l_val E ok (y_load one_9 rfl (Holds.own 0 rfl rfl)) rfl rfl fun a E => ?_
      refine l_val E ok (y_slen Tryd.underlying9 rfl) rfl rfl fun a E => ?_
      refine l_val E ok (y_gtr rfl rfl) rfl rfl fun a E => ?_
      refine l_val E ok (y_pickF rfl rfl) rfl rfl fun a E => ?_
      refine l_val E ok (y_move rfl) rfl rfl fun a E => ?_
      refine bsplit (decide ((o84.Whole.length : Int) > 15)) (fun hc101 => ?_) (fun hc101 => ?_)
      · replace hF := cond_t hc101 hF
        replace E := E.upd 66 hc101 rfl
        refine l_skip E rfl rfl fun a E => ?_
        refine l_skip E rfl rfl fun a E => ?_
        refine l_skip E rfl rfl fun a E => ?_
        refine l_skip E rfl rfl fun a E => ?_
        refine l_skip E rfl rfl fun a E => ?_
        refine l_skip E rfl rfl fun a E => ?_
        refine l_skip E rfl rfl fun a E => ?_
        refine l_skip E rfl rfl fun a E => ?_
        refine l_skip E rfl rfl fun a E => ?_
        refine l_skip E rfl rfl fun a E => ?_
        refine l_val E ok (y_pickT rfl rfl) rfl rfl fun a E => ?_
        refine l_val E ok (y_move rfl) rfl rfl fun a E => ?_
        refine l_skip E rfl rfl fun a E => ?_
        refine l_skip E rfl rfl fun a E => ?_
        refine l_skip E rfl rfl fun a E => ?_
        refine l_skip E rfl rfl fun a E => ?_
        refine l_val E ok (y_pickT rfl rfl) rfl rfl fun a E => ?_
        refine l_val E ok (y_move rfl) rfl rfl fun a E => ?_
        refine l_skip E rfl rfl fun a E => ?_
        refine l_skip E rfl rfl fun a E => ?_
        refine l_skip E rfl rfl fun a E => ?_
        refine l_skip E rfl rfl fun a E => ?_
        refine l_skip E rfl rfl fun a E => ?_
        refine l_skip E rfl rfl fun a E => ?_
        refine l_skip E rfl rfl fun a E => ?_
        refine l_skip E rfl rfl fun a E => ?_
        refine l_skip E rfl rfl fun a E => ?_
        refine l_skip E rfl rfl fun a E => ?_
        refine l_val E ok (y_pickT rfl rfl) rfl rfl fun a E => ?_
        refine wpList_nil ?_
        refine t_norm ?_
        refine c_if E rfl (fun _ => ?_) (fun h => by cases h)
        refine wp_seq ?_
        refine c_region ?_
        refine l_val E ok (y_build (ps := []) (qs := []) (cs := [(Value.bool false), (Value.string (bs ([]))), (Value.string (bs ([])))]) zero_45 places_45 rfl trivial rfl) rfl rfl fun a E => ?_
        refine l_storeB E ok 1 rfl rfl rfl inf_45 rfl rfl ⟨rfl, rfl, rfl, trivial⟩ rfl rfl fun w ok => ?_
        refine l_val E ok (y_assign rfl) rfl rfl fun a E => ?_
        refine wpList_nil ?_
        refine t_norm ?_
        refine wp_ret ?_
        refine t_ret ?_
        have hret : calqueref07_Split_R u m0 S ((Number2.mk false ([]) ([])), false) a w := ⟨m0, [(Value.bool false), (Value.string (bs ([]))), (Value.string (bs ([])))], le_m0, ok.drop.drop, E.d, ⟨rv_c (cs := [(Value.bool false), (Value.string (bs ([]))), (Value.string (bs ([])))]) E ok rfl agg_45 rfl (Holds.own 1 rfl rfl), rv_t E rfl, trivial⟩, ⟨rfl, (Nat.zero_le _), (Nat.zero_le _)⟩⟩
        obtain rfl := Option.some.inj hF
        exact fin _ _ hret
      replace hF := cond_f hc101 hF
      replace E := E.upd 66 hc101 rfl
      refine l_val E ok (y_fieldAddr fo_45_1 rfl) rfl rfl fun a E => ?_
      refine l_val E ok (y_load one_9 rfl (Holds.own 0 rfl rfl)) rfl rfl fun a E => ?_
      refine l_val E ok (y_slen Tryd.underlying9 rfl) rfl rfl fun a E => ?_
      refine l_val E ok (y_gtr rfl rfl) rfl rfl fun a E => ?_
      refine l_val E ok (y_move rfl) rfl rfl fun a E => ?_
      refine bsplit (decide ((o84.Whole.length : Int) > 1)) (fun hc102 => ?_) (fun hc102 => ?_)
      rotate_left
      · as_aux_lemma =>
          replace hF := cond_f hc102 hF
          replace E := E.upd 71 hc102 rfl
          refine l_skip E rfl rfl fun a E => ?_
          refine l_skip E rfl rfl fun a E => ?_
          refine l_skip E rfl rfl fun a E => ?_
          refine l_skip E rfl rfl fun a E => ?_
          refine l_val E ok (y_pickF rfl rfl) rfl rfl fun a E => ?_
          refine l_val E ok (y_pickF rfl rfl) rfl rfl fun a E => ?_
          refine l_val E ok (y_move rfl) rfl rfl fun a E => ?_
          refine l_val E ok (y_fieldAddr fo_45_2 rfl) rfl rfl fun a E => ?_
          refine l_val E ok (y_load one_9 rfl (Holds.own 0 rfl rfl)) rfl rfl fun a E => ?_
          refine l_val E ok (y_slen Tryd.underlying9 rfl) rfl rfl fun a E => ?_
          refine l_val E ok (y_gtr rfl rfl) rfl rfl fun a E => ?_
          refine l_val E ok (y_pickF rfl rfl) rfl rfl fun a E => ?_
          refine l_val E ok (y_move rfl) rfl rfl fun a E => ?_
          refine bsplit (decide ((o84.Frac.length : Int) > 6)) (fun hc113 => ?_) (fun hc113 => ?_)
          · replace hF := cond_t hc113 hF
            replace E := E.upd 84 hc113 rfl
            refine l_skip E rfl rfl fun a E => ?_
            refine l_skip E rfl rfl fun a E => ?_
            refine l_skip E rfl rfl fun a E => ?_
            refine l_skip E rfl rfl fun a E => ?_
            refine l_skip E rfl rfl fun a E => ?_
            refine l_skip E rfl rfl fun a E => ?_
            refine l_skip E rfl rfl fun a E => ?_
            refine l_skip E rfl rfl fun a E => ?_
            refine l_skip E rfl rfl fun a E => ?_
            refine l_skip E rfl rfl fun a E => ?_
            refine l_val E ok (y_pickT rfl rfl) rfl rfl fun a E => ?_
            refine wpList_nil ?_
            refine t_norm ?_
            refine c_if E rfl (fun _ => ?_) (fun h => by cases h)
            refine wp_seq ?_
            refine c_region ?_
            refine l_val E ok (y_build (ps := []) (qs := []) (cs := [(Value.bool false), (Value.string (bs ([]))), (Value.string (bs ([])))]) zero_45 places_45 rfl trivial rfl) rfl rfl fun a E => ?_
            refine l_storeB E ok 1 rfl rfl rfl inf_45 rfl rfl ⟨rfl, rfl, rfl, trivial⟩ rfl rfl fun w ok => ?_
            refine l_val E ok (y_assign rfl) rfl rfl fun a E => ?_
            refine wpList_nil ?_
            refine t_norm ?_
            refine wp_ret ?_
            refine t_ret ?_
            have hret : calqueref07_Split_R u m0 S ((Number2.mk false ([]) ([])), false) a w := ⟨m0, [(Value.bool false), (Value.string (bs ([]))), (Value.string (bs ([])))], le_m0, ok.drop.drop, E.d, ⟨rv_c (cs := [(Value.bool false), (Value.string (bs ([]))), (Value.string (bs ([])))]) E ok rfl agg_45 rfl (Holds.own 1 rfl rfl), rv_t E rfl, trivial⟩, ⟨rfl, (Nat.zero_le _), (Nat.zero_le _)⟩⟩
            obtain rfl := Option.some.inj hF
            exact fin _ _ hret
          replace hF := cond_f hc113 hF
          replace E := E.upd 84 hc113 rfl
          refine l_val E ok (y_fieldAddr fo_45_0 rfl) rfl rfl fun a E => ?_
          refine l_val E ok (y_load one_4 rfl (Holds.own 0 rfl rfl)) rfl rfl fun a E => ?_
          refine l_val E ok (y_move rfl) rfl rfl fun a E => ?_
          refine bsplit o84.Neg (fun hc114 => ?_) (fun hc114 => ?_)
          rotate_left
          · replace hF := cond_f hc114 hF
            replace E := E.upd 87 hc114 rfl
            refine l_skip E rfl rfl fun a E => ?_
            refine l_skip E rfl rfl fun a E => ?_
            refine l_skip E rfl rfl fun a E => ?_
            refine l_skip E rfl rfl fun a E => ?_
            refine l_skip E rfl rfl fun a E => ?_
            refine l_skip E rfl rfl fun a E => ?_
            refine l_val E ok (y_pickF rfl rfl) rfl rfl fun a E => ?_
            refine l_val E ok (y_pickF rfl rfl) rfl rfl fun a E => ?_
            refine wpList_nil ?_
            refine t_norm ?_
            refine c_if E rfl (fun h => by cases h) (fun _ => ?_)
            refine wp_skip ?_
            refine t_norm ?_
            refine wp_seq ?_
            refine c_region ?_
            refine l_val E ok (y_loadAgg (cs := [(Value.bool o84.Neg), (Value.string (bs o84.Whole)), (Value.string (bs o84.Frac))]) agg_45 rfl rfl (Holds.own 0 rfl rfl)) rfl rfl fun a E => ?_
            refine l_storeB E ok 1 rfl rfl rfl inf_45 rfl rfl ⟨rfl, rfl, rfl, trivial⟩ rfl rfl fun w ok => ?_
            refine l_val E ok (y_assign rfl) rfl rfl fun a E => ?_
            refine wpList_nil ?_
            refine t_norm ?_
            refine wp_ret ?_
            have hret : calqueref07_Split_R u m0 S (o84, true) a w := ⟨m0, [(Value.bool o84.Neg), (Value.string (bs o84.Whole)), (Value.string (bs o84.Frac))], le_m0, ok.drop.drop, E.d, ⟨rv_c (cs := [(Value.bool o84.Neg), (Value.string (bs o84.Whole)), (Value.string (bs o84.Frac))]) E ok rfl agg_45 rfl (Holds.own 1 rfl rfl), rv_t E rfl, trivial⟩, ⟨rfl, l93, l94⟩⟩
            obtain rfl := Option.some.inj hF
            exact fin _ _ hret
          replace hF := cond_t hc114 hF
          replace E := E.upd 87 hc114 rfl
          refine l_val E ok (y_fieldAddr fo_45_1 rfl) rfl rfl fun a E => ?_
          refine l_val E ok (y_load one_9 rfl (Holds.own 0 rfl rfl)) rfl rfl fun a E => ?_
          refine l_val E ok (y_fieldAddr fo_45_2 rfl) rfl rfl fun a E => ?_
          refine l_val E ok (y_load one_9 rfl (Holds.own 0 rfl rfl)) rfl rfl fun a E => ?_
          obtain ⟨s115, e116, hF⟩ := bnd hF
          refine l_val E ok (y_cat rfl rfl e116) rfl rfl fun a E => ?_
          obtain ⟨r117, e118, hF⟩ := bnd hF
          refine l_call E go_32 rfl (calqueref07_Zero_w N s115 (cat_len e116) e118 hG ok) rfl rfl ?_
          rintro _ w ⟨rfl, ok⟩
          refine ⟨_, rfl, fun a E => ?_⟩
          refine l_val E ok (y_pickT rfl rfl) rfl rfl fun a E => ?_
          refine l_val E ok (y_pickF rfl rfl) rfl rfl fun a E => ?_
          refine wpList_nil ?_
          refine t_norm ?_
          refine c_if E rfl (fun hc119 => ?_) (fun hc119 => ?_)
          · replace hF := cond_t hc119 hF
            refine wp_seq ?_
            refine c_region ?_
            refine l_val E ok (y_build (ps := []) (qs := []) (cs := [(Value.bool false), (Value.string (bs ([]))), (Value.string (bs ([])))]) zero_45 places_45 rfl trivial rfl) rfl rfl fun a E => ?_
            refine l_storeB E ok 1 rfl rfl rfl inf_45 rfl rfl ⟨rfl, rfl, rfl, trivial⟩ rfl rfl fun w ok => ?_
            refine l_val E ok (y_assign rfl) rfl rfl fun a E => ?_
            refine wpList_nil ?_
            refine t_norm ?_
            refine wp_ret ?_
            refine t_ret ?_
            have hret : calqueref07_Split_R u m0 S ((Number2.mk false ([]) ([])), false) a w := ⟨m0, [(Value.bool false), (Value.string (bs ([]))), (Value.string (bs ([])))], le_m0, ok.drop.drop, E.d, ⟨rv_c (cs := [(Value.bool false), (Value.string (bs ([]))), (Value.string (bs ([])))]) E ok rfl agg_45 rfl (Holds.own 1 rfl rfl), rv_t E rfl, trivial⟩, ⟨rfl, (Nat.zero_le _), (Nat.zero_le _)⟩⟩
            obtain rfl := Option.some.inj hF
            exact fin _ _ hret
          replace hF := cond_f hc119 hF
          refine wp_skip ?_
          refine t_norm ?_
          refine wp_seq ?_
          refine c_region ?_
          refine l_val E ok (y_loadAgg (cs := [(Value.bool o84.Neg), (Value.string (bs o84.Whole)), (Value.string (bs o84.Frac))]) agg_45 rfl rfl (Holds.own 0 rfl rfl)) rfl rfl fun a E => ?_
          refine l_storeB E ok 1 rfl rfl rfl inf_45 rfl rfl ⟨rfl, rfl, rfl, trivial⟩ rfl rfl fun w ok => ?_
          refine l_val E ok (y_assign rfl) rfl rfl fun a E => ?_
          refine wpList_nil ?_
          refine t_norm ?_
          refine wp_ret ?_
          have hret : calqueref07_Split_R u m0 S (o84, true) a w := ⟨m0, [(Value.bool o84.Neg), (Value.string (bs o84.Whole)), (Value.string (bs o84.Frac))], le_m0, ok.drop.drop, E.d, ⟨rv_c (cs := [(Value.bool o84.Neg), (Value.string (bs o84.Whole)), (Value.string (bs o84.Frac))]) E ok rfl agg_45 rfl (Holds.own 1 rfl rfl), rv_t E rfl, trivial⟩, ⟨rfl, l93, l94⟩⟩
          obtain rfl := Option.some.inj hF
          exact fin _ _ hret
      replace hF := cond_t hc102 hF
      replace E := E.upd 71 hc102 rfl
      refine l_val E ok (y_fieldAddr fo_45_1 rfl) rfl rfl fun a E => ?_
      refine l_val E ok (y_load one_9 rfl (Holds.own 0 rfl rfl)) rfl rfl fun a E => ?_
      obtain ⟨c103, e104, hF⟩ := bnd hF
      refine l_val E ok (y_index Tryd.underlying9 rfl rfl e104) rfl rfl fun a E => ?_
      refine l_val E ok (y_eql rfl rfl) rfl rfl fun a E => ?_
      refine l_val E ok (y_pickT rfl rfl) rfl rfl fun a E => ?_
      refine l_val E ok (y_pickF rfl rfl) rfl rfl fun a E => ?_
      refine l_val E ok (y_move rfl) rfl rfl fun a E => ?_
      refine bsplit ((c103.toNat : Int) == 48) (fun hc105 => ?_) (fun hc105 => ?_)
      · replace hF := cond_t hc105 hF
        replace E := E.upd 78 hc105 rfl
        refine l_skip E rfl rfl fun a E => ?_
        refine l_skip E rfl rfl fun a E => ?_
        refine l_skip E rfl rfl fun a E => ?_
        refine l_skip E rfl rfl fun a E => ?_
        refine l_val E ok (y_pickT rfl rfl) rfl rfl fun a E => ?_
        refine l_val E ok (y_move rfl) rfl rfl fun a E => ?_
        refine l_skip E rfl rfl fun a E => ?_
        refine l_skip E rfl rfl fun a E => ?_
        refine l_skip E rfl rfl fun a E => ?_
        refine l_skip E rfl rfl fun a E => ?_
        refine l_skip E rfl rfl fun a E => ?_
        refine l_skip E rfl rfl fun a E => ?_
        refine l_skip E rfl rfl fun a E => ?_
        refine l_skip E rfl rfl fun a E => ?_
        refine l_skip E rfl rfl fun a E => ?_
        refine l_skip E rfl rfl fun a E => ?_
        refine l_val E ok (y_pickT rfl rfl) rfl rfl fun a E => ?_
        refine wpList_nil ?_
        refine t_norm ?_
        refine c_if E rfl (fun _ => ?_) (fun h => by cases h)
        refine wp_seq ?_
        refine c_region ?_
        refine l_val E ok (y_build (ps := []) (qs := []) (cs := [(Value.bool false), (Value.string (bs ([]))), (Value.string (bs ([])))]) zero_45 places_45 rfl trivial rfl) rfl rfl fun a E => ?_
        refine l_storeB E ok 1 rfl rfl rfl inf_45 rfl rfl ⟨rfl, rfl, rfl, trivial⟩ rfl rfl fun w ok => ?_
        refine l_val E ok (y_assign rfl) rfl rfl fun a E => ?_
        refine wpList_nil ?_
        refine t_norm ?_
        refine wp_ret ?_
        refine t_ret ?_
        have hret : calqueref07_Split_R u m0 S ((Number2.mk false ([]) ([])), false) a w := ⟨m0, [(Value.bool false), (Value.string (bs ([]))), (Value.string (bs ([])))], le_m0, ok.drop.drop, E.d, ⟨rv_c (cs := [(Value.bool false), (Value.string (bs ([]))), (Value.string (bs ([])))]) E ok rfl agg_45 rfl (Holds.own 1 rfl rfl), rv_t E rfl, trivial⟩, ⟨rfl, (Nat.zero_le _), (Nat.zero_le _)⟩⟩
        obtain rfl := Option.some.inj hF
        exact fin _ _ hret
      replace hF := cond_f hc105 hF
      replace E := E.upd 78 hc105 rfl
      refine l_val E ok (y_fieldAddr fo_45_2 rfl) rfl rfl fun a E => ?_
      refine l_val E ok (y_load one_9 rfl (Holds.own 0 rfl rfl)) rfl rfl fun a E => ?_
      refine l_val E ok (y_slen Tryd.underlying9 rfl) rfl rfl fun a E => ?_
      refine l_val E ok (y_gtr rfl rfl) rfl rfl fun a E => ?_
      refine l_val E ok (y_pickF rfl rfl) rfl rfl fun a E => ?_
      refine l_val E ok (y_move rfl) rfl rfl fun a E => ?_
      refine bsplit (decide ((o84.Frac.length : Int) > 6)) (fun hc106 => ?_) (fun hc106 => ?_)
      · replace hF := cond_t hc106 hF
        replace E := E.upd 84 hc106 rfl
        refine l_skip E rfl rfl fun a E => ?_
        refine l_skip E rfl rfl fun a E => ?_
        refine l_skip E rfl rfl fun a E => ?_
        refine l_skip E rfl rfl fun a E => ?_
        refine l_skip E rfl rfl fun a E => ?_
        refine l_skip E rfl rfl fun a E => ?_
        refine l_skip E rfl rfl fun a E => ?_
        refine l_skip E rfl rfl fun a E => ?_
        refine l_skip E rfl rfl fun a E => ?_
        refine l_skip E rfl rfl fun a E => ?_
        refine l_val E ok (y_pickT rfl rfl) rfl rfl fun a E => ?_
        refine wpList_nil ?_
        refine t_norm ?_
        refine c_if E rfl (fun _ => ?_) (fun h => by cases h)
        refine wp_seq ?_
        refine c_region ?_
        refine l_val E ok (y_build (ps := []) (qs := []) (cs := [(Value.bool false), (Value.string (bs ([]))), (Value.string (bs ([])))]) zero_45 places_45 rfl trivial rfl) rfl rfl fun a E => ?_
        refine l_storeB E ok 1 rfl rfl rfl inf_45 rfl rfl ⟨rfl, rfl, rfl, trivial⟩ rfl rfl fun w ok => ?_
        refine l_val E ok (y_assign rfl) rfl rfl fun a E => ?_
        refine wpList_nil ?_
        refine t_norm ?_
        refine wp_ret ?_
        refine t_ret ?_
        have hret : calqueref07_Split_R u m0 S ((Number2.mk false ([]) ([])), false) a w := ⟨m0, [(Value.bool false), (Value.string (bs ([]))), (Value.string (bs ([])))], le_m0, ok.drop.drop, E.d, ⟨rv_c (cs := [(Value.bool false), (Value.string (bs ([]))), (Value.string (bs ([])))]) E ok rfl agg_45 rfl (Holds.own 1 rfl rfl), rv_t E rfl, trivial⟩, ⟨rfl, (Nat.zero_le _), (Nat.zero_le _)⟩⟩
        obtain rfl := Option.some.inj hF
        exact fin _ _ hret
      replace hF := cond_f hc106 hF
      replace E := E.upd 84 hc106 rfl
      refine l_val E ok (y_fieldAddr fo_45_0 rfl) rfl rfl fun a E => ?_
      refine l_val E ok (y_load one_4 rfl (Holds.own 0 rfl rfl)) rfl rfl fun a E => ?_
      refine l_val E ok (y_move rfl) rfl rfl fun a E => ?_
      refine bsplit o84.Neg (fun hc107 => ?_) (fun hc107 => ?_)
      rotate_left
      · replace hF := cond_f hc107 hF
        replace E := E.upd 87 hc107 rfl
        refine l_skip E rfl rfl fun a E => ?_
        refine l_skip E rfl rfl fun a E => ?_
        refine l_skip E rfl rfl fun a E => ?_
        refine l_skip E rfl rfl fun a E => ?_
        refine l_skip E rfl rfl fun a E => ?_
        refine l_skip E rfl rfl fun a E => ?_
        refine l_val E ok (y_pickF rfl rfl) rfl rfl fun a E => ?_
        refine l_val E ok (y_pickF rfl rfl) rfl rfl fun a E => ?_
        refine wpList_nil ?_
        refine t_norm ?_
        refine c_if E rfl (fun h => by cases h) (fun _ => ?_)
        refine wp_skip ?_
        refine t_norm ?_
        refine wp_seq ?_
        refine c_region ?_
        refine l_val E ok (y_loadAgg (cs := [(Value.bool o84.Neg), (Value.string (bs o84.Whole)), (Value.string (bs o84.Frac))]) agg_45 rfl rfl (Holds.own 0 rfl rfl)) rfl rfl fun a E => ?_
        refine l_storeB E ok 1 rfl rfl rfl inf_45 rfl rfl ⟨rfl, rfl, rfl, trivial⟩ rfl rfl fun w ok => ?_
        refine l_val E ok (y_assign rfl) rfl rfl fun a E => ?_
        refine wpList_nil ?_
        refine t_norm ?_
        refine wp_ret ?_
        have hret : calqueref07_Split_R u m0 S (o84, true) a w := ⟨m0, [(Value.bool o84.Neg), (Value.string (bs o84.Whole)), (Value.string (bs o84.Frac))], le_m0, ok.drop.drop, E.d, ⟨rv_c (cs := [(Value.bool o84.Neg), (Value.string (bs o84.Whole)), (Value.string (bs o84.Frac))]) E ok rfl agg_45 rfl (Holds.own 1 rfl rfl), rv_t E rfl, trivial⟩, ⟨rfl, l93, l94⟩⟩
        obtain rfl := Option.some.inj hF
        exact fin _ _ hret
      replace hF := cond_t hc107 hF
      replace E := E.upd 87 hc107 rfl
      refine l_val E ok (y_fieldAddr fo_45_1 rfl) rfl rfl fun a E => ?_
      refine l_val E ok (y_load one_9 rfl (Holds.own 0 rfl rfl)) rfl rfl fun a E => ?_
      refine l_val E ok (y_fieldAddr fo_45_2 rfl) rfl rfl fun a E => ?_
      refine l_val E ok (y_load one_9 rfl (Holds.own 0 rfl rfl)) rfl rfl fun a E => ?_
      obtain ⟨s108, e109, hF⟩ := bnd hF
      refine l_val E ok (y_cat rfl rfl e109) rfl rfl fun a E => ?_
      obtain ⟨r110, e111, hF⟩ := bnd hF
      refine l_call E go_32 rfl (calqueref07_Zero_w N s108 (cat_len e109) e111 hG ok) rfl rfl ?_
      rintro _ w ⟨rfl, ok⟩
      refine ⟨_, rfl, fun a E => ?_⟩
      refine l_val E ok (y_pickT rfl rfl) rfl rfl fun a E => ?_
      refine l_val E ok (y_pickF rfl rfl) rfl rfl fun a E => ?_
      refine wpList_nil ?_
      refine t_norm ?_
      refine c_if E rfl (fun hc112 => ?_) (fun hc112 => ?_)
      · replace hF := cond_t hc112 hF
        refine wp_seq ?_
        refine c_region ?_
        refine l_val E ok (y_build (ps := []) (qs := []) (cs := [(Value.bool false), (Value.string (bs ([]))), (Value.string (bs ([])))]) zero_45 places_45 rfl trivial rfl) rfl rfl fun a E => ?_
        refine l_storeB E ok 1 rfl rfl rfl inf_45 rfl rfl ⟨rfl, rfl, rfl, trivial⟩ rfl rfl fun w ok => ?_
        refine l_val E ok (y_assign rfl) rfl rfl fun a E => ?_
        refine wpList_nil ?_
        refine t_norm ?_
        refine wp_ret ?_
        refine t_ret ?_
        have hret : calqueref07_Split_R u m0 S ((Number2.mk false ([]) ([])), false) a w := ⟨m0, [(Value.bool false), (Value.string (bs ([]))), (Value.string (bs ([])))], le_m0, ok.drop.drop, E.d, ⟨rv_c (cs := [(Value.bool false), (Value.string (bs ([]))), (Value.string (bs ([])))]) E ok rfl agg_45 rfl (Holds.own 1 rfl rfl), rv_t E rfl, trivial⟩, ⟨rfl, (Nat.zero_le _), (Nat.zero_le _)⟩⟩
        obtain rfl := Option.some.inj hF
        exact fin _ _ hret
      replace hF := cond_f hc112 hF
      refine wp_skip ?_
      refine t_norm ?_
      refine wp_seq ?_
      refine c_region ?_
      refine l_val E ok (y_loadAgg (cs := [(Value.bool o84.Neg), (Value.string (bs o84.Whole)), (Value.string (bs o84.Frac))]) agg_45 rfl rfl (Holds.own 0 rfl rfl)) rfl rfl fun a E => ?_
      refine l_storeB E ok 1 rfl rfl rfl inf_45 rfl rfl ⟨rfl, rfl, rfl, trivial⟩ rfl rfl fun w ok => ?_
      refine l_val E ok (y_assign rfl) rfl rfl fun a E => ?_
      refine wpList_nil ?_
      refine t_norm ?_
      refine wp_ret ?_
      have hret : calqueref07_Split_R u m0 S (o84, true) a w := ⟨m0, [(Value.bool o84.Neg), (Value.string (bs o84.Whole)), (Value.string (bs o84.Frac))], le_m0, ok.drop.drop, E.d, ⟨rv_c (cs := [(Value.bool o84.Neg), (Value.string (bs o84.Whole)), (Value.string (bs o84.Frac))]) E ok rfl agg_45 rfl (Holds.own 1 rfl rfl), rv_t E rfl, trivial⟩, ⟨rfl, l93, l94⟩⟩
      obtain rfl := Option.some.inj hF
      exact fin _ _ hret
  replace hF := cond_t hc3 hF
  replace E := E.upd 9 hc3 rfl
  refine l_val E ok (y_move rfl) rfl rfl fun a E => ?_
  obtain ⟨c4, e5, hF⟩ := bnd hF
  refine l_val E ok (y_index Tryd.underlying9 rfl rfl e5) rfl rfl fun a E => ?_
  refine l_val E ok (y_eql rfl rfl) rfl rfl fun a E => ?_
  refine l_val E ok (y_pickT rfl rfl) rfl rfl fun a E => ?_
  refine wpList_nil ?_
  refine t_norm ?_
  obtain ⟨o6, hJ, hF⟩ := bnd hF
  refine c_mono (Q' := fun e a w => e = .normal ∧ Ok u m0 ([(b2, Obj.cells [(Value.bool o6.2.Neg), (Value.string (bs o6.2.Whole)), (Value.string (bs o6.2.Frac))].toArray 45 (0, 0))] :: [(b1, Obj.cells [(Value.bool false), (Value.string (bs ([]))), (Value.string (bs ([])))].toArray 45 (0, 0))] :: S) w ∧ Env 98 a [(0, (Value.string (bs o6.1))), (2, (Value.pointer (some ⟨b1, 0, none⟩))), (4, (Value.pointer (some ⟨b2, 0, none⟩)))] ∧ o6.1.length ≤ LIMS ∧ o6.2.Whole.length ≤ LIMS ∧ o6.2.Frac.length ≤ LIMS) ?_ ?_
  · replace hF := hJ
    clear hJ
    refine c_if E rfl (fun hc10 => ?_) (fun hc10 => ?_)
    rotate_left
    · replace hF := cond_f hc10 hF
      refine wp_skip ?_
      obtain rfl := Option.some.inj hF
      exact ⟨rfl, ⟨ok, E.keep [0, 2, 4], ls_0, (Nat.zero_le _), (Nat.zero_le _)⟩⟩
    replace hF := cond_t hc10 hF
    obtain ⟨o11, hJ, hF⟩ := bnd hF
    refine c_mono (Q' := fun e a w => e = .normal ∧ Ok u m0 ([(b2, Obj.cells [(Value.bool o11.2.Neg), (Value.string (bs o11.2.Whole)), (Value.string (bs o11.2.Frac))].toArray 45 (0, 0))] :: [(b1, Obj.cells [(Value.bool false), (Value.string (bs ([]))), (Value.string (bs ([])))].toArray 45 (0, 0))] :: S) w ∧ Env 98 a [(0, (Value.string (bs o11.1))), (2, (Value.pointer (some ⟨b1, 0, none⟩))), (4, (Value.pointer (some ⟨b2, 0, none⟩)))] ∧ o11.1.length ≤ LIMS ∧ o11.2.Whole.length ≤ LIMS ∧ o11.2.Frac.length ≤ LIMS) ?_ ?_
    rotate_left
    · clear hJ
      intro e a w hO
      obtain ⟨rfl, ok, E, l17, l18, l19⟩ := hO
      obtain rfl := Option.some.inj hF
      exact ⟨rfl, ⟨ok, E.keep [0, 2, 4], l17, l18, l19⟩⟩
    replace hF := hJ
    clear hJ
    obtain ⟨s15, e16, hF⟩ := bnd hF
    obtain rfl := Option.some.inj hF
    refine k_begin [] (Cls u m0 ([(b1, Obj.cells [(Value.bool false), (Value.string (bs ([]))), (Value.string (bs ([])))].toArray 45 (0, 0))] :: [])) (Cls u m0 ([(b1, Obj.cells [(Value.bool false), (Value.string (bs ([]))), (Value.string (bs ([])))].toArray 45 (0, 0))] :: [])) (by kernel_rfl) ?_
    intro w hw
    replace ok := okdrew ok hw
    clear hw
    refine k_next (cl1 ⟨m0, _, le_m0, ok, ⟨memAt 1 rfl, trivial⟩⟩ ⟨m0, _, le_m0, ok, ⟨memAt 1 rfl, trivial⟩⟩) fun hT => ?_
    refine k_take 0 E rfl (by kernel_rfl) nP hT (y_move rfl) rfl rfl fun a E => ?_
    refine k_take 1 E rfl (by kernel_rfl) nP hT (y_sslice Tryd.underlying9 e16 rfl ⟨_, rfl⟩ rfl) rfl rfl fun a E => ?_
    refine k_take 2 E rfl (by kernel_rfl) nP hT (y_fieldAddr fo_45_0 rfl) rfl rfl fun a E => ?_
    refine k_all [3] (by kernel_rfl) rfl (one_c ?_)
    · refine wpOp_of_list (o := _) rfl ?_
      refine l_storeB E ok 0 rfl rfl rfl inf_4 rfl rfl ⟨rfl, trivial⟩ rfl rfl fun w ok => ?_
      refine wpList_nil ?_
      refine t_norm ?_
      refine k_next (cl1 ⟨m0, _, le_m0, ok, ⟨memAt 1 rfl, trivial⟩⟩ ⟨m0, _, le_m0, ok, ⟨memAt 1 rfl, trivial⟩⟩) fun hT => ?_
      refine k_take 4 E rfl (by kernel_rfl) nP hT (y_assign rfl) rfl rfl fun a E => ?_
      refine k_done (by kernel_rfl) ?_
      exact ⟨rfl, ⟨ok, E.keep [0, 2, 4], (Nat.le_trans (slc_len e16) ls_0), (Nat.zero_le _), (Nat.zero_le _)⟩⟩
  clear hJ
  intro e a w hO
  obtain ⟨rfl, ok, E, l20, l21, l22⟩ := hO
  refine t_norm ?_
  refine wp_seq ?_
  refine c_region ?_
  refine l_val E ok (y_assign rfl) rfl rfl fun a E => ?_
  refine wpList_nil ?_
  refine t_norm ?_
  refine wp_seq ?_
  refine wp_block ?_
  obtain ⟨o24, hL, hF⟩ := bnd hF
  refine c_loop _ (fun (s : Int) a w => Ok u m0 ([(b2, Obj.cells [(Value.bool o6.2.Neg), (Value.string (bs o6.2.Whole)), (Value.string (bs o6.2.Frac))].toArray 45 (0, 0))] :: [(b1, Obj.cells [(Value.bool false), (Value.string (bs ([]))), (Value.string (bs ([])))].toArray 45 (0, 0))] :: S) w ∧ Env 98 a [(0, (Value.string (bs o6.1))), (2, (Value.pointer (some ⟨b1, 0, none⟩))), (4, (Value.pointer (some ⟨b2, 0, none⟩))), (5, (Value.int .i64 s))] ∧ InR .i64 s) (fun (b : Int) e a w => e = (.exit 0) ∧ Ok u m0 ([(b2, Obj.cells [(Value.bool o6.2.Neg), (Value.string (bs o6.2.Whole)), (Value.string (bs o6.2.Frac))].toArray 45 (0, 0))] :: [(b1, Obj.cells [(Value.bool false), (Value.string (bs ([]))), (Value.string (bs ([])))].toArray 45 (0, 0))] :: S) w ∧ Env 98 a [(0, (Value.string (bs o6.1))), (2, (Value.pointer (some ⟨b1, 0, none⟩))), (4, (Value.pointer (some ⟨b2, 0, none⟩))), (5, (Value.int .i64 b))] ∧ InR .i64 b) ?_ ?_ N _ a w hL ⟨ok, E.keep [0, 2, 4, 5], (show InR .i64 (0) by decide)⟩
  · rintro k_26 a w r ⟨ok, E, r27⟩ hF
    replace hF : calqueref07_Split_b1 N o6 k_26 = some r := hF
    unfold calqueref07_Split_b1 at hF
    refine wp_seq ?_
    refine wp_seq ?_
    refine c_region ?_
    refine l_val E ok (y_move rfl) rfl rfl fun a E => ?_
    refine l_val E ok (y_move rfl) rfl rfl fun a E => ?_
    refine l_val E ok (y_slen Tryd.underlying9 rfl) rfl rfl fun a E => ?_
    refine l_val E ok (y_lss rfl rfl) rfl rfl fun a E => ?_
    refine l_val E ok (y_move rfl) rfl rfl fun a E => ?_
    refine bsplit (decide (k_26 < (o6.1.length : Int))) (fun hc28 => ?_) (fun hc28 => ?_)
    rotate_left
    · replace hF := cond_f hc28 hF
      replace E := E.upd 21 hc28 rfl
      refine l_skip E rfl rfl fun a E => ?_
      refine l_skip E rfl rfl fun a E => ?_
      refine l_skip E rfl rfl fun a E => ?_
      refine l_skip E rfl rfl fun a E => ?_
      refine l_val E ok (y_pickF rfl rfl) rfl rfl fun a E => ?_
      refine wpList_nil ?_
      refine t_norm ?_
      refine c_if E rfl (fun h => by cases h) (fun _ => ?_)
      refine wp_exit ?_
      refine t_exit ?_
      obtain rfl := Option.some.inj hF
      exact step_o (by nofun) (⟨rfl, ⟨ok, E.keep [0, 2, 4, 5], r27⟩⟩)
    replace hF := cond_t hc28 hF
    replace E := E.upd 21 hc28 rfl
    refine l_val E ok (y_move rfl) rfl rfl fun a E => ?_
    refine l_val E ok (y_move rfl) rfl rfl fun a E => ?_
    obtain ⟨c29, e30, hF⟩ := bnd hF
    refine l_val E ok (y_index Tryd.underlying9 rfl rfl e30) rfl rfl fun a E => ?_
    refine l_val E ok (y_neq rfl rfl) rfl rfl fun a E => ?_
    refine l_val E ok (y_pickT rfl rfl) rfl rfl fun a E => ?_
    refine wpList_nil ?_
    refine t_norm ?_
    refine c_if E rfl (fun hc31 => ?_) (fun hc31 => ?_)
    rotate_left
    · replace hF := cond_f hc31 hF
      refine wp_exit ?_
      refine t_exit ?_
      obtain rfl := Option.some.inj hF
      exact step_o (by nofun) (⟨rfl, ⟨ok, E.keep [0, 2, 4, 5], r27⟩⟩)
    replace hF := cond_t hc31 hF
    refine wp_skip ?_
    refine t_norm ?_
    refine wp_block ?_
    refine c_region ?_
    refine l_val E ok (y_move rfl) rfl rfl fun a E => ?_
    refine l_val E ok (y_add rfl rfl (InR.inc r27 (InR.len l20) hc28)) rfl rfl fun a E => ?_
    refine l_val E ok (y_assign rfl) rfl rfl fun a E => ?_
    refine wpList_nil ?_
    refine b_norm ?_
    obtain rfl := Option.some.inj hF
    exact step_n ⟨ok, E.keep [0, 2, 4, 5], (InR.inc r27 (InR.len l20) hc28)⟩
  intro e a w _ hO
  obtain ⟨rfl, ok, E, r32⟩ := hO
  refine b_hit ?_
  refine t_norm ?_
  refine wp_seq ?_
  refine c_region ?_
  refine l_val E ok (y_move rfl) rfl rfl fun a E => ?_
  refine l_val E ok (y_move rfl) rfl rfl fun a E => ?_
  obtain ⟨s33, e34, hF⟩ := bnd hF
  refine l_val E ok (y_sslice Tryd.underlying9 e34 rfl rfl ⟨_, rfl⟩) rfl rfl fun a E => ?_
  refine l_val E ok (y_fieldAddr fo_45_1 rfl) rfl rfl fun a E => ?_
  refine l_storeB E ok 0 rfl rfl rfl inf_9 rfl rfl ⟨rfl, trivial⟩ rfl rfl fun w ok => ?_
  refine wpList_nil ?_
  refine t_norm ?_
  refine wp_seq ?_
  refine wp_seq ?_
  refine c_region ?_
  refine l_val E ok (y_move rfl) rfl rfl fun a E => ?_
  refine l_val E ok (y_move rfl) rfl rfl fun a E => ?_
  refine l_val E ok (y_slen Tryd.underlying9 rfl) rfl rfl fun a E => ?_
  refine l_val E ok (y_lss rfl rfl) rfl rfl fun a E => ?_
  refine wpList_nil ?_
  refine t_norm ?_
  obtain ⟨o35, hJ, hF⟩ := bnd hF
  refine c_mono (Q' := fun e a w => (Sum.elim (fun b36 => e = .normal ∧ Ok u m0 ([(b2, Obj.cells [(Value.bool b36.Neg), (Value.string (bs b36.Whole)), (Value.string (bs b36.Frac))].toArray 45 (0, 0))] :: [(b1, Obj.cells [(Value.bool false), (Value.string (bs ([]))), (Value.string (bs ([])))].toArray 45 (0, 0))] :: S) w ∧ Env 98 a [(2, (Value.pointer (some ⟨b1, 0, none⟩))), (4, (Value.pointer (some ⟨b2, 0, none⟩)))] ∧ b36.Whole.length ≤ LIMS ∧ b36.Frac.length ≤ LIMS) (fun b39 => e = .ret ∧ calqueref07_Split_R u m0 S b39 a w)) o35) ?_ ?_
  · replace hF := hJ
    clear hJ
    refine c_if E rfl (fun hc40 => ?_) (fun hc40 => ?_)
    rotate_left
    · replace hF := cond_f hc40 hF
      refine wp_skip ?_
      obtain rfl := Option.some.inj hF
      exact (sl ⟨rfl, ⟨ok, E.keep [2, 4], (Nat.le_trans (slc_len e34) l20), l22⟩⟩)
    replace hF := cond_t hc40 hF
    refine wp_seq ?_
    refine c_region ?_
    refine l_val E ok (y_move rfl) rfl rfl fun a E => ?_
    refine l_val E ok (y_move rfl) rfl rfl fun a E => ?_
    refine l_val E ok (y_add rfl rfl (InR.inc r32 (InR.len l20) hc40)) rfl rfl fun a E => ?_
    obtain ⟨s41, e42, hF⟩ := bnd hF
    refine l_val E ok (y_sslice Tryd.underlying9 e42 rfl ⟨_, rfl⟩ rfl) rfl rfl fun a E => ?_
    refine l_val E ok (y_fieldAddr fo_45_2 rfl) rfl rfl fun a E => ?_
    refine l_storeB E ok 0 rfl rfl rfl inf_9 rfl rfl ⟨rfl, trivial⟩ rfl rfl fun w ok => ?_
    refine wpList_nil ?_
    refine t_norm ?_
    refine wp_seq ?_
    refine c_region ?_
    refine l_val E ok (y_fieldAddr fo_45_2 rfl) rfl rfl fun a E => ?_
    refine l_val E ok (y_load one_9 rfl (Holds.own 0 rfl rfl)) rfl rfl fun a E => ?_
    refine l_val E ok (y_slen Tryd.underlying9 rfl) rfl rfl fun a E => ?_
    refine l_val E ok (y_eql rfl rfl) rfl rfl fun a E => ?_
    refine wpList_nil ?_
    refine t_norm ?_
    refine c_if E rfl (fun hc43 => ?_) (fun hc43 => ?_)
    rotate_left
    · replace hF := cond_f hc43 hF
      refine wp_skip ?_
      obtain rfl := Option.some.inj hF
      exact (sl ⟨rfl, ⟨ok, E.keep [2, 4], (Nat.le_trans (slc_len e34) l20), (Nat.le_trans (slc_len e42) l20)⟩⟩)
    replace hF := cond_t hc43 hF
    refine wp_seq ?_
    refine c_region ?_
    refine l_val E ok (y_build (ps := []) (qs := []) (cs := [(Value.bool false), (Value.string (bs ([]))), (Value.string (bs ([])))]) zero_45 places_45 rfl trivial rfl) rfl rfl fun a E => ?_
    refine l_storeB E ok 1 rfl rfl rfl inf_45 rfl rfl ⟨rfl, rfl, rfl, trivial⟩ rfl rfl fun w ok => ?_
    refine l_val E ok (y_assign rfl) rfl rfl fun a E => ?_
    refine wpList_nil ?_
    refine t_norm ?_
    refine wp_ret ?_
    have hret : calqueref07_Split_R u m0 S ((Number2.mk false ([]) ([])), false) a w := ⟨m0, [(Value.bool false), (Value.string (bs ([]))), (Value.string (bs ([])))], le_m0, ok.drop.drop, E.d, ⟨rv_c (cs := [(Value.bool false), (Value.string (bs ([]))), (Value.string (bs ([])))]) E ok rfl agg_45 rfl (Holds.own 1 rfl rfl), rv_t E rfl, trivial⟩, ⟨rfl, (Nat.zero_le _), (Nat.zero_le _)⟩⟩
    obtain rfl := Option.some.inj hF
    exact (sr ⟨rfl, hret⟩)
  clear hJ
  intro e a w hO
  rcases o35 with o35 | o35
  rotate_left
  · replace hF := elim_r hF
    obtain ⟨rfl, hret⟩ := hO
    refine t_ret ?_
    obtain rfl := Option.some.inj hF
    exact fin _ _ hret
  replace hF := elim_l hF
  obtain ⟨rfl, ok, E, l44, l45⟩ := hO
  refine t_norm ?_
  refine wp_seq ?_
  refine wp_seq ?_
  refine c_region ?_
  refine l_val E ok (y_fieldAddr fo_45_1 rfl) rfl rfl fun a E => ?_
  refine l_val E ok (y_load one_9 rfl (Holds.own 0 rfl rfl)) rfl rfl fun a E => ?_
  refine l_val E ok (y_fieldAddr fo_45_2 rfl) rfl rfl fun a E => ?_
  refine l_val E ok (y_load one_9 rfl (Holds.own 0 rfl rfl)) rfl rfl fun a E => ?_
  obtain ⟨s46, e47, hF⟩ := bnd hF
  refine l_val E ok (y_cat rfl rfl e47) rfl rfl fun a E => ?_
  obtain ⟨r48, e49, hF⟩ := bnd hF
  refine l_call E go_50 rfl (calqueref07_digits_w N s46 (cat_len e47) e49 hG ok) rfl rfl ?_
  rintro _ w ⟨rfl, ok⟩
  refine ⟨_, rfl, fun a E => ?_⟩
  refine l_val E ok (y_not rfl) rfl rfl fun a E => ?_
  refine l_val E ok (y_move rfl) rfl rfl fun a E => ?_
  refine bsplit (!r48) (fun hc50 => ?_) (fun hc50 => ?_)
  · replace hF := cond_t hc50 hF
    replace E := E.upd 54 hc50 rfl
    refine l_skip E rfl rfl fun a E => ?_
    refine l_skip E rfl rfl fun a E => ?_
    refine l_skip E rfl rfl fun a E => ?_
    refine l_skip E rfl rfl fun a E => ?_
    refine l_val E ok (y_pickT rfl rfl) rfl rfl fun a E => ?_
    refine l_val E ok (y_move rfl) rfl rfl fun a E => ?_
    refine l_skip E rfl rfl fun a E => ?_
    refine l_skip E rfl rfl fun a E => ?_
    refine l_skip E rfl rfl fun a E => ?_
    refine l_skip E rfl rfl fun a E => ?_
    refine l_val E ok (y_pickT rfl rfl) rfl rfl fun a E => ?_
    refine l_val E ok (y_move rfl) rfl rfl fun a E => ?_
    refine l_skip E rfl rfl fun a E => ?_
    refine l_skip E rfl rfl fun a E => ?_
    refine l_skip E rfl rfl fun a E => ?_
    refine l_skip E rfl rfl fun a E => ?_
    refine l_skip E rfl rfl fun a E => ?_
    refine l_skip E rfl rfl fun a E => ?_
    refine l_skip E rfl rfl fun a E => ?_
    refine l_skip E rfl rfl fun a E => ?_
    refine l_skip E rfl rfl fun a E => ?_
    refine l_skip E rfl rfl fun a E => ?_
    refine l_val E ok (y_pickT rfl rfl) rfl rfl fun a E => ?_
    refine l_val E ok (y_move rfl) rfl rfl fun a E => ?_
    refine l_skip E rfl rfl fun a E => ?_
    refine l_skip E rfl rfl fun a E => ?_
    refine l_skip E rfl rfl fun a E => ?_
    refine l_skip E rfl rfl fun a E => ?_
    refine l_val E ok (y_pickT rfl rfl) rfl rfl fun a E => ?_
    refine l_val E ok (y_move rfl) rfl rfl fun a E => ?_
    refine l_skip E rfl rfl fun a E => ?_
    refine l_skip E rfl rfl fun a E => ?_
    refine l_skip E rfl rfl fun a E => ?_
    refine l_skip E rfl rfl fun a E => ?_
    refine l_skip E rfl rfl fun a E => ?_
    refine l_skip E rfl rfl fun a E => ?_
    refine l_skip E rfl rfl fun a E => ?_
    refine l_skip E rfl rfl fun a E => ?_
    refine l_skip E rfl rfl fun a E => ?_
    refine l_skip E rfl rfl fun a E => ?_
    refine l_val E ok (y_pickT rfl rfl) rfl rfl fun a E => ?_
    refine wpList_nil ?_
    refine t_norm ?_
    refine c_if E rfl (fun _ => ?_) (fun h => by cases h)
    refine wp_seq ?_
    refine c_region ?_
    refine l_val E ok (y_build (ps := []) (qs := []) (cs := [(Value.bool false), (Value.string (bs ([]))), (Value.string (bs ([])))]) zero_45 places_45 rfl trivial rfl) rfl rfl fun a E => ?_
    refine l_storeB E ok 1 rfl rfl rfl inf_45 rfl rfl ⟨rfl, rfl, rfl, trivial⟩ rfl rfl fun w ok => ?_
    refine l_val E ok (y_assign rfl) rfl rfl fun a E => ?_
    refine wpList_nil ?_
    refine t_norm ?_
    refine wp_ret ?_
    refine t_ret ?_
    have hret : calqueref07_Split_R u m0 S ((Number2.mk false ([]) ([])), false) a w := ⟨m0, [(Value.bool false), (Value.string (bs ([]))), (Value.string (bs ([])))], le_m0, ok.drop.drop, E.d, ⟨rv_c (cs := [(Value.bool false), (Value.string (bs ([]))), (Value.string (bs ([])))]) E ok rfl agg_45 rfl (Holds.own 1 rfl rfl), rv_t E rfl, trivial⟩, ⟨rfl, (Nat.zero_le _), (Nat.zero_le _)⟩⟩
    obtain rfl := Option.some.inj hF
    exact fin _ _ hret
  replace hF := cond_f hc50 hF
  replace E := E.upd 54 hc50 rfl
  refine l_val E ok (y_fieldAddr fo_45_1 rfl) rfl rfl fun a E => ?_
  refine l_val E ok (y_load one_9 rfl (Holds.own 0 rfl rfl)) rfl rfl fun a E => ?_
  refine l_val E ok (y_slen Tryd.underlying9 rfl) rfl rfl fun a E => ?_
  refine l_val E ok (y_lss rfl rfl) rfl rfl fun a E => ?_
  refine l_val E ok (y_pickF rfl rfl) rfl rfl fun a E => ?_
  refine l_val E ok (y_move rfl) rfl rfl fun a E => ?_
  refine bsplit (decide ((o35.Whole.length : Int) < 1)) (fun hc51 => ?_) (fun hc51 => ?_)
  · replace hF := cond_t hc51 hF
    replace E := E.upd 60 hc51 rfl
    refine l_skip E rfl rfl fun a E => ?_
    refine l_skip E rfl rfl fun a E => ?_
    refine l_skip E rfl rfl fun a E => ?_
    refine l_skip E rfl rfl fun a E => ?_
    refine l_val E ok (y_pickT rfl rfl) rfl rfl fun a E => ?_
    refine l_val E ok (y_move rfl) rfl rfl fun a E => ?_
    refine l_skip E rfl rfl fun a E => ?_
    refine l_skip E rfl rfl fun a E => ?_
    refine l_skip E rfl rfl fun a E => ?_
    refine l_skip E rfl rfl fun a E => ?_
    refine l_skip E rfl rfl fun a E => ?_
    refine l_skip E rfl rfl fun a E => ?_
    refine l_skip E rfl rfl fun a E => ?_
    refine l_skip E rfl rfl fun a E => ?_
    refine l_skip E rfl rfl fun a E => ?_
    refine l_skip E rfl rfl fun a E => ?_
    refine l_val E ok (y_pickT rfl rfl) rfl rfl fun a E => ?_
    refine l_val E ok (y_move rfl) rfl rfl fun a E => ?_
    refine l_skip E rfl rfl fun a E => ?_
    refine l_skip E rfl rfl fun a E => ?_
    refine l_skip E rfl rfl fun a E => ?_
    refine l_skip E rfl rfl fun a E => ?_
    refine l_val E ok (y_pickT rfl rfl) rfl rfl fun a E => ?_
    refine l_val E ok (y_move rfl) rfl rfl fun a E => ?_
    refine l_skip E rfl rfl fun a E => ?_
    refine l_skip E rfl rfl fun a E => ?_
    refine l_skip E rfl rfl fun a E => ?_
    refine l_skip E rfl rfl fun a E => ?_
    refine l_skip E rfl rfl fun a E => ?_
    refine l_skip E rfl rfl fun a E => ?_
    refine l_skip E rfl rfl fun a E => ?_
    refine l_skip E rfl rfl fun a E => ?_
    refine l_skip E rfl rfl fun a E => ?_
    refine l_skip E rfl rfl fun a E => ?_
    refine l_val E ok (y_pickT rfl rfl) rfl rfl fun a E => ?_
    refine wpList_nil ?_
    refine t_norm ?_
    refine c_if E rfl (fun _ => ?_) (fun h => by cases h)
    refine wp_seq ?_
    refine c_region ?_
    refine l_val E ok (y_build (ps := []) (qs := []) (cs := [(Value.bool false), (Value.string (bs ([]))), (Value.string (bs ([])))]) zero_45 places_45 rfl trivial rfl) rfl rfl fun a E => ?_
    refine l_storeB E ok 1 rfl rfl rfl inf_45 rfl rfl ⟨rfl, rfl, rfl, trivial⟩ rfl rfl fun w ok => ?_
    refine l_val E ok (y_assign rfl) rfl rfl fun a E => ?_
    refine wpList_nil ?_
    refine t_norm ?_
    refine wp_ret ?_
    refine t_ret ?_
    have hret : calqueref07_Split_R u m0 S ((Number2.mk false ([]) ([])), false) a w := ⟨m0, [(Value.bool false), (Value.string (bs ([]))), (Value.string (bs ([])))], le_m0, ok.drop.drop, E.d, ⟨rv_c (cs := [(Value.bool false), (Value.string (bs ([]))), (Value.string (bs ([])))]) E ok rfl agg_45 rfl (Holds.own 1 rfl rfl), rv_t E rfl, trivial⟩, ⟨rfl, (Nat.zero_le _), (Nat.zero_le _)⟩⟩
    obtain rfl := Option.some.inj hF
    exact fin _ _ hret
  replace hF := cond_f hc51 hF
  replace E := E.upd 60 hc51 rfl
  refine l_val E ok (y_fieldAddr fo_45_1 rfl) rfl rfl fun a E => ?_
  refine l_val E ok (y_load one_9 rfl (Holds.own 0 rfl rfl)) rfl rfl fun a E => ?_
  refine l_val E ok (y_slen Tryd.underlying9 rfl) rfl rfl fun a E => ?_
  refine l_val E ok (y_gtr rfl rfl) rfl rfl fun a E => ?_
  refine l_val E ok (y_pickF rfl rfl) rfl rfl fun a E => ?_
  refine l_val E ok (y_move rfl) rfl rfl fun a E => ?_
  refine bsplit (decide ((o35.Whole.length : Int) > 15)) (fun hc52 => ?_) (fun hc52 => ?_)
  · replace hF := cond_t hc52 hF
    replace E := E.upd 66 hc52 rfl
    refine l_skip E rfl rfl fun a E => ?_
    refine l_skip E rfl rfl fun a E => ?_
    refine l_skip E rfl rfl fun a E => ?_
    refine l_skip E rfl rfl fun a E => ?_
    refine l_skip E rfl rfl fun a E => ?_
    refine l_skip E rfl rfl fun a E => ?_
    refine l_skip E rfl rfl fun a E => ?_
    refine l_skip E rfl rfl fun a E => ?_
    refine l_skip E rfl rfl fun a E => ?_
    refine l_skip E rfl rfl fun a E => ?_
    refine l_val E ok (y_pickT rfl rfl) rfl rfl fun a E => ?_
    refine l_val E ok (y_move rfl) rfl rfl fun a E => ?_
    refine l_skip E rfl rfl fun a E => ?_
    refine l_skip E rfl rfl fun a E => ?_
    refine l_skip E rfl rfl fun a E => ?_
    refine l_skip E rfl rfl fun a E => ?_
    refine l_val E ok (y_pickT rfl rfl) rfl rfl fun a E => ?_
    refine l_val E ok (y_move rfl) rfl rfl fun a E => ?_
    refine l_skip E rfl rfl fun a E => ?_
    refine l_skip E rfl rfl fun a E => ?_
    refine l_skip E rfl rfl fun a E => ?_
    refine l_skip E rfl rfl fun a E => ?_
    refine l_skip E rfl rfl fun a E => ?_
    refine l_skip E rfl rfl fun a E => ?_
    refine l_skip E rfl rfl fun a E => ?_
    refine l_skip E rfl rfl fun a E => ?_
    refine l_skip E rfl rfl fun a E => ?_
    refine l_skip E rfl rfl fun a E => ?_
    refine l_val E ok (y_pickT rfl rfl) rfl rfl fun a E => ?_
    refine wpList_nil ?_
    refine t_norm ?_
    refine c_if E rfl (fun _ => ?_) (fun h => by cases h)
    refine wp_seq ?_
    refine c_region ?_
    refine l_val E ok (y_build (ps := []) (qs := []) (cs := [(Value.bool false), (Value.string (bs ([]))), (Value.string (bs ([])))]) zero_45 places_45 rfl trivial rfl) rfl rfl fun a E => ?_
    refine l_storeB E ok 1 rfl rfl rfl inf_45 rfl rfl ⟨rfl, rfl, rfl, trivial⟩ rfl rfl fun w ok => ?_
    refine l_val E ok (y_assign rfl) rfl rfl fun a E => ?_
    refine wpList_nil ?_
    refine t_norm ?_
    refine wp_ret ?_
    refine t_ret ?_
    have hret : calqueref07_Split_R u m0 S ((Number2.mk false ([]) ([])), false) a w := ⟨m0, [(Value.bool false), (Value.string (bs ([]))), (Value.string (bs ([])))], le_m0, ok.drop.drop, E.d, ⟨rv_c (cs := [(Value.bool false), (Value.string (bs ([]))), (Value.string (bs ([])))]) E ok rfl agg_45 rfl (Holds.own 1 rfl rfl), rv_t E rfl, trivial⟩, ⟨rfl, (Nat.zero_le _), (Nat.zero_le _)⟩⟩
    obtain rfl := Option.some.inj hF
    exact fin _ _ hret
  replace hF := cond_f hc52 hF
  replace E := E.upd 66 hc52 rfl
  refine l_val E ok (y_fieldAddr fo_45_1 rfl) rfl rfl fun a E => ?_
  refine l_val E ok (y_load one_9 rfl (Holds.own 0 rfl rfl)) rfl rfl fun a E => ?_
  refine l_val E ok (y_slen Tryd.underlying9 rfl) rfl rfl fun a E => ?_
  refine l_val E ok (y_gtr rfl rfl) rfl rfl fun a E => ?_
  refine l_val E ok (y_move rfl) rfl rfl fun a E => ?_
  refine bsplit (decide ((o35.Whole.length : Int) > 1)) (fun hc53 => ?_) (fun hc53 => ?_)
  rotate_left
  · as_aux_lemma =>
      replace hF := cond_f hc53 hF
      replace E := E.upd 71 hc53 rfl
      refine l_skip E rfl rfl fun a E => ?_
      refine l_skip E rfl rfl fun a E => ?_
      refine l_skip E rfl rfl fun a E => ?_
      refine l_skip E rfl rfl fun a E => ?_
      refine l_val E ok (y_pickF rfl rfl) rfl rfl fun a E => ?_
      refine l_val E ok (y_pickF rfl rfl) rfl rfl fun a E => ?_
      refine l_val E ok (y_move rfl) rfl rfl fun a E => ?_
      refine l_val E ok (y_fieldAddr fo_45_2 rfl) rfl rfl fun a E => ?_
      refine l_val E ok (y_load one_9 rfl (Holds.own 0 rfl rfl)) rfl rfl fun a E => ?_
      refine l_val E ok (y_slen Tryd.underlying9 rfl) rfl rfl fun a E => ?_
      refine l_val E ok (y_gtr rfl rfl) rfl rfl fun a E => ?_
      refine l_val E ok (y_pickF rfl rfl) rfl rfl fun a E => ?_
      refine l_val E ok (y_move rfl) rfl rfl fun a E => ?_
      refine bsplit (decide ((o35.Frac.length : Int) > 6)) (fun hc64 => ?_) (fun hc64 => ?_)
      · replace hF := cond_t hc64 hF
        replace E := E.upd 84 hc64 rfl
        refine l_skip E rfl rfl fun a E => ?_
        refine l_skip E rfl rfl fun a E => ?_
        refine l_skip E rfl rfl fun a E => ?_
        refine l_skip E rfl rfl fun a E => ?_
        refine l_skip E rfl rfl fun a E => ?_
        refine l_skip E rfl rfl fun a E => ?_
        refine l_skip E rfl rfl fun a E => ?_
        refine l_skip E rfl rfl fun a E => ?_
        refine l_skip E rfl rfl fun a E => ?_
        refine l_skip E rfl rfl fun a E => ?_
        refine l_val E ok (y_pickT rfl rfl) rfl rfl fun a E => ?_
        refine wpList_nil ?_
        refine t_norm ?_
        refine c_if E rfl (fun _ => ?_) (fun h => by cases h)
        refine wp_seq ?_
        refine c_region ?_
        refine l_val E ok (y_build (ps := []) (qs := []) (cs := [(Value.bool false), (Value.string (bs ([]))), (Value.string (bs ([])))]) zero_45 places_45 rfl trivial rfl) rfl rfl fun a E => ?_
        refine l_storeB E ok 1 rfl rfl rfl inf_45 rfl rfl ⟨rfl, rfl, rfl, trivial⟩ rfl rfl fun w ok => ?_
        refine l_val E ok (y_assign rfl) rfl rfl fun a E => ?_
        refine wpList_nil ?_
        refine t_norm ?_
        refine wp_ret ?_
        refine t_ret ?_
        have hret : calqueref07_Split_R u m0 S ((Number2.mk false ([]) ([])), false) a w := ⟨m0, [(Value.bool false), (Value.string (bs ([]))), (Value.string (bs ([])))], le_m0, ok.drop.drop, E.d, ⟨rv_c (cs := [(Value.bool false), (Value.string (bs ([]))), (Value.string (bs ([])))]) E ok rfl agg_45 rfl (Holds.own 1 rfl rfl), rv_t E rfl, trivial⟩, ⟨rfl, (Nat.zero_le _), (Nat.zero_le _)⟩⟩
        obtain rfl := Option.some.inj hF
        exact fin _ _ hret
      replace hF := cond_f hc64 hF
      replace E := E.upd 84 hc64 rfl
      refine l_val E ok (y_fieldAddr fo_45_0 rfl) rfl rfl fun a E => ?_
      refine l_val E ok (y_load one_4 rfl (Holds.own 0 rfl rfl)) rfl rfl fun a E => ?_
      refine l_val E ok (y_move rfl) rfl rfl fun a E => ?_
      refine bsplit o35.Neg (fun hc65 => ?_) (fun hc65 => ?_)
      rotate_left
      · replace hF := cond_f hc65 hF
        replace E := E.upd 87 hc65 rfl
        refine l_skip E rfl rfl fun a E => ?_
        refine l_skip E rfl rfl fun a E => ?_
        refine l_skip E rfl rfl fun a E => ?_
        refine l_skip E rfl rfl fun a E => ?_
        refine l_skip E rfl rfl fun a E => ?_
        refine l_skip E rfl rfl fun a E => ?_
        refine l_val E ok (y_pickF rfl rfl) rfl rfl fun a E => ?_
        refine l_val E ok (y_pickF rfl rfl) rfl rfl fun a E => ?_
        refine wpList_nil ?_
        refine t_norm ?_
        refine c_if E rfl (fun h => by cases h) (fun _ => ?_)
        refine wp_skip ?_
        refine t_norm ?_
        refine wp_seq ?_
        refine c_region ?_
        refine l_val E ok (y_loadAgg (cs := [(Value.bool o35.Neg), (Value.string (bs o35.Whole)), (Value.string (bs o35.Frac))]) agg_45 rfl rfl (Holds.own 0 rfl rfl)) rfl rfl fun a E => ?_
        refine l_storeB E ok 1 rfl rfl rfl inf_45 rfl rfl ⟨rfl, rfl, rfl, trivial⟩ rfl rfl fun w ok => ?_
        refine l_val E ok (y_assign rfl) rfl rfl fun a E => ?_
        refine wpList_nil ?_
        refine t_norm ?_
        refine wp_ret ?_
        have hret : calqueref07_Split_R u m0 S (o35, true) a w := ⟨m0, [(Value.bool o35.Neg), (Value.string (bs o35.Whole)), (Value.string (bs o35.Frac))], le_m0, ok.drop.drop, E.d, ⟨rv_c (cs := [(Value.bool o35.Neg), (Value.string (bs o35.Whole)), (Value.string (bs o35.Frac))]) E ok rfl agg_45 rfl (Holds.own 1 rfl rfl), rv_t E rfl, trivial⟩, ⟨rfl, l44, l45⟩⟩
        obtain rfl := Option.some.inj hF
        exact fin _ _ hret
      replace hF := cond_t hc65 hF
      replace E := E.upd 87 hc65 rfl
      refine l_val E ok (y_fieldAddr fo_45_1 rfl) rfl rfl fun a E => ?_
      refine l_val E ok (y_load one_9 rfl (Holds.own 0 rfl rfl)) rfl rfl fun a E => ?_
      refine l_val E ok (y_fieldAddr fo_45_2 rfl) rfl rfl fun a E => ?_
      refine l_val E ok (y_load one_9 rfl (Holds.own 0 rfl rfl)) rfl rfl fun a E => ?_
      obtain ⟨s66, e67, hF⟩ := bnd hF
      refine l_val E ok (y_cat rfl rfl e67) rfl rfl fun a E => ?_
      obtain ⟨r68, e69, hF⟩ := bnd hF
      refine l_call E go_32 rfl (calqueref07_Zero_w N s66 (cat_len e67) e69 hG ok) rfl rfl ?_
      rintro _ w ⟨rfl, ok⟩
      refine ⟨_, rfl, fun a E => ?_⟩
      refine l_val E ok (y_pickT rfl rfl) rfl rfl fun a E => ?_
      refine l_val E ok (y_pickF rfl rfl) rfl rfl fun a E => ?_
      refine wpList_nil ?_
      refine t_norm ?_
      refine c_if E rfl (fun hc70 => ?_) (fun hc70 => ?_)
      · replace hF := cond_t hc70 hF
        refine wp_seq ?_
        refine c_region ?_
        refine l_val E ok (y_build (ps := []) (qs := []) (cs := [(Value.bool false), (Value.string (bs ([]))), (Value.string (bs ([])))]) zero_45 places_45 rfl trivial rfl) rfl rfl fun a E => ?_
        refine l_storeB E ok 1 rfl rfl rfl inf_45 rfl rfl ⟨rfl, rfl, rfl, trivial⟩ rfl rfl fun w ok => ?_
        refine l_val E ok (y_assign rfl) rfl rfl fun a E => ?_
        refine wpList_nil ?_
        refine t_norm ?_
        refine wp_ret ?_
        refine t_ret ?_
        have hret : calqueref07_Split_R u m0 S ((Number2.mk false ([]) ([])), false) a w := ⟨m0, [(Value.bool false), (Value.string (bs ([]))), (Value.string (bs ([])))], le_m0, ok.drop.drop, E.d, ⟨rv_c (cs := [(Value.bool false), (Value.string (bs ([]))), (Value.string (bs ([])))]) E ok rfl agg_45 rfl (Holds.own 1 rfl rfl), rv_t E rfl, trivial⟩, ⟨rfl, (Nat.zero_le _), (Nat.zero_le _)⟩⟩
        obtain rfl := Option.some.inj hF
        exact fin _ _ hret
      replace hF := cond_f hc70 hF
      refine wp_skip ?_
      refine t_norm ?_
      refine wp_seq ?_
      refine c_region ?_
      refine l_val E ok (y_loadAgg (cs := [(Value.bool o35.Neg), (Value.string (bs o35.Whole)), (Value.string (bs o35.Frac))]) agg_45 rfl rfl (Holds.own 0 rfl rfl)) rfl rfl fun a E => ?_
      refine l_storeB E ok 1 rfl rfl rfl inf_45 rfl rfl ⟨rfl, rfl, rfl, trivial⟩ rfl rfl fun w ok => ?_
      refine l_val E ok (y_assign rfl) rfl rfl fun a E => ?_
      refine wpList_nil ?_
      refine t_norm ?_
      refine wp_ret ?_
      have hret : calqueref07_Split_R u m0 S (o35, true) a w := ⟨m0, [(Value.bool o35.Neg), (Value.string (bs o35.Whole)), (Value.string (bs o35.Frac))], le_m0, ok.drop.drop, E.d, ⟨rv_c (cs := [(Value.bool o35.Neg), (Value.string (bs o35.Whole)), (Value.string (bs o35.Frac))]) E ok rfl agg_45 rfl (Holds.own 1 rfl rfl), rv_t E rfl, trivial⟩, ⟨rfl, l44, l45⟩⟩
      obtain rfl := Option.some.inj hF
      exact fin _ _ hret
  replace hF := cond_t hc53 hF
  replace E := E.upd 71 hc53 rfl
  refine l_val E ok (y_fieldAddr fo_45_1 rfl) rfl rfl fun a E => ?_
  refine l_val E ok (y_load one_9 rfl (Holds.own 0 rfl rfl)) rfl rfl fun a E => ?_
  obtain ⟨c54, e55, hF⟩ := bnd hF
  refine l_val E ok (y_index Tryd.underlying9 rfl rfl e55) rfl rfl fun a E => ?_
  refine l_val E ok (y_eql rfl rfl) rfl rfl fun a E => ?_
  refine l_val E ok (y_pickT rfl rfl) rfl rfl fun a E => ?_
  refine l_val E ok (y_pickF rfl rfl) rfl rfl fun a E => ?_
  refine l_val E ok (y_move rfl) rfl rfl fun a E => ?_
  refine bsplit ((c54.toNat : Int) == 48) (fun hc56 => ?_) (fun hc56 => ?_)
  · replace hF := cond_t hc56 hF
    replace E := E.upd 78 hc56 rfl
    refine l_skip E rfl rfl fun a E => ?_
    refine l_skip E rfl rfl fun a E => ?_
    refine l_skip E rfl rfl fun a E => ?_
    refine l_skip E rfl rfl fun a E => ?_
    refine l_val E ok (y_pickT rfl rfl) rfl rfl fun a E => ?_
    refine l_val E ok (y_move rfl) rfl rfl fun a E => ?_
    refine l_skip E rfl rfl fun a E => ?_
    refine l_skip E rfl rfl fun a E => ?_
    refine l_skip E rfl rfl fun a E => ?_
    refine l_skip E rfl rfl fun a E => ?_
    refine l_skip E rfl rfl fun a E => ?_
    refine l_skip E rfl rfl fun a E => ?_
    refine l_skip E rfl rfl fun a E => ?_
    refine l_skip E rfl rfl fun a E => ?_
    refine l_skip E rfl rfl fun a E => ?_
    refine l_skip E rfl rfl fun a E => ?_
    refine l_val E ok (y_pickT rfl rfl) rfl rfl fun a E => ?_
    refine wpList_nil ?_
    refine t_norm ?_
    refine c_if E rfl (fun _ => ?_) (fun h => by cases h)
    refine wp_seq ?_
    refine c_region ?_
    refine l_val E ok (y_build (ps := []) (qs := []) (cs := [(Value.bool false), (Value.string (bs ([]))), (Value.string (bs ([])))]) zero_45 places_45 rfl trivial rfl) rfl rfl fun a E => ?_
    refine l_storeB E ok 1 rfl rfl rfl inf_45 rfl rfl ⟨rfl, rfl, rfl, trivial⟩ rfl rfl fun w ok => ?_
    refine l_val E ok (y_assign rfl) rfl rfl fun a E => ?_
    refine wpList_nil ?_
    refine t_norm ?_
    refine wp_ret ?_
    refine t_ret ?_
    have hret : calqueref07_Split_R u m0 S ((Number2.mk false ([]) ([])), false) a w := ⟨m0, [(Value.bool false), (Value.string (bs ([]))), (Value.string (bs ([])))], le_m0, ok.drop.drop, E.d, ⟨rv_c (cs := [(Value.bool false), (Value.string (bs ([]))), (Value.string (bs ([])))]) E ok rfl agg_45 rfl (Holds.own 1 rfl rfl), rv_t E rfl, trivial⟩, ⟨rfl, (Nat.zero_le _), (Nat.zero_le _)⟩⟩
    obtain rfl := Option.some.inj hF
    exact fin _ _ hret
  replace hF := cond_f hc56 hF
  replace E := E.upd 78 hc56 rfl
  refine l_val E ok (y_fieldAddr fo_45_2 rfl) rfl rfl fun a E => ?_
  refine l_val E ok (y_load one_9 rfl (Holds.own 0 rfl rfl)) rfl rfl fun a E => ?_
  refine l_val E ok (y_slen Tryd.underlying9 rfl) rfl rfl fun a E => ?_
  refine l_val E ok (y_gtr rfl rfl) rfl rfl fun a E => ?_
  refine l_val E ok (y_pickF rfl rfl) rfl rfl fun a E => ?_
  refine l_val E ok (y_move rfl) rfl rfl fun a E => ?_
  refine bsplit (decide ((o35.Frac.length : Int) > 6)) (fun hc57 => ?_) (fun hc57 => ?_)
  · replace hF := cond_t hc57 hF
    replace E := E.upd 84 hc57 rfl
    refine l_skip E rfl rfl fun a E => ?_
    refine l_skip E rfl rfl fun a E => ?_
    refine l_skip E rfl rfl fun a E => ?_
    refine l_skip E rfl rfl fun a E => ?_
    refine l_skip E rfl rfl fun a E => ?_
    refine l_skip E rfl rfl fun a E => ?_
    refine l_skip E rfl rfl fun a E => ?_
    refine l_skip E rfl rfl fun a E => ?_
    refine l_skip E rfl rfl fun a E => ?_
    refine l_skip E rfl rfl fun a E => ?_
    refine l_val E ok (y_pickT rfl rfl) rfl rfl fun a E => ?_
    refine wpList_nil ?_
    refine t_norm ?_
    refine c_if E rfl (fun _ => ?_) (fun h => by cases h)
    refine wp_seq ?_
    refine c_region ?_
    refine l_val E ok (y_build (ps := []) (qs := []) (cs := [(Value.bool false), (Value.string (bs ([]))), (Value.string (bs ([])))]) zero_45 places_45 rfl trivial rfl) rfl rfl fun a E => ?_
    refine l_storeB E ok 1 rfl rfl rfl inf_45 rfl rfl ⟨rfl, rfl, rfl, trivial⟩ rfl rfl fun w ok => ?_
    refine l_val E ok (y_assign rfl) rfl rfl fun a E => ?_
    refine wpList_nil ?_
    refine t_norm ?_
    refine wp_ret ?_
    refine t_ret ?_
    have hret : calqueref07_Split_R u m0 S ((Number2.mk false ([]) ([])), false) a w := ⟨m0, [(Value.bool false), (Value.string (bs ([]))), (Value.string (bs ([])))], le_m0, ok.drop.drop, E.d, ⟨rv_c (cs := [(Value.bool false), (Value.string (bs ([]))), (Value.string (bs ([])))]) E ok rfl agg_45 rfl (Holds.own 1 rfl rfl), rv_t E rfl, trivial⟩, ⟨rfl, (Nat.zero_le _), (Nat.zero_le _)⟩⟩
    obtain rfl := Option.some.inj hF
    exact fin _ _ hret
  replace hF := cond_f hc57 hF
  replace E := E.upd 84 hc57 rfl
  refine l_val E ok (y_fieldAddr fo_45_0 rfl) rfl rfl fun a E => ?_
  refine l_val E ok (y_load one_4 rfl (Holds.own 0 rfl rfl)) rfl rfl fun a E => ?_
  refine l_val E ok (y_move rfl) rfl rfl fun a E => ?_
  refine bsplit o35.Neg (fun hc58 => ?_) (fun hc58 => ?_)
  rotate_left
  · replace hF := cond_f hc58 hF
    replace E := E.upd 87 hc58 rfl
    refine l_skip E rfl rfl fun a E => ?_
    refine l_skip E rfl rfl fun a E => ?_
    refine l_skip E rfl rfl fun a E => ?_
    refine l_skip E rfl rfl fun a E => ?_
    refine l_skip E rfl rfl fun a E => ?_
    refine l_skip E rfl rfl fun a E => ?_
    refine l_val E ok (y_pickF rfl rfl) rfl rfl fun a E => ?_
    refine l_val E ok (y_pickF rfl rfl) rfl rfl fun a E => ?_
    refine wpList_nil ?_
    refine t_norm ?_
    refine c_if E rfl (fun h => by cases h) (fun _ => ?_)
    refine wp_skip ?_
    refine t_norm ?_
    refine wp_seq ?_
    refine c_region ?_
    refine l_val E ok (y_loadAgg (cs := [(Value.bool o35.Neg), (Value.string (bs o35.Whole)), (Value.string (bs o35.Frac))]) agg_45 rfl rfl (Holds.own 0 rfl rfl)) rfl rfl fun a E => ?_
    refine l_storeB E ok 1 rfl rfl rfl inf_45 rfl rfl ⟨rfl, rfl, rfl, trivial⟩ rfl rfl fun w ok => ?_
    refine l_val E ok (y_assign rfl) rfl rfl fun a E => ?_
    refine wpList_nil ?_
    refine t_norm ?_
    refine wp_ret ?_
    have hret : calqueref07_Split_R u m0 S (o35, true) a w := ⟨m0, [(Value.bool o35.Neg), (Value.string (bs o35.Whole)), (Value.string (bs o35.Frac))], le_m0, ok.drop.drop, E.d, ⟨rv_c (cs := [(Value.bool o35.Neg), (Value.string (bs o35.Whole)), (Value.string (bs o35.Frac))]) E ok rfl agg_45 rfl (Holds.own 1 rfl rfl), rv_t E rfl, trivial⟩, ⟨rfl, l44, l45⟩⟩
    obtain rfl := Option.some.inj hF
    exact fin _ _ hret
  replace hF := cond_t hc58 hF
  replace E := E.upd 87 hc58 rfl
  refine l_val E ok (y_fieldAddr fo_45_1 rfl) rfl rfl fun a E => ?_
  refine l_val E ok (y_load one_9 rfl (Holds.own 0 rfl rfl)) rfl rfl fun a E => ?_
  refine l_val E ok (y_fieldAddr fo_45_2 rfl) rfl rfl fun a E => ?_
  refine l_val E ok (y_load one_9 rfl (Holds.own 0 rfl rfl)) rfl rfl fun a E => ?_
  obtain ⟨s59, e60, hF⟩ := bnd hF
  refine l_val E ok (y_cat rfl rfl e60) rfl rfl fun a E => ?_
  obtain ⟨r61, e62, hF⟩ := bnd hF
  refine l_call E go_32 rfl (calqueref07_Zero_w N s59 (cat_len e60) e62 hG ok) rfl rfl ?_
  rintro _ w ⟨rfl, ok⟩
  refine ⟨_, rfl, fun a E => ?_⟩
  refine l_val E ok (y_pickT rfl rfl) rfl rfl fun a E => ?_
  refine l_val E ok (y_pickF rfl rfl) rfl rfl fun a E => ?_
  refine wpList_nil ?_
  refine t_norm ?_
  refine c_if E rfl (fun hc63 => ?_) (fun hc63 => ?_)
  · replace hF := cond_t hc63 hF
    refine wp_seq ?_
    refine c_region ?_
    refine l_val E ok (y_build (ps := []) (qs := []) (cs := [(Value.bool false), (Value.string (bs ([]))), (Value.string (bs ([])))]) zero_45 places_45 rfl trivial rfl) rfl rfl fun a E => ?_
    refine l_storeB E ok 1 rfl rfl rfl inf_45 rfl rfl ⟨rfl, rfl, rfl, trivial⟩ rfl rfl fun w ok => ?_
    refine l_val E ok (y_assign rfl) rfl rfl fun a E => ?_
    refine wpList_nil ?_
    refine t_norm ?_
    refine wp_ret ?_
    refine t_ret ?_
    have hret : calqueref07_Split_R u m0 S ((Number2.mk false ([]) ([])), false) a w := ⟨m0, [(Value.bool false), (Value.string (bs ([]))), (Value.string (bs ([])))], le_m0, ok.drop.drop, E.d, ⟨rv_c (cs := [(Value.bool false), (Value.string (bs ([]))), (Value.string (bs ([])))]) E ok rfl agg_45 rfl (Holds.own 1 rfl rfl), rv_t E rfl, trivial⟩, ⟨rfl, (Nat.zero_le _), (Nat.zero_le _)⟩⟩
    obtain rfl := Option.some.inj hF
    exact fin _ _ hret
  replace hF := cond_f hc63 hF
  refine wp_skip ?_
  refine t_norm ?_
  refine wp_seq ?_
  refine c_region ?_
  refine l_val E ok (y_loadAgg (cs := [(Value.bool o35.Neg), (Value.string (bs o35.Whole)), (Value.string (bs o35.Frac))]) agg_45 rfl rfl (Holds.own 0 rfl rfl)) rfl rfl fun a E => ?_
  refine l_storeB E ok 1 rfl rfl rfl inf_45 rfl rfl ⟨rfl, rfl, rfl, trivial⟩ rfl rfl fun w ok => ?_
  refine l_val E ok (y_assign rfl) rfl rfl fun a E => ?_
  refine wpList_nil ?_
  refine t_norm ?_
  refine wp_ret ?_
  have hret : calqueref07_Split_R u m0 S (o35, true) a w := ⟨m0, [(Value.bool o35.Neg), (Value.string (bs o35.Whole)), (Value.string (bs o35.Frac))], le_m0, ok.drop.drop, E.d, ⟨rv_c (cs := [(Value.bool o35.Neg), (Value.string (bs o35.Whole)), (Value.string (bs o35.Frac))]) E ok rfl agg_45 rfl (Holds.own 1 rfl rfl), rv_t E rfl, trivial⟩, ⟨rfl, l44, l45⟩⟩
  obtain rfl := Option.some.inj hF
  exact fin _ _ hret

def calqueref07_Valid_R (u : World) (m0 : Mem) (S : Segs) (r : Bool) (a : Act) (w : World) : Prop :=
  Ok u m0 S w ∧ a.defers = [] ∧ RVs Tryd.prog a w [.t 2 (.bool r)]
set_option maxHeartbeats 4000000 in
set_option maxRecDepth 100000 in
theorem calqueref07_Valid_w {u : World} {m0 : Mem} {S : Segs} {w : World} (N : Nat) (s_0 : List UInt8) (ls_0 : s_0.length ≤ LIMS) {r : Bool} (hF : calqueref07_Valid N s_0 = some r) (hG : Glob u) (ok : Ok u m0 S w) :
    Calls Tryd.prog 14 [Value.string (bs s_0)].toArray w fun e w' => (e = .returned (.bool r) ∧ Ok u m0 S w') := by
  have hb0 := ok.base
  have le_m0 := Mem.le.refl m0
  unfold calqueref07_Valid at hF
  have fin : ∀ a w, calqueref07_Valid_R u m0 S r a w → bodyPost Tryd.prog Tryd.f14 (fun e w' => (e = .returned (.bool r) ∧ Ok u m0 S w')) .ret a w := by
    intro a w h
    obtain ⟨ok, hd, hrv⟩ := h
    exact c_ret2 [.t 2 (.bool r)] hd rfl hrv ⟨rfl, ok⟩
  refine enter Tryd.func14 rfl rfl rfl fun a E => ?_
  refine wp_seq ?_
  refine c_region ?_
  refine l_val E ok (y_assign rfl) rfl rfl fun a E => ?_
  refine wpList_nil ?_
  refine t_norm ?_
  refine wp_seq ?_
  refine c_region ?_
  refine l_val E ok (y_move rfl) rfl rfl fun a E => ?_
  obtain ⟨r1, e2, hF⟩ := bnd hF
  refine l_call E go_28 rfl (calqueref07_Split_w N s_0 ls_0 e2 hG ok) rfl rfl ?_
  rintro _ w ⟨m3, vs4, rfl, hle, ok, h5⟩
  have le_m0 := le_m0.trans hle
  obtain ⟨rfl, l6, l7⟩ := h5
  refine ⟨_, rfl, fun a E => ?_⟩
  refine l_val E ok (y_move rfl) rfl rfl fun a E => ?_
  refine l_val E ok (y_extract rfl rfl) rfl rfl fun a E => ?_
  refine l_val E ok (y_extract rfl rfl) rfl rfl fun a E => ?_
  refine l_alloc E ok zero_45 rfl rfl fun b8 a w E ok => ?_
  refine l_storeB E ok 0 rfl rfl rfl inf_45 rfl rfl ⟨rfl, rfl, rfl, trivial⟩ rfl rfl fun w ok => ?_
  refine l_val E ok (y_assign rfl) rfl rfl fun a E => ?_
  refine wpList_nil ?_
  refine t_norm ?_
  refine wp_seq ?_
  refine c_region ?_
  refine l_val E ok (y_move rfl) rfl rfl fun a E => ?_
  refine l_val E ok (y_assign rfl) rfl rfl fun a E => ?_
  refine wpList_nil ?_
  refine t_norm ?_
  refine wp_ret ?_
  have hret : calqueref07_Valid_R u m0 S r1.2 a w := ⟨(ok.drop).down hb0 le_m0, E.d, ⟨rv_t E rfl, trivial⟩⟩
  obtain rfl := Option.some.inj hF
  exact fin _ _ hret

def calqueref07_zeros_R (u : World) (m0 : Mem) (S : Segs) (r : (List UInt8)) (a : Act) (w : World) : Prop :=
  Ok u m0 S w ∧ a.defers = [] ∧ RVs Tryd.prog a w [.t 2 (.string (bs r))] ∧ r.length ≤ LIMS
set_option maxHeartbeats 4000000 in
set_option maxRecDepth 100000 in
theorem calqueref07_zeros_w {u : World} {m0 : Mem} {S : Segs} {w : World} (N : Nat) (n_0 : Int) (rn_0 : InR .i64 n_0) {r : (List UInt8)} (hF : calqueref07_zeros N n_0 = some r) (hG : Glob u) (ok : Ok u m0 S w) :
    Calls Tryd.prog 29 [Value.int .i64 n_0].toArray w fun e w' => (e = .returned (.string (bs r)) ∧ Ok u m0 S w') ∧ r.length ≤ LIMS := by
  have hb0 := ok.base
  have le_m0 := Mem.le.refl m0
  unfold calqueref07_zeros at hF
  have fin : ∀ a w, calqueref07_zeros_R u m0 S r a w → bodyPost Tryd.prog Tryd.f29 (fun e w' => (e = .returned (.string (bs r)) ∧ Ok u m0 S w') ∧ r.length ≤ LIMS) .ret a w := by
    intro a w h
    obtain ⟨ok, hd, hrv, h0⟩ := h
    exact c_ret2 [.t 2 (.string (bs r))] hd rfl hrv ⟨⟨rfl, ok⟩, h0⟩
  refine enter Tryd.func29 rfl rfl rfl fun a E => ?_
  refine wp_seq ?_
  refine c_region ?_
  refine l_val E ok (y_assign rfl) rfl rfl fun a E => ?_
  refine wpList_nil ?_
  refine t_norm ?_
  refine wp_seq ?_
  refine c_region ?_
  refine l_val E ok (y_assign rfl) rfl rfl fun a E => ?_
  refine wpList_nil ?_
  refine t_norm ?_
  refine wp_seq ?_
  refine wp_seq ?_
  refine c_region ?_
  refine l_val E ok (y_assign rfl) rfl rfl fun a E => ?_
  refine wpList_nil ?_
  refine t_norm ?_
  refine wp_block ?_
  obtain ⟨o3, hL, hF⟩ := bnd hF
  refine c_loop _ (fun (s : (List UInt8) × Int) a w => Ok u m0 (S) w ∧ Env 13 a [(0, (Value.int .i64 n_0)), (3, (Value.string (bs s.1))), (4, (Value.int .i64 s.2))] ∧ s.1.length ≤ LIMS ∧ InR .i64 s.2) (fun (b : ((List UInt8))) e a w => e = (.exit 0) ∧ Ok u m0 (S) w ∧ Env 13 a [(3, (Value.string (bs b)))] ∧ b.length ≤ LIMS) ?_ ?_ N _ a w hL ⟨ok, E.keep [0, 3, 4], (show ([] : List UInt8).length ≤ LIMS by decide), (show InR .i64 (0) by decide)⟩
  rotate_left
  · intro e a w _ hO
    obtain ⟨rfl, ok, E, l13⟩ := hO
    refine b_hit ?_
    refine t_norm ?_
    refine wp_seq ?_
    refine c_region ?_
    refine l_val E ok (y_move rfl) rfl rfl fun a E => ?_
    refine l_val E ok (y_assign rfl) rfl rfl fun a E => ?_
    refine wpList_nil ?_
    refine t_norm ?_
    refine wp_ret ?_
    have hret : calqueref07_zeros_R u m0 S o3 a w := ⟨ok, E.d, ⟨rv_t E rfl, trivial⟩, l13⟩
    obtain rfl := Option.some.inj hF
    exact fin _ _ hret
  rintro ⟨s_6, i_7⟩ a w r ⟨ok, E, l8, r9⟩ hF
  replace hF : calqueref07_zeros_b1 N n_0 s_6 i_7 = some r := hF
  unfold calqueref07_zeros_b1 at hF
  refine wp_seq ?_
  refine wp_seq ?_
  refine c_region ?_
  refine l_val E ok (y_move rfl) rfl rfl fun a E => ?_
  refine l_val E ok (y_move rfl) rfl rfl fun a E => ?_
  refine l_val E ok (y_lss rfl rfl) rfl rfl fun a E => ?_
  refine wpList_nil ?_
  refine t_norm ?_
  refine c_if E rfl (fun hc10 => ?_) (fun hc10 => ?_)
  rotate_left
  · replace hF := cond_f hc10 hF
    refine wp_exit ?_
    refine t_exit ?_
    obtain rfl := Option.some.inj hF
    exact step_o (by nofun) (⟨rfl, ⟨ok, E.keep [3], l8⟩⟩)
  replace hF := cond_t hc10 hF
  refine wp_skip ?_
  refine t_norm ?_
  refine wp_seq ?_
  refine wp_block ?_
  refine c_region ?_
  refine l_val E ok (y_move rfl) rfl rfl fun a E => ?_
  obtain ⟨s11, e12, hF⟩ := bnd hF
  refine l_val E ok (y_cat rfl rfl e12) rfl rfl fun a E => ?_
  refine l_val E ok (y_assign rfl) rfl rfl fun a E => ?_
  refine wpList_nil ?_
  refine b_norm ?_
  refine t_norm ?_
  refine c_region ?_
  refine l_val E ok (y_move rfl) rfl rfl fun a E => ?_
  refine l_val E ok (y_add rfl rfl (InR.inc r9 rn_0 hc10)) rfl rfl fun a E => ?_
  refine l_val E ok (y_assign rfl) rfl rfl fun a E => ?_
  refine wpList_nil ?_
  obtain rfl := Option.some.inj hF
  exact step_n ⟨ok, E.keep [0, 3, 4], (cat_len e12), (InR.inc r9 rn_0 hc10)⟩

def calqueref07_lead_R (u : World) (m0 : Mem) (S : Segs) (r : (List UInt8)) (a : Act) (w : World) : Prop :=
  Ok u m0 S w ∧ a.defers = [] ∧ RVs Tryd.prog a w [.t 2 (.string (bs r))] ∧ r.length ≤ LIMS
set_option maxHeartbeats 4000000 in
set_option maxRecDepth 100000 in
theorem calqueref07_lead_w {u : World} {m0 : Mem} {S : Segs} {w : World} (N : Nat) (s_0 : List UInt8) (ls_0 : s_0.length ≤ LIMS) {r : (List UInt8)} (hF : calqueref07_lead N s_0 = some r) (hG : Glob u) (ok : Ok u m0 S w) :
    Calls Tryd.prog 51 [Value.string (bs s_0)].toArray w fun e w' => (e = .returned (.string (bs r)) ∧ Ok u m0 S w') ∧ r.length ≤ LIMS := by
  have hb0 := ok.base
  have le_m0 := Mem.le.refl m0
  unfold calqueref07_lead at hF
  have fin : ∀ a w, calqueref07_lead_R u m0 S r a w → bodyPost Tryd.prog Tryd.f51 (fun e w' => (e = .returned (.string (bs r)) ∧ Ok u m0 S w') ∧ r.length ≤ LIMS) .ret a w := by
    intro a w h
    obtain ⟨ok, hd, hrv, h0⟩ := h
    exact c_ret2 [.t 2 (.string (bs r))] hd rfl hrv ⟨⟨rfl, ok⟩, h0⟩
  refine enter Tryd.func51 rfl rfl rfl fun a E => ?_
  refine wp_seq ?_
  refine c_region ?_
  refine l_val E ok (y_assign rfl) rfl rfl fun a E => ?_
  refine wpList_nil ?_
  refine t_norm ?_
  refine wp_seq ?_
  refine wp_block ?_
  obtain ⟨o2, hL, hF⟩ := bnd hF
  refine c_loop _ (fun (s : (List UInt8)) a w => Ok u m0 (S) w ∧ Env 14 a [(0, (Value.string (bs s)))] ∧ s.length ≤ LIMS) (fun (b : ((List UInt8))) e a w => e = (.exit 0) ∧ Ok u m0 (S) w ∧ Env 14 a [(0, (Value.string (bs b)))] ∧ b.length ≤ LIMS) ?_ ?_ N _ a w hL ⟨ok, E.keep [0], ls_0⟩
  rotate_left
  · intro e a w _ hO
    obtain ⟨rfl, ok, E, l12⟩ := hO
    refine b_hit ?_
    refine t_norm ?_
    refine wp_seq ?_
    refine c_region ?_
    refine l_val E ok (y_move rfl) rfl rfl fun a E => ?_
    refine l_val E ok (y_assign rfl) rfl rfl fun a E => ?_
    refine wpList_nil ?_
    refine t_norm ?_
    refine wp_ret ?_
    have hret : calqueref07_lead_R u m0 S o2 a w := ⟨ok, E.d, ⟨rv_t E rfl, trivial⟩, l12⟩
    obtain rfl := Option.some.inj hF
    exact fin _ _ hret
  rintro s_4 a w r ⟨ok, E, l5⟩ hF
  replace hF : calqueref07_lead_b1 N s_4 = some r := hF
  unfold calqueref07_lead_b1 at hF
  refine wp_seq ?_
  refine wp_seq ?_
  refine c_region ?_
  refine l_val E ok (y_move rfl) rfl rfl fun a E => ?_
  refine l_val E ok (y_slen Tryd.underlying9 rfl) rfl rfl fun a E => ?_
  refine l_val E ok (y_gtr rfl rfl) rfl rfl fun a E => ?_
  refine l_val E ok (y_move rfl) rfl rfl fun a E => ?_
  refine bsplit (decide ((s_4.length : Int) > 1)) (fun hc6 => ?_) (fun hc6 => ?_)
  rotate_left
  · replace hF := cond_f hc6 hF
    replace E := E.upd 6 hc6 rfl
    refine l_skip E rfl rfl fun a E => ?_
    refine l_skip E rfl rfl fun a E => ?_
    refine l_skip E rfl rfl fun a E => ?_
    refine l_val E ok (y_pickF rfl rfl) rfl rfl fun a E => ?_
    refine wpList_nil ?_
    refine t_norm ?_
    refine c_if E rfl (fun h => by cases h) (fun _ => ?_)
    refine wp_exit ?_
    refine t_exit ?_
    obtain rfl := Option.some.inj hF
    exact step_o (by nofun) (⟨rfl, ⟨ok, E.keep [0], l5⟩⟩)
  replace hF := cond_t hc6 hF
  replace E := E.upd 6 hc6 rfl
  refine l_val E ok (y_move rfl) rfl rfl fun a E => ?_
  obtain ⟨c7, e8, hF⟩ := bnd hF
  refine l_val E ok (y_index Tryd.underlying9 rfl rfl e8) rfl rfl fun a E => ?_
  refine l_val E ok (y_eql rfl rfl) rfl rfl fun a E => ?_
  refine l_val E ok (y_pickT rfl rfl) rfl rfl fun a E => ?_
  refine wpList_nil ?_
  refine t_norm ?_
  refine c_if E rfl (fun hc9 => ?_) (fun hc9 => ?_)
  rotate_left
  · replace hF := cond_f hc9 hF
    refine wp_exit ?_
    refine t_exit ?_
    obtain rfl := Option.some.inj hF
    exact step_o (by nofun) (⟨rfl, ⟨ok, E.keep [0], l5⟩⟩)
  replace hF := cond_t hc9 hF
  refine wp_skip ?_
  refine t_norm ?_
  refine wp_block ?_
  refine c_region ?_
  refine l_val E ok (y_move rfl) rfl rfl fun a E => ?_
  obtain ⟨s10, e11, hF⟩ := bnd hF
  refine l_val E ok (y_sslice Tryd.underlying9 e11 rfl ⟨_, rfl⟩ rfl) rfl rfl fun a E => ?_
  refine l_val E ok (y_assign rfl) rfl rfl fun a E => ?_
  refine wpList_nil ?_
  refine b_norm ?_
  obtain rfl := Option.some.inj hF
  exact step_n ⟨ok, E.keep [0], (Nat.le_trans (slc_len e11) l5)⟩

def calqueref07_Text_R (u : World) (m0 : Mem) (S : Segs) (r : (List UInt8)) (a : Act) (w : World) : Prop :=
  Ok u m0 S w ∧ a.defers = [] ∧ RVs Tryd.prog a w [.t 2 (.string (bs r))] ∧ r.length ≤ LIMS
set_option maxHeartbeats 4000000 in
set_option maxRecDepth 100000 in
theorem calqueref07_Text_w {u : World} {m0 : Mem} {S : Segs} {w : World} (N : Nat) (vx_0 : List Value) (x_0 : Number2) (hx_0 : pNumber2 m0 vx_0 x_0) {r : (List UInt8)} (hF : calqueref07_Text N x_0 = some r) (hG : Glob u) (ok : Ok u m0 S w) :
    Calls Tryd.prog 52 [.agg vx_0.toArray].toArray w fun e w' => (e = .returned (.string (bs r)) ∧ Ok u m0 S w') ∧ r.length ≤ LIMS := by
  obtain ⟨rfl, l1, l2⟩ := hx_0
  have hb0 := ok.base
  have le_m0 := Mem.le.refl m0
  unfold calqueref07_Text at hF
  have fin : ∀ a w, calqueref07_Text_R u m0 S r a w → bodyPost Tryd.prog Tryd.f52 (fun e w' => (e = .returned (.string (bs r)) ∧ Ok u m0 S w') ∧ r.length ≤ LIMS) .ret a w := by
    intro a w h
    obtain ⟨ok, hd, hrv, h0⟩ := h
    exact c_ret2 [.t 2 (.string (bs r))] hd rfl hrv ⟨⟨rfl, ok⟩, h0⟩
  refine enter Tryd.func52 rfl rfl rfl fun a E => ?_
  refine wp_seq ?_
  refine c_region ?_
  refine l_box E ok rfl rfl rfl fun b3 a w E ok => ?_
  refine l_val E ok (y_assign rfl) rfl rfl fun a E => ?_
  refine wpList_nil ?_
  refine t_norm ?_
  refine wp_seq ?_
  refine c_region ?_
  refine l_val E ok (y_fieldAddr fo_45_1 rfl) rfl rfl fun a E => ?_
  refine l_val E ok (y_load one_9 rfl (Holds.own 0 rfl rfl)) rfl rfl fun a E => ?_
  refine l_val E ok (y_assign rfl) rfl rfl fun a E => ?_
  refine wpList_nil ?_
  refine t_norm ?_
  refine wp_seq ?_
  refine wp_seq ?_
  refine c_region ?_
  refine l_val E ok (y_fieldAddr fo_45_2 rfl) rfl rfl fun a E => ?_
  refine l_val E ok (y_load one_9 rfl (Holds.own 0 rfl rfl)) rfl rfl fun a E => ?_
  refine l_val E ok (y_sneq rfl rfl) rfl rfl fun a E => ?_
  refine wpList_nil ?_
  refine t_norm ?_
  obtain ⟨o4, hJ, hF⟩ := bnd hF
  refine c_mono (Q' := fun e a w => e = .normal ∧ Ok u m0 ([(b3, Obj.cells [(Value.bool x_0.Neg), (Value.string (bs x_0.Whole)), (Value.string (bs x_0.Frac))].toArray 45 (0, 0))] :: S) w ∧ Env 28 a [(1, (Value.pointer (some ⟨b3, 0, none⟩))), (3, (Value.string (bs o4)))] ∧ o4.length ≤ LIMS) ?_ ?_
  · replace hF := hJ
    clear hJ
    refine c_if E rfl (fun hc6 => ?_) (fun hc6 => ?_)
    rotate_left
    · replace hF := cond_f hc6 hF
      refine wp_skip ?_
      obtain rfl := Option.some.inj hF
      exact ⟨rfl, ⟨ok, E.keep [1, 3], l1⟩⟩
    replace hF := cond_t hc6 hF
    refine c_region ?_
    refine l_val E ok (y_move rfl) rfl rfl fun a E => ?_
    refine l_val E ok (y_fieldAddr fo_45_2 rfl) rfl rfl fun a E => ?_
    refine l_val E ok (y_load one_9 rfl (Holds.own 0 rfl rfl)) rfl rfl fun a E => ?_
    obtain ⟨s7, e8, hF⟩ := bnd hF
    refine l_val E ok (y_cat rfl rfl e8) rfl rfl fun a E => ?_
    obtain ⟨s9, e10, hF⟩ := bnd hF
    refine l_val E ok (y_cat rfl rfl e10) rfl rfl fun a E => ?_
    refine l_val E ok (y_assign rfl) rfl rfl fun a E => ?_
    refine wpList_nil ?_
    obtain rfl := Option.some.inj hF
    exact ⟨rfl, ⟨ok, E.keep [1, 3], (cat_len e10)⟩⟩
  clear hJ
  intro e a w hO
  obtain ⟨rfl, ok, E, l11⟩ := hO
  refine t_norm ?_
  refine wp_seq ?_
  refine wp_seq ?_
  refine c_region ?_
  refine l_val E ok (y_fieldAddr fo_45_0 rfl) rfl rfl fun a E => ?_
  refine l_val E ok (y_load one_4 rfl (Holds.own 0 rfl rfl)) rfl rfl fun a E => ?_
  refine l_val E ok (y_move rfl) rfl rfl fun a E => ?_
  refine bsplit x_0.Neg (fun hc12 => ?_) (fun hc12 => ?_)
  rotate_left
  · replace hF := cond_f hc12 hF
    replace E := E.upd 16 hc12 rfl
    refine l_skip E rfl rfl fun a E => ?_
    refine l_skip E rfl rfl fun a E => ?_
    refine l_skip E rfl rfl fun a E => ?_
    refine l_skip E rfl rfl fun a E => ?_
    refine l_skip E rfl rfl fun a E => ?_
    refine l_skip E rfl rfl fun a E => ?_
    refine l_skip E rfl rfl fun a E => ?_
    refine l_val E ok (y_pickF rfl rfl) rfl rfl fun a E => ?_
    refine wpList_nil ?_
    refine t_norm ?_
    refine c_if E rfl (fun h => by cases h) (fun _ => ?_)
    refine wp_skip ?_
    refine t_norm ?_
    refine wp_seq ?_
    refine c_region ?_
    refine l_val E ok (y_move rfl) rfl rfl fun a E => ?_
    refine l_val E ok (y_assign rfl) rfl rfl fun a E => ?_
    refine wpList_nil ?_
    refine t_norm ?_
    refine wp_ret ?_
    have hret : calqueref07_Text_R u m0 S o4 a w := ⟨ok.drop, E.d, ⟨rv_t E rfl, trivial⟩, l11⟩
    obtain rfl := Option.some.inj hF
    exact fin _ _ hret
  replace hF := cond_t hc12 hF
  replace E := E.upd 16 hc12 rfl
  refine l_val E ok (y_fieldAddr fo_45_1 rfl) rfl rfl fun a E => ?_
  refine l_val E ok (y_load one_9 rfl (Holds.own 0 rfl rfl)) rfl rfl fun a E => ?_
  refine l_val E ok (y_fieldAddr fo_45_2 rfl) rfl rfl fun a E => ?_
  refine l_val E ok (y_load one_9 rfl (Holds.own 0 rfl rfl)) rfl rfl fun a E => ?_
  obtain ⟨s13, e14, hF⟩ := bnd hF
  refine l_val E ok (y_cat rfl rfl e14) rfl rfl fun a E => ?_
  obtain ⟨r15, e16, hF⟩ := bnd hF
  refine l_call E go_32 rfl (calqueref07_Zero_w N s13 (cat_len e14) e16 hG ok) rfl rfl ?_
  rintro _ w ⟨rfl, ok⟩
  refine ⟨_, rfl, fun a E => ?_⟩
  refine l_val E ok (y_not rfl) rfl rfl fun a E => ?_
  refine l_val E ok (y_pickT rfl rfl) rfl rfl fun a E => ?_
  refine wpList_nil ?_
  refine t_norm ?_
  refine c_if E rfl (fun hc17 => ?_) (fun hc17 => ?_)
  rotate_left
  · replace hF := cond_f hc17 hF
    refine wp_skip ?_
    refine t_norm ?_
    refine wp_seq ?_
    refine c_region ?_
    refine l_val E ok (y_move rfl) rfl rfl fun a E => ?_
    refine l_val E ok (y_assign rfl) rfl rfl fun a E => ?_
    refine wpList_nil ?_
    refine t_norm ?_
    refine wp_ret ?_
    have hret : calqueref07_Text_R u m0 S o4 a w := ⟨ok.drop, E.d, ⟨rv_t E rfl, trivial⟩, l11⟩
    obtain rfl := Option.some.inj hF
    exact fin _ _ hret
  replace hF := cond_t hc17 hF
  refine wp_seq ?_
  refine c_region ?_
  refine l_val E ok (y_move rfl) rfl rfl fun a E => ?_
  obtain ⟨s18, e19, hF⟩ := bnd hF
  refine l_val E ok (y_cat rfl rfl e19) rfl rfl fun a E => ?_
  refine l_val E ok (y_assign rfl) rfl rfl fun a E => ?_
  refine wpList_nil ?_
  refine t_norm ?_
  refine wp_ret ?_
  refine t_ret ?_
  have hret : calqueref07_Text_R u m0 S s18 a w := ⟨ok.drop, E.d, ⟨rv_t E rfl, trivial⟩, (cat_len e19)⟩
  obtain rfl := Option.some.inj hF
  exact fin _ _ hret

def calqueref07_checked_R (u : World) (m0 : Mem) (S : Segs) (r : (List UInt8) × Int) (a : Act) (w : World) : Prop :=
  Ok u m0 S w ∧ a.defers = [] ∧ RVs Tryd.prog a w [.t 2 (.string (bs r.1)), .t 3 (.int .i64 r.2)] ∧ r.1.length ≤ LIMS ∧ InR .i64 r.2
set_option maxHeartbeats 4000000 in
set_option maxRecDepth 100000 in
theorem calqueref07_checked_w {u : World} {m0 : Mem} {S : Segs} {w : World} (N : Nat) (vx_0 : List Value) (x_0 : Number2) (hx_0 : pNumber2 m0 vx_0 x_0) {r : (List UInt8) × Int} (hF : calqueref07_checked N x_0 = some r) (hG : Glob u) (ok : Ok u m0 S w) :
    Calls Tryd.prog 30 [.agg vx_0.toArray].toArray w fun e w' => (e = .returned (.tuple [(.string (bs r.1)), (.int .i64 r.2)].toArray) ∧ Ok u m0 S w') ∧ r.1.length ≤ LIMS ∧ InR .i64 r.2 := by
  obtain ⟨rfl, l1, l2⟩ := hx_0
  have hb0 := ok.base
  have le_m0 := Mem.le.refl m0
  unfold calqueref07_checked at hF
  have fin : ∀ a w, calqueref07_checked_R u m0 S r a w → bodyPost Tryd.prog Tryd.f30 (fun e w' => (e = .returned (.tuple [(.string (bs r.1)), (.int .i64 r.2)].toArray) ∧ Ok u m0 S w') ∧ r.1.length ≤ LIMS ∧ InR .i64 r.2) .ret a w := by
    intro a w h
    obtain ⟨ok, hd, hrv, h0, h1⟩ := h
    exact c_ret2 [.t 2 (.string (bs r.1)), .t 3 (.int .i64 r.2)] hd rfl hrv ⟨⟨rfl, ok⟩, h0, h1⟩
  refine enter Tryd.func30 rfl rfl rfl fun a E => ?_
  refine wp_seq ?_
  refine c_region ?_
  refine l_box E ok rfl rfl rfl fun b3 a w E ok => ?_
  refine l_val E ok (y_assign rfl) rfl rfl fun a E => ?_
  refine l_val E ok (y_assign rfl) rfl rfl fun a E => ?_
  refine wpList_nil ?_
  refine t_norm ?_
  refine wp_seq ?_
  refine c_region ?_
  refine l_val E ok (y_fieldAddr fo_45_1 rfl) rfl rfl fun a E => ?_
  refine l_val E ok (y_load one_9 rfl (Holds.own 0 rfl rfl)) rfl rfl fun a E => ?_
  obtain ⟨r4, e5, hF⟩ := bnd hF
  refine l_call E go_51 rfl (calqueref07_lead_w N x_0.Whole l1 e5 hG ok) rfl rfl ?_
  rintro _ w ⟨⟨rfl, ok⟩, l6⟩
  refine ⟨_, rfl, fun a E => ?_⟩
  refine l_val E ok (y_fieldAddr fo_45_1 rfl) rfl rfl fun a E => ?_
  refine l_storeB E ok 0 rfl rfl rfl inf_9 rfl rfl ⟨rfl, trivial⟩ rfl rfl fun w ok => ?_
  refine wpList_nil ?_
  refine t_norm ?_
  refine wp_seq ?_
  refine wp_seq ?_
  refine c_region ?_
  refine l_val E ok (y_fieldAddr fo_45_1 rfl) rfl rfl fun a E => ?_
  refine l_val E ok (y_load one_9 rfl (Holds.own 0 rfl rfl)) rfl rfl fun a E => ?_
  refine l_val E ok (y_slen Tryd.underlying9 rfl) rfl rfl fun a E => ?_
  refine l_val E ok (y_gtr rfl rfl) rfl rfl fun a E => ?_
  refine l_val E ok (y_move rfl) rfl rfl fun a E => ?_
  refine bsplit (decide ((r4.length : Int) > 15)) (fun hc7 => ?_) (fun hc7 => ?_)
  · replace hF := cond_t hc7 hF
    replace E := E.upd 12 hc7 rfl
    refine l_skip E rfl rfl fun a E => ?_
    refine l_skip E rfl rfl fun a E => ?_
    refine l_skip E rfl rfl fun a E => ?_
    refine l_skip E rfl rfl fun a E => ?_
    refine l_val E ok (y_pickT rfl rfl) rfl rfl fun a E => ?_
    refine wpList_nil ?_
    refine t_norm ?_
    refine c_if E rfl (fun _ => ?_) (fun h => by cases h)
    refine wp_seq ?_
    refine c_region ?_
    refine l_val E ok (y_assign rfl) rfl rfl fun a E => ?_
    refine l_val E ok (y_assign rfl) rfl rfl fun a E => ?_
    refine wpList_nil ?_
    refine t_norm ?_
    refine wp_ret ?_
    refine t_ret ?_
    have hret : calqueref07_checked_R u m0 S ([], 2) a w := ⟨ok.drop, E.d, ⟨rv_t E rfl, rv_t E rfl, trivial⟩, (show ([] : List UInt8).length ≤ LIMS by decide), (show InR .i64 (2) by decide)⟩
    obtain rfl := Option.some.inj hF
    exact fin _ _ hret
  replace hF := cond_f hc7 hF
  replace E := E.upd 12 hc7 rfl
  refine l_val E ok (y_fieldAddr fo_45_2 rfl) rfl rfl fun a E => ?_
  refine l_val E ok (y_load one_9 rfl (Holds.own 0 rfl rfl)) rfl rfl fun a E => ?_
  refine l_val E ok (y_slen Tryd.underlying9 rfl) rfl rfl fun a E => ?_
  refine l_val E ok (y_gtr rfl rfl) rfl rfl fun a E => ?_
  refine l_val E ok (y_pickF rfl rfl) rfl rfl fun a E => ?_
  refine wpList_nil ?_
  refine t_norm ?_
  refine c_if E rfl (fun hc8 => ?_) (fun hc8 => ?_)
  · replace hF := cond_t hc8 hF
    refine wp_seq ?_
    refine c_region ?_
    refine l_val E ok (y_assign rfl) rfl rfl fun a E => ?_
    refine l_val E ok (y_assign rfl) rfl rfl fun a E => ?_
    refine wpList_nil ?_
    refine t_norm ?_
    refine wp_ret ?_
    refine t_ret ?_
    have hret : calqueref07_checked_R u m0 S ([], 2) a w := ⟨ok.drop, E.d, ⟨rv_t E rfl, rv_t E rfl, trivial⟩, (show ([] : List UInt8).length ≤ LIMS by decide), (show InR .i64 (2) by decide)⟩
    obtain rfl := Option.some.inj hF
    exact fin _ _ hret
  replace hF := cond_f hc8 hF
  refine wp_skip ?_
  refine t_norm ?_
  refine wp_seq ?_
  refine c_region ?_
  refine l_val E ok (y_loadAgg (cs := [(Value.bool x_0.Neg), (Value.string (bs r4)), (Value.string (bs x_0.Frac))]) agg_45 rfl rfl (Holds.own 0 rfl rfl)) rfl rfl fun a E => ?_
  obtain ⟨r9, e10, hF⟩ := bnd hF
  refine l_call E go_52 rfl (calqueref07_Text_w N _ (Number2.mk x_0.Neg r4 x_0.Frac) ⟨rfl, l6, l2⟩ e10 hG ok) rfl rfl ?_
  rintro _ w ⟨⟨rfl, ok⟩, l11⟩
  refine ⟨_, rfl, fun a E => ?_⟩
  refine l_val E ok (y_assign rfl) rfl rfl fun a E => ?_
  refine l_val E ok (y_assign rfl) rfl rfl fun a E => ?_
  refine wpList_nil ?_
  refine t_norm ?_
  refine wp_ret ?_
  have hret : calqueref07_checked_R u m0 S (r9, 0) a w := ⟨ok.drop, E.d, ⟨rv_t E rfl, rv_t E rfl, trivial⟩, l11, (show InR .i64 (0) by decide)⟩
  obtain rfl := Option.some.inj hF
  exact fin _ _ hret

def calqueref07_increased_R (u : World) (m0 : Mem) (S : Segs) (r : (List UInt8)) (a : Act) (w : World) : Prop :=
  Ok u m0 S w ∧ a.defers = [] ∧ RVs Tryd.prog a w [.t 2 (.string (bs r))] ∧ r.length ≤ LIMS
set_option maxHeartbeats 4000000 in
set_option maxRecDepth 100000 in
theorem calqueref07_increased_w (N : Nat) : ∀ {u : World} {m0 : Mem} {S : Segs} {w : World} (s_0 : List UInt8) (ls_0 : s_0.length ≤ LIMS) {r : (List UInt8)} (hF : calqueref07_increased N s_0 = some r) (hG : Glob u) (ok : Ok u m0 S w),
    Calls Tryd.prog 31 [Value.string (bs s_0)].toArray w fun e w' => (e = .returned (.string (bs r)) ∧ Ok u m0 S w') ∧ r.length ≤ LIMS := by
  induction N with
  | zero => intro u m0 S w s_0 ls_0 r hF hG ok; cases hF
  | succ N ih =>
  intro u m0 S w s_0 ls_0 r hF hG ok
  have hb0 := ok.base
  have le_m0 := Mem.le.refl m0
  rw [calqueref07_increased.eq_2] at hF
  have fin : ∀ a w, calqueref07_increased_R u m0 S r a w → bodyPost Tryd.prog Tryd.f31 (fun e w' => (e = .returned (.string (bs r)) ∧ Ok u m0 S w') ∧ r.length ≤ LIMS) .ret a w := by
    intro a w h
    obtain ⟨ok, hd, hrv, h0⟩ := h
    exact c_ret2 [.t 2 (.string (bs r))] hd rfl hrv ⟨⟨rfl, ok⟩, h0⟩
  refine enter Tryd.func31 rfl rfl rfl fun a E => ?_
  refine wp_seq ?_
  refine c_region ?_
  refine l_val E ok (y_assign rfl) rfl rfl fun a E => ?_
  refine wpList_nil ?_
  refine t_norm ?_
  refine wp_seq ?_
  refine wp_seq ?_
  refine c_region ?_
  refine l_val E ok (y_move rfl) rfl rfl fun a E => ?_
  refine l_val E ok (y_seql rfl rfl) rfl rfl fun a E => ?_
  refine wpList_nil ?_
  refine t_norm ?_
  refine c_if E rfl (fun hc1 => ?_) (fun hc1 => ?_)
  · replace hF := cond_t hc1 hF
    refine wp_seq ?_
    refine c_region ?_
    refine l_val E ok (y_assign rfl) rfl rfl fun a E => ?_
    refine wpList_nil ?_
    refine t_norm ?_
    refine wp_ret ?_
    refine t_ret ?_
    have hret : calqueref07_increased_R u m0 S ([49]) a w := ⟨ok, E.d, ⟨rv_t E rfl, trivial⟩, (show ([49] : List UInt8).length ≤ LIMS by decide)⟩
    obtain rfl := Option.some.inj hF
    exact fin _ _ hret
  replace hF := cond_f hc1 hF
  refine wp_skip ?_
  refine t_norm ?_
  refine wp_seq ?_
  refine c_region ?_
  refine l_val E ok (y_move rfl) rfl rfl fun a E => ?_
  refine l_val E ok (y_move rfl) rfl rfl fun a E => ?_
  refine l_val E ok (y_slen Tryd.underlying9 rfl) rfl rfl fun a E => ?_
  refine l_val E ok (y_subw rfl rfl) rfl rfl fun a E => ?_
  obtain ⟨c2, e3, hF⟩ := bnd hF
  refine l_val E ok (y_index Tryd.underlying9 rfl rfl e3) rfl rfl fun a E => ?_
  refine l_val E ok (y_assign rfl) rfl rfl fun a E => ?_
  refine wpList_nil ?_
  refine t_norm ?_
  refine wp_seq ?_
  refine wp_seq ?_
  refine c_region ?_
  refine l_val E ok (y_move rfl) rfl rfl fun a E => ?_
  refine l_val E ok (y_eql rfl rfl) rfl rfl fun a E => ?_
  refine wpList_nil ?_
  refine t_norm ?_
  refine c_if E rfl (fun hc4 => ?_) (fun hc4 => ?_)
  · replace hF := cond_t hc4 hF
    refine wp_seq ?_
    refine c_region ?_
    refine l_val E ok (y_move rfl) rfl rfl fun a E => ?_
    refine l_val E ok (y_move rfl) rfl rfl fun a E => ?_
    refine l_val E ok (y_slen Tryd.underlying9 rfl) rfl rfl fun a E => ?_
    refine l_val E ok (y_subw rfl rfl) rfl rfl fun a E => ?_
    obtain ⟨s5, e6, hF⟩ := bnd hF
    refine l_val E ok (y_sslice Tryd.underlying9 e6 rfl rfl ⟨_, rfl⟩) rfl rfl fun a E => ?_
    obtain ⟨r7, e8, hF⟩ := bnd hF
    refine l_call E go_31 rfl (ih s5 (Nat.le_trans (slc_len e6) ls_0) e8 hG ok) rfl rfl ?_
    rintro _ w ⟨⟨rfl, ok⟩, l9⟩
    refine ⟨_, rfl, fun a E => ?_⟩
    obtain ⟨s10, e11, hF⟩ := bnd hF
    refine l_val E ok (y_cat rfl rfl e11) rfl rfl fun a E => ?_
    refine l_val E ok (y_assign rfl) rfl rfl fun a E => ?_
    refine wpList_nil ?_
    refine t_norm ?_
    refine wp_ret ?_
    refine t_ret ?_
    have hret : calqueref07_increased_R u m0 S s10 a w := ⟨ok, E.d, ⟨rv_t E rfl, trivial⟩, (cat_len e11)⟩
    obtain rfl := Option.some.inj hF
    exact fin _ _ hret
  replace hF := cond_f hc4 hF
  refine wp_skip ?_
  refine t_norm ?_
  refine wp_seq ?_
  obtain ⟨o12, hJ, hF⟩ := bnd hF
  refine c_mono (Q' := fun e a w => e = .normal ∧ Ok u m0 (S) w ∧ Env 30 a [(2, (Value.string (bs o12)))] ∧ o12.length ≤ LIMS) ?_ ?_
  rotate_left
  · clear hJ
    intro e a w hO
    obtain ⟨rfl, ok, E, l24⟩ := hO
    refine t_norm ?_
    refine wp_ret ?_
    have hret : calqueref07_increased_R u m0 S o12 a w := ⟨ok, E.d, ⟨rv_t E rfl, trivial⟩, l24⟩
    obtain rfl := Option.some.inj hF
    exact fin _ _ hret
  replace hF := hJ
  clear hJ
  obtain ⟨s14, e15, hF⟩ := bnd hF
  obtain ⟨s19, e20, hF⟩ := bnd hF
  obtain rfl := Option.some.inj hF
  refine k_begin [] (Cls u m0 ([])) (Cls u m0 ([])) (by kernel_rfl) ?_
  intro w hw
  replace ok := okdrew ok hw
  clear hw
  refine k_next (cl1 ⟨m0, _, le_m0, ok, trivial⟩ ⟨m0, _, le_m0, ok, trivial⟩) fun hT => ?_
  refine k_take 0 E rfl (by kernel_rfl) nP hT (y_move rfl) rfl rfl fun a E => ?_
  refine k_take 1 E rfl (by kernel_rfl) nP hT (y_move rfl) rfl rfl fun a E => ?_
  refine k_take 2 E rfl (by kernel_rfl) nP hT (y_slen Tryd.underlying9 rfl) rfl rfl fun a E => ?_
  refine k_take 3 E rfl (by kernel_rfl) nP hT (y_subw rfl rfl) rfl rfl fun a E => ?_
  refine k_take 4 E rfl (by kernel_rfl) nP hT (y_sslice Tryd.underlying9 e15 rfl rfl ⟨_, rfl⟩) rfl rfl fun a E => ?_
  refine k_take 5 E rfl (by kernel_rfl) nP hT (y_move rfl) rfl rfl fun a E => ?_
  refine k_take 6 E rfl (by kernel_rfl) nP hT (y_addw rfl rfl) rfl rfl fun a E => ?_
  refine k_all [7] (by kernel_rfl) rfl (one_c ?_)
  · refine wpOp_of_list (o := _) rfl ?_
    refine l_slit (R := (pI .u8)) (xo := [.tmp 26]) (xs := ([(IntKind.wrap .u8 ((c2.toNat : Int) + 1))] : List (Int))) E ok sl_66 zero_5 rfl ⟨⟨_, rfl, rfl, (pI_mk (InR.wrap _ _))⟩, trivial⟩ rfl rfl rfl rfl fun c21 M22 a w E ok h23 => ?_
    refine wpList_nil ?_
    refine t_norm ?_
    refine k_next (cl1 ⟨m0, _, le_m0, ok, trivial⟩ ⟨m0, _, le_m0, ok, trivial⟩) fun hT => ?_
    refine k_all [8] (by kernel_rfl) rfl (one_c ?_)
    · refine wpOp_of_list (o := _) rfl ?_
      refine l_val E ok (y_bstr Tryd.underlying66 Tryd.underlying5 Tryd.underlying9 rfl (BR.ofRow h23 0 rfl)) rfl rfl fun a E => ?_
      refine wpList_nil ?_
      refine t_norm ?_
      refine k_next (cl1 ⟨m0, _, le_m0, ok, trivial⟩ ⟨m0, _, le_m0, ok, trivial⟩) fun hT => ?_
      refine k_take 9 E rfl (by kernel_rfl) nP hT (y_cat rfl rfl e20) rfl rfl fun a E => ?_
      refine k_take 10 E rfl (by kernel_rfl) nP hT (y_assign rfl) rfl rfl fun a E => ?_
      refine k_done (by kernel_rfl) ?_
      exact ⟨rfl, ⟨(ok.pk 1 [] rfl (by decide)), E.keep [2], (cat_len e20)⟩⟩

def calqueref07_Round_R (u : World) (m0 : Mem) (S : Segs) (r : (List UInt8) × Int) (a : Act) (w : World) : Prop :=
  Ok u m0 S w ∧ a.defers = [] ∧ RVs Tryd.prog a w [.t 4 (.string (bs r.1)), .t 5 (.int .i64 r.2)] ∧ r.1.length ≤ LIMS ∧ InR .i64 r.2
set_option maxHeartbeats 4000000 in
set_option maxRecDepth 100000 in
theorem calqueref07_Round_w {u : World} {m0 : Mem} {S : Segs} {w : World} (N : Nat) (s_0 : List UInt8) (ls_0 : s_0.length ≤ LIMS) (n_1 : Int) (rn_1 : InR .i64 n_1) {r : (List UInt8) × Int} (hF : calqueref07_Round N s_0 n_1 = some r) (hG : Glob u) (ok : Ok u m0 S w) :
    Calls Tryd.prog 15 [Value.string (bs s_0), Value.int .i64 n_1].toArray w fun e w' => (e = .returned (.tuple [(.string (bs r.1)), (.int .i64 r.2)].toArray) ∧ Ok u m0 S w') ∧ r.1.length ≤ LIMS ∧ InR .i64 r.2 := by
  have hb0 := ok.base
  have le_m0 := Mem.le.refl m0
  unfold calqueref07_Round at hF
  have fin : ∀ a w, calqueref07_Round_R u m0 S r a w → bodyPost Tryd.prog Tryd.f15 (fun e w' => (e = .returned (.tuple [(.string (bs r.1)), (.int .i64 r.2)].toArray) ∧ Ok u m0 S w') ∧ r.1.length ≤ LIMS ∧ InR .i64 r.2) .ret a w := by
    intro a w h
    obtain ⟨ok, hd, hrv, h0, h1⟩ := h
    exact c_ret2 [.t 4 (.string (bs r.1)), .t 5 (.int .i64 r.2)] hd rfl hrv ⟨⟨rfl, ok⟩, h0, h1⟩
  refine enter Tryd.func15 rfl rfl rfl fun a E => ?_
  refine wp_seq ?_
  refine c_region ?_
  refine l_val E ok (y_assign rfl) rfl rfl fun a E => ?_
  refine l_val E ok (y_assign rfl) rfl rfl fun a E => ?_
  refine wpList_nil ?_
  refine t_norm ?_
  refine wp_seq ?_
  refine c_region ?_
  refine l_val E ok (y_move rfl) rfl rfl fun a E => ?_
  obtain ⟨r1, e2, hF⟩ := bnd hF
  refine l_call E go_28 rfl (calqueref07_Split_w N s_0 ls_0 e2 hG ok) rfl rfl ?_
  rintro _ w ⟨m3, vs4, rfl, hle, ok, h5⟩
  have le_m0 := le_m0.trans hle
  obtain ⟨rfl, l6, l7⟩ := h5
  refine ⟨_, rfl, fun a E => ?_⟩
  refine l_val E ok (y_move rfl) rfl rfl fun a E => ?_
  refine l_val E ok (y_extract rfl rfl) rfl rfl fun a E => ?_
  refine l_val E ok (y_extract rfl rfl) rfl rfl fun a E => ?_
  refine l_alloc E ok zero_45 rfl rfl fun b8 a w E ok => ?_
  refine l_storeB E ok 0 rfl rfl rfl inf_45 rfl rfl ⟨rfl, rfl, rfl, trivial⟩ rfl rfl fun w ok => ?_
  refine l_val E ok (y_assign rfl) rfl rfl fun a E => ?_
  refine wpList_nil ?_
  refine t_norm ?_
  refine wp_seq ?_
  refine wp_seq ?_
  refine c_region ?_
  refine l_val E ok (y_move rfl) rfl rfl fun a E => ?_
  refine l_val E ok (y_not rfl) rfl rfl fun a E => ?_
  refine wpList_nil ?_
  refine t_norm ?_
  refine c_if E rfl (fun hc9 => ?_) (fun hc9 => ?_)
  · replace hF := cond_t hc9 hF
    refine wp_seq ?_
    refine c_region ?_
    refine l_val E ok (y_assign rfl) rfl rfl fun a E => ?_
    refine l_val E ok (y_assign rfl) rfl rfl fun a E => ?_
    refine wpList_nil ?_
    refine t_norm ?_
    refine wp_ret ?_
    refine t_ret ?_
    have hret : calqueref07_Round_R u m0 S ([], 1) a w := ⟨(ok.drop).down hb0 le_m0, E.d, ⟨rv_t E rfl, rv_t E rfl, trivial⟩, (show ([] : List UInt8).length ≤ LIMS by decide), (show InR .i64 (1) by decide)⟩
    obtain rfl := Option.some.inj hF
    exact fin _ _ hret
  replace hF := cond_f hc9 hF
  refine wp_skip ?_
  refine t_norm ?_
  refine wp_seq ?_
  refine wp_seq ?_
  refine c_region ?_
  refine l_val E ok (y_move rfl) rfl rfl fun a E => ?_
  refine l_val E ok (y_lss rfl rfl) rfl rfl fun a E => ?_
  refine l_val E ok (y_move rfl) rfl rfl fun a E => ?_
  refine bsplit (decide (n_1 < 0)) (fun hc10 => ?_) (fun hc10 => ?_)
  · replace hF := cond_t hc10 hF
    replace E := E.upd 18 hc10 rfl
    refine l_skip E rfl rfl fun a E => ?_
    refine l_skip E rfl rfl fun a E => ?_
    refine l_val E ok (y_pickT rfl rfl) rfl rfl fun a E => ?_
    refine wpList_nil ?_
    refine t_norm ?_
    refine c_if E rfl (fun _ => ?_) (fun h => by cases h)
    refine wp_seq ?_
    refine c_region ?_
    refine l_val E ok (y_assign rfl) rfl rfl fun a E => ?_
    refine l_val E ok (y_assign rfl) rfl rfl fun a E => ?_
    refine wpList_nil ?_
    refine t_norm ?_
    refine wp_ret ?_
    refine t_ret ?_
    have hret : calqueref07_Round_R u m0 S ([], 2) a w := ⟨(ok.drop).down hb0 le_m0, E.d, ⟨rv_t E rfl, rv_t E rfl, trivial⟩, (show ([] : List UInt8).length ≤ LIMS by decide), (show InR .i64 (2) by decide)⟩
    obtain rfl := Option.some.inj hF
    exact fin _ _ hret
  replace hF := cond_f hc10 hF
  replace E := E.upd 18 hc10 rfl
  refine l_val E ok (y_move rfl) rfl rfl fun a E => ?_
  refine l_val E ok (y_gtr rfl rfl) rfl rfl fun a E => ?_
  refine l_val E ok (y_pickF rfl rfl) rfl rfl fun a E => ?_
  refine wpList_nil ?_
  refine t_norm ?_
  refine c_if E rfl (fun hc11 => ?_) (fun hc11 => ?_)
  · replace hF := cond_t hc11 hF
    refine wp_seq ?_
    refine c_region ?_
    refine l_val E ok (y_assign rfl) rfl rfl fun a E => ?_
    refine l_val E ok (y_assign rfl) rfl rfl fun a E => ?_
    refine wpList_nil ?_
    refine t_norm ?_
    refine wp_ret ?_
    refine t_ret ?_
    have hret : calqueref07_Round_R u m0 S ([], 2) a w := ⟨(ok.drop).down hb0 le_m0, E.d, ⟨rv_t E rfl, rv_t E rfl, trivial⟩, (show ([] : List UInt8).length ≤ LIMS by decide), (show InR .i64 (2) by decide)⟩
    obtain rfl := Option.some.inj hF
    exact fin _ _ hret
  replace hF := cond_f hc11 hF
  refine wp_skip ?_
  refine t_norm ?_
  refine wp_seq ?_
  refine wp_seq ?_
  refine c_region ?_
  refine l_val E ok (y_fieldAddr fo_45_2 rfl) rfl rfl fun a E => ?_
  refine l_val E ok (y_load one_9 rfl (Holds.own 0 rfl rfl)) rfl rfl fun a E => ?_
  refine l_val E ok (y_slen Tryd.underlying9 rfl) rfl rfl fun a E => ?_
  refine l_val E ok (y_move rfl) rfl rfl fun a E => ?_
  refine l_val E ok (y_leq rfl rfl) rfl rfl fun a E => ?_
  refine wpList_nil ?_
  refine t_norm ?_
  refine c_if E rfl (fun hc12 => ?_) (fun hc12 => ?_)
  · replace hF := cond_t hc12 hF
    refine wp_seq ?_
    obtain ⟨o13, hJ, hF⟩ := bnd hF
    refine c_mono (Q' := fun e a w => e = .normal ∧ Ok u m3 ([(b8, Obj.cells [(Value.bool o13.Neg), (Value.string (bs o13.Whole)), (Value.string (bs o13.Frac))].toArray 45 (0, 0))] :: S) w ∧ Env 73 a [(6, (Value.pointer (some ⟨b8, 0, none⟩)))] ∧ o13.Whole.length ≤ LIMS ∧ o13.Frac.length ≤ LIMS) ?_ ?_
    rotate_left
    · clear hJ
      intro e a w hO
      obtain ⟨rfl, ok, E, l22, l23⟩ := hO
      refine t_norm ?_
      refine wp_seq ?_
      refine c_region ?_
      refine l_val E ok (y_loadAgg (cs := [(Value.bool o13.Neg), (Value.string (bs o13.Whole)), (Value.string (bs o13.Frac))]) agg_45 rfl rfl (Holds.own 0 rfl rfl)) rfl rfl fun a E => ?_
      obtain ⟨r24, e25, hF⟩ := bnd hF
      refine l_call E go_30 rfl (calqueref07_checked_w N _ o13 ⟨rfl, l22, l23⟩ e25 hG ok) rfl rfl ?_
      rintro _ w ⟨⟨rfl, ok⟩, l26, r27⟩
      refine ⟨_, rfl, fun a E => ?_⟩
      refine l_val E ok (y_extract rfl rfl) rfl rfl fun a E => ?_
      refine l_val E ok (y_extract rfl rfl) rfl rfl fun a E => ?_
      refine l_val E ok (y_assign rfl) rfl rfl fun a E => ?_
      refine l_val E ok (y_assign rfl) rfl rfl fun a E => ?_
      refine wpList_nil ?_
      refine t_norm ?_
      refine wp_ret ?_
      refine t_ret ?_
      have hret : calqueref07_Round_R u m0 S (r24.1, r24.2) a w := ⟨(ok.drop).down hb0 le_m0, E.d, ⟨rv_t E rfl, rv_t E rfl, trivial⟩, l26, r27⟩
      obtain rfl := Option.some.inj hF
      exact fin _ _ hret
    replace hF := hJ
    clear hJ
    obtain ⟨r16, e17, hF⟩ := bnd hF
    obtain ⟨s19, e20, hF⟩ := bnd hF
    obtain rfl := Option.some.inj hF
    refine k_begin [1, 4] (Cls u m3 ([(b8, Obj.cells [(Value.bool r1.1.Neg), (Value.string (bs r1.1.Whole)), (Value.string (bs r1.1.Frac))].toArray 45 (0, 0))] :: [])) (Cls u m3 ([])) (by kernel_rfl) ?_
    intro w hw
    replace ok := okdrew ok hw
    clear hw
    have le_m3 := Mem.le.refl m3
    refine k_next (cl1 ⟨m3, _, le_m3, ok, ⟨memAt 0 rfl, trivial⟩⟩ ⟨m3, _, le_m3, ok, trivial⟩) fun hT => ?_
    refine k_take 0 E rfl (by kernel_rfl) nP hT (y_fieldAddr fo_45_2 rfl) rfl rfl fun a E => ?_
    refine k_takeN 1 E rfl (by kernel_rfl) nP hT (y_load one_9 rfl (Holds.cown 0 rfl rfl)) rfl rfl fun a E => ?_
    refine k_take 2 E rfl (by kernel_rfl) nP hT (y_move rfl) rfl rfl fun a E => ?_
    refine k_take 3 E rfl (by kernel_rfl) nP hT (y_fieldAddr fo_45_2 rfl) rfl rfl fun a E => ?_
    refine k_takeN 4 E rfl (by kernel_rfl) nP hT (y_load one_9 rfl (Holds.cown 0 rfl rfl)) rfl rfl fun a E => ?_
    refine k_take 5 E rfl (by kernel_rfl) nP hT (y_slen Tryd.underlying9 rfl) rfl rfl fun a E => ?_
    refine k_take 6 E rfl (by kernel_rfl) nP hT (y_subw rfl rfl) rfl rfl fun a E => ?_
    refine k_all [7] (by kernel_rfl) rfl (one_c ?_)
    · refine wpOp_of_list (o := _) rfl ?_
      refine l_call E go_29 rfl (calqueref07_zeros_w N (IntKind.wrap .i64 (n_1 - (r1.1.Frac.length : Int))) (InR.wrap _ _) e17 hG ok) rfl rfl ?_
      rintro _ w ⟨⟨rfl, ok⟩, l21⟩
      refine ⟨_, rfl, fun a E => ?_⟩
      refine wpList_nil ?_
      refine t_norm ?_
      refine k_next (cl1 ⟨m3, _, le_m3, ok, ⟨memAt 0 rfl, trivial⟩⟩ ⟨m3, _, le_m3, ok, trivial⟩) fun hT => ?_
      refine k_take 8 E rfl (by kernel_rfl) nP hT (y_cat rfl rfl e20) rfl rfl fun a E => ?_
      refine k_take 9 E rfl (by kernel_rfl) nP hT (y_fieldAddr fo_45_2 rfl) rfl rfl fun a E => ?_
      refine k_all [10] (by kernel_rfl) rfl (one_c ?_)
      · refine wpOp_of_list (o := _) rfl ?_
        refine l_storeB E ok 0 rfl rfl rfl inf_9 rfl rfl ⟨rfl, trivial⟩ rfl rfl fun w ok => ?_
        refine wpList_nil ?_
        refine t_norm ?_
        refine k_next (cl2 (by kernel_rfl) ⟨m3, _, le_m3, ok, trivial⟩) fun hT => ?_
        refine k_done (by kernel_rfl) ?_
        exact ⟨rfl, ⟨ok, E.keep [6], l6, (cat_len e20)⟩⟩
  replace hF := cond_f hc12 hF
  refine wp_skip ?_
  refine t_norm ?_
  refine wp_seq ?_
  refine c_draw (by kernel_rfl) (by kernel_rfl) ok ?_
  refine q_val E (y_fieldAddr fo_45_1 rfl) rfl rfl fun a E => ?_
  refine q_val E (y_load one_9 rfl (Holds.own 0 rfl rfl)) rfl rfl fun a E => ?_
  refine q_val E (y_fieldAddr fo_45_2 rfl) rfl rfl fun a E => ?_
  refine q_val E (y_load one_9 rfl (Holds.own 0 rfl rfl)) rfl rfl fun a E => ?_
  refine q_val E (y_move rfl) rfl rfl fun a E => ?_
  obtain ⟨s28, e29, hF⟩ := bnd hF
  refine q_val E (y_sslice Tryd.underlying9 e29 rfl rfl ⟨_, rfl⟩) rfl rfl fun a E => ?_
  obtain ⟨s30, e31, hF⟩ := bnd hF
  refine q_val E (y_cat rfl rfl e31) rfl rfl fun a E => ?_
  refine q_val E (y_assign rfl) rfl rfl fun a E => ?_
  refine wpQuiet_nil ?_
  intro w ok
  refine t_norm ?_
  refine wp_seq ?_
  refine wp_seq ?_
  refine c_region ?_
  refine l_val E ok (y_fieldAddr fo_45_2 rfl) rfl rfl fun a E => ?_
  refine l_val E ok (y_load one_9 rfl (Holds.own 0 rfl rfl)) rfl rfl fun a E => ?_
  refine l_val E ok (y_move rfl) rfl rfl fun a E => ?_
  obtain ⟨c32, e33, hF⟩ := bnd hF
  refine l_val E ok (y_index Tryd.underlying9 rfl rfl e33) rfl rfl fun a E => ?_
  refine l_val E ok (y_geq rfl rfl) rfl rfl fun a E => ?_
  refine wpList_nil ?_
  refine t_norm ?_
  obtain ⟨o34, hJ, hF⟩ := bnd hF
  refine c_mono (Q' := fun e a w => e = .normal ∧ Ok u m3 ([(b8, Obj.cells [(Value.bool r1.1.Neg), (Value.string (bs r1.1.Whole)), (Value.string (bs r1.1.Frac))].toArray 45 (0, 0))] :: S) w ∧ Env 73 a [(1, (Value.int .i64 n_1)), (6, (Value.pointer (some ⟨b8, 0, none⟩))), (8, (Value.string (bs o34)))] ∧ o34.length ≤ LIMS) ?_ ?_
  · replace hF := hJ
    clear hJ
    refine c_if E rfl (fun hc36 => ?_) (fun hc36 => ?_)
    rotate_left
    · replace hF := cond_f hc36 hF
      refine wp_skip ?_
      obtain rfl := Option.some.inj hF
      exact ⟨rfl, ⟨ok, E.keep [1, 6, 8], (cat_len e31)⟩⟩
    replace hF := cond_t hc36 hF
    refine c_region ?_
    refine l_val E ok (y_move rfl) rfl rfl fun a E => ?_
    obtain ⟨r37, e38, hF⟩ := bnd hF
    refine l_call E go_31 rfl (calqueref07_increased_w N s30 (cat_len e31) e38 hG ok) rfl rfl ?_
    rintro _ w ⟨⟨rfl, ok⟩, l39⟩
    refine ⟨_, rfl, fun a E => ?_⟩
    refine l_val E ok (y_assign rfl) rfl rfl fun a E => ?_
    refine wpList_nil ?_
    obtain rfl := Option.some.inj hF
    exact ⟨rfl, ⟨ok, E.keep [1, 6, 8], l39⟩⟩
  clear hJ
  intro e a w hO
  obtain ⟨rfl, ok, E, l40⟩ := hO
  refine t_norm ?_
  refine wp_seq ?_
  obtain ⟨o41, hJ, hF⟩ := bnd hF
  refine c_mono (Q' := fun e a w => e = .normal ∧ Ok u m3 ([(b8, Obj.cells [(Value.bool o41.Neg), (Value.string (bs o41.Whole)), (Value.string (bs o41.Frac))].toArray 45 (0, 0))] :: S) w ∧ Env 73 a [(6, (Value.pointer (some ⟨b8, 0, none⟩)))] ∧ o41.Whole.length ≤ LIMS ∧ o41.Frac.length ≤ LIMS) ?_ ?_
  rotate_left
  · clear hJ
    intro e a w hO
    obtain ⟨rfl, ok, E, l48, l49⟩ := hO
    refine t_norm ?_
    refine wp_seq ?_
    refine c_region ?_
    refine l_val E ok (y_loadAgg (cs := [(Value.bool o41.Neg), (Value.string (bs o41.Whole)), (Value.string (bs o41.Frac))]) agg_45 rfl rfl (Holds.own 0 rfl rfl)) rfl rfl fun a E => ?_
    obtain ⟨r50, e51, hF⟩ := bnd hF
    refine l_call E go_30 rfl (calqueref07_checked_w N _ o41 ⟨rfl, l48, l49⟩ e51 hG ok) rfl rfl ?_
    rintro _ w ⟨⟨rfl, ok⟩, l52, r53⟩
    refine ⟨_, rfl, fun a E => ?_⟩
    refine l_val E ok (y_extract rfl rfl) rfl rfl fun a E => ?_
    refine l_val E ok (y_extract rfl rfl) rfl rfl fun a E => ?_
    refine l_val E ok (y_assign rfl) rfl rfl fun a E => ?_
    refine l_val E ok (y_assign rfl) rfl rfl fun a E => ?_
    refine wpList_nil ?_
    refine t_norm ?_
    refine wp_ret ?_
    have hret : calqueref07_Round_R u m0 S (r50.1, r50.2) a w := ⟨(ok.drop).down hb0 le_m0, E.d, ⟨rv_t E rfl, rv_t E rfl, trivial⟩, l52, r53⟩
    obtain rfl := Option.some.inj hF
    exact fin _ _ hret
  replace hF := hJ
  clear hJ
  obtain ⟨s44, e45, hF⟩ := bnd hF
  obtain ⟨s46, e47, hF⟩ := bnd hF
  obtain rfl := Option.some.inj hF
  refine k_begin [] (Cls u m3 ([])) (Cls u m3 ([])) (by kernel_rfl) ?_
  intro w hw
  replace ok := okdrew ok hw
  clear hw
  have le_m3 := Mem.le.refl m3
  refine k_next (cl1 ⟨m3, _, le_m3, ok, trivial⟩ ⟨m3, _, le_m3, ok, trivial⟩) fun hT => ?_
  refine k_take 0 E rfl (by kernel_rfl) nP hT (y_move rfl) rfl rfl fun a E => ?_
  refine k_take 1 E rfl (by kernel_rfl) nP hT (y_move rfl) rfl rfl fun a E => ?_
  refine k_take 2 E rfl (by kernel_rfl) nP hT (y_slen Tryd.underlying9 rfl) rfl rfl fun a E => ?_
  refine k_take 3 E rfl (by kernel_rfl) nP hT (y_move rfl) rfl rfl fun a E => ?_
  refine k_take 4 E rfl (by kernel_rfl) nP hT (y_subw rfl rfl) rfl rfl fun a E => ?_
  refine k_take 5 E rfl (by kernel_rfl) nP hT (y_sslice Tryd.underlying9 e45 rfl rfl ⟨_, rfl⟩) rfl rfl fun a E => ?_
  refine k_take 6 E rfl (by kernel_rfl) nP hT (y_move rfl) rfl rfl fun a E => ?_
  refine k_take 7 E rfl (by kernel_rfl) nP hT (y_move rfl) rfl rfl fun a E => ?_
  refine k_take 8 E rfl (by kernel_rfl) nP hT (y_slen Tryd.underlying9 rfl) rfl rfl fun a E => ?_
  refine k_take 9 E rfl (by kernel_rfl) nP hT (y_move rfl) rfl rfl fun a E => ?_
  refine k_take 10 E rfl (by kernel_rfl) nP hT (y_subw rfl rfl) rfl rfl fun a E => ?_
  refine k_take 11 E rfl (by kernel_rfl) nP hT (y_sslice Tryd.underlying9 e47 rfl ⟨_, rfl⟩ rfl) rfl rfl fun a E => ?_
  refine k_take 12 E rfl (by kernel_rfl) nP hT (y_fieldAddr fo_45_1 rfl) rfl rfl fun a E => ?_
  refine k_all [13] (by kernel_rfl) rfl (one_c ?_)
  · refine wpOp_of_list (o := _) rfl ?_
    refine l_storeB E ok 0 rfl rfl rfl inf_9 rfl rfl ⟨rfl, trivial⟩ rfl rfl fun w ok => ?_
    refine wpList_nil ?_
    refine t_norm ?_
    refine k_next (cl1 ⟨m3, _, le_m3, ok, trivial⟩ ⟨m3, _, le_m3, ok, trivial⟩) fun hT => ?_
    refine k_take 14 E rfl (by kernel_rfl) nP hT (y_fieldAddr fo_45_2 rfl) rfl rfl fun a E => ?_
    refine k_all [15] (by kernel_rfl) rfl (one_c ?_)
    · refine wpOp_of_list (o := _) rfl ?_
      refine l_storeB E ok 0 rfl rfl rfl inf_9 rfl rfl ⟨rfl, trivial⟩ rfl rfl fun w ok => ?_
      refine wpList_nil ?_
      refine t_norm ?_
      refine k_next (cl1 ⟨m3, _, le_m3, ok, trivial⟩ ⟨m3, _, le_m3, ok, trivial⟩) fun hT => ?_
      refine k_done (by kernel_rfl) ?_
      exact ⟨rfl, ⟨ok, E.keep [6], (Nat.le_trans (slc_len e45) l40), (Nat.le_trans (slc_len e47) l40)⟩⟩

def calqueref07_Shift_R (u : World) (m0 : Mem) (S : Segs) (r : (List UInt8) × Int) (a : Act) (w : World) : Prop :=
  Ok u m0 S w ∧ a.defers = [] ∧ RVs Tryd.prog a w [.t 4 (.string (bs r.1)), .t 5 (.int .i64 r.2)] ∧ r.1.length ≤ LIMS ∧ InR .i64 r.2
set_option maxHeartbeats 4000000 in
set_option maxRecDepth 100000 in
theorem calqueref07_Shift_w {u : World} {m0 : Mem} {S : Segs} {w : World} (N : Nat) (s_0 : List UInt8) (ls_0 : s_0.length ≤ LIMS) (n_1 : Int) (rn_1 : InR .i64 n_1) {r : (List UInt8) × Int} (hF : calqueref07_Shift N s_0 n_1 = some r) (hG : Glob u) (ok : Ok u m0 S w) :
    Calls Tryd.prog 16 [Value.string (bs s_0), Value.int .i64 n_1].toArray w fun e w' => (e = .returned (.tuple [(.string (bs r.1)), (.int .i64 r.2)].toArray) ∧ Ok u m0 S w') ∧ r.1.length ≤ LIMS ∧ InR .i64 r.2 := by
  have hb0 := ok.base
  have le_m0 := Mem.le.refl m0
  unfold calqueref07_Shift at hF
  have fin : ∀ a w, calqueref07_Shift_R u m0 S r a w → bodyPost Tryd.prog Tryd.f16 (fun e w' => (e = .returned (.tuple [(.string (bs r.1)), (.int .i64 r.2)].toArray) ∧ Ok u m0 S w') ∧ r.1.length ≤ LIMS ∧ InR .i64 r.2) .ret a w := by
    intro a w h
    obtain ⟨ok, hd, hrv, h0, h1⟩ := h
    exact c_ret2 [.t 4 (.string (bs r.1)), .t 5 (.int .i64 r.2)] hd rfl hrv ⟨⟨rfl, ok⟩, h0, h1⟩
  refine enter Tryd.func16 rfl rfl rfl fun a E => ?_
  refine wp_seq ?_
  refine c_region ?_
  refine l_val E ok (y_assign rfl) rfl rfl fun a E => ?_
  refine l_val E ok (y_assign rfl) rfl rfl fun a E => ?_
  refine wpList_nil ?_
  refine t_norm ?_
  refine wp_seq ?_
  refine c_region ?_
  refine l_val E ok (y_move rfl) rfl rfl fun a E => ?_
  obtain ⟨r1, e2, hF⟩ := bnd hF
  refine l_call E go_28 rfl (calqueref07_Split_w N s_0 ls_0 e2 hG ok) rfl rfl ?_
  rintro _ w ⟨m3, vs4, rfl, hle, ok, h5⟩
  have le_m0 := le_m0.trans hle
  obtain ⟨rfl, l6, l7⟩ := h5
  refine ⟨_, rfl, fun a E => ?_⟩
  refine l_val E ok (y_move rfl) rfl rfl fun a E => ?_
  refine l_val E ok (y_extract rfl rfl) rfl rfl fun a E => ?_
  refine l_val E ok (y_extract rfl rfl) rfl rfl fun a E => ?_
  refine l_alloc E ok zero_45 rfl rfl fun b8 a w E ok => ?_
  refine l_storeB E ok 0 rfl rfl rfl inf_45 rfl rfl ⟨rfl, rfl, rfl, trivial⟩ rfl rfl fun w ok => ?_
  refine l_val E ok (y_assign rfl) rfl rfl fun a E => ?_
  refine wpList_nil ?_
  refine t_norm ?_
  refine wp_seq ?_
  refine wp_seq ?_
  refine c_region ?_
  refine l_val E ok (y_move rfl) rfl rfl fun a E => ?_
  refine l_val E ok (y_not rfl) rfl rfl fun a E => ?_
  refine wpList_nil ?_
  refine t_norm ?_
  refine c_if E rfl (fun hc9 => ?_) (fun hc9 => ?_)
  · replace hF := cond_t hc9 hF
    refine wp_seq ?_
    refine c_region ?_
    refine l_val E ok (y_assign rfl) rfl rfl fun a E => ?_
    refine l_val E ok (y_assign rfl) rfl rfl fun a E => ?_
    refine wpList_nil ?_
    refine t_norm ?_
    refine wp_ret ?_
    refine t_ret ?_
    have hret : calqueref07_Shift_R u m0 S ([], 1) a w := ⟨(ok.drop).down hb0 le_m0, E.d, ⟨rv_t E rfl, rv_t E rfl, trivial⟩, (show ([] : List UInt8).length ≤ LIMS by decide), (show InR .i64 (1) by decide)⟩
    obtain rfl := Option.some.inj hF
    exact fin _ _ hret
  replace hF := cond_f hc9 hF
  refine wp_skip ?_
  refine t_norm ?_
  refine wp_seq ?_
  refine wp_seq ?_
  refine c_region ?_
  refine l_val E ok (y_move rfl) rfl rfl fun a E => ?_
  refine l_val E ok (y_lss rfl rfl) rfl rfl fun a E => ?_
  refine l_val E ok (y_move rfl) rfl rfl fun a E => ?_
  refine bsplit (decide (n_1 < (-6))) (fun hc10 => ?_) (fun hc10 => ?_)
  · replace hF := cond_t hc10 hF
    replace E := E.upd 19 hc10 rfl
    refine l_skip E rfl rfl fun a E => ?_
    refine l_skip E rfl rfl fun a E => ?_
    refine l_skip E rfl rfl fun a E => ?_
    refine l_skip E rfl rfl fun a E => ?_
    refine l_skip E rfl rfl fun a E => ?_
    refine l_skip E rfl rfl fun a E => ?_
    refine l_skip E rfl rfl fun a E => ?_
    refine l_skip E rfl rfl fun a E => ?_
    refine l_skip E rfl rfl fun a E => ?_
    refine l_skip E rfl rfl fun a E => ?_
    refine l_skip E rfl rfl fun a E => ?_
    refine l_val E ok (y_pickT rfl rfl) rfl rfl fun a E => ?_
    refine wpList_nil ?_
    refine t_norm ?_
    refine c_if E rfl (fun _ => ?_) (fun h => by cases h)
    refine wp_seq ?_
    refine c_region ?_
    refine l_val E ok (y_assign rfl) rfl rfl fun a E => ?_
    refine l_val E ok (y_assign rfl) rfl rfl fun a E => ?_
    refine wpList_nil ?_
    refine t_norm ?_
    refine wp_ret ?_
    refine t_ret ?_
    have hret : calqueref07_Shift_R u m0 S ([], 2) a w := ⟨(ok.drop).down hb0 le_m0, E.d, ⟨rv_t E rfl, rv_t E rfl, trivial⟩, (show ([] : List UInt8).length ≤ LIMS by decide), (show InR .i64 (2) by decide)⟩
    obtain rfl := Option.some.inj hF
    exact fin _ _ hret
  replace hF := cond_f hc10 hF
  replace E := E.upd 19 hc10 rfl
  refine l_val E ok (y_move rfl) rfl rfl fun a E => ?_
  refine l_val E ok (y_gtr rfl rfl) rfl rfl fun a E => ?_
  refine l_val E ok (y_move rfl) rfl rfl fun a E => ?_
  refine bsplit (decide (n_1 > 21)) (fun hc11 => ?_) (fun hc11 => ?_)
  rotate_left
  · as_aux_lemma =>
      replace hF := cond_f hc11 hF
      replace E := E.upd 22 hc11 rfl
      refine l_skip E rfl rfl fun a E => ?_
      refine l_skip E rfl rfl fun a E => ?_
      refine l_skip E rfl rfl fun a E => ?_
      refine l_skip E rfl rfl fun a E => ?_
      refine l_skip E rfl rfl fun a E => ?_
      refine l_skip E rfl rfl fun a E => ?_
      refine l_skip E rfl rfl fun a E => ?_
      refine l_val E ok (y_pickF rfl rfl) rfl rfl fun a E => ?_
      refine l_val E ok (y_pickF rfl rfl) rfl rfl fun a E => ?_
      refine wpList_nil ?_
      refine t_norm ?_
      refine c_if E rfl (fun h => by cases h) (fun _ => ?_)
      refine wp_skip ?_
      refine t_norm ?_
      refine wp_seq ?_
      refine c_region ?_
      refine l_val E ok (y_move rfl) rfl rfl fun a E => ?_
      refine l_val E ok (y_min rfl rfl) rfl rfl fun a E => ?_
      refine l_val E ok (y_assign rfl) rfl rfl fun a E => ?_
      refine wpList_nil ?_
      refine t_norm ?_
      refine wp_seq ?_
      refine c_region ?_
      refine l_val E ok (y_fieldAddr fo_45_2 rfl) rfl rfl fun a E => ?_
      refine l_val E ok (y_load one_9 rfl (Holds.own 0 rfl rfl)) rfl rfl fun a E => ?_
      refine l_val E ok (y_slen Tryd.underlying9 rfl) rfl rfl fun a E => ?_
      refine l_val E ok (y_move rfl) rfl rfl fun a E => ?_
      refine l_val E ok (y_subw rfl rfl) rfl rfl fun a E => ?_
      refine l_val E ok (y_assign rfl) rfl rfl fun a E => ?_
      refine wpList_nil ?_
      refine t_norm ?_
      refine wp_seq ?_
      refine c_draw (by kernel_rfl) (by kernel_rfl) ok ?_
      refine q_val E (y_move rfl) rfl rfl fun a E => ?_
      obtain ⟨r42, e43, hF⟩ := bnd hF
      obtain ⟨_, _, ⟨_, _⟩, l44⟩ := Go.X.Calls.get (calqueref07_zeros_w N (IntKind.wrap .i64 ((r1.1.Frac.length : Int) - (min n_1 30))) (InR.wrap _ _) e43 hG ok)
      refine q_call E go_29 rfl (fun w ok => (calqueref07_zeros_w N (IntKind.wrap .i64 ((r1.1.Frac.length : Int) - (min n_1 30))) (InR.wrap _ _) e43 hG ok).mono (fun _ _ h => h.1)) rfl rfl fun a E => ?_
      refine q_val E (y_fieldAddr fo_45_1 rfl) rfl rfl fun a E => ?_
      refine q_val E (y_load one_9 rfl (Holds.own 0 rfl rfl)) rfl rfl fun a E => ?_
      obtain ⟨s45, e46, hF⟩ := bnd hF
      refine q_val E (y_cat rfl rfl e46) rfl rfl fun a E => ?_
      refine q_val E (y_fieldAddr fo_45_2 rfl) rfl rfl fun a E => ?_
      refine q_val E (y_load one_9 rfl (Holds.own 0 rfl rfl)) rfl rfl fun a E => ?_
      obtain ⟨s47, e48, hF⟩ := bnd hF
      refine q_val E (y_cat rfl rfl e48) rfl rfl fun a E => ?_
      refine q_val E (y_move rfl) rfl rfl fun a E => ?_
      refine q_val E (y_neg rfl) rfl rfl fun a E => ?_
      obtain ⟨r49, e50, hF⟩ := bnd hF
      obtain ⟨_, _, ⟨_, _⟩, l51⟩ := Go.X.Calls.get (calqueref07_zeros_w N (IntKind.wrap .i64 (-(IntKind.wrap .i64 ((r1.1.Frac.length : Int) - (min n_1 30))))) (InR.wrap _ _) e50 hG ok)
      refine q_call E go_29 rfl (fun w ok => (calqueref07_zeros_w N (IntKind.wrap .i64 (-(IntKind.wrap .i64 ((r1.1.Frac.length : Int) - (min n_1 30))))) (InR.wrap _ _) e50 hG ok).mono (fun _ _ h => h.1)) rfl rfl fun a E => ?_
      obtain ⟨s52, e53, hF⟩ := bnd hF
      refine q_val E (y_cat rfl rfl e53) rfl rfl fun a E => ?_
      refine q_val E (y_assign rfl) rfl rfl fun a E => ?_
      refine wpQuiet_nil ?_
      intro w ok
      refine t_norm ?_
      refine wp_seq ?_
      refine c_region ?_
      refine l_val E ok (y_move rfl) rfl rfl fun a E => ?_
      refine l_val E ok (y_max rfl rfl) rfl rfl fun a E => ?_
      refine l_val E ok (y_assign rfl) rfl rfl fun a E => ?_
      refine wpList_nil ?_
      refine t_norm ?_
      refine wp_seq ?_
      obtain ⟨o54, hJ, hF⟩ := bnd hF
      refine c_mono (Q' := fun e a w => e = .normal ∧ Ok u m3 ([(b8, Obj.cells [(Value.bool o54.Neg), (Value.string (bs o54.Whole)), (Value.string (bs o54.Frac))].toArray 45 (0, 0))] :: S) w ∧ Env 71 a [(6, (Value.pointer (some ⟨b8, 0, none⟩)))] ∧ o54.Whole.length ≤ LIMS ∧ o54.Frac.length ≤ LIMS) ?_ ?_
      rotate_left
      · clear hJ
        intro e a w hO
        obtain ⟨rfl, ok, E, l61, l62⟩ := hO
        refine t_norm ?_
        refine wp_seq ?_
        refine c_region ?_
        refine l_val E ok (y_loadAgg (cs := [(Value.bool o54.Neg), (Value.string (bs o54.Whole)), (Value.string (bs o54.Frac))]) agg_45 rfl rfl (Holds.own 0 rfl rfl)) rfl rfl fun a E => ?_
        obtain ⟨r63, e64, hF⟩ := bnd hF
        refine l_call E go_30 rfl (calqueref07_checked_w N _ o54 ⟨rfl, l61, l62⟩ e64 hG ok) rfl rfl ?_
        rintro _ w ⟨⟨rfl, ok⟩, l65, r66⟩
        refine ⟨_, rfl, fun a E => ?_⟩
        refine l_val E ok (y_extract rfl rfl) rfl rfl fun a E => ?_
        refine l_val E ok (y_extract rfl rfl) rfl rfl fun a E => ?_
        refine l_val E ok (y_assign rfl) rfl rfl fun a E => ?_
        refine l_val E ok (y_assign rfl) rfl rfl fun a E => ?_
        refine wpList_nil ?_
        refine t_norm ?_
        refine wp_ret ?_
        have hret : calqueref07_Shift_R u m0 S (r63.1, r63.2) a w := ⟨(ok.drop).down hb0 le_m0, E.d, ⟨rv_t E rfl, rv_t E rfl, trivial⟩, l65, r66⟩
        obtain rfl := Option.some.inj hF
        exact fin _ _ hret
      replace hF := hJ
      clear hJ
      obtain ⟨s57, e58, hF⟩ := bnd hF
      obtain ⟨s59, e60, hF⟩ := bnd hF
      obtain rfl := Option.some.inj hF
      refine k_begin [] (Cls u m3 ([])) (Cls u m3 ([])) (by kernel_rfl) ?_
      intro w hw
      replace ok := okdrew ok hw
      clear hw
      have le_m3 := Mem.le.refl m3
      refine k_next (cl1 ⟨m3, _, le_m3, ok, trivial⟩ ⟨m3, _, le_m3, ok, trivial⟩) fun hT => ?_
      refine k_take 0 E rfl (by kernel_rfl) nP hT (y_move rfl) rfl rfl fun a E => ?_
      refine k_take 1 E rfl (by kernel_rfl) nP hT (y_move rfl) rfl rfl fun a E => ?_
      refine k_take 2 E rfl (by kernel_rfl) nP hT (y_slen Tryd.underlying9 rfl) rfl rfl fun a E => ?_
      refine k_take 3 E rfl (by kernel_rfl) nP hT (y_move rfl) rfl rfl fun a E => ?_
      refine k_take 4 E rfl (by kernel_rfl) nP hT (y_subw rfl rfl) rfl rfl fun a E => ?_
      refine k_take 5 E rfl (by kernel_rfl) nP hT (y_sslice Tryd.underlying9 e58 rfl rfl ⟨_, rfl⟩) rfl rfl fun a E => ?_
      refine k_take 6 E rfl (by kernel_rfl) nP hT (y_move rfl) rfl rfl fun a E => ?_
      refine k_take 7 E rfl (by kernel_rfl) nP hT (y_move rfl) rfl rfl fun a E => ?_
      refine k_take 8 E rfl (by kernel_rfl) nP hT (y_slen Tryd.underlying9 rfl) rfl rfl fun a E => ?_
      refine k_take 9 E rfl (by kernel_rfl) nP hT (y_move rfl) rfl rfl fun a E => ?_
      refine k_take 10 E rfl (by kernel_rfl) nP hT (y_subw rfl rfl) rfl rfl fun a E => ?_
      refine k_take 11 E rfl (by kernel_rfl) nP hT (y_sslice Tryd.underlying9 e60 rfl ⟨_, rfl⟩ rfl) rfl rfl fun a E => ?_
      refine k_take 12 E rfl (by kernel_rfl) nP hT (y_fieldAddr fo_45_1 rfl) rfl rfl fun a E => ?_
      refine k_all [13] (by kernel_rfl) rfl (one_c ?_)
      · refine wpOp_of_list (o := _) rfl ?_
        refine l_storeB E ok 0 rfl rfl rfl inf_9 rfl rfl ⟨rfl, trivial⟩ rfl rfl fun w ok => ?_
        refine wpList_nil ?_
        refine t_norm ?_
        refine k_next (cl1 ⟨m3, _, le_m3, ok, trivial⟩ ⟨m3, _, le_m3, ok, trivial⟩) fun hT => ?_
        refine k_take 14 E rfl (by kernel_rfl) nP hT (y_fieldAddr fo_45_2 rfl) rfl rfl fun a E => ?_
        refine k_all [15] (by kernel_rfl) rfl (one_c ?_)
        · refine wpOp_of_list (o := _) rfl ?_
          refine l_storeB E ok 0 rfl rfl rfl inf_9 rfl rfl ⟨rfl, trivial⟩ rfl rfl fun w ok => ?_
          refine wpList_nil ?_
          refine t_norm ?_
          refine k_next (cl1 ⟨m3, _, le_m3, ok, trivial⟩ ⟨m3, _, le_m3, ok, trivial⟩) fun hT => ?_
          refine k_done (by kernel_rfl) ?_
          exact ⟨rfl, ⟨ok, E.keep [6], (Nat.le_trans (slc_len e58) (cat_len e53)), (Nat.le_trans (slc_len e60) (cat_len e53))⟩⟩
  replace hF := cond_t hc11 hF
  replace E := E.upd 22 hc11 rfl
  refine l_val E ok (y_fieldAddr fo_45_1 rfl) rfl rfl fun a E => ?_
  refine l_val E ok (y_load one_9 rfl (Holds.own 0 rfl rfl)) rfl rfl fun a E => ?_
  refine l_val E ok (y_fieldAddr fo_45_2 rfl) rfl rfl fun a E => ?_
  refine l_val E ok (y_load one_9 rfl (Holds.own 0 rfl rfl)) rfl rfl fun a E => ?_
  obtain ⟨s12, e13, hF⟩ := bnd hF
  refine l_val E ok (y_cat rfl rfl e13) rfl rfl fun a E => ?_
  obtain ⟨r14, e15, hF⟩ := bnd hF
  refine l_call E go_32 rfl (calqueref07_Zero_w N s12 (cat_len e13) e15 hG ok) rfl rfl ?_
  rintro _ w ⟨rfl, ok⟩
  refine ⟨_, rfl, fun a E => ?_⟩
  refine l_val E ok (y_not rfl) rfl rfl fun a E => ?_
  refine l_val E ok (y_pickT rfl rfl) rfl rfl fun a E => ?_
  refine l_val E ok (y_pickF rfl rfl) rfl rfl fun a E => ?_
  refine wpList_nil ?_
  refine t_norm ?_
  refine c_if E rfl (fun hc16 => ?_) (fun hc16 => ?_)
  · replace hF := cond_t hc16 hF
    refine wp_seq ?_
    refine c_region ?_
    refine l_val E ok (y_assign rfl) rfl rfl fun a E => ?_
    refine l_val E ok (y_assign rfl) rfl rfl fun a E => ?_
    refine wpList_nil ?_
    refine t_norm ?_
    refine wp_ret ?_
    refine t_ret ?_
    have hret : calqueref07_Shift_R u m0 S ([], 2) a w := ⟨(ok.drop).down hb0 le_m0, E.d, ⟨rv_t E rfl, rv_t E rfl, trivial⟩, (show ([] : List UInt8).length ≤ LIMS by decide), (show InR .i64 (2) by decide)⟩
    obtain rfl := Option.some.inj hF
    exact fin _ _ hret
  replace hF := cond_f hc16 hF
  refine wp_skip ?_
  refine t_norm ?_
  refine wp_seq ?_
  refine c_region ?_
  refine l_val E ok (y_move rfl) rfl rfl fun a E => ?_
  refine l_val E ok (y_min rfl rfl) rfl rfl fun a E => ?_
  refine l_val E ok (y_assign rfl) rfl rfl fun a E => ?_
  refine wpList_nil ?_
  refine t_norm ?_
  refine wp_seq ?_
  refine c_region ?_
  refine l_val E ok (y_fieldAddr fo_45_2 rfl) rfl rfl fun a E => ?_
  refine l_val E ok (y_load one_9 rfl (Holds.own 0 rfl rfl)) rfl rfl fun a E => ?_
  refine l_val E ok (y_slen Tryd.underlying9 rfl) rfl rfl fun a E => ?_
  refine l_val E ok (y_move rfl) rfl rfl fun a E => ?_
  refine l_val E ok (y_subw rfl rfl) rfl rfl fun a E => ?_
  refine l_val E ok (y_assign rfl) rfl rfl fun a E => ?_
  refine wpList_nil ?_
  refine t_norm ?_
  refine wp_seq ?_
  refine c_draw (by kernel_rfl) (by kernel_rfl) ok ?_
  refine q_val E (y_move rfl) rfl rfl fun a E => ?_
  obtain ⟨r17, e18, hF⟩ := bnd hF
  obtain ⟨_, _, ⟨_, _⟩, l19⟩ := Go.X.Calls.get (calqueref07_zeros_w N (IntKind.wrap .i64 ((r1.1.Frac.length : Int) - (min n_1 30))) (InR.wrap _ _) e18 hG ok)
  refine q_call E go_29 rfl (fun w ok => (calqueref07_zeros_w N (IntKind.wrap .i64 ((r1.1.Frac.length : Int) - (min n_1 30))) (InR.wrap _ _) e18 hG ok).mono (fun _ _ h => h.1)) rfl rfl fun a E => ?_
  refine q_val E (y_fieldAddr fo_45_1 rfl) rfl rfl fun a E => ?_
  refine q_val E (y_load one_9 rfl (Holds.own 0 rfl rfl)) rfl rfl fun a E => ?_
  obtain ⟨s20, e21, hF⟩ := bnd hF
  refine q_val E (y_cat rfl rfl e21) rfl rfl fun a E => ?_
  refine q_val E (y_fieldAddr fo_45_2 rfl) rfl rfl fun a E => ?_
  refine q_val E (y_load one_9 rfl (Holds.own 0 rfl rfl)) rfl rfl fun a E => ?_
  obtain ⟨s22, e23, hF⟩ := bnd hF
  refine q_val E (y_cat rfl rfl e23) rfl rfl fun a E => ?_
  refine q_val E (y_move rfl) rfl rfl fun a E => ?_
  refine q_val E (y_neg rfl) rfl rfl fun a E => ?_
  obtain ⟨r24, e25, hF⟩ := bnd hF
  obtain ⟨_, _, ⟨_, _⟩, l26⟩ := Go.X.Calls.get (calqueref07_zeros_w N (IntKind.wrap .i64 (-(IntKind.wrap .i64 ((r1.1.Frac.length : Int) - (min n_1 30))))) (InR.wrap _ _) e25 hG ok)
  refine q_call E go_29 rfl (fun w ok => (calqueref07_zeros_w N (IntKind.wrap .i64 (-(IntKind.wrap .i64 ((r1.1.Frac.length : Int) - (min n_1 30))))) (InR.wrap _ _) e25 hG ok).mono (fun _ _ h => h.1)) rfl rfl fun a E => ?_
  obtain ⟨s27, e28, hF⟩ := bnd hF
  refine q_val E (y_cat rfl rfl e28) rfl rfl fun a E => ?_
  refine q_val E (y_assign rfl) rfl rfl fun a E => ?_
  refine wpQuiet_nil ?_
  intro w ok
  refine t_norm ?_
  refine wp_seq ?_
  refine c_region ?_
  refine l_val E ok (y_move rfl) rfl rfl fun a E => ?_
  refine l_val E ok (y_max rfl rfl) rfl rfl fun a E => ?_
  refine l_val E ok (y_assign rfl) rfl rfl fun a E => ?_
  refine wpList_nil ?_
  refine t_norm ?_
  refine wp_seq ?_
  obtain ⟨o29, hJ, hF⟩ := bnd hF
  refine c_mono (Q' := fun e a w => e = .normal ∧ Ok u m3 ([(b8, Obj.cells [(Value.bool o29.Neg), (Value.string (bs o29.Whole)), (Value.string (bs o29.Frac))].toArray 45 (0, 0))] :: S) w ∧ Env 71 a [(6, (Value.pointer (some ⟨b8, 0, none⟩)))] ∧ o29.Whole.length ≤ LIMS ∧ o29.Frac.length ≤ LIMS) ?_ ?_
  rotate_left
  · clear hJ
    intro e a w hO
    obtain ⟨rfl, ok, E, l36, l37⟩ := hO
    refine t_norm ?_
    refine wp_seq ?_
    refine c_region ?_
    refine l_val E ok (y_loadAgg (cs := [(Value.bool o29.Neg), (Value.string (bs o29.Whole)), (Value.string (bs o29.Frac))]) agg_45 rfl rfl (Holds.own 0 rfl rfl)) rfl rfl fun a E => ?_
    obtain ⟨r38, e39, hF⟩ := bnd hF
    refine l_call E go_30 rfl (calqueref07_checked_w N _ o29 ⟨rfl, l36, l37⟩ e39 hG ok) rfl rfl ?_
    rintro _ w ⟨⟨rfl, ok⟩, l40, r41⟩
    refine ⟨_, rfl, fun a E => ?_⟩
    refine l_val E ok (y_extract rfl rfl) rfl rfl fun a E => ?_
    refine l_val E ok (y_extract rfl rfl) rfl rfl fun a E => ?_
    refine l_val E ok (y_assign rfl) rfl rfl fun a E => ?_
    refine l_val E ok (y_assign rfl) rfl rfl fun a E => ?_
    refine wpList_nil ?_
    refine t_norm ?_
    refine wp_ret ?_
    have hret : calqueref07_Shift_R u m0 S (r38.1, r38.2) a w := ⟨(ok.drop).down hb0 le_m0, E.d, ⟨rv_t E rfl, rv_t E rfl, trivial⟩, l40, r41⟩
    obtain rfl := Option.some.inj hF
    exact fin _ _ hret
  replace hF := hJ
  clear hJ
  obtain ⟨s32, e33, hF⟩ := bnd hF
  obtain ⟨s34, e35, hF⟩ := bnd hF
  obtain rfl := Option.some.inj hF
  refine k_begin [] (Cls u m3 ([])) (Cls u m3 ([])) (by kernel_rfl) ?_
  intro w hw
  replace ok := okdrew ok hw
  clear hw
  have le_m3 := Mem.le.refl m3
  refine k_next (cl1 ⟨m3, _, le_m3, ok, trivial⟩ ⟨m3, _, le_m3, ok, trivial⟩) fun hT => ?_
  refine k_take 0 E rfl (by kernel_rfl) nP hT (y_move rfl) rfl rfl fun a E => ?_
  refine k_take 1 E rfl (by kernel_rfl) nP hT (y_move rfl) rfl rfl fun a E => ?_
  refine k_take 2 E rfl (by kernel_rfl) nP hT (y_slen Tryd.underlying9 rfl) rfl rfl fun a E => ?_
  refine k_take 3 E rfl (by kernel_rfl) nP hT (y_move rfl) rfl rfl fun a E => ?_
  refine k_take 4 E rfl (by kernel_rfl) nP hT (y_subw rfl rfl) rfl rfl fun a E => ?_
  refine k_take 5 E rfl (by kernel_rfl) nP hT (y_sslice Tryd.underlying9 e33 rfl rfl ⟨_, rfl⟩) rfl rfl fun a E => ?_
  refine k_take 6 E rfl (by kernel_rfl) nP hT (y_move rfl) rfl rfl fun a E => ?_
  refine k_take 7 E rfl (by kernel_rfl) nP hT (y_move rfl) rfl rfl fun a E => ?_
  refine k_take 8 E rfl (by kernel_rfl) nP hT (y_slen Tryd.underlying9 rfl) rfl rfl fun a E => ?_
  refine k_take 9 E rfl (by kernel_rfl) nP hT (y_move rfl) rfl rfl fun a E => ?_
  refine k_take 10 E rfl (by kernel_rfl) nP hT (y_subw rfl rfl) rfl rfl fun a E => ?_
  refine k_take 11 E rfl (by kernel_rfl) nP hT (y_sslice Tryd.underlying9 e35 rfl ⟨_, rfl⟩ rfl) rfl rfl fun a E => ?_
  refine k_take 12 E rfl (by kernel_rfl) nP hT (y_fieldAddr fo_45_1 rfl) rfl rfl fun a E => ?_
  refine k_all [13] (by kernel_rfl) rfl (one_c ?_)
  · refine wpOp_of_list (o := _) rfl ?_
    refine l_storeB E ok 0 rfl rfl rfl inf_9 rfl rfl ⟨rfl, trivial⟩ rfl rfl fun w ok => ?_
    refine wpList_nil ?_
    refine t_norm ?_
    refine k_next (cl1 ⟨m3, _, le_m3, ok, trivial⟩ ⟨m3, _, le_m3, ok, trivial⟩) fun hT => ?_
    refine k_take 14 E rfl (by kernel_rfl) nP hT (y_fieldAddr fo_45_2 rfl) rfl rfl fun a E => ?_
    refine k_all [15] (by kernel_rfl) rfl (one_c ?_)
    · refine wpOp_of_list (o := _) rfl ?_
      refine l_storeB E ok 0 rfl rfl rfl inf_9 rfl rfl ⟨rfl, trivial⟩ rfl rfl fun w ok => ?_
      refine wpList_nil ?_
      refine t_norm ?_
      refine k_next (cl1 ⟨m3, _, le_m3, ok, trivial⟩ ⟨m3, _, le_m3, ok, trivial⟩) fun hT => ?_
      refine k_done (by kernel_rfl) ?_
      exact ⟨rfl, ⟨ok, E.keep [6], (Nat.le_trans (slc_len e33) (cat_len e28)), (Nat.le_trans (slc_len e35) (cat_len e28))⟩⟩

def calqueref15_Group_R (u : World) (m0 : Mem) (S : Segs) (r : (List UInt8)) (a : Act) (w : World) : Prop :=
  Ok u m0 S w ∧ a.defers = [] ∧ RVs Tryd.prog a w [.t 4 (.string (bs r))] ∧ r.length ≤ LIMS
set_option maxHeartbeats 4000000 in
set_option maxRecDepth 100000 in
theorem calqueref15_Group_w {u : World} {m0 : Mem} {S : Segs} {w : World} (N : Nat) (vx_0 : List Value) (x_0 : Symbols) (hx_0 : pSymbols m0 vx_0 x_0) (digits_1 : List UInt8) (ldigits_1 : digits_1.length ≤ LIMS) {r : (List UInt8)} (hF : calqueref15_Group N x_0 digits_1 = some r) (hG : Glob u) (ok : Ok u m0 S w) :
    Calls Tryd.prog 13 [.agg vx_0.toArray, Value.string (bs digits_1)].toArray w fun e w' => (e = .returned (.string (bs r)) ∧ Ok u m0 S w') ∧ r.length ≤ LIMS := by
  obtain ⟨rfl, l1, l2, l3, l4, r5, r6⟩ := hx_0
  have hb0 := ok.base
  have le_m0 := Mem.le.refl m0
  unfold calqueref15_Group at hF
  have fin : ∀ a w, calqueref15_Group_R u m0 S r a w → bodyPost Tryd.prog Tryd.f13 (fun e w' => (e = .returned (.string (bs r)) ∧ Ok u m0 S w') ∧ r.length ≤ LIMS) .ret a w := by
    intro a w h
    obtain ⟨ok, hd, hrv, h0⟩ := h
    exact c_ret2 [.t 4 (.string (bs r))] hd rfl hrv ⟨⟨rfl, ok⟩, h0⟩
  refine enter Tryd.func13 rfl rfl rfl fun a E => ?_
  refine wp_seq ?_
  refine c_region ?_
  refine l_box E ok rfl rfl rfl fun b7 a w E ok => ?_
  refine l_val E ok (y_assign rfl) rfl rfl fun a E => ?_
  refine wpList_nil ?_
  refine t_norm ?_
  refine wp_seq ?_
  refine wp_seq ?_
  refine c_region ?_
  refine l_val E ok (y_fieldAddr fo_23_4 rfl) rfl rfl fun a E => ?_
  refine l_val E ok (y_load one_3 rfl (Holds.own 0 rfl rfl)) rfl rfl fun a E => ?_
  refine l_val E ok (y_lss rfl rfl) rfl rfl fun a E => ?_
  refine l_val E ok (y_move rfl) rfl rfl fun a E => ?_
  refine bsplit (decide (x_0.Primary < 1)) (fun hc8 => ?_) (fun hc8 => ?_)
  · replace hF := cond_t hc8 hF
    replace E := E.upd 11 hc8 rfl
    refine l_skip E rfl rfl fun a E => ?_
    refine l_skip E rfl rfl fun a E => ?_
    refine l_skip E rfl rfl fun a E => ?_
    refine l_skip E rfl rfl fun a E => ?_
    refine l_skip E rfl rfl fun a E => ?_
    refine l_val E ok (y_pickT rfl rfl) rfl rfl fun a E => ?_
    refine wpList_nil ?_
    refine t_norm ?_
    refine c_if E rfl (fun _ => ?_) (fun h => by cases h)
    refine wp_seq ?_
    refine c_region ?_
    refine l_val E ok (y_move rfl) rfl rfl fun a E => ?_
    refine l_val E ok (y_assign rfl) rfl rfl fun a E => ?_
    refine wpList_nil ?_
    refine t_norm ?_
    refine wp_ret ?_
    refine t_ret ?_
    have hret : calqueref15_Group_R u m0 S digits_1 a w := ⟨ok.drop, E.d, ⟨rv_t E rfl, trivial⟩, ldigits_1⟩
    obtain rfl := Option.some.inj hF
    exact fin _ _ hret
  replace hF := cond_f hc8 hF
  replace E := E.upd 11 hc8 rfl
  refine l_val E ok (y_move rfl) rfl rfl fun a E => ?_
  refine l_val E ok (y_slen Tryd.underlying9 rfl) rfl rfl fun a E => ?_
  refine l_val E ok (y_fieldAddr fo_23_4 rfl) rfl rfl fun a E => ?_
  refine l_val E ok (y_load one_3 rfl (Holds.own 0 rfl rfl)) rfl rfl fun a E => ?_
  refine l_val E ok (y_leq rfl rfl) rfl rfl fun a E => ?_
  refine l_val E ok (y_pickF rfl rfl) rfl rfl fun a E => ?_
  refine wpList_nil ?_
  refine t_norm ?_
  refine c_if E rfl (fun hc9 => ?_) (fun hc9 => ?_)
  · replace hF := cond_t hc9 hF
    refine wp_seq ?_
    refine c_region ?_
    refine l_val E ok (y_move rfl) rfl rfl fun a E => ?_
    refine l_val E ok (y_assign rfl) rfl rfl fun a E => ?_
    refine wpList_nil ?_
    refine t_norm ?_
    refine wp_ret ?_
    refine t_ret ?_
    have hret : calqueref15_Group_R u m0 S digits_1 a w := ⟨ok.drop, E.d, ⟨rv_t E rfl, trivial⟩, ldigits_1⟩
    obtain rfl := Option.some.inj hF
    exact fin _ _ hret
  replace hF := cond_f hc9 hF
  refine wp_skip ?_
  refine t_norm ?_
  refine wp_seq ?_
  refine c_region ?_
  refine l_val E ok (y_fieldAddr fo_23_5 rfl) rfl rfl fun a E => ?_
  refine l_val E ok (y_load one_3 rfl (Holds.own 0 rfl rfl)) rfl rfl fun a E => ?_
  refine l_val E ok (y_assign rfl) rfl rfl fun a E => ?_
  refine wpList_nil ?_
  refine t_norm ?_
  refine wp_seq ?_
  refine wp_seq ?_
  refine c_region ?_
  refine l_val E ok (y_move rfl) rfl rfl fun a E => ?_
  refine l_val E ok (y_lss rfl rfl) rfl rfl fun a E => ?_
  refine wpList_nil ?_
  refine t_norm ?_
  obtain ⟨o10, hJ, hF⟩ := bnd hF
  refine c_mono (Q' := fun e a w => e = .normal ∧ Ok u m0 ([(b7, Obj.cells [(Value.string (bs x_0.Decimal)), (Value.string (bs x_0.Group)), (Value.string (bs x_0.Minus)), (Value.string (bs x_0.Percent)), (Value.int .i64 x_0.Primary), (Value.int .i64 x_0.Secondary)].toArray 23 (0, 0))] :: S) w ∧ Env 58 a [(1, (Value.string (bs digits_1))), (2, (Value.pointer (some ⟨b7, 0, none⟩))), (5, (Value.int .i64 o10))] ∧ InR .i64 o10) ?_ ?_
  · replace hF := hJ
    clear hJ
    refine c_if E rfl (fun hc12 => ?_) (fun hc12 => ?_)
    rotate_left
    · replace hF := cond_f hc12 hF
      refine wp_skip ?_
      obtain rfl := Option.some.inj hF
      exact ⟨rfl, ⟨ok, E.keep [1, 2, 5], r6⟩⟩
    replace hF := cond_t hc12 hF
    refine c_region ?_
    refine l_val E ok (y_fieldAddr fo_23_4 rfl) rfl rfl fun a E => ?_
    refine l_val E ok (y_load one_3 rfl (Holds.own 0 rfl rfl)) rfl rfl fun a E => ?_
    refine l_val E ok (y_assign rfl) rfl rfl fun a E => ?_
    refine wpList_nil ?_
    obtain rfl := Option.some.inj hF
    exact ⟨rfl, ⟨ok, E.keep [1, 2, 5], r5⟩⟩
  clear hJ
  intro e a w hO
  obtain ⟨rfl, ok, E, r13⟩ := hO
  refine t_norm ?_
  refine wp_seq ?_
  refine c_region ?_
  refine l_val E ok (y_move rfl) rfl rfl fun a E => ?_
  refine l_val E ok (y_slen Tryd.underlying9 rfl) rfl rfl fun a E => ?_
  refine l_val E ok (y_fieldAddr fo_23_4 rfl) rfl rfl fun a E => ?_
  refine l_val E ok (y_load one_3 rfl (Holds.own 0 rfl rfl)) rfl rfl fun a E => ?_
  refine l_val E ok (y_subw rfl rfl) rfl rfl fun a E => ?_
  refine l_val E ok (y_assign rfl) rfl rfl fun a E => ?_
  refine wpList_nil ?_
  refine t_norm ?_
  refine wp_seq ?_
  refine c_draw (by kernel_rfl) (by kernel_rfl) ok ?_
  refine q_val E (y_fieldAddr fo_23_1 rfl) rfl rfl fun a E => ?_
  refine q_val E (y_load one_9 rfl (Holds.own 0 rfl rfl)) rfl rfl fun a E => ?_
  refine q_val E (y_move rfl) rfl rfl fun a E => ?_
  refine q_val E (y_move rfl) rfl rfl fun a E => ?_
  obtain ⟨s14, e15, hF⟩ := bnd hF
  refine q_val E (y_sslice Tryd.underlying9 e15 rfl ⟨_, rfl⟩ rfl) rfl rfl fun a E => ?_
  obtain ⟨s16, e17, hF⟩ := bnd hF
  refine q_val E (y_cat rfl rfl e17) rfl rfl fun a E => ?_
  refine q_val E (y_assign rfl) rfl rfl fun a E => ?_
  refine wpQuiet_nil ?_
  intro w ok
  refine t_norm ?_
  refine wp_seq ?_
  refine wp_block ?_
  obtain ⟨o20, hL, hF⟩ := bnd hF
  refine c_loop _ (fun (s : Int × (List UInt8)) a w => Ok u m0 ([(b7, Obj.cells [(Value.string (bs x_0.Decimal)), (Value.string (bs x_0.Group)), (Value.string (bs x_0.Minus)), (Value.string (bs x_0.Percent)), (Value.int .i64 x_0.Primary), (Value.int .i64 x_0.Secondary)].toArray 23 (0, 0))] :: S) w ∧ Env 58 a [(1, (Value.string (bs digits_1))), (2, (Value.pointer (some ⟨b7, 0, none⟩))), (5, (Value.int .i64 o10)), (6, (Value.int .i64 s.1)), (7, (Value.string (bs s.2)))] ∧ InR .i64 s.1 ∧ s.2.length ≤ LIMS) (fun (b : (Int × (List UInt8))) e a w => e = (.exit 0) ∧ Ok u m0 ([(b7, Obj.cells [(Value.string (bs x_0.Decimal)), (Value.string (bs x_0.Group)), (Value.string (bs x_0.Minus)), (Value.string (bs x_0.Percent)), (Value.int .i64 x_0.Primary), (Value.int .i64 x_0.Secondary)].toArray 23 (0, 0))] :: S) w ∧ Env 58 a [(1, (Value.string (bs digits_1))), (6, (Value.int .i64 b.1)), (7, (Value.string (bs b.2)))] ∧ InR .i64 b.1 ∧ b.2.length ≤ LIMS) ?_ ?_ N _ a w hL ⟨ok, E.keep [1, 2, 5, 6, 7], (InR.wrap _ _), (cat_len e17)⟩
  rotate_left
  · intro e a w _ hO
    obtain ⟨rfl, ok, E, r34, l35⟩ := hO
    refine b_hit ?_
    refine t_norm ?_
    refine wp_seq ?_
    refine c_region ?_
    refine l_val E ok (y_move rfl) rfl rfl fun a E => ?_
    refine l_val E ok (y_move rfl) rfl rfl fun a E => ?_
    obtain ⟨s36, e37, hF⟩ := bnd hF
    refine l_val E ok (y_sslice Tryd.underlying9 e37 rfl rfl ⟨_, rfl⟩) rfl rfl fun a E => ?_
    refine l_val E ok (y_move rfl) rfl rfl fun a E => ?_
    obtain ⟨s38, e39, hF⟩ := bnd hF
    refine l_val E ok (y_cat rfl rfl e39) rfl rfl fun a E => ?_
    refine l_val E ok (y_assign rfl) rfl rfl fun a E => ?_
    refine wpList_nil ?_
    refine t_norm ?_
    refine wp_ret ?_
    have hret : calqueref15_Group_R u m0 S s38 a w := ⟨ok.drop, E.d, ⟨rv_t E rfl, trivial⟩, (cat_len e39)⟩
    obtain rfl := Option.some.inj hF
    exact fin _ _ hret
  rintro ⟨k_23, out_24⟩ a w r ⟨ok, E, r25, l26⟩ hF
  replace hF : calqueref15_Group_b1 N x_0 digits_1 o10 k_23 out_24 = some r := hF
  unfold calqueref15_Group_b1 at hF
  refine wp_seq ?_
  refine wp_seq ?_
  refine c_region ?_
  refine l_val E ok (y_move rfl) rfl rfl fun a E => ?_
  refine l_val E ok (y_move rfl) rfl rfl fun a E => ?_
  refine l_val E ok (y_gtr rfl rfl) rfl rfl fun a E => ?_
  refine wpList_nil ?_
  refine t_norm ?_
  refine c_if E rfl (fun hc27 => ?_) (fun hc27 => ?_)
  rotate_left
  · replace hF := cond_f hc27 hF
    refine wp_exit ?_
    refine t_exit ?_
    obtain rfl := Option.some.inj hF
    exact step_o (by nofun) (⟨rfl, ⟨ok, E.keep [1, 6, 7], r25, l26⟩⟩)
  replace hF := cond_t hc27 hF
  refine wp_skip ?_
  refine t_norm ?_
  refine wp_block ?_
  refine wp_seq ?_
  refine c_draw (by kernel_rfl) (by kernel_rfl) ok ?_
  refine q_val E (y_fieldAddr fo_23_1 rfl) rfl rfl fun a E => ?_
  refine q_val E (y_load one_9 rfl (Holds.own 0 rfl rfl)) rfl rfl fun a E => ?_
  refine q_val E (y_move rfl) rfl rfl fun a E => ?_
  refine q_val E (y_move rfl) rfl rfl fun a E => ?_
  refine q_val E (y_move rfl) rfl rfl fun a E => ?_
  refine q_val E (y_subw rfl rfl) rfl rfl fun a E => ?_
  refine q_val E (y_move rfl) rfl rfl fun a E => ?_
  obtain ⟨s28, e29, hF⟩ := bnd hF
  refine q_val E (y_sslice Tryd.underlying9 e29 rfl ⟨_, rfl⟩ ⟨_, rfl⟩) rfl rfl fun a E => ?_
  obtain ⟨s30, e31, hF⟩ := bnd hF
  refine q_val E (y_cat rfl rfl e31) rfl rfl fun a E => ?_
  refine q_val E (y_move rfl) rfl rfl fun a E => ?_
  obtain ⟨s32, e33, hF⟩ := bnd hF
  refine q_val E (y_cat rfl rfl e33) rfl rfl fun a E => ?_
  refine q_val E (y_assign rfl) rfl rfl fun a E => ?_
  refine wpQuiet_nil ?_
  intro w ok
  refine t_norm ?_
  refine c_region ?_
  refine l_val E ok (y_move rfl) rfl rfl fun a E => ?_
  refine l_val E ok (y_move rfl) rfl rfl fun a E => ?_
  refine l_val E ok (y_subw rfl rfl) rfl rfl fun a E => ?_
  refine l_val E ok (y_assign rfl) rfl rfl fun a E => ?_
  refine wpList_nil ?_
  refine b_norm ?_
  obtain rfl := Option.some.inj hF
  exact step_n ⟨ok, E.keep [1, 2, 5, 6, 7], (InR.wrap _ _), (cat_len e33)⟩

def calqueref15_Text_R (u : World) (m0 : Mem) (S : Segs) (r : (List UInt8)) (a : Act) (w : World) : Prop :=
  Ok u m0 S w ∧ a.defers = [] ∧ RVs Tryd.prog a w [.t 4 (.string (bs r))] ∧ r.length ≤ LIMS
set_option maxHeartbeats 4000000 in
set_option maxRecDepth 100000 in
theorem calqueref15_Text_w {u : World} {m0 : Mem} {S : Segs} {w : World} (N : Nat) (vx_0 : List Value) (x_0 : Symbols) (hx_0 : pSymbols m0 vx_0 x_0) (number_1 : List UInt8) (lnumber_1 : number_1.length ≤ LIMS) {r : (List UInt8)} (hF : calqueref15_Text N x_0 number_1 = some r) (hG : Glob u) (ok : Ok u m0 S w) :
    Calls Tryd.prog 25 [.agg vx_0.toArray, Value.string (bs number_1)].toArray w fun e w' => (e = .returned (.string (bs r)) ∧ Ok u m0 S w') ∧ r.length ≤ LIMS := by
  obtain ⟨rfl, l1, l2, l3, l4, r5, r6⟩ := hx_0
  have hb0 := ok.base
  have le_m0 := Mem.le.refl m0
  unfold calqueref15_Text at hF
  have fin : ∀ a w, calqueref15_Text_R u m0 S r a w → bodyPost Tryd.prog Tryd.f25 (fun e w' => (e = .returned (.string (bs r)) ∧ Ok u m0 S w') ∧ r.length ≤ LIMS) .ret a w := by
    intro a w h
    obtain ⟨ok, hd, hrv, h0⟩ := h
    exact c_ret2 [.t 4 (.string (bs r))] hd rfl hrv ⟨⟨rfl, ok⟩, h0⟩
  refine enter Tryd.func25 rfl rfl rfl fun a E => ?_
  refine wp_seq ?_
  refine c_region ?_
  refine l_box E ok rfl rfl rfl fun b7 a w E ok => ?_
  refine l_val E ok (y_assign rfl) rfl rfl fun a E => ?_
  refine wpList_nil ?_
  refine t_norm ?_
  refine wp_seq ?_
  refine c_region ?_
  refine l_val E ok (y_move rfl) rfl rfl fun a E => ?_
  obtain ⟨r8, e9, hF⟩ := bnd hF
  refine l_call E go_28 rfl (calqueref07_Split_w N number_1 lnumber_1 e9 hG ok) rfl rfl ?_
  rintro _ w ⟨m10, vs11, rfl, hle, ok, h12⟩
  have le_m0 := le_m0.trans hle
  obtain ⟨rfl, l13, l14⟩ := h12
  refine ⟨_, rfl, fun a E => ?_⟩
  refine l_val E ok (y_move rfl) rfl rfl fun a E => ?_
  refine l_val E ok (y_extract rfl rfl) rfl rfl fun a E => ?_
  refine l_val E ok (y_extract rfl rfl) rfl rfl fun a E => ?_
  refine l_alloc E ok zero_45 rfl rfl fun b15 a w E ok => ?_
  refine l_storeB E ok 0 rfl rfl rfl inf_45 rfl rfl ⟨rfl, rfl, rfl, trivial⟩ rfl rfl fun w ok => ?_
  refine l_val E ok (y_assign rfl) rfl rfl fun a E => ?_
  refine wpList_nil ?_
  refine t_norm ?_
  refine wp_seq ?_
  refine c_region ?_
  refine l_val E ok (y_loadAgg (cs := [(Value.string (bs x_0.Decimal)), (Value.string (bs x_0.Group)), (Value.string (bs x_0.Minus)), (Value.string (bs x_0.Percent)), (Value.int .i64 x_0.Primary), (Value.int .i64 x_0.Secondary)]) agg_23 rfl rfl (Holds.own 1 rfl rfl)) rfl rfl fun a E => ?_
  refine l_val E ok (y_fieldAddr fo_45_1 rfl) rfl rfl fun a E => ?_
  refine l_val E ok (y_load one_9 rfl (Holds.own 0 rfl rfl)) rfl rfl fun a E => ?_
  obtain ⟨r16, e17, hF⟩ := bnd hF
  refine l_call E go_13 rfl (calqueref15_Group_w N _ x_0 ⟨rfl, l1, l2, l3, l4, r5, r6⟩ r8.1.Whole l13 e17 hG ok) rfl rfl ?_
  rintro _ w ⟨⟨rfl, ok⟩, l18⟩
  refine ⟨_, rfl, fun a E => ?_⟩
  refine l_val E ok (y_assign rfl) rfl rfl fun a E => ?_
  refine wpList_nil ?_
  refine t_norm ?_
  refine wp_seq ?_
  refine wp_seq ?_
  refine c_region ?_
  refine l_val E ok (y_fieldAddr fo_45_2 rfl) rfl rfl fun a E => ?_
  refine l_val E ok (y_load one_9 rfl (Holds.own 0 rfl rfl)) rfl rfl fun a E => ?_
  refine l_val E ok (y_sneq rfl rfl) rfl rfl fun a E => ?_
  refine wpList_nil ?_
  refine t_norm ?_
  obtain ⟨o19, hJ, hF⟩ := bnd hF
  refine c_mono (Q' := fun e a w => e = .normal ∧ Ok u m10 ([(b15, Obj.cells [(Value.bool r8.1.Neg), (Value.string (bs r8.1.Whole)), (Value.string (bs r8.1.Frac))].toArray 45 (0, 0))] :: [(b7, Obj.cells [(Value.string (bs x_0.Decimal)), (Value.string (bs x_0.Group)), (Value.string (bs x_0.Minus)), (Value.string (bs x_0.Percent)), (Value.int .i64 x_0.Primary), (Value.int .i64 x_0.Secondary)].toArray 23 (0, 0))] :: S) w ∧ Env 34 a [(2, (Value.pointer (some ⟨b7, 0, none⟩))), (5, (Value.pointer (some ⟨b15, 0, none⟩))), (7, (Value.string (bs o19)))] ∧ o19.length ≤ LIMS) ?_ ?_
  · replace hF := hJ
    clear hJ
    refine c_if E rfl (fun hc21 => ?_) (fun hc21 => ?_)
    rotate_left
    · replace hF := cond_f hc21 hF
      refine wp_skip ?_
      obtain rfl := Option.some.inj hF
      exact ⟨rfl, ⟨ok, E.keep [2, 5, 7], l18⟩⟩
    replace hF := cond_t hc21 hF
    refine c_region ?_
    refine l_val E ok (y_move rfl) rfl rfl fun a E => ?_
    refine l_val E ok (y_fieldAddr fo_23_0 rfl) rfl rfl fun a E => ?_
    refine l_val E ok (y_load one_9 rfl (Holds.own 1 rfl rfl)) rfl rfl fun a E => ?_
    refine l_val E ok (y_fieldAddr fo_45_2 rfl) rfl rfl fun a E => ?_
    refine l_val E ok (y_load one_9 rfl (Holds.own 0 rfl rfl)) rfl rfl fun a E => ?_
    obtain ⟨s22, e23, hF⟩ := bnd hF
    refine l_val E ok (y_cat rfl rfl e23) rfl rfl fun a E => ?_
    obtain ⟨s24, e25, hF⟩ := bnd hF
    refine l_val E ok (y_cat rfl rfl e25) rfl rfl fun a E => ?_
    refine l_val E ok (y_assign rfl) rfl rfl fun a E => ?_
    refine wpList_nil ?_
    obtain rfl := Option.some.inj hF
    exact ⟨rfl, ⟨ok, E.keep [2, 5, 7], (cat_len e25)⟩⟩
  clear hJ
  intro e a w hO
  obtain ⟨rfl, ok, E, l26⟩ := hO
  refine t_norm ?_
  refine wp_seq ?_
  refine wp_seq ?_
  refine c_region ?_
  refine l_val E ok (y_fieldAddr fo_45_0 rfl) rfl rfl fun a E => ?_
  refine l_val E ok (y_load one_4 rfl (Holds.own 0 rfl rfl)) rfl rfl fun a E => ?_
  refine wpList_nil ?_
  refine t_norm ?_
  refine c_if E rfl (fun hc27 => ?_) (fun hc27 => ?_)
  rotate_left
  · replace hF := cond_f hc27 hF
    refine wp_skip ?_
    refine t_norm ?_
    refine wp_seq ?_
    refine c_region ?_
    refine l_val E ok (y_move rfl) rfl rfl fun a E => ?_
    refine l_val E ok (y_assign rfl) rfl rfl fun a E => ?_
    refine wpList_nil ?_
    refine t_norm ?_
    refine wp_ret ?_
    have hret : calqueref15_Text_R u m0 S o19 a w := ⟨(ok.drop.drop).down hb0 le_m0, E.d, ⟨rv_t E rfl, trivial⟩, l26⟩
    obtain rfl := Option.some.inj hF
    exact fin _ _ hret
  replace hF := cond_t hc27 hF
  refine c_region ?_
  refine l_val E ok (y_fieldAddr fo_23_2 rfl) rfl rfl fun a E => ?_
  refine l_val E ok (y_load one_9 rfl (Holds.own 1 rfl rfl)) rfl rfl fun a E => ?_
  refine l_val E ok (y_move rfl) rfl rfl fun a E => ?_
  obtain ⟨s28, e29, hF⟩ := bnd hF
  refine l_val E ok (y_cat rfl rfl e29) rfl rfl fun a E => ?_
  refine l_val E ok (y_assign rfl) rfl rfl fun a E => ?_
  refine wpList_nil ?_
  refine t_norm ?_
  refine wp_seq ?_
  refine c_region ?_
  refine l_val E ok (y_move rfl) rfl rfl fun a E => ?_
  refine l_val E ok (y_assign rfl) rfl rfl fun a E => ?_
  refine wpList_nil ?_
  refine t_norm ?_
  refine wp_ret ?_
  have hret : calqueref15_Text_R u m0 S s28 a w := ⟨(ok.drop.drop).down hb0 le_m0, E.d, ⟨rv_t E rfl, trivial⟩, (cat_len e29)⟩
  obtain rfl := Option.some.inj hF
  exact fin _ _ hret

def calqueref15_Format_R (u : World) (m0 : Mem) (S : Segs) (r : (List UInt8) × Int) (a : Act) (w : World) : Prop :=
  Ok u m0 S w ∧ a.defers = [] ∧ RVs Tryd.prog a w [.t 6 (.string (bs r.1)), .t 7 (.int .i64 r.2)] ∧ r.1.length ≤ LIMS ∧ InR .i64 r.2
set_option maxHeartbeats 4000000 in
set_option maxRecDepth 100000 in
theorem calqueref15_Format_w {u : World} {m0 : Mem} {S : Segs} {w : World} (N : Nat) (vloc_0 : List Value) (loc_0 : Locale) (hloc_0 : pLocale m0 vloc_0 loc_0) (number_1 : List UInt8) (lnumber_1 : number_1.length ≤ LIMS) (style_2 : List UInt8) (lstyle_2 : style_2.length ≤ LIMS) {r : (List UInt8) × Int} (hF : calqueref15_Format N loc_0 number_1 style_2 = some r) (hG : Glob u) (ok : Ok u m0 S w) :
    Calls Tryd.prog 11 [.agg vloc_0.toArray, Value.string (bs number_1), Value.string (bs style_2)].toArray w fun e w' => (e = .returned (.tuple [(.string (bs r.1)), (.int .i64 r.2)].toArray) ∧ Ok u m0 S w') ∧ r.1.length ≤ LIMS ∧ InR .i64 r.2 := by
  obtain ⟨c4, c6, c14, c16, c18, c20, c22, rfl, l1, l2, l3, h5, h7, l8, l9, l10, l11, r12, r13, h15, h17, h19, h21, h23⟩ := hloc_0
  have hb0 := ok.base
  have le_m0 := Mem.le.refl m0
  unfold calqueref15_Format at hF
  have fin : ∀ a w, calqueref15_Format_R u m0 S r a w → bodyPost Tryd.prog Tryd.f11 (fun e w' => (e = .returned (.tuple [(.string (bs r.1)), (.int .i64 r.2)].toArray) ∧ Ok u m0 S w') ∧ r.1.length ≤ LIMS ∧ InR .i64 r.2) .ret a w := by
    intro a w h
    obtain ⟨ok, hd, hrv, h0, h1⟩ := h
    exact c_ret2 [.t 6 (.string (bs r.1)), .t 7 (.int .i64 r.2)] hd rfl hrv ⟨⟨rfl, ok⟩, h0, h1⟩
  refine enter Tryd.func11 rfl rfl rfl fun a E => ?_
  refine wp_seq ?_
  refine c_region ?_
  refine l_box E ok rfl rfl rfl fun b24 a w E ok => ?_
  refine l_val E ok (y_assign rfl) rfl rfl fun a E => ?_
  refine l_val E ok (y_assign rfl) rfl rfl fun a E => ?_
  refine wpList_nil ?_
  refine t_norm ?_
  refine wp_seq ?_
  refine wp_seq ?_
  refine c_region ?_
  refine l_val E ok (y_move rfl) rfl rfl fun a E => ?_
  obtain ⟨r25, e26, hF⟩ := bnd hF
  refine l_call E go_14 rfl (calqueref07_Valid_w N number_1 lnumber_1 e26 hG ok) rfl rfl ?_
  rintro _ w ⟨rfl, ok⟩
  refine ⟨_, rfl, fun a E => ?_⟩
  refine l_val E ok (y_not rfl) rfl rfl fun a E => ?_
  refine l_val E ok (y_move rfl) rfl rfl fun a E => ?_
  refine bsplit (!r25) (fun hc27 => ?_) (fun hc27 => ?_)
  · replace hF := cond_t hc27 hF
    replace E := E.upd 13 hc27 rfl
    refine l_skip E rfl rfl fun a E => ?_
    refine l_skip E rfl rfl fun a E => ?_
    refine l_skip E rfl rfl fun a E => ?_
    refine l_skip E rfl rfl fun a E => ?_
    refine l_skip E rfl rfl fun a E => ?_
    refine l_skip E rfl rfl fun a E => ?_
    refine l_skip E rfl rfl fun a E => ?_
    refine l_skip E rfl rfl fun a E => ?_
    refine l_skip E rfl rfl fun a E => ?_
    refine l_skip E rfl rfl fun a E => ?_
    refine l_val E ok (y_pickT rfl rfl) rfl rfl fun a E => ?_
    refine wpList_nil ?_
    refine t_norm ?_
    refine c_if E rfl (fun _ => ?_) (fun h => by cases h)
    refine wp_seq ?_
    refine c_region ?_
    refine l_val E ok (y_assign rfl) rfl rfl fun a E => ?_
    refine l_val E ok (y_assign rfl) rfl rfl fun a E => ?_
    refine wpList_nil ?_
    refine t_norm ?_
    refine wp_ret ?_
    refine t_ret ?_
    have hret : calqueref15_Format_R u m0 S ([], 1) a w := ⟨ok.drop, E.d, ⟨rv_t E rfl, rv_t E rfl, trivial⟩, (show ([] : List UInt8).length ≤ LIMS by decide), (show InR .i64 (1) by decide)⟩
    obtain rfl := Option.some.inj hF
    exact fin _ _ hret
  replace hF := cond_f hc27 hF
  replace E := E.upd 13 hc27 rfl
  refine l_val E ok (y_move rfl) rfl rfl fun a E => ?_
  refine l_val E ok (y_sneq rfl rfl) rfl rfl fun a E => ?_
  refine l_val E ok (y_move rfl) rfl rfl fun a E => ?_
  refine bsplit (style_2 != ([])) (fun hc28 => ?_) (fun hc28 => ?_)
  rotate_left
  · as_aux_lemma =>
      replace hF := cond_f hc28 hF
      replace E := E.upd 16 hc28 rfl
      refine l_skip E rfl rfl fun a E => ?_
      refine l_skip E rfl rfl fun a E => ?_
      refine l_val E ok (y_pickF rfl rfl) rfl rfl fun a E => ?_
      refine l_val E ok (y_move rfl) rfl rfl fun a E => ?_
      refine l_skip E rfl rfl fun a E => ?_
      refine l_skip E rfl rfl fun a E => ?_
      refine l_val E ok (y_pickF rfl rfl) rfl rfl fun a E => ?_
      refine l_val E ok (y_pickF rfl rfl) rfl rfl fun a E => ?_
      refine wpList_nil ?_
      refine t_norm ?_
      refine c_if E rfl (fun h => by cases h) (fun _ => ?_)
      refine wp_skip ?_
      refine t_norm ?_
      refine wp_seq ?_
      refine wp_seq ?_
      refine c_region ?_
      refine l_val E ok (y_fieldAddr fo_35_5 rfl) rfl rfl fun a E => ?_
      refine l_val E ok (y_fieldAddr fo_23_0 rfl) rfl rfl fun a E => ?_
      refine l_val E ok (y_load one_9 rfl (Holds.own 0 rfl rfl)) rfl rfl fun a E => ?_
      refine l_val E ok (y_seql rfl rfl) rfl rfl fun a E => ?_
      refine wpList_nil ?_
      refine t_norm ?_
      refine c_if E rfl (fun hc79 => ?_) (fun hc79 => ?_)
      · replace hF := cond_t hc79 hF
        refine wp_seq ?_
        refine c_region ?_
        refine l_val E ok (y_assign rfl) rfl rfl fun a E => ?_
        refine l_val E ok (y_assign rfl) rfl rfl fun a E => ?_
        refine wpList_nil ?_
        refine t_norm ?_
        refine wp_ret ?_
        refine t_ret ?_
        have hret : calqueref15_Format_R u m0 S ([], 18) a w := ⟨ok.drop, E.d, ⟨rv_t E rfl, rv_t E rfl, trivial⟩, (show ([] : List UInt8).length ≤ LIMS by decide), (show InR .i64 (18) by decide)⟩
        obtain rfl := Option.some.inj hF
        exact fin _ _ hret
      replace hF := cond_f hc79 hF
      refine wp_skip ?_
      refine t_norm ?_
      refine wp_seq ?_
      refine c_region ?_
      refine l_val E ok (y_assign rfl) rfl rfl fun a E => ?_
      refine wpList_nil ?_
      refine t_norm ?_
      refine wp_seq ?_
      refine c_region ?_
      refine l_val E ok (y_assign rfl) rfl rfl fun a E => ?_
      refine wpList_nil ?_
      refine t_norm ?_
      refine wp_seq ?_
      refine wp_seq ?_
      refine c_region ?_
      refine l_val E ok (y_move rfl) rfl rfl fun a E => ?_
      refine wpList_nil ?_
      refine t_norm ?_
      refine wp_block ?_
      refine wp_seq ?_
      refine c_region ?_
      refine l_val E ok (y_seql rfl rfl) rfl rfl fun a E => ?_
      refine l_val E ok (y_assign rfl) rfl rfl fun a E => ?_
      refine wpList_nil ?_
      refine t_norm ?_
      obtain ⟨o80, hJ, hF⟩ := bnd hF
      refine c_mono (Q' := fun e a w => e = .normal ∧ Ok u m0 ([(b24, Obj.cells [(Value.string (bs loc_0.Tag)), (Value.string (bs loc_0.Parent)), (Value.string (bs loc_0.Direction)), c4, c6, (Value.string (bs loc_0.Symbols.Decimal)), (Value.string (bs loc_0.Symbols.Group)), (Value.string (bs loc_0.Symbols.Minus)), (Value.string (bs loc_0.Symbols.Percent)), (Value.int .i64 loc_0.Symbols.Primary), (Value.int .i64 loc_0.Symbols.Secondary), c14, c16, c18, c20, c22].toArray 35 (0, 0))] :: S) w ∧ Env 56 a [(1, (Value.string (bs o80.1))), (3, (Value.pointer (some ⟨b24, 0, none⟩))), (8, (Value.int .i64 o80.2.1)), (9, (Value.string (bs o80.2.2)))] ∧ o80.1.length ≤ LIMS ∧ InR .i64 o80.2.1 ∧ o80.2.2.length ≤ LIMS) ?_ ?_
      rotate_left
      · clear hJ
        intro e a w hO
        obtain ⟨rfl, ok, E, l94, r95, l96⟩ := hO
        refine b_norm ?_
        refine t_norm ?_
        refine wp_seq ?_
        refine wp_seq ?_
        refine c_region ?_
        refine l_val E ok (y_move rfl) rfl rfl fun a E => ?_
        refine l_val E ok (y_neq rfl rfl) rfl rfl fun a E => ?_
        refine wpList_nil ?_
        refine t_norm ?_
        refine c_if E rfl (fun hc97 => ?_) (fun hc97 => ?_)
        · replace hF := cond_t hc97 hF
          refine wp_seq ?_
          refine c_region ?_
          refine l_val E ok (y_move rfl) rfl rfl fun a E => ?_
          refine l_val E ok (y_assign rfl) rfl rfl fun a E => ?_
          refine l_val E ok (y_assign rfl) rfl rfl fun a E => ?_
          refine wpList_nil ?_
          refine t_norm ?_
          refine wp_ret ?_
          refine t_ret ?_
          have hret : calqueref15_Format_R u m0 S ([], o80.2.1) a w := ⟨ok.drop, E.d, ⟨rv_t E rfl, rv_t E rfl, trivial⟩, (show ([] : List UInt8).length ≤ LIMS by decide), r95⟩
          obtain rfl := Option.some.inj hF
          exact fin _ _ hret
        replace hF := cond_f hc97 hF
        refine wp_skip ?_
        refine t_norm ?_
        refine wp_seq ?_
        refine c_region ?_
        refine l_val E ok (y_fieldAddr fo_35_5 rfl) rfl rfl fun a E => ?_
        refine l_val E ok (y_loadAgg (cs := [(Value.string (bs loc_0.Symbols.Decimal)), (Value.string (bs loc_0.Symbols.Group)), (Value.string (bs loc_0.Symbols.Minus)), (Value.string (bs loc_0.Symbols.Percent)), (Value.int .i64 loc_0.Symbols.Primary), (Value.int .i64 loc_0.Symbols.Secondary)]) agg_23 rfl rfl (Holds.own 0 rfl rfl)) rfl rfl fun a E => ?_
        refine l_val E ok (y_move rfl) rfl rfl fun a E => ?_
        obtain ⟨r98, e99, hF⟩ := bnd hF
        refine l_call E go_25 rfl (calqueref15_Text_w N _ loc_0.Symbols ⟨rfl, l8, l9, l10, l11, r12, r13⟩ o80.1 l94 e99 hG ok) rfl rfl ?_
        rintro _ w ⟨⟨rfl, ok⟩, l100⟩
        refine ⟨_, rfl, fun a E => ?_⟩
        refine l_val E ok (y_move rfl) rfl rfl fun a E => ?_
        obtain ⟨s101, e102, hF⟩ := bnd hF
        refine l_val E ok (y_cat rfl rfl e102) rfl rfl fun a E => ?_
        refine l_val E ok (y_assign rfl) rfl rfl fun a E => ?_
        refine l_val E ok (y_assign rfl) rfl rfl fun a E => ?_
        refine wpList_nil ?_
        refine t_norm ?_
        refine wp_ret ?_
        have hret : calqueref15_Format_R u m0 S (s101, 0) a w := ⟨ok.drop, E.d, ⟨rv_t E rfl, rv_t E rfl, trivial⟩, (cat_len e102), (show InR .i64 (0) by decide)⟩
        obtain rfl := Option.some.inj hF
        exact fin _ _ hret
      replace hF := hJ
      clear hJ
      refine c_if E rfl (fun hc84 => ?_) (fun hc84 => ?_)
      · replace hF := cond_t hc84 hF
        refine c_region ?_
        refine l_val E ok (y_move rfl) rfl rfl fun a E => ?_
        obtain ⟨r85, e86, hF⟩ := bnd hF
        refine l_call E go_15 rfl (calqueref07_Round_w N number_1 lnumber_1 0 (show InR .i64 (0) by decide) e86 hG ok) rfl rfl ?_
        rintro _ w ⟨⟨rfl, ok⟩, l87, r88⟩
        refine ⟨_, rfl, fun a E => ?_⟩
        refine l_val E ok (y_move rfl) rfl rfl fun a E => ?_
        refine l_val E ok (y_extract rfl rfl) rfl rfl fun a E => ?_
        refine l_val E ok (y_extract rfl rfl) rfl rfl fun a E => ?_
        refine l_val E ok (y_assign rfl) rfl rfl fun a E => ?_
        refine l_val E ok (y_assign rfl) rfl rfl fun a E => ?_
        refine wpList_nil ?_
        obtain rfl := Option.some.inj hF
        exact ⟨rfl, ⟨ok, E.keep [1, 3, 8, 9], l87, r88, (show ([] : List UInt8).length ≤ LIMS by decide)⟩⟩
      replace hF := cond_f hc84 hF
      refine wp_seq ?_
      refine c_region ?_
      refine l_val E ok (y_seql rfl rfl) rfl rfl fun a E => ?_
      refine l_val E ok (y_assign rfl) rfl rfl fun a E => ?_
      refine wpList_nil ?_
      refine t_norm ?_
      refine c_if E rfl (fun hc89 => ?_) (fun hc89 => ?_)
      rotate_left
      · replace hF := cond_f hc89 hF
        refine wp_skip ?_
        obtain rfl := Option.some.inj hF
        exact ⟨rfl, ⟨ok, E.keep [1, 3, 8, 9], lnumber_1, (show InR .i64 (0) by decide), (show ([] : List UInt8).length ≤ LIMS by decide)⟩⟩
      replace hF := cond_t hc89 hF
      refine wp_seq ?_
      refine c_region ?_
      refine l_val E ok (y_move rfl) rfl rfl fun a E => ?_
      obtain ⟨r90, e91, hF⟩ := bnd hF
      refine l_call E go_16 rfl (calqueref07_Shift_w N number_1 lnumber_1 2 (show InR .i64 (2) by decide) e91 hG ok) rfl rfl ?_
      rintro _ w ⟨⟨rfl, ok⟩, l92, r93⟩
      refine ⟨_, rfl, fun a E => ?_⟩
      refine l_val E ok (y_move rfl) rfl rfl fun a E => ?_
      refine l_val E ok (y_extract rfl rfl) rfl rfl fun a E => ?_
      refine l_val E ok (y_extract rfl rfl) rfl rfl fun a E => ?_
      refine l_val E ok (y_assign rfl) rfl rfl fun a E => ?_
      refine l_val E ok (y_assign rfl) rfl rfl fun a E => ?_
      refine wpList_nil ?_
      refine t_norm ?_
      refine c_region ?_
      refine l_val E ok (y_fieldAddr fo_35_5 rfl) rfl rfl fun a E => ?_
      refine l_val E ok (y_fieldAddr fo_23_3 rfl) rfl rfl fun a E => ?_
      refine l_val E ok (y_load one_9 rfl (Holds.own 0 rfl rfl)) rfl rfl fun a E => ?_
      refine l_val E ok (y_assign rfl) rfl rfl fun a E => ?_
      refine wpList_nil ?_
      obtain rfl := Option.some.inj hF
      exact ⟨rfl, ⟨ok, E.keep [1, 3, 8, 9], l92, r93, l11⟩⟩
  replace hF := cond_t hc28 hF
  replace E := E.upd 16 hc28 rfl
  refine l_val E ok (y_move rfl) rfl rfl fun a E => ?_
  refine l_val E ok (y_sneq rfl rfl) rfl rfl fun a E => ?_
  refine l_val E ok (y_pickT rfl rfl) rfl rfl fun a E => ?_
  refine l_val E ok (y_move rfl) rfl rfl fun a E => ?_
  refine bsplit (style_2 != ([105, 110, 116, 101, 103, 101, 114])) (fun hc29 => ?_) (fun hc29 => ?_)
  rotate_left
  · as_aux_lemma =>
      replace hF := cond_f hc29 hF
      replace E := E.upd 20 hc29 rfl
      refine l_skip E rfl rfl fun a E => ?_
      refine l_skip E rfl rfl fun a E => ?_
      refine l_val E ok (y_pickF rfl rfl) rfl rfl fun a E => ?_
      refine l_val E ok (y_pickF rfl rfl) rfl rfl fun a E => ?_
      refine wpList_nil ?_
      refine t_norm ?_
      refine c_if E rfl (fun h => by cases h) (fun _ => ?_)
      refine wp_skip ?_
      refine t_norm ?_
      refine wp_seq ?_
      refine wp_seq ?_
      refine c_region ?_
      refine l_val E ok (y_fieldAddr fo_35_5 rfl) rfl rfl fun a E => ?_
      refine l_val E ok (y_fieldAddr fo_23_0 rfl) rfl rfl fun a E => ?_
      refine l_val E ok (y_load one_9 rfl (Holds.own 0 rfl rfl)) rfl rfl fun a E => ?_
      refine l_val E ok (y_seql rfl rfl) rfl rfl fun a E => ?_
      refine wpList_nil ?_
      refine t_norm ?_
      refine c_if E rfl (fun hc55 => ?_) (fun hc55 => ?_)
      · replace hF := cond_t hc55 hF
        refine wp_seq ?_
        refine c_region ?_
        refine l_val E ok (y_assign rfl) rfl rfl fun a E => ?_
        refine l_val E ok (y_assign rfl) rfl rfl fun a E => ?_
        refine wpList_nil ?_
        refine t_norm ?_
        refine wp_ret ?_
        refine t_ret ?_
        have hret : calqueref15_Format_R u m0 S ([], 18) a w := ⟨ok.drop, E.d, ⟨rv_t E rfl, rv_t E rfl, trivial⟩, (show ([] : List UInt8).length ≤ LIMS by decide), (show InR .i64 (18) by decide)⟩
        obtain rfl := Option.some.inj hF
        exact fin _ _ hret
      replace hF := cond_f hc55 hF
      refine wp_skip ?_
      refine t_norm ?_
      refine wp_seq ?_
      refine c_region ?_
      refine l_val E ok (y_assign rfl) rfl rfl fun a E => ?_
      refine wpList_nil ?_
      refine t_norm ?_
      refine wp_seq ?_
      refine c_region ?_
      refine l_val E ok (y_assign rfl) rfl rfl fun a E => ?_
      refine wpList_nil ?_
      refine t_norm ?_
      refine wp_seq ?_
      refine wp_seq ?_
      refine c_region ?_
      refine l_val E ok (y_move rfl) rfl rfl fun a E => ?_
      refine wpList_nil ?_
      refine t_norm ?_
      refine wp_block ?_
      refine wp_seq ?_
      refine c_region ?_
      refine l_val E ok (y_seql rfl rfl) rfl rfl fun a E => ?_
      refine l_val E ok (y_assign rfl) rfl rfl fun a E => ?_
      refine wpList_nil ?_
      refine t_norm ?_
      obtain ⟨o56, hJ, hF⟩ := bnd hF
      refine c_mono (Q' := fun e a w => e = .normal ∧ Ok u m0 ([(b24, Obj.cells [(Value.string (bs loc_0.Tag)), (Value.string (bs loc_0.Parent)), (Value.string (bs loc_0.Direction)), c4, c6, (Value.string (bs loc_0.Symbols.Decimal)), (Value.string (bs loc_0.Symbols.Group)), (Value.string (bs loc_0.Symbols.Minus)), (Value.string (bs loc_0.Symbols.Percent)), (Value.int .i64 loc_0.Symbols.Primary), (Value.int .i64 loc_0.Symbols.Secondary), c14, c16, c18, c20, c22].toArray 35 (0, 0))] :: S) w ∧ Env 56 a [(1, (Value.string (bs o56.1))), (3, (Value.pointer (some ⟨b24, 0, none⟩))), (8, (Value.int .i64 o56.2.1)), (9, (Value.string (bs o56.2.2)))] ∧ o56.1.length ≤ LIMS ∧ InR .i64 o56.2.1 ∧ o56.2.2.length ≤ LIMS) ?_ ?_
      rotate_left
      · clear hJ
        intro e a w hO
        obtain ⟨rfl, ok, E, l70, r71, l72⟩ := hO
        refine b_norm ?_
        refine t_norm ?_
        refine wp_seq ?_
        refine wp_seq ?_
        refine c_region ?_
        refine l_val E ok (y_move rfl) rfl rfl fun a E => ?_
        refine l_val E ok (y_neq rfl rfl) rfl rfl fun a E => ?_
        refine wpList_nil ?_
        refine t_norm ?_
        refine c_if E rfl (fun hc73 => ?_) (fun hc73 => ?_)
        · replace hF := cond_t hc73 hF
          refine wp_seq ?_
          refine c_region ?_
          refine l_val E ok (y_move rfl) rfl rfl fun a E => ?_
          refine l_val E ok (y_assign rfl) rfl rfl fun a E => ?_
          refine l_val E ok (y_assign rfl) rfl rfl fun a E => ?_
          refine wpList_nil ?_
          refine t_norm ?_
          refine wp_ret ?_
          refine t_ret ?_
          have hret : calqueref15_Format_R u m0 S ([], o56.2.1) a w := ⟨ok.drop, E.d, ⟨rv_t E rfl, rv_t E rfl, trivial⟩, (show ([] : List UInt8).length ≤ LIMS by decide), r71⟩
          obtain rfl := Option.some.inj hF
          exact fin _ _ hret
        replace hF := cond_f hc73 hF
        refine wp_skip ?_
        refine t_norm ?_
        refine wp_seq ?_
        refine c_region ?_
        refine l_val E ok (y_fieldAddr fo_35_5 rfl) rfl rfl fun a E => ?_
        refine l_val E ok (y_loadAgg (cs := [(Value.string (bs loc_0.Symbols.Decimal)), (Value.string (bs loc_0.Symbols.Group)), (Value.string (bs loc_0.Symbols.Minus)), (Value.string (bs loc_0.Symbols.Percent)), (Value.int .i64 loc_0.Symbols.Primary), (Value.int .i64 loc_0.Symbols.Secondary)]) agg_23 rfl rfl (Holds.own 0 rfl rfl)) rfl rfl fun a E => ?_
        refine l_val E ok (y_move rfl) rfl rfl fun a E => ?_
        obtain ⟨r74, e75, hF⟩ := bnd hF
        refine l_call E go_25 rfl (calqueref15_Text_w N _ loc_0.Symbols ⟨rfl, l8, l9, l10, l11, r12, r13⟩ o56.1 l70 e75 hG ok) rfl rfl ?_
        rintro _ w ⟨⟨rfl, ok⟩, l76⟩
        refine ⟨_, rfl, fun a E => ?_⟩
        refine l_val E ok (y_move rfl) rfl rfl fun a E => ?_
        obtain ⟨s77, e78, hF⟩ := bnd hF
        refine l_val E ok (y_cat rfl rfl e78) rfl rfl fun a E => ?_
        refine l_val E ok (y_assign rfl) rfl rfl fun a E => ?_
        refine l_val E ok (y_assign rfl) rfl rfl fun a E => ?_
        refine wpList_nil ?_
        refine t_norm ?_
        refine wp_ret ?_
        have hret : calqueref15_Format_R u m0 S (s77, 0) a w := ⟨ok.drop, E.d, ⟨rv_t E rfl, rv_t E rfl, trivial⟩, (cat_len e78), (show InR .i64 (0) by decide)⟩
        obtain rfl := Option.some.inj hF
        exact fin _ _ hret
      replace hF := hJ
      clear hJ
      refine c_if E rfl (fun hc60 => ?_) (fun hc60 => ?_)
      · replace hF := cond_t hc60 hF
        refine c_region ?_
        refine l_val E ok (y_move rfl) rfl rfl fun a E => ?_
        obtain ⟨r61, e62, hF⟩ := bnd hF
        refine l_call E go_15 rfl (calqueref07_Round_w N number_1 lnumber_1 0 (show InR .i64 (0) by decide) e62 hG ok) rfl rfl ?_
        rintro _ w ⟨⟨rfl, ok⟩, l63, r64⟩
        refine ⟨_, rfl, fun a E => ?_⟩
        refine l_val E ok (y_move rfl) rfl rfl fun a E => ?_
        refine l_val E ok (y_extract rfl rfl) rfl rfl fun a E => ?_
        refine l_val E ok (y_extract rfl rfl) rfl rfl fun a E => ?_
        refine l_val E ok (y_assign rfl) rfl rfl fun a E => ?_
        refine l_val E ok (y_assign rfl) rfl rfl fun a E => ?_
        refine wpList_nil ?_
        obtain rfl := Option.some.inj hF
        exact ⟨rfl, ⟨ok, E.keep [1, 3, 8, 9], l63, r64, (show ([] : List UInt8).length ≤ LIMS by decide)⟩⟩
      replace hF := cond_f hc60 hF
      refine wp_seq ?_
      refine c_region ?_
      refine l_val E ok (y_seql rfl rfl) rfl rfl fun a E => ?_
      refine l_val E ok (y_assign rfl) rfl rfl fun a E => ?_
      refine wpList_nil ?_
      refine t_norm ?_
      refine c_if E rfl (fun hc65 => ?_) (fun hc65 => ?_)
      rotate_left
      · replace hF := cond_f hc65 hF
        refine wp_skip ?_
        obtain rfl := Option.some.inj hF
        exact ⟨rfl, ⟨ok, E.keep [1, 3, 8, 9], lnumber_1, (show InR .i64 (0) by decide), (show ([] : List UInt8).length ≤ LIMS by decide)⟩⟩
      replace hF := cond_t hc65 hF
      refine wp_seq ?_
      refine c_region ?_
      refine l_val E ok (y_move rfl) rfl rfl fun a E => ?_
      obtain ⟨r66, e67, hF⟩ := bnd hF
      refine l_call E go_16 rfl (calqueref07_Shift_w N number_1 lnumber_1 2 (show InR .i64 (2) by decide) e67 hG ok) rfl rfl ?_
      rintro _ w ⟨⟨rfl, ok⟩, l68, r69⟩
      refine ⟨_, rfl, fun a E => ?_⟩
      refine l_val E ok (y_move rfl) rfl rfl fun a E => ?_
      refine l_val E ok (y_extract rfl rfl) rfl rfl fun a E => ?_
      refine l_val E ok (y_extract rfl rfl) rfl rfl fun a E => ?_
      refine l_val E ok (y_assign rfl) rfl rfl fun a E => ?_
      refine l_val E ok (y_assign rfl) rfl rfl fun a E => ?_
      refine wpList_nil ?_
      refine t_norm ?_
      refine c_region ?_
      refine l_val E ok (y_fieldAddr fo_35_5 rfl) rfl rfl fun a E => ?_
      refine l_val E ok (y_fieldAddr fo_23_3 rfl) rfl rfl fun a E => ?_
      refine l_val E ok (y_load one_9 rfl (Holds.own 0 rfl rfl)) rfl rfl fun a E => ?_
      refine l_val E ok (y_assign rfl) rfl rfl fun a E => ?_
      refine wpList_nil ?_
      obtain rfl := Option.some.inj hF
      exact ⟨rfl, ⟨ok, E.keep [1, 3, 8, 9], l68, r69, l11⟩⟩
  replace hF := cond_t hc29 hF
  replace E := E.upd 20 hc29 rfl
  refine l_val E ok (y_move rfl) rfl rfl fun a E => ?_
  refine l_val E ok (y_sneq rfl rfl) rfl rfl fun a E => ?_
  refine l_val E ok (y_pickT rfl rfl) rfl rfl fun a E => ?_
  refine l_val E ok (y_pickF rfl rfl) rfl rfl fun a E => ?_
  refine wpList_nil ?_
  refine t_norm ?_
  refine c_if E rfl (fun hc30 => ?_) (fun hc30 => ?_)
  · replace hF := cond_t hc30 hF
    refine wp_seq ?_
    refine c_region ?_
    refine l_val E ok (y_assign rfl) rfl rfl fun a E => ?_
    refine l_val E ok (y_assign rfl) rfl rfl fun a E => ?_
    refine wpList_nil ?_
    refine t_norm ?_
    refine wp_ret ?_
    refine t_ret ?_
    have hret : calqueref15_Format_R u m0 S ([], 1) a w := ⟨ok.drop, E.d, ⟨rv_t E rfl, rv_t E rfl, trivial⟩, (show ([] : List UInt8).length ≤ LIMS by decide), (show InR .i64 (1) by decide)⟩
    obtain rfl := Option.some.inj hF
    exact fin _ _ hret
  replace hF := cond_f hc30 hF
  refine wp_skip ?_
  refine t_norm ?_
  refine wp_seq ?_
  refine wp_seq ?_
  refine c_region ?_
  refine l_val E ok (y_fieldAddr fo_35_5 rfl) rfl rfl fun a E => ?_
  refine l_val E ok (y_fieldAddr fo_23_0 rfl) rfl rfl fun a E => ?_
  refine l_val E ok (y_load one_9 rfl (Holds.own 0 rfl rfl)) rfl rfl fun a E => ?_
  refine l_val E ok (y_seql rfl rfl) rfl rfl fun a E => ?_
  refine wpList_nil ?_
  refine t_norm ?_
  refine c_if E rfl (fun hc31 => ?_) (fun hc31 => ?_)
  · replace hF := cond_t hc31 hF
    refine wp_seq ?_
    refine c_region ?_
    refine l_val E ok (y_assign rfl) rfl rfl fun a E => ?_
    refine l_val E ok (y_assign rfl) rfl rfl fun a E => ?_
    refine wpList_nil ?_
    refine t_norm ?_
    refine wp_ret ?_
    refine t_ret ?_
    have hret : calqueref15_Format_R u m0 S ([], 18) a w := ⟨ok.drop, E.d, ⟨rv_t E rfl, rv_t E rfl, trivial⟩, (show ([] : List UInt8).length ≤ LIMS by decide), (show InR .i64 (18) by decide)⟩
    obtain rfl := Option.some.inj hF
    exact fin _ _ hret
  replace hF := cond_f hc31 hF
  refine wp_skip ?_
  refine t_norm ?_
  refine wp_seq ?_
  refine c_region ?_
  refine l_val E ok (y_assign rfl) rfl rfl fun a E => ?_
  refine wpList_nil ?_
  refine t_norm ?_
  refine wp_seq ?_
  refine c_region ?_
  refine l_val E ok (y_assign rfl) rfl rfl fun a E => ?_
  refine wpList_nil ?_
  refine t_norm ?_
  refine wp_seq ?_
  refine wp_seq ?_
  refine c_region ?_
  refine l_val E ok (y_move rfl) rfl rfl fun a E => ?_
  refine wpList_nil ?_
  refine t_norm ?_
  refine wp_block ?_
  refine wp_seq ?_
  refine c_region ?_
  refine l_val E ok (y_seql rfl rfl) rfl rfl fun a E => ?_
  refine l_val E ok (y_assign rfl) rfl rfl fun a E => ?_
  refine wpList_nil ?_
  refine t_norm ?_
  obtain ⟨o32, hJ, hF⟩ := bnd hF
  refine c_mono (Q' := fun e a w => e = .normal ∧ Ok u m0 ([(b24, Obj.cells [(Value.string (bs loc_0.Tag)), (Value.string (bs loc_0.Parent)), (Value.string (bs loc_0.Direction)), c4, c6, (Value.string (bs loc_0.Symbols.Decimal)), (Value.string (bs loc_0.Symbols.Group)), (Value.string (bs loc_0.Symbols.Minus)), (Value.string (bs loc_0.Symbols.Percent)), (Value.int .i64 loc_0.Symbols.Primary), (Value.int .i64 loc_0.Symbols.Secondary), c14, c16, c18, c20, c22].toArray 35 (0, 0))] :: S) w ∧ Env 56 a [(1, (Value.string (bs o32.1))), (3, (Value.pointer (some ⟨b24, 0, none⟩))), (8, (Value.int .i64 o32.2.1)), (9, (Value.string (bs o32.2.2)))] ∧ o32.1.length ≤ LIMS ∧ InR .i64 o32.2.1 ∧ o32.2.2.length ≤ LIMS) ?_ ?_
  rotate_left
  · clear hJ
    intro e a w hO
    obtain ⟨rfl, ok, E, l46, r47, l48⟩ := hO
    refine b_norm ?_
    refine t_norm ?_
    refine wp_seq ?_
    refine wp_seq ?_
    refine c_region ?_
    refine l_val E ok (y_move rfl) rfl rfl fun a E => ?_
    refine l_val E ok (y_neq rfl rfl) rfl rfl fun a E => ?_
    refine wpList_nil ?_
    refine t_norm ?_
    refine c_if E rfl (fun hc49 => ?_) (fun hc49 => ?_)
    · replace hF := cond_t hc49 hF
      refine wp_seq ?_
      refine c_region ?_
      refine l_val E ok (y_move rfl) rfl rfl fun a E => ?_
      refine l_val E ok (y_assign rfl) rfl rfl fun a E => ?_
      refine l_val E ok (y_assign rfl) rfl rfl fun a E => ?_
      refine wpList_nil ?_
      refine t_norm ?_
      refine wp_ret ?_
      refine t_ret ?_
      have hret : calqueref15_Format_R u m0 S ([], o32.2.1) a w := ⟨ok.drop, E.d, ⟨rv_t E rfl, rv_t E rfl, trivial⟩, (show ([] : List UInt8).length ≤ LIMS by decide), r47⟩
      obtain rfl := Option.some.inj hF
      exact fin _ _ hret
    replace hF := cond_f hc49 hF
    refine wp_skip ?_
    refine t_norm ?_
    refine wp_seq ?_
    refine c_region ?_
    refine l_val E ok (y_fieldAddr fo_35_5 rfl) rfl rfl fun a E => ?_
    refine l_val E ok (y_loadAgg (cs := [(Value.string (bs loc_0.Symbols.Decimal)), (Value.string (bs loc_0.Symbols.Group)), (Value.string (bs loc_0.Symbols.Minus)), (Value.string (bs loc_0.Symbols.Percent)), (Value.int .i64 loc_0.Symbols.Primary), (Value.int .i64 loc_0.Symbols.Secondary)]) agg_23 rfl rfl (Holds.own 0 rfl rfl)) rfl rfl fun a E => ?_
    refine l_val E ok (y_move rfl) rfl rfl fun a E => ?_
    obtain ⟨r50, e51, hF⟩ := bnd hF
    refine l_call E go_25 rfl (calqueref15_Text_w N _ loc_0.Symbols ⟨rfl, l8, l9, l10, l11, r12, r13⟩ o32.1 l46 e51 hG ok) rfl rfl ?_
    rintro _ w ⟨⟨rfl, ok⟩, l52⟩
    refine ⟨_, rfl, fun a E => ?_⟩
    refine l_val E ok (y_move rfl) rfl rfl fun a E => ?_
    obtain ⟨s53, e54, hF⟩ := bnd hF
    refine l_val E ok (y_cat rfl rfl e54) rfl rfl fun a E => ?_
    refine l_val E ok (y_assign rfl) rfl rfl fun a E => ?_
    refine l_val E ok (y_assign rfl) rfl rfl fun a E => ?_
    refine wpList_nil ?_
    refine t_norm ?_
    refine wp_ret ?_
    have hret : calqueref15_Format_R u m0 S (s53, 0) a w := ⟨ok.drop, E.d, ⟨rv_t E rfl, rv_t E rfl, trivial⟩, (cat_len e54), (show InR .i64 (0) by decide)⟩
    obtain rfl := Option.some.inj hF
    exact fin _ _ hret
  replace hF := hJ
  clear hJ
  refine c_if E rfl (fun hc36 => ?_) (fun hc36 => ?_)
  · replace hF := cond_t hc36 hF
    refine c_region ?_
    refine l_val E ok (y_move rfl) rfl rfl fun a E => ?_
    obtain ⟨r37, e38, hF⟩ := bnd hF
    refine l_call E go_15 rfl (calqueref07_Round_w N number_1 lnumber_1 0 (show InR .i64 (0) by decide) e38 hG ok) rfl rfl ?_
    rintro _ w ⟨⟨rfl, ok⟩, l39, r40⟩
    refine ⟨_, rfl, fun a E => ?_⟩
    refine l_val E ok (y_move rfl) rfl rfl fun a E => ?_
    refine l_val E ok (y_extract rfl rfl) rfl rfl fun a E => ?_
    refine l_val E ok (y_extract rfl rfl) rfl rfl fun a E => ?_
    refine l_val E ok (y_assign rfl) rfl rfl fun a E => ?_
    refine l_val E ok (y_assign rfl) rfl rfl fun a E => ?_
    refine wpList_nil ?_
    obtain rfl := Option.some.inj hF
    exact ⟨rfl, ⟨ok, E.keep [1, 3, 8, 9], l39, r40, (show ([] : List UInt8).length ≤ LIMS by decide)⟩⟩
  replace hF := cond_f hc36 hF
  refine wp_seq ?_
  refine c_region ?_
  refine l_val E ok (y_seql rfl rfl) rfl rfl fun a E => ?_
  refine l_val E ok (y_assign rfl) rfl rfl fun a E => ?_
  refine wpList_nil ?_
  refine t_norm ?_
  refine c_if E rfl (fun hc41 => ?_) (fun hc41 => ?_)
  rotate_left
  · replace hF := cond_f hc41 hF
    refine wp_skip ?_
    obtain rfl := Option.some.inj hF
    exact ⟨rfl, ⟨ok, E.keep [1, 3, 8, 9], lnumber_1, (show InR .i64 (0) by decide), (show ([] : List UInt8).length ≤ LIMS by decide)⟩⟩
  replace hF := cond_t hc41 hF
  refine wp_seq ?_
  refine c_region ?_
  refine l_val E ok (y_move rfl) rfl rfl fun a E => ?_
  obtain ⟨r42, e43, hF⟩ := bnd hF
  refine l_call E go_16 rfl (calqueref07_Shift_w N number_1 lnumber_1 2 (show InR .i64 (2) by decide) e43 hG ok) rfl rfl ?_
  rintro _ w ⟨⟨rfl, ok⟩, l44, r45⟩
  refine ⟨_, rfl, fun a E => ?_⟩
  refine l_val E ok (y_move rfl) rfl rfl fun a E => ?_
  refine l_val E ok (y_extract rfl rfl) rfl rfl fun a E => ?_
  refine l_val E ok (y_extract rfl rfl) rfl rfl fun a E => ?_
  refine l_val E ok (y_assign rfl) rfl rfl fun a E => ?_
  refine l_val E ok (y_assign rfl) rfl rfl fun a E => ?_
  refine wpList_nil ?_
  refine t_norm ?_
  refine c_region ?_
  refine l_val E ok (y_fieldAddr fo_35_5 rfl) rfl rfl fun a E => ?_
  refine l_val E ok (y_fieldAddr fo_23_3 rfl) rfl rfl fun a E => ?_
  refine l_val E ok (y_load one_9 rfl (Holds.own 0 rfl rfl)) rfl rfl fun a E => ?_
  refine l_val E ok (y_assign rfl) rfl rfl fun a E => ?_
  refine wpList_nil ?_
  obtain rfl := Option.some.inj hF
  exact ⟨rfl, ⟨ok, E.keep [1, 3, 8, 9], l44, r45, l11⟩⟩

end Go.Proofs.YthecjdgffboedaaDoor
