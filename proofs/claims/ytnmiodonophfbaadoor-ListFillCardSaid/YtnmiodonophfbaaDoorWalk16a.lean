/- The walks of this part: the model's run of each function yields what the plain function says. Printed by gen.py. -/
import Derived.Test.YtnmiodonophfbaaDoorExt16a
import Derived.Test.YtnmiodonophfbaaDoorWalk16t
import Derived.Test.YtnmiodonophfbaaDoorWalk16u
import Derived.Test.YtnmiodonophfbaaDoorChecked
import Derived.Test.YtnmiodonophfbaaDoorShelf
set_option linter.unusedVariables false
namespace Go.Proofs.YtnmiodonophfbaaDoor
open Go.X

def pArr9_Int : Rp Arr9_Int := fun _ cs x => cs = [.int .i64 x.e0, .int .i64 x.e1, .int .i64 x.e2, .int .i64 x.e3, .int .i64 x.e4, .int .i64 x.e5, .int .i64 x.e6, .int .i64 x.e7, .int .i64 x.e8] ∧ InR .i64 x.e0 ∧ InR .i64 x.e1 ∧ InR .i64 x.e2 ∧ InR .i64 x.e3 ∧ InR .i64 x.e4 ∧ InR .i64 x.e5 ∧ InR .i64 x.e6 ∧ InR .i64 x.e7 ∧ InR .i64 x.e8
theorem mArr9_Int : Mono pArr9_Int := ⟨fun _ h => by
  obtain ⟨e, h0, h1, h2, h3, h4, h5, h6, h7, h8⟩ := h
  exact ⟨e, h0, h1, h2, h3, h4, h5, h6, h7, h8⟩, fun h => by
  obtain ⟨rfl, h0, h1, h2, h3, h4, h5, h6, h7, h8⟩ := h
  exact ⟨rfl, rfl, rfl, rfl, rfl, rfl, rfl, rfl, rfl, trivial⟩⟩

theorem Arr9_Int.set_list {a z : Arr9_Int} {i : Int} {x : Int} (h : Arr9_Int.set a i x = some z) : setI a.list i x = some z.list := by
  unfold Arr9_Int.set at h
  cases hs : setI a.list i x with
  | none => rw [hs] at h; cases h
  | some l =>
    rw [hs] at h
    obtain ⟨_, _, hl⟩ := setI_range hs
    have hn : l.length = 9 := by rw [hl, List.length_set]; rfl
    clear hl hs
    match l, hn, h with
    | [x0, x1, x2, x3, x4, x5, x6, x7, x8], _, h => cases h; rfl

def pSpan : Rp Span := fun _ cs x => cs = [.int .i64 x.From, .int .i64 x.To] ∧ InR .i64 x.From ∧ InR .i64 x.To
theorem mSpan : Mono pSpan := ⟨fun _ h => by
  obtain ⟨e, h0, h1⟩ := h
  exact ⟨e, h0, h1⟩, fun h => by
  obtain ⟨rfl, h0, h1⟩ := h
  exact ⟨rfl, rfl, trivial⟩⟩

def pRelation : Rp Relation := fun m cs x => ∃ c3, cs = [.int .i64 x.Operand, .int .i64 x.Mod, .bool x.Not, c3] ∧ InR .i64 x.Operand ∧ InR .i64 x.Mod ∧ (pL 2 pSpan) m [c3] x.Spans
theorem mRelation : Mono pRelation := ⟨fun hm h => by
  obtain ⟨c3, e, h0, h1, h3⟩ := h
  exact ⟨c3, e, h0, h1, (mL mSpan).up hm h3⟩, fun h => by
  obtain ⟨c3, rfl, h0, h1, h3⟩ := h
  exact ⟨rfl, rfl, rfl, ((mL mSpan).one h3).1, trivial⟩⟩

def pRule : Rp Rule := fun m cs x => ∃ c1, cs = [.string (bs x.Class), c1] ∧ x.Class.length ≤ LIMS ∧ (pL 1 (pL 4 pRelation)) m [c1] x.Cond
theorem mRule : Mono pRule := ⟨fun hm h => by
  obtain ⟨c1, e, h0, h1⟩ := h
  exact ⟨c1, e, h0, (mL (mL mRelation)).up hm h1⟩, fun h => by
  obtain ⟨c1, rfl, h0, h1⟩ := h
  exact ⟨rfl, ((mL (mL mRelation)).one h1).1, trivial⟩⟩

def pSymbols : Rp Symbols := fun _ cs x => cs = [.string (bs x.Decimal), .string (bs x.Group), .string (bs x.Minus), .string (bs x.Percent), .int .i64 x.Primary, .int .i64 x.Secondary] ∧ x.Decimal.length ≤ LIMS ∧ x.Group.length ≤ LIMS ∧ x.Minus.length ≤ LIMS ∧ x.Percent.length ≤ LIMS ∧ InR .i64 x.Primary ∧ InR .i64 x.Secondary
theorem mSymbols : Mono pSymbols := ⟨fun _ h => by
  obtain ⟨e, h0, h1, h2, h3, h4, h5⟩ := h
  exact ⟨e, h0, h1, h2, h3, h4, h5⟩, fun h => by
  obtain ⟨rfl, h0, h1, h2, h3, h4, h5⟩ := h
  exact ⟨rfl, rfl, rfl, rfl, rfl, rfl, trivial⟩⟩

def pListPattern : Rp ListPattern := fun _ cs x => cs = [.string (bs x.Style), .string (bs x.Two), .string (bs x.Start), .string (bs x.Middle), .string (bs x.End)] ∧ x.Style.length ≤ LIMS ∧ x.Two.length ≤ LIMS ∧ x.Start.length ≤ LIMS ∧ x.Middle.length ≤ LIMS ∧ x.End.length ≤ LIMS
theorem mListPattern : Mono pListPattern := ⟨fun _ h => by
  obtain ⟨e, h0, h1, h2, h3, h4⟩ := h
  exact ⟨e, h0, h1, h2, h3, h4⟩, fun h => by
  obtain ⟨rfl, h0, h1, h2, h3, h4⟩ := h
  exact ⟨rfl, rfl, rfl, rfl, rfl, trivial⟩⟩

def pUnitPattern : Rp UnitPattern := fun _ cs x => cs = [.string (bs x.Unit), .string (bs x.Class), .string (bs x.Pattern)] ∧ x.Unit.length ≤ LIMS ∧ x.Class.length ≤ LIMS ∧ x.Pattern.length ≤ LIMS
theorem mUnitPattern : Mono pUnitPattern := ⟨fun _ h => by
  obtain ⟨e, h0, h1, h2⟩ := h
  exact ⟨e, h0, h1, h2⟩, fun h => by
  obtain ⟨rfl, h0, h1, h2⟩ := h
  exact ⟨rfl, rfl, rfl, trivial⟩⟩

def pDatePattern : Rp DatePattern := fun _ cs x => cs = [.string (bs x.Skeleton), .string (bs x.Pattern)] ∧ x.Skeleton.length ≤ LIMS ∧ x.Pattern.length ≤ LIMS
theorem mDatePattern : Mono pDatePattern := ⟨fun _ h => by
  obtain ⟨e, h0, h1⟩ := h
  exact ⟨e, h0, h1⟩, fun h => by
  obtain ⟨rfl, h0, h1⟩ := h
  exact ⟨rfl, rfl, trivial⟩⟩

def pLocale : Rp Locale := fun m cs x => ∃ c3 c4 c11 c12 c13 c14 c15, cs = [.string (bs x.Tag), .string (bs x.Parent), .string (bs x.Direction), c3, c4, .string (bs x.Symbols.Decimal), .string (bs x.Symbols.Group), .string (bs x.Symbols.Minus), .string (bs x.Symbols.Percent), .int .i64 x.Symbols.Primary, .int .i64 x.Symbols.Secondary, c11, c12, c13, c14, c15] ∧ x.Tag.length ≤ LIMS ∧ x.Parent.length ≤ LIMS ∧ x.Direction.length ≤ LIMS ∧ (pL 2 pRule) m [c3] x.Cardinal ∧ (pL 2 pRule) m [c4] x.Ordinal ∧ x.Symbols.Decimal.length ≤ LIMS ∧ x.Symbols.Group.length ≤ LIMS ∧ x.Symbols.Minus.length ≤ LIMS ∧ x.Symbols.Percent.length ≤ LIMS ∧ InR .i64 x.Symbols.Primary ∧ InR .i64 x.Symbols.Secondary ∧ (pL 5 pListPattern) m [c11] x.Lists ∧ (pL 3 pUnitPattern) m [c12] x.Units ∧ (pL 2 pDatePattern) m [c13] x.Dates ∧ (pL 1 pS) m [c14] x.Months ∧ (pL 1 pS) m [c15] x.Days
theorem mLocale : Mono pLocale := ⟨fun hm h => by
  obtain ⟨c3, c4, c11, c12, c13, c14, c15, e, h0, h1, h2, h3, h4, h5, h6, h7, h8, h9, h10, h11, h12, h13, h14, h15⟩ := h
  exact ⟨c3, c4, c11, c12, c13, c14, c15, e, h0, h1, h2, (mL mRule).up hm h3, (mL mRule).up hm h4, h5, h6, h7, h8, h9, h10, (mL mListPattern).up hm h11, (mL mUnitPattern).up hm h12, (mL mDatePattern).up hm h13, (mL mS).up hm h14, (mL mS).up hm h15⟩, fun h => by
  obtain ⟨c3, c4, c11, c12, c13, c14, c15, rfl, h0, h1, h2, h3, h4, h5, h6, h7, h8, h9, h10, h11, h12, h13, h14, h15⟩ := h
  exact ⟨rfl, rfl, rfl, ((mL mRule).one h3).1, ((mL mRule).one h4).1, rfl, rfl, rfl, rfl, rfl, rfl, ((mL mListPattern).one h11).1, ((mL mUnitPattern).one h12).1, ((mL mDatePattern).one h13).1, ((mL mS).one h14).1, ((mL mS).one h15).1, trivial⟩⟩

theorem agg_23 : aggB Tryd.prog 23 5 = true := by kernel_rfl
theorem agg_37 : aggB Tryd.prog 37 16 = true := by kernel_rfl
theorem art_50 : ArT Tryd.prog 50 3 9 1 := ArT.of (by kernel_rfl)
theorem fo_23_0 : fieldOffB Tryd.prog 23 0 0 = true := by kernel_rfl
theorem fo_23_1 : fieldOffB Tryd.prog 23 1 1 = true := by kernel_rfl
theorem fo_23_2 : fieldOffB Tryd.prog 23 2 2 = true := by kernel_rfl
theorem fo_23_3 : fieldOffB Tryd.prog 23 3 3 = true := by kernel_rfl
theorem fo_23_4 : fieldOffB Tryd.prog 23 4 4 = true := by kernel_rfl
theorem fo_37_6 : fieldOffB Tryd.prog 37 6 11 = true := by kernel_rfl
theorem go_14 : goB Tryd.prog 14 = true := by kernel_rfl
theorem go_16 : goB Tryd.prog 16 = true := by kernel_rfl
theorem go_19 : goB Tryd.prog 19 = true := by kernel_rfl
theorem go_21 : goB Tryd.prog 21 = true := by kernel_rfl
theorem go_22 : goB Tryd.prog 22 = true := by kernel_rfl
theorem go_23 : goB Tryd.prog 23 = true := by kernel_rfl
theorem go_24 : goB Tryd.prog 24 = true := by kernel_rfl
theorem go_25 : goB Tryd.prog 25 = true := by kernel_rfl
theorem go_26 : goB Tryd.prog 26 = true := by kernel_rfl
theorem go_28 : goB Tryd.prog 28 = true := by kernel_rfl
theorem go_37 : goB Tryd.prog 37 = true := by kernel_rfl
set_option maxRecDepth 100000 in
theorem inf_23 : ∃ i, Tryd.prog.info? 23 = some i ∧ i.size = 5 := ⟨_, rfl, by kernel_rfl⟩
set_option maxRecDepth 100000 in
theorem inf_3 : ∃ i, Tryd.prog.info? 3 = some i ∧ i.size = 1 := ⟨_, rfl, by kernel_rfl⟩
set_option maxRecDepth 100000 in
theorem inf_50 : ∃ i, Tryd.prog.info? 50 = some i ∧ i.size = 9 := ⟨_, rfl, by kernel_rfl⟩
theorem one_3 : oneB Tryd.prog 3 = true := by kernel_rfl
theorem one_33 : oneB Tryd.prog 33 = true := by kernel_rfl
theorem one_9 : oneB Tryd.prog 9 = true := by kernel_rfl
theorem places_23 : placesB Tryd.prog 23 = some [(0, 1), (1, 1), (2, 1), (3, 1), (4, 1)] := by kernel_rfl
theorem sl_24 : SlT Tryd.prog 24 9 1 := SlT.of (by kernel_rfl)
theorem sl_33 : SlT Tryd.prog 33 23 5 := SlT.of (by kernel_rfl)
theorem zero_23 : zeroB Tryd.prog 23 = some [(Value.string (bs ([]))), (Value.string (bs ([]))), (Value.string (bs ([]))), (Value.string (bs ([]))), (Value.string (bs ([])))] := by kernel_rfl
theorem zero_50 : zeroB Tryd.prog 50 = some [(Value.int .i64 0), (Value.int .i64 0), (Value.int .i64 0), (Value.int .i64 0), (Value.int .i64 0), (Value.int .i64 0), (Value.int .i64 0), (Value.int .i64 0), (Value.int .i64 0)] := by kernel_rfl

theorem strconv_Itoa_w {u : World} {m0 : Mem} {S : Segs} {w : World} (N : Nat) (p0_0 : Int) (rp0_0 : InR .i64 p0_0) {r : (List UInt8)} (hF : strconv_Itoa N p0_0 = some r) (hG : Glob u) (ok : Ok u m0 S w) :
    Calls Tryd.prog 23 [Value.int .i64 p0_0].toArray w fun e w' => (e = .returned (.string (bs r)) ∧ Ok u m0 S w') ∧ r.length ≤ LIMS := lib_Itoa Tryd.lays171 p0_0 hF ok

theorem strings_Count_w {u : World} {m0 : Mem} {S : Segs} {w : World} (N : Nat) (p0_0 : List UInt8) (lp0_0 : p0_0.length ≤ LIMS) (p1_1 : List UInt8) (lp1_1 : p1_1.length ≤ LIMS) {r : Int} (hF : strings_Count N p0_0 p1_1 = some r) (hG : Glob u) (ok : Ok u m0 S w) :
    Calls Tryd.prog 24 [Value.string (bs p0_0), Value.string (bs p1_1)].toArray w fun e w' => (e = .returned (.int .i64 r) ∧ Ok u m0 S w') ∧ InR .i64 r := by
  obtain ⟨mx, hmx⟩ := hG
  exact lib_Count Tryd.lays138 hmx p0_0 p1_1 hF ok

theorem strings_Replace_w {u : World} {m0 : Mem} {S : Segs} {w : World} (N : Nat) (p0_0 : List UInt8) (lp0_0 : p0_0.length ≤ LIMS) (p1_1 : List UInt8) (lp1_1 : p1_1.length ≤ LIMS) (p2_2 : List UInt8) (lp2_2 : p2_2.length ≤ LIMS) (p3_3 : Int) (rp3_3 : InR .i64 p3_3) {r : (List UInt8)} (hF : strings_Replace N p0_0 p1_1 p2_2 p3_3 = some r) (hG : Glob u) (ok : Ok u m0 S w) :
    Calls Tryd.prog 25 [Value.string (bs p0_0), Value.string (bs p1_1), Value.string (bs p2_2), Value.int .i64 p3_3].toArray w fun e w' => (e = .returned (.string (bs r)) ∧ Ok u m0 S w') ∧ r.length ≤ LIMS := by
  obtain ⟨mx, hmx⟩ := hG
  exact lib_Replace Tryd.lays154 Tryd.Builder_Extra_154 hmx p0_0 p1_1 p2_2 p3_3 hF ok

def strings_ContainsAny_R (u : World) (m0 : Mem) (S : Segs) (r : Bool) (a : Act) (w : World) : Prop :=
  Ok u m0 S w ∧ a.defers = [] ∧ RVs Tryd.prog a w [.t 4 (.bool r)]
set_option maxHeartbeats 4000000 in
set_option maxRecDepth 100000 in
theorem strings_ContainsAny_w {u : World} {m0 : Mem} {S : Segs} {w : World} (N : Nat) (s_0 : List UInt8) (ls_0 : s_0.length ≤ LIMS) (chars_1 : List UInt8) (lchars_1 : chars_1.length ≤ LIMS) {r : Bool} (hF : strings_ContainsAny N s_0 chars_1 = some r) (hG : Glob u) (ok : Ok u m0 S w) :
    Calls Tryd.prog 26 [Value.string (bs s_0), Value.string (bs chars_1)].toArray w fun e w' => (e = .returned (.bool r) ∧ Ok u m0 S w') := by
  have hb0 := ok.base
  have le_m0 := Mem.le.refl m0
  unfold strings_ContainsAny at hF
  have fin : ∀ a w, strings_ContainsAny_R u m0 S r a w → bodyPost Tryd.prog Tryd.f26 (fun e w' => (e = .returned (.bool r) ∧ Ok u m0 S w')) .ret a w := by
    intro a w h
    obtain ⟨ok, hd, hrv⟩ := h
    exact c_ret2 [.t 4 (.bool r)] hd rfl hrv ⟨rfl, ok⟩
  refine enter Tryd.func26 rfl rfl rfl fun a E => ?_
  refine wp_seq ?_
  refine c_region ?_
  refine l_val E ok (y_assign rfl) rfl rfl fun a E => ?_
  refine wpList_nil ?_
  refine t_norm ?_
  refine wp_seq ?_
  refine c_region ?_
  refine l_val E ok (y_move rfl) rfl rfl fun a E => ?_
  refine l_val E ok (y_move rfl) rfl rfl fun a E => ?_
  obtain ⟨r1, e2, hF⟩ := bnd hF
  refine l_call E go_37 rfl (strings_IndexAny_w N s_0 ls_0 chars_1 lchars_1 e2 hG ok) rfl rfl ?_
  rintro _ w ⟨⟨rfl, ok⟩, r3⟩
  refine ⟨_, rfl, fun a E => ?_⟩
  refine l_val E ok (y_geq rfl rfl) rfl rfl fun a E => ?_
  refine l_val E ok (y_assign rfl) rfl rfl fun a E => ?_
  refine wpList_nil ?_
  refine t_norm ?_
  refine wp_ret ?_
  have hret : strings_ContainsAny_R u m0 S (decide (r1 ≥ 0)) a w := ⟨ok, E.d, ⟨rv_t E rfl, trivial⟩⟩
  obtain rfl := Option.some.inj hF
  exact fin _ _ hret

def validate_Pattern_R (u : World) (m0 : Mem) (S : Segs) (r : Bool) (a : Act) (w : World) : Prop :=
  Ok u m0 S w ∧ a.defers = [] ∧ RVs Tryd.prog a w [.t 4 (.bool r)]
set_option maxHeartbeats 4000000 in
set_option maxRecDepth 100000 in
theorem validate_Pattern_w {u : World} {m0 : Mem} {S : Segs} {w : World} (N : Nat) (s_0 : List UInt8) (ls_0 : s_0.length ≤ LIMS) (n_1 : Int) (rn_1 : InR .i64 n_1) {r : Bool} (hF : validate_Pattern N s_0 n_1 = some r) (hG : Glob u) (ok : Ok u m0 S w) :
    Calls Tryd.prog 19 [Value.string (bs s_0), Value.int .i64 n_1].toArray w fun e w' => (e = .returned (.bool r) ∧ Ok u m0 S w') := by
  have hb0 := ok.base
  have le_m0 := Mem.le.refl m0
  unfold validate_Pattern at hF
  have fin : ∀ a w, validate_Pattern_R u m0 S r a w → bodyPost Tryd.prog Tryd.f19 (fun e w' => (e = .returned (.bool r) ∧ Ok u m0 S w')) .ret a w := by
    intro a w h
    obtain ⟨ok, hd, hrv⟩ := h
    exact c_ret2 [.t 4 (.bool r)] hd rfl hrv ⟨rfl, ok⟩
  refine enter Tryd.func19 rfl rfl rfl fun a E => ?_
  refine wp_seq ?_
  refine c_region ?_
  refine l_val E ok (y_assign rfl) rfl rfl fun a E => ?_
  refine wpList_nil ?_
  refine t_norm ?_
  refine wp_seq ?_
  refine wp_seq ?_
  refine c_region ?_
  refine l_val E ok (y_move rfl) rfl rfl fun a E => ?_
  refine l_val E ok (y_lss rfl rfl) rfl rfl fun a E => ?_
  refine l_val E ok (y_move rfl) rfl rfl fun a E => ?_
  refine bsplit (decide (n_1 < 1)) (fun hc1 => ?_) (fun hc1 => ?_)
  · replace hF := cond_t hc1 hF
    replace E := E.upd 9 hc1 rfl
    refine l_skip E rfl rfl fun a E => ?_
    refine l_skip E rfl rfl fun a E => ?_
    refine l_val E ok (y_pickT rfl rfl) rfl rfl fun a E => ?_
    refine wpList_nil ?_
    refine t_norm ?_
    refine c_if E rfl (fun _ => ?_) (fun h => by cases h)
    refine wp_seq ?_
    refine c_region ?_
    refine l_val E ok (y_assign rfl) rfl rfl fun a E => ?_
    refine wpList_nil ?_
    refine t_norm ?_
    refine wp_ret ?_
    refine t_ret ?_
    have hret : validate_Pattern_R u m0 S false a w := ⟨ok, E.d, ⟨rv_t E rfl, trivial⟩⟩
    obtain rfl := Option.some.inj hF
    exact fin _ _ hret
  replace hF := cond_f hc1 hF
  replace E := E.upd 9 hc1 rfl
  refine l_val E ok (y_move rfl) rfl rfl fun a E => ?_
  refine l_val E ok (y_gtr rfl rfl) rfl rfl fun a E => ?_
  refine l_val E ok (y_pickF rfl rfl) rfl rfl fun a E => ?_
  refine wpList_nil ?_
  refine t_norm ?_
  refine c_if E rfl (fun hc2 => ?_) (fun hc2 => ?_)
  · replace hF := cond_t hc2 hF
    refine wp_seq ?_
    refine c_region ?_
    refine l_val E ok (y_assign rfl) rfl rfl fun a E => ?_
    refine wpList_nil ?_
    refine t_norm ?_
    refine wp_ret ?_
    refine t_ret ?_
    have hret : validate_Pattern_R u m0 S false a w := ⟨ok, E.d, ⟨rv_t E rfl, trivial⟩⟩
    obtain rfl := Option.some.inj hF
    exact fin _ _ hret
  replace hF := cond_f hc2 hF
  refine wp_skip ?_
  refine t_norm ?_
  refine wp_seq ?_
  refine wp_seq ?_
  refine c_region ?_
  refine l_val E ok (y_move rfl) rfl rfl fun a E => ?_
  refine l_val E ok (y_move rfl) rfl rfl fun a E => ?_
  refine wpList_nil ?_
  refine t_norm ?_
  refine wp_block ?_
  obtain ⟨o5, hL, hF⟩ := bnd hF
  refine c_loop _ (fun (s : (List UInt8) × Int) a w => Ok u m0 (S) w ∧ Env 32 a [(0, (Value.string (bs s.1))), (13, (Value.int .i64 n_1)), (14, (Value.int .i64 s.2))] ∧ s.1.length ≤ LIMS ∧ InR .i64 s.2) (fun (b : (((List UInt8)) ⊕ Bool)) e a w => (Sum.elim (fun b30 => e = (.exit 0) ∧ Ok u m0 (S) w ∧ Env 32 a [(0, (Value.string (bs b30)))] ∧ b30.length ≤ LIMS) (fun b32 => e = .ret ∧ validate_Pattern_R u m0 S b32 a w)) b) ?_ ?_ N _ a w hL ⟨ok, E.keep [0, 13, 14], ls_0, (show InR .i64 (0) by decide)⟩
  rotate_left
  · intro e a w _ hO
    rcases o5 with o5 | o5
    rotate_left
    · replace hF := elim_r hF
      obtain ⟨rfl, hret⟩ := hO
      refine b_ret ?_
      refine t_ret ?_
      obtain rfl := Option.some.inj hF
      exact fin _ _ hret
    replace hF := elim_l hF
    obtain ⟨rfl, ok, E, l27⟩ := hO
    refine b_hit ?_
    refine t_norm ?_
    refine wp_seq ?_
    refine c_region ?_
    refine l_val E ok (y_move rfl) rfl rfl fun a E => ?_
    obtain ⟨r28, e29, hF⟩ := bnd hF
    refine l_call E go_26 rfl (strings_ContainsAny_w N o5 l27 ([123, 125]) (show ([123, 125] : List UInt8).length ≤ LIMS by decide) e29 hG ok) rfl rfl ?_
    rintro _ w ⟨rfl, ok⟩
    refine ⟨_, rfl, fun a E => ?_⟩
    refine l_val E ok (y_not rfl) rfl rfl fun a E => ?_
    refine l_val E ok (y_assign rfl) rfl rfl fun a E => ?_
    refine wpList_nil ?_
    refine t_norm ?_
    refine wp_ret ?_
    have hret : validate_Pattern_R u m0 S (!r28) a w := ⟨ok, E.d, ⟨rv_t E rfl, trivial⟩⟩
    obtain rfl := Option.some.inj hF
    exact fin _ _ hret
  rintro ⟨s_8, x_9⟩ a w r ⟨ok, E, l10, r11⟩ hF
  replace hF : validate_Pattern_b1 N n_1 s_8 x_9 = some r := hF
  unfold validate_Pattern_b1 at hF
  refine wp_seq ?_
  refine c_region ?_
  refine l_val E ok (y_lss rfl rfl) rfl rfl fun a E => ?_
  refine wpList_nil ?_
  refine t_norm ?_
  refine wp_seq ?_
  refine c_if E rfl (fun hc12 => ?_) (fun hc12 => ?_)
  rotate_left
  · replace hF := cond_f hc12 hF
    refine wp_exit ?_
    refine t_exit ?_
    obtain rfl := Option.some.inj hF
    exact step_o (by nofun) (sl ⟨rfl, ⟨ok, E.keep [0], l10⟩⟩)
  replace hF := cond_t hc12 hF
  refine wp_skip ?_
  refine t_norm ?_
  refine wp_seq ?_
  refine wp_block ?_
  refine wp_seq ?_
  refine c_region ?_
  refine l_val E ok (y_move rfl) rfl rfl fun a E => ?_
  refine l_val E ok (y_assign rfl) rfl rfl fun a E => ?_
  refine wpList_nil ?_
  refine t_norm ?_
  refine wp_seq ?_
  refine c_region ?_
  refine l_val E ok (y_move rfl) rfl rfl fun a E => ?_
  obtain ⟨r13, e14, hF⟩ := bnd hF
  refine l_call E go_23 rfl (strconv_Itoa_w N x_9 r11 e14 hG ok) rfl rfl ?_
  rintro _ w ⟨⟨rfl, ok⟩, l15⟩
  refine ⟨_, rfl, fun a E => ?_⟩
  obtain ⟨s16, e17, hF⟩ := bnd hF
  refine l_val E ok (y_cat rfl rfl e17) rfl rfl fun a E => ?_
  obtain ⟨s18, e19, hF⟩ := bnd hF
  refine l_val E ok (y_cat rfl rfl e19) rfl rfl fun a E => ?_
  refine l_val E ok (y_assign rfl) rfl rfl fun a E => ?_
  refine wpList_nil ?_
  refine t_norm ?_
  refine wp_seq ?_
  refine wp_seq ?_
  refine c_region ?_
  refine l_val E ok (y_move rfl) rfl rfl fun a E => ?_
  refine l_val E ok (y_move rfl) rfl rfl fun a E => ?_
  obtain ⟨r20, e21, hF⟩ := bnd hF
  refine l_call E go_24 rfl (strings_Count_w N s_8 l10 s18 (cat_len e19) e21 hG ok) rfl rfl ?_
  rintro _ w ⟨⟨rfl, ok⟩, r22⟩
  refine ⟨_, rfl, fun a E => ?_⟩
  refine l_val E ok (y_neq rfl rfl) rfl rfl fun a E => ?_
  refine wpList_nil ?_
  refine t_norm ?_
  refine c_if E rfl (fun hc23 => ?_) (fun hc23 => ?_)
  · replace hF := cond_t hc23 hF
    refine wp_seq ?_
    refine c_region ?_
    refine l_val E ok (y_assign rfl) rfl rfl fun a E => ?_
    refine wpList_nil ?_
    refine t_norm ?_
    refine wp_ret ?_
    refine t_ret ?_
    refine b_ret ?_
    refine t_ret ?_
    have hret : validate_Pattern_R u m0 S false a w := ⟨ok, E.d, ⟨rv_t E rfl, trivial⟩⟩
    obtain rfl := Option.some.inj hF
    exact step_o (by nofun) (sr ⟨rfl, hret⟩)
  replace hF := cond_f hc23 hF
  refine wp_skip ?_
  refine t_norm ?_
  refine c_region ?_
  refine l_val E ok (y_move rfl) rfl rfl fun a E => ?_
  refine l_val E ok (y_move rfl) rfl rfl fun a E => ?_
  obtain ⟨r24, e25, hF⟩ := bnd hF
  refine l_call E go_25 rfl (strings_Replace_w N s_8 l10 s18 (cat_len e19) ([0]) (show ([0] : List UInt8).length ≤ LIMS by decide) 1 (show InR .i64 (1) by decide) e25 hG ok) rfl rfl ?_
  rintro _ w ⟨⟨rfl, ok⟩, l26⟩
  refine ⟨_, rfl, fun a E => ?_⟩
  refine l_val E ok (y_assign rfl) rfl rfl fun a E => ?_
  refine wpList_nil ?_
  refine b_norm ?_
  refine t_norm ?_
  refine c_region ?_
  refine l_val E ok (y_add rfl rfl (InR.inc r11 rn_1 hc12)) rfl rfl fun a E => ?_
  refine l_val E ok (y_move rfl) rfl rfl fun a E => ?_
  refine wpList_nil ?_
  obtain rfl := Option.some.inj hF
  exact step_n ⟨ok, E.keep [0, 13, 14], l26, (InR.inc r11 rn_1 hc12)⟩

def calqueref13_Pattern_R (u : World) (m0 : Mem) (S : Segs) (r : Bool) (a : Act) (w : World) : Prop :=
  Ok u m0 S w ∧ a.defers = [] ∧ RVs Tryd.prog a w [.t 4 (.bool r)]
set_option maxHeartbeats 4000000 in
set_option maxRecDepth 100000 in
theorem calqueref13_Pattern_w {u : World} {m0 : Mem} {S : Segs} {w : World} (N : Nat) (s_0 : List UInt8) (ls_0 : s_0.length ≤ LIMS) (n_1 : Int) (rn_1 : InR .i64 n_1) {r : Bool} (hF : calqueref13_Pattern N s_0 n_1 = some r) (hG : Glob u) (ok : Ok u m0 S w) :
    Calls Tryd.prog 14 [Value.string (bs s_0), Value.int .i64 n_1].toArray w fun e w' => (e = .returned (.bool r) ∧ Ok u m0 S w') := by
  have hb0 := ok.base
  have le_m0 := Mem.le.refl m0
  unfold calqueref13_Pattern at hF
  have fin : ∀ a w, calqueref13_Pattern_R u m0 S r a w → bodyPost Tryd.prog Tryd.f14 (fun e w' => (e = .returned (.bool r) ∧ Ok u m0 S w')) .ret a w := by
    intro a w h
    obtain ⟨ok, hd, hrv⟩ := h
    exact c_ret2 [.t 4 (.bool r)] hd rfl hrv ⟨rfl, ok⟩
  refine enter Tryd.func14 rfl rfl rfl fun a E => ?_
  refine wp_seq ?_
  refine c_region ?_
  refine l_val E ok (y_assign rfl) rfl rfl fun a E => ?_
  refine wpList_nil ?_
  refine t_norm ?_
  refine wp_seq ?_
  refine wp_seq ?_
  refine c_region ?_
  refine l_val E ok (y_move rfl) rfl rfl fun a E => ?_
  refine l_val E ok (y_lss rfl rfl) rfl rfl fun a E => ?_
  refine l_val E ok (y_move rfl) rfl rfl fun a E => ?_
  refine bsplit (decide (n_1 < 1)) (fun hc1 => ?_) (fun hc1 => ?_)
  · replace hF := cond_t hc1 hF
    replace E := E.upd 10 hc1 rfl
    refine l_skip E rfl rfl fun a E => ?_
    refine l_skip E rfl rfl fun a E => ?_
    refine l_val E ok (y_pickT rfl rfl) rfl rfl fun a E => ?_
    refine wpList_nil ?_
    refine t_norm ?_
    refine c_if E rfl (fun _ => ?_) (fun h => by cases h)
    refine wp_seq ?_
    refine c_region ?_
    refine l_val E ok (y_assign rfl) rfl rfl fun a E => ?_
    refine wpList_nil ?_
    refine t_norm ?_
    refine wp_ret ?_
    refine t_ret ?_
    have hret : calqueref13_Pattern_R u m0 S false a w := ⟨ok, E.d, ⟨rv_t E rfl, trivial⟩⟩
    obtain rfl := Option.some.inj hF
    exact fin _ _ hret
  replace hF := cond_f hc1 hF
  replace E := E.upd 10 hc1 rfl
  refine l_val E ok (y_move rfl) rfl rfl fun a E => ?_
  refine l_val E ok (y_gtr rfl rfl) rfl rfl fun a E => ?_
  refine l_val E ok (y_pickF rfl rfl) rfl rfl fun a E => ?_
  refine wpList_nil ?_
  refine t_norm ?_
  refine c_if E rfl (fun hc2 => ?_) (fun hc2 => ?_)
  · replace hF := cond_t hc2 hF
    refine wp_seq ?_
    refine c_region ?_
    refine l_val E ok (y_assign rfl) rfl rfl fun a E => ?_
    refine wpList_nil ?_
    refine t_norm ?_
    refine wp_ret ?_
    refine t_ret ?_
    have hret : calqueref13_Pattern_R u m0 S false a w := ⟨ok, E.d, ⟨rv_t E rfl, trivial⟩⟩
    obtain rfl := Option.some.inj hF
    exact fin _ _ hret
  replace hF := cond_f hc2 hF
  refine wp_skip ?_
  refine t_norm ?_
  refine wp_seq ?_
  refine c_region ?_
  refine l_val E ok (y_buildA (ps := []) (qs := []) (cs := [(Value.int .i64 0), (Value.int .i64 0), (Value.int .i64 0), (Value.int .i64 0), (Value.int .i64 0), (Value.int .i64 0), (Value.int .i64 0), (Value.int .i64 0), (Value.int .i64 0)]) zero_50 art_50 rfl trivial rfl) rfl rfl fun a E => ?_
  refine l_alloc E ok zero_50 rfl rfl fun b3 a w E ok => ?_
  refine l_storeB E ok 0 rfl rfl rfl inf_50 rfl rfl ⟨rfl, rfl, rfl, rfl, rfl, rfl, rfl, rfl, rfl, trivial⟩ rfl rfl fun w ok => ?_
  refine wpList_nil ?_
  refine t_norm ?_
  refine wp_seq ?_
  refine wp_seq ?_
  refine c_region ?_
  refine l_val E ok (y_assign rfl) rfl rfl fun a E => ?_
  refine wpList_nil ?_
  refine t_norm ?_
  refine wp_block ?_
  obtain ⟨o15, hL, hF⟩ := bnd hF
  refine c_loop _ (fun (s : Int × Arr9_Int) a w => Ok u m0 ([(b3, Obj.cells [(Value.int .i64 s.2.e0), (Value.int .i64 s.2.e1), (Value.int .i64 s.2.e2), (Value.int .i64 s.2.e3), (Value.int .i64 s.2.e4), (Value.int .i64 s.2.e5), (Value.int .i64 s.2.e6), (Value.int .i64 s.2.e7), (Value.int .i64 s.2.e8)].toArray 50 (0, 0))] :: S) w ∧ Env 88 a [(0, (Value.string (bs s_0))), (1, (Value.int .i64 n_1)), (5, (Value.pointer (some ⟨b3, 0, none⟩))), (6, (Value.int .i64 s.1))] ∧ InR .i64 s.1 ∧ InR .i64 s.2.e0 ∧ InR .i64 s.2.e1 ∧ InR .i64 s.2.e2 ∧ InR .i64 s.2.e3 ∧ InR .i64 s.2.e4 ∧ InR .i64 s.2.e5 ∧ InR .i64 s.2.e6 ∧ InR .i64 s.2.e7 ∧ InR .i64 s.2.e8) (fun (b : (Arr9_Int ⊕ Bool)) e a w => (Sum.elim (fun b112 => e = (.exit 0) ∧ Ok u m0 ([(b3, Obj.cells [(Value.int .i64 b112.e0), (Value.int .i64 b112.e1), (Value.int .i64 b112.e2), (Value.int .i64 b112.e3), (Value.int .i64 b112.e4), (Value.int .i64 b112.e5), (Value.int .i64 b112.e6), (Value.int .i64 b112.e7), (Value.int .i64 b112.e8)].toArray 50 (0, 0))] :: S) w ∧ Env 88 a [(1, (Value.int .i64 n_1)), (5, (Value.pointer (some ⟨b3, 0, none⟩)))] ∧ InR .i64 b112.e0 ∧ InR .i64 b112.e1 ∧ InR .i64 b112.e2 ∧ InR .i64 b112.e3 ∧ InR .i64 b112.e4 ∧ InR .i64 b112.e5 ∧ InR .i64 b112.e6 ∧ InR .i64 b112.e7 ∧ InR .i64 b112.e8) (fun b122 => e = .ret ∧ calqueref13_Pattern_R u m0 S b122 a w)) b) ?_ ?_ N _ a w hL ⟨ok, E.keep [0, 1, 5, 6], (show InR .i64 (0) by decide), (show InR .i64 0 by decide), (show InR .i64 0 by decide), (show InR .i64 0 by decide), (show InR .i64 0 by decide), (show InR .i64 0 by decide), (show InR .i64 0 by decide), (show InR .i64 0 by decide), (show InR .i64 0 by decide), (show InR .i64 0 by decide)⟩
  rotate_left
  · as_aux_lemma =>
      intro e a w _ hO
      rcases o15 with o15 | o15
      rotate_left
      · replace hF := elim_r hF
        obtain ⟨rfl, hret⟩ := hO
        refine b_ret ?_
        refine t_ret ?_
        obtain rfl := Option.some.inj hF
        exact fin _ _ hret
      replace hF := elim_l hF
      obtain ⟨rfl, ok, E, r92, r93, r94, r95, r96, r97, r98, r99, r100⟩ := hO
      refine b_hit ?_
      refine t_norm ?_
      refine wp_seq ?_
      refine wp_seq ?_
      refine c_region ?_
      refine l_val E ok (y_assign rfl) rfl rfl fun a E => ?_
      refine wpList_nil ?_
      refine t_norm ?_
      refine wp_block ?_
      obtain ⟨o102, hL, hF⟩ := bnd hF
      refine c_loop _ (fun (s : Int) a w => Ok u m0 ([(b3, Obj.cells [(Value.int .i64 o15.e0), (Value.int .i64 o15.e1), (Value.int .i64 o15.e2), (Value.int .i64 o15.e3), (Value.int .i64 o15.e4), (Value.int .i64 o15.e5), (Value.int .i64 o15.e6), (Value.int .i64 o15.e7), (Value.int .i64 o15.e8)].toArray 50 (0, 0))] :: S) w ∧ Env 88 a [(1, (Value.int .i64 n_1)), (5, (Value.pointer (some ⟨b3, 0, none⟩))), (7, (Value.int .i64 s))] ∧ InR .i64 s) (fun (b : (Unit ⊕ Bool)) e a w => (Sum.elim (fun b110 => e = (.exit 3) ∧ Ok u m0 ([(b3, Obj.cells [(Value.int .i64 o15.e0), (Value.int .i64 o15.e1), (Value.int .i64 o15.e2), (Value.int .i64 o15.e3), (Value.int .i64 o15.e4), (Value.int .i64 o15.e5), (Value.int .i64 o15.e6), (Value.int .i64 o15.e7), (Value.int .i64 o15.e8)].toArray 50 (0, 0))] :: S) w ∧ Env 88 a []) (fun b111 => e = .ret ∧ calqueref13_Pattern_R u m0 S b111 a w)) b) ?_ ?_ N _ a w hL ⟨ok, E.keep [1, 5, 7], (show InR .i64 (0) by decide)⟩
      rotate_left
      · intro e a w _ hO
        rcases o102 with o102 | o102
        rotate_left
        · replace hF := elim_r hF
          obtain ⟨rfl, hret⟩ := hO
          refine b_ret ?_
          refine t_ret ?_
          obtain rfl := Option.some.inj hF
          exact fin _ _ hret
        replace hF := elim_l hF
        obtain ⟨rfl, ok, E⟩ := hO
        refine b_hit ?_
        refine t_norm ?_
        refine wp_seq ?_
        refine c_region ?_
        refine l_val E ok (y_assign rfl) rfl rfl fun a E => ?_
        refine wpList_nil ?_
        refine t_norm ?_
        refine wp_ret ?_
        have hret : calqueref13_Pattern_R u m0 S true a w := ⟨ok.drop, E.d, ⟨rv_t E rfl, trivial⟩⟩
        obtain rfl := Option.some.inj hF
        exact fin _ _ hret
      rintro i_104 a w r ⟨ok, E, r105⟩ hF
      replace hF : calqueref13_Pattern_b2 N n_1 o15 i_104 = some r := hF
      unfold calqueref13_Pattern_b2 at hF
      refine wp_seq ?_
      refine wp_seq ?_
      refine c_region ?_
      refine l_val E ok (y_move rfl) rfl rfl fun a E => ?_
      refine l_val E ok (y_move rfl) rfl rfl fun a E => ?_
      refine l_val E ok (y_lss rfl rfl) rfl rfl fun a E => ?_
      refine wpList_nil ?_
      refine t_norm ?_
      refine c_if E rfl (fun hc106 => ?_) (fun hc106 => ?_)
      rotate_left
      · replace hF := cond_f hc106 hF
        refine wp_exit ?_
        refine t_exit ?_
        obtain rfl := Option.some.inj hF
        exact step_o (by nofun) (sl ⟨rfl, ⟨ok, E.keep []⟩⟩)
      replace hF := cond_t hc106 hF
      refine wp_skip ?_
      refine t_norm ?_
      refine wp_seq ?_
      refine wp_block ?_
      refine wp_seq ?_
      refine c_region ?_
      refine l_val E ok (y_move rfl) rfl rfl fun a E => ?_
      obtain ⟨x107, e108, hF⟩ := bnd hF
      replace e108 : idx (Arr9_Int.list o15) i_104 = some x107 := e108
      refine l_val E ok (y_arAt art_50 rfl rfl (idx_range e108).1 (idx_range e108).2) rfl rfl fun a E => ?_
      refine l_val E ok (y_load one_3 rfl (Holds.idx (xs := Arr9_Int.list o15) (f := (Value.int .i64)) (Holds.own 0 rfl rfl) e108)) rfl rfl fun a E => ?_
      refine l_val E ok (y_neq rfl rfl) rfl rfl fun a E => ?_
      refine wpList_nil ?_
      refine t_norm ?_
      refine c_if E rfl (fun hc109 => ?_) (fun hc109 => ?_)
      rotate_left
      · replace hF := cond_f hc109 hF
        refine wp_skip ?_
        refine b_norm ?_
        refine t_norm ?_
        refine c_region ?_
        refine l_val E ok (y_move rfl) rfl rfl fun a E => ?_
        refine l_val E ok (y_add rfl rfl (InR.inc r105 rn_1 hc106)) rfl rfl fun a E => ?_
        refine l_val E ok (y_assign rfl) rfl rfl fun a E => ?_
        refine wpList_nil ?_
        obtain rfl := Option.some.inj hF
        exact step_n ⟨ok, E.keep [1, 5, 7], (InR.inc r105 rn_1 hc106)⟩
      replace hF := cond_t hc109 hF
      refine wp_seq ?_
      refine c_region ?_
      refine l_val E ok (y_assign rfl) rfl rfl fun a E => ?_
      refine wpList_nil ?_
      refine t_norm ?_
      refine wp_ret ?_
      refine b_ret ?_
      refine t_ret ?_
      have hret : calqueref13_Pattern_R u m0 S false a w := ⟨ok.drop, E.d, ⟨rv_t E rfl, trivial⟩⟩
      obtain rfl := Option.some.inj hF
      exact step_o (by nofun) (sr ⟨rfl, hret⟩)
  rintro ⟨i_26, x_27⟩ a w r ⟨ok, E, r28, r29, r30, r31, r32, r33, r34, r35, r36, r37⟩ hF
  replace hF : calqueref13_Pattern_b1 N s_0 n_1 i_26 x_27 = some r := hF
  unfold calqueref13_Pattern_b1 at hF
  refine wp_seq ?_
  refine wp_seq ?_
  refine c_region ?_
  refine l_val E ok (y_move rfl) rfl rfl fun a E => ?_
  refine l_val E ok (y_move rfl) rfl rfl fun a E => ?_
  refine l_val E ok (y_slen Tryd.underlying9 rfl) rfl rfl fun a E => ?_
  refine l_val E ok (y_lss rfl rfl) rfl rfl fun a E => ?_
  refine wpList_nil ?_
  refine t_norm ?_
  refine c_if E rfl (fun hc38 => ?_) (fun hc38 => ?_)
  rotate_left
  · replace hF := cond_f hc38 hF
    refine wp_exit ?_
    refine t_exit ?_
    obtain rfl := Option.some.inj hF
    exact step_o (by nofun) (sl ⟨rfl, ⟨ok, E.keep [1, 5], r29, r30, r31, r32, r33, r34, r35, r36, r37⟩⟩)
  replace hF := cond_t hc38 hF
  refine wp_skip ?_
  refine t_norm ?_
  refine wp_seq ?_
  refine wp_block ?_
  refine wp_block ?_
  refine wp_seq ?_
  refine c_region ?_
  refine l_val E ok (y_move rfl) rfl rfl fun a E => ?_
  refine l_val E ok (y_move rfl) rfl rfl fun a E => ?_
  obtain ⟨c39, e40, hF⟩ := bnd hF
  refine l_val E ok (y_index Tryd.underlying9 rfl rfl e40) rfl rfl fun a E => ?_
  refine l_val E ok (y_eql rfl rfl) rfl rfl fun a E => ?_
  refine l_val E ok (y_move rfl) rfl rfl fun a E => ?_
  refine bsplit ((c39.toNat : Int) == 123) (fun hc41 => ?_) (fun hc41 => ?_)
  rotate_left
  · as_aux_lemma =>
      replace hF := cond_f hc41 hF
      replace E := E.upd 26 hc41 rfl
      refine l_skip E rfl rfl fun a E => ?_
      refine l_skip E rfl rfl fun a E => ?_
      refine l_skip E rfl rfl fun a E => ?_
      refine l_skip E rfl rfl fun a E => ?_
      refine l_skip E rfl rfl fun a E => ?_
      refine l_val E ok (y_pickF rfl rfl) rfl rfl fun a E => ?_
      refine l_val E ok (y_move rfl) rfl rfl fun a E => ?_
      refine l_skip E rfl rfl fun a E => ?_
      refine l_skip E rfl rfl fun a E => ?_
      refine l_skip E rfl rfl fun a E => ?_
      refine l_skip E rfl rfl fun a E => ?_
      refine l_skip E rfl rfl fun a E => ?_
      refine l_val E ok (y_pickF rfl rfl) rfl rfl fun a E => ?_
      refine l_val E ok (y_move rfl) rfl rfl fun a E => ?_
      refine l_skip E rfl rfl fun a E => ?_
      refine l_skip E rfl rfl fun a E => ?_
      refine l_skip E rfl rfl fun a E => ?_
      refine l_skip E rfl rfl fun a E => ?_
      refine l_skip E rfl rfl fun a E => ?_
      refine l_val E ok (y_pickF rfl rfl) rfl rfl fun a E => ?_
      refine l_val E ok (y_move rfl) rfl rfl fun a E => ?_
      refine l_skip E rfl rfl fun a E => ?_
      refine l_skip E rfl rfl fun a E => ?_
      refine l_skip E rfl rfl fun a E => ?_
      refine l_skip E rfl rfl fun a E => ?_
      refine l_skip E rfl rfl fun a E => ?_
      refine l_skip E rfl rfl fun a E => ?_
      refine l_skip E rfl rfl fun a E => ?_
      refine l_skip E rfl rfl fun a E => ?_
      refine l_val E ok (y_pickF rfl rfl) rfl rfl fun a E => ?_
      refine l_val E ok (y_assign rfl) rfl rfl fun a E => ?_
      refine wpList_nil ?_
      refine t_norm ?_
      refine c_if E rfl (fun h => by cases h) (fun _ => ?_)
      refine wp_seq ?_
      refine c_region ?_
      refine l_val E ok (y_move rfl) rfl rfl fun a E => ?_
      refine l_val E ok (y_move rfl) rfl rfl fun a E => ?_
      obtain ⟨c86, e87, hF⟩ := bnd hF
      refine l_val E ok (y_index Tryd.underlying9 rfl rfl e87) rfl rfl fun a E => ?_
      refine l_val E ok (y_eql rfl rfl) rfl rfl fun a E => ?_
      refine l_val E ok (y_move rfl) rfl rfl fun a E => ?_
      refine bsplit ((c86.toNat : Int) == 123) (fun hc88 => ?_) (fun hc88 => ?_)
      · replace hF := cond_t hc88 hF
        replace E := E.upd 73 hc88 rfl
        refine l_skip E rfl rfl fun a E => ?_
        refine l_skip E rfl rfl fun a E => ?_
        refine l_skip E rfl rfl fun a E => ?_
        refine l_skip E rfl rfl fun a E => ?_
        refine l_val E ok (y_pickT rfl rfl) rfl rfl fun a E => ?_
        refine l_val E ok (y_assign rfl) rfl rfl fun a E => ?_
        refine wpList_nil ?_
        refine t_norm ?_
        refine c_if E rfl (fun _ => ?_) (fun h => by cases h)
        refine wp_seq ?_
        refine c_region ?_
        refine l_val E ok (y_assign rfl) rfl rfl fun a E => ?_
        refine wpList_nil ?_
        refine t_norm ?_
        refine wp_ret ?_
        refine b_ret ?_
        refine b_ret ?_
        refine t_ret ?_
        have hret : calqueref13_Pattern_R u m0 S false a w := ⟨ok.drop, E.d, ⟨rv_t E rfl, trivial⟩⟩
        obtain rfl := Option.some.inj hF
        exact step_o (by nofun) (sr ⟨rfl, hret⟩)
      replace hF := cond_f hc88 hF
      replace E := E.upd 73 hc88 rfl
      refine l_val E ok (y_move rfl) rfl rfl fun a E => ?_
      refine l_val E ok (y_move rfl) rfl rfl fun a E => ?_
      obtain ⟨c89, e90, hF⟩ := bnd hF
      refine l_val E ok (y_index Tryd.underlying9 rfl rfl e90) rfl rfl fun a E => ?_
      refine l_val E ok (y_eql rfl rfl) rfl rfl fun a E => ?_
      refine l_val E ok (y_pickF rfl rfl) rfl rfl fun a E => ?_
      refine l_val E ok (y_assign rfl) rfl rfl fun a E => ?_
      refine wpList_nil ?_
      refine t_norm ?_
      refine c_if E rfl (fun hc91 => ?_) (fun hc91 => ?_)
      rotate_left
      · replace hF := cond_f hc91 hF
        refine wp_skip ?_
        refine b_norm ?_
        refine b_norm ?_
        refine t_norm ?_
        refine c_region ?_
        refine l_val E ok (y_move rfl) rfl rfl fun a E => ?_
        refine l_val E ok (y_add rfl rfl (InR.inc r28 (InR.len ls_0) hc38)) rfl rfl fun a E => ?_
        refine l_val E ok (y_assign rfl) rfl rfl fun a E => ?_
        refine wpList_nil ?_
        obtain rfl := Option.some.inj hF
        exact step_n ⟨ok, E.keep [0, 1, 5, 6], (InR.inc r28 (InR.len ls_0) hc38), r29, r30, r31, r32, r33, r34, r35, r36, r37⟩
      replace hF := cond_t hc91 hF
      refine wp_seq ?_
      refine c_region ?_
      refine l_val E ok (y_assign rfl) rfl rfl fun a E => ?_
      refine wpList_nil ?_
      refine t_norm ?_
      refine wp_ret ?_
      refine b_ret ?_
      refine b_ret ?_
      refine t_ret ?_
      have hret : calqueref13_Pattern_R u m0 S false a w := ⟨ok.drop, E.d, ⟨rv_t E rfl, trivial⟩⟩
      obtain rfl := Option.some.inj hF
      exact step_o (by nofun) (sr ⟨rfl, hret⟩)
  replace hF := cond_t hc41 hF
  replace E := E.upd 26 hc41 rfl
  refine l_val E ok (y_move rfl) rfl rfl fun a E => ?_
  refine l_val E ok (y_addw rfl rfl) rfl rfl fun a E => ?_
  refine l_val E ok (y_move rfl) rfl rfl fun a E => ?_
  refine l_val E ok (y_slen Tryd.underlying9 rfl) rfl rfl fun a E => ?_
  refine l_val E ok (y_lss rfl rfl) rfl rfl fun a E => ?_
  refine l_val E ok (y_pickT rfl rfl) rfl rfl fun a E => ?_
  refine l_val E ok (y_move rfl) rfl rfl fun a E => ?_
  refine bsplit (decide ((IntKind.wrap .i64 (i_26 + 2)) < (s_0.length : Int))) (fun hc42 => ?_) (fun hc42 => ?_)
  rotate_left
  · as_aux_lemma =>
      replace hF := cond_f hc42 hF
      replace E := E.upd 33 hc42 rfl
      refine l_skip E rfl rfl fun a E => ?_
      refine l_skip E rfl rfl fun a E => ?_
      refine l_skip E rfl rfl fun a E => ?_
      refine l_skip E rfl rfl fun a E => ?_
      refine l_skip E rfl rfl fun a E => ?_
      refine l_val E ok (y_pickF rfl rfl) rfl rfl fun a E => ?_
      refine l_val E ok (y_move rfl) rfl rfl fun a E => ?_
      refine l_skip E rfl rfl fun a E => ?_
      refine l_skip E rfl rfl fun a E => ?_
      refine l_skip E rfl rfl fun a E => ?_
      refine l_skip E rfl rfl fun a E => ?_
      refine l_skip E rfl rfl fun a E => ?_
      refine l_val E ok (y_pickF rfl rfl) rfl rfl fun a E => ?_
      refine l_val E ok (y_move rfl) rfl rfl fun a E => ?_
      refine l_skip E rfl rfl fun a E => ?_
      refine l_skip E rfl rfl fun a E => ?_
      refine l_skip E rfl rfl fun a E => ?_
      refine l_skip E rfl rfl fun a E => ?_
      refine l_skip E rfl rfl fun a E => ?_
      refine l_skip E rfl rfl fun a E => ?_
      refine l_skip E rfl rfl fun a E => ?_
      refine l_skip E rfl rfl fun a E => ?_
      refine l_val E ok (y_pickF rfl rfl) rfl rfl fun a E => ?_
      refine l_val E ok (y_assign rfl) rfl rfl fun a E => ?_
      refine wpList_nil ?_
      refine t_norm ?_
      refine c_if E rfl (fun h => by cases h) (fun _ => ?_)
      refine wp_seq ?_
      refine c_region ?_
      refine l_val E ok (y_move rfl) rfl rfl fun a E => ?_
      refine l_val E ok (y_move rfl) rfl rfl fun a E => ?_
      obtain ⟨c80, e81, hF⟩ := bnd hF
      refine l_val E ok (y_index Tryd.underlying9 rfl rfl e81) rfl rfl fun a E => ?_
      refine l_val E ok (y_eql rfl rfl) rfl rfl fun a E => ?_
      refine l_val E ok (y_move rfl) rfl rfl fun a E => ?_
      refine bsplit ((c80.toNat : Int) == 123) (fun hc82 => ?_) (fun hc82 => ?_)
      · replace hF := cond_t hc82 hF
        replace E := E.upd 73 hc82 rfl
        refine l_skip E rfl rfl fun a E => ?_
        refine l_skip E rfl rfl fun a E => ?_
        refine l_skip E rfl rfl fun a E => ?_
        refine l_skip E rfl rfl fun a E => ?_
        refine l_val E ok (y_pickT rfl rfl) rfl rfl fun a E => ?_
        refine l_val E ok (y_assign rfl) rfl rfl fun a E => ?_
        refine wpList_nil ?_
        refine t_norm ?_
        refine c_if E rfl (fun _ => ?_) (fun h => by cases h)
        refine wp_seq ?_
        refine c_region ?_
        refine l_val E ok (y_assign rfl) rfl rfl fun a E => ?_
        refine wpList_nil ?_
        refine t_norm ?_
        refine wp_ret ?_
        refine b_ret ?_
        refine b_ret ?_
        refine t_ret ?_
        have hret : calqueref13_Pattern_R u m0 S false a w := ⟨ok.drop, E.d, ⟨rv_t E rfl, trivial⟩⟩
        obtain rfl := Option.some.inj hF
        exact step_o (by nofun) (sr ⟨rfl, hret⟩)
      replace hF := cond_f hc82 hF
      replace E := E.upd 73 hc82 rfl
      refine l_val E ok (y_move rfl) rfl rfl fun a E => ?_
      refine l_val E ok (y_move rfl) rfl rfl fun a E => ?_
      obtain ⟨c83, e84, hF⟩ := bnd hF
      refine l_val E ok (y_index Tryd.underlying9 rfl rfl e84) rfl rfl fun a E => ?_
      refine l_val E ok (y_eql rfl rfl) rfl rfl fun a E => ?_
      refine l_val E ok (y_pickF rfl rfl) rfl rfl fun a E => ?_
      refine l_val E ok (y_assign rfl) rfl rfl fun a E => ?_
      refine wpList_nil ?_
      refine t_norm ?_
      refine c_if E rfl (fun hc85 => ?_) (fun hc85 => ?_)
      rotate_left
      · replace hF := cond_f hc85 hF
        refine wp_skip ?_
        refine b_norm ?_
        refine b_norm ?_
        refine t_norm ?_
        refine c_region ?_
        refine l_val E ok (y_move rfl) rfl rfl fun a E => ?_
        refine l_val E ok (y_add rfl rfl (InR.inc r28 (InR.len ls_0) hc38)) rfl rfl fun a E => ?_
        refine l_val E ok (y_assign rfl) rfl rfl fun a E => ?_
        refine wpList_nil ?_
        obtain rfl := Option.some.inj hF
        exact step_n ⟨ok, E.keep [0, 1, 5, 6], (InR.inc r28 (InR.len ls_0) hc38), r29, r30, r31, r32, r33, r34, r35, r36, r37⟩
      replace hF := cond_t hc85 hF
      refine wp_seq ?_
      refine c_region ?_
      refine l_val E ok (y_assign rfl) rfl rfl fun a E => ?_
      refine wpList_nil ?_
      refine t_norm ?_
      refine wp_ret ?_
      refine b_ret ?_
      refine b_ret ?_
      refine t_ret ?_
      have hret : calqueref13_Pattern_R u m0 S false a w := ⟨ok.drop, E.d, ⟨rv_t E rfl, trivial⟩⟩
      obtain rfl := Option.some.inj hF
      exact step_o (by nofun) (sr ⟨rfl, hret⟩)
  replace hF := cond_t hc42 hF
  replace E := E.upd 33 hc42 rfl
  refine l_val E ok (y_move rfl) rfl rfl fun a E => ?_
  refine l_val E ok (y_move rfl) rfl rfl fun a E => ?_
  refine l_val E ok (y_addw rfl rfl) rfl rfl fun a E => ?_
  obtain ⟨c43, e44, hF⟩ := bnd hF
  refine l_val E ok (y_index Tryd.underlying9 rfl rfl e44) rfl rfl fun a E => ?_
  refine l_val E ok (y_eql rfl rfl) rfl rfl fun a E => ?_
  refine l_val E ok (y_pickT rfl rfl) rfl rfl fun a E => ?_
  refine l_val E ok (y_move rfl) rfl rfl fun a E => ?_
  refine bsplit ((c43.toNat : Int) == 125) (fun hc45 => ?_) (fun hc45 => ?_)
  rotate_left
  · as_aux_lemma =>
      replace hF := cond_f hc45 hF
      replace E := E.upd 40 hc45 rfl
      refine l_skip E rfl rfl fun a E => ?_
      refine l_skip E rfl rfl fun a E => ?_
      refine l_skip E rfl rfl fun a E => ?_
      refine l_skip E rfl rfl fun a E => ?_
      refine l_skip E rfl rfl fun a E => ?_
      refine l_val E ok (y_pickF rfl rfl) rfl rfl fun a E => ?_
      refine l_val E ok (y_move rfl) rfl rfl fun a E => ?_
      refine l_skip E rfl rfl fun a E => ?_
      refine l_skip E rfl rfl fun a E => ?_
      refine l_skip E rfl rfl fun a E => ?_
      refine l_skip E rfl rfl fun a E => ?_
      refine l_skip E rfl rfl fun a E => ?_
      refine l_skip E rfl rfl fun a E => ?_
      refine l_skip E rfl rfl fun a E => ?_
      refine l_skip E rfl rfl fun a E => ?_
      refine l_val E ok (y_pickF rfl rfl) rfl rfl fun a E => ?_
      refine l_val E ok (y_assign rfl) rfl rfl fun a E => ?_
      refine wpList_nil ?_
      refine t_norm ?_
      refine c_if E rfl (fun h => by cases h) (fun _ => ?_)
      refine wp_seq ?_
      refine c_region ?_
      refine l_val E ok (y_move rfl) rfl rfl fun a E => ?_
      refine l_val E ok (y_move rfl) rfl rfl fun a E => ?_
      obtain ⟨c74, e75, hF⟩ := bnd hF
      refine l_val E ok (y_index Tryd.underlying9 rfl rfl e75) rfl rfl fun a E => ?_
      refine l_val E ok (y_eql rfl rfl) rfl rfl fun a E => ?_
      refine l_val E ok (y_move rfl) rfl rfl fun a E => ?_
      refine bsplit ((c74.toNat : Int) == 123) (fun hc76 => ?_) (fun hc76 => ?_)
      · replace hF := cond_t hc76 hF
        replace E := E.upd 73 hc76 rfl
        refine l_skip E rfl rfl fun a E => ?_
        refine l_skip E rfl rfl fun a E => ?_
        refine l_skip E rfl rfl fun a E => ?_
        refine l_skip E rfl rfl fun a E => ?_
        refine l_val E ok (y_pickT rfl rfl) rfl rfl fun a E => ?_
        refine l_val E ok (y_assign rfl) rfl rfl fun a E => ?_
        refine wpList_nil ?_
        refine t_norm ?_
        refine c_if E rfl (fun _ => ?_) (fun h => by cases h)
        refine wp_seq ?_
        refine c_region ?_
        refine l_val E ok (y_assign rfl) rfl rfl fun a E => ?_
        refine wpList_nil ?_
        refine t_norm ?_
        refine wp_ret ?_
        refine b_ret ?_
        refine b_ret ?_
        refine t_ret ?_
        have hret : calqueref13_Pattern_R u m0 S false a w := ⟨ok.drop, E.d, ⟨rv_t E rfl, trivial⟩⟩
        obtain rfl := Option.some.inj hF
        exact step_o (by nofun) (sr ⟨rfl, hret⟩)
      replace hF := cond_f hc76 hF
      replace E := E.upd 73 hc76 rfl
      refine l_val E ok (y_move rfl) rfl rfl fun a E => ?_
      refine l_val E ok (y_move rfl) rfl rfl fun a E => ?_
      obtain ⟨c77, e78, hF⟩ := bnd hF
      refine l_val E ok (y_index Tryd.underlying9 rfl rfl e78) rfl rfl fun a E => ?_
      refine l_val E ok (y_eql rfl rfl) rfl rfl fun a E => ?_
      refine l_val E ok (y_pickF rfl rfl) rfl rfl fun a E => ?_
      refine l_val E ok (y_assign rfl) rfl rfl fun a E => ?_
      refine wpList_nil ?_
      refine t_norm ?_
      refine c_if E rfl (fun hc79 => ?_) (fun hc79 => ?_)
      rotate_left
      · replace hF := cond_f hc79 hF
        refine wp_skip ?_
        refine b_norm ?_
        refine b_norm ?_
        refine t_norm ?_
        refine c_region ?_
        refine l_val E ok (y_move rfl) rfl rfl fun a E => ?_
        refine l_val E ok (y_add rfl rfl (InR.inc r28 (InR.len ls_0) hc38)) rfl rfl fun a E => ?_
        refine l_val E ok (y_assign rfl) rfl rfl fun a E => ?_
        refine wpList_nil ?_
        obtain rfl := Option.some.inj hF
        exact step_n ⟨ok, E.keep [0, 1, 5, 6], (InR.inc r28 (InR.len ls_0) hc38), r29, r30, r31, r32, r33, r34, r35, r36, r37⟩
      replace hF := cond_t hc79 hF
      refine wp_seq ?_
      refine c_region ?_
      refine l_val E ok (y_assign rfl) rfl rfl fun a E => ?_
      refine wpList_nil ?_
      refine t_norm ?_
      refine wp_ret ?_
      refine b_ret ?_
      refine b_ret ?_
      refine t_ret ?_
      have hret : calqueref13_Pattern_R u m0 S false a w := ⟨ok.drop, E.d, ⟨rv_t E rfl, trivial⟩⟩
      obtain rfl := Option.some.inj hF
      exact step_o (by nofun) (sr ⟨rfl, hret⟩)
  replace hF := cond_t hc45 hF
  replace E := E.upd 40 hc45 rfl
  refine l_val E ok (y_move rfl) rfl rfl fun a E => ?_
  refine l_val E ok (y_move rfl) rfl rfl fun a E => ?_
  refine l_val E ok (y_add rfl rfl (InR.inc r28 (InR.len ls_0) hc38)) rfl rfl fun a E => ?_
  obtain ⟨c46, e47, hF⟩ := bnd hF
  refine l_val E ok (y_index Tryd.underlying9 rfl rfl e47) rfl rfl fun a E => ?_
  refine l_val E ok (y_geq rfl rfl) rfl rfl fun a E => ?_
  refine l_val E ok (y_pickT rfl rfl) rfl rfl fun a E => ?_
  refine l_val E ok (y_move rfl) rfl rfl fun a E => ?_
  refine bsplit (decide ((c46.toNat : Int) ≥ 48)) (fun hc48 => ?_) (fun hc48 => ?_)
  rotate_left
  · as_aux_lemma =>
      replace hF := cond_f hc48 hF
      replace E := E.upd 47 hc48 rfl
      refine l_skip E rfl rfl fun a E => ?_
      refine l_skip E rfl rfl fun a E => ?_
      refine l_skip E rfl rfl fun a E => ?_
      refine l_skip E rfl rfl fun a E => ?_
      refine l_skip E rfl rfl fun a E => ?_
      refine l_skip E rfl rfl fun a E => ?_
      refine l_skip E rfl rfl fun a E => ?_
      refine l_skip E rfl rfl fun a E => ?_
      refine l_val E ok (y_pickF rfl rfl) rfl rfl fun a E => ?_
      refine l_val E ok (y_assign rfl) rfl rfl fun a E => ?_
      refine wpList_nil ?_
      refine t_norm ?_
      refine c_if E rfl (fun h => by cases h) (fun _ => ?_)
      refine wp_seq ?_
      refine c_region ?_
      refine l_val E ok (y_move rfl) rfl rfl fun a E => ?_
      refine l_val E ok (y_move rfl) rfl rfl fun a E => ?_
      obtain ⟨c68, e69, hF⟩ := bnd hF
      refine l_val E ok (y_index Tryd.underlying9 rfl rfl e69) rfl rfl fun a E => ?_
      refine l_val E ok (y_eql rfl rfl) rfl rfl fun a E => ?_
      refine l_val E ok (y_move rfl) rfl rfl fun a E => ?_
      refine bsplit ((c68.toNat : Int) == 123) (fun hc70 => ?_) (fun hc70 => ?_)
      · replace hF := cond_t hc70 hF
        replace E := E.upd 73 hc70 rfl
        refine l_skip E rfl rfl fun a E => ?_
        refine l_skip E rfl rfl fun a E => ?_
        refine l_skip E rfl rfl fun a E => ?_
        refine l_skip E rfl rfl fun a E => ?_
        refine l_val E ok (y_pickT rfl rfl) rfl rfl fun a E => ?_
        refine l_val E ok (y_assign rfl) rfl rfl fun a E => ?_
        refine wpList_nil ?_
        refine t_norm ?_
        refine c_if E rfl (fun _ => ?_) (fun h => by cases h)
        refine wp_seq ?_
        refine c_region ?_
        refine l_val E ok (y_assign rfl) rfl rfl fun a E => ?_
        refine wpList_nil ?_
        refine t_norm ?_
        refine wp_ret ?_
        refine b_ret ?_
        refine b_ret ?_
        refine t_ret ?_
        have hret : calqueref13_Pattern_R u m0 S false a w := ⟨ok.drop, E.d, ⟨rv_t E rfl, trivial⟩⟩
        obtain rfl := Option.some.inj hF
        exact step_o (by nofun) (sr ⟨rfl, hret⟩)
      replace hF := cond_f hc70 hF
      replace E := E.upd 73 hc70 rfl
      refine l_val E ok (y_move rfl) rfl rfl fun a E => ?_
      refine l_val E ok (y_move rfl) rfl rfl fun a E => ?_
      obtain ⟨c71, e72, hF⟩ := bnd hF
      refine l_val E ok (y_index Tryd.underlying9 rfl rfl e72) rfl rfl fun a E => ?_
      refine l_val E ok (y_eql rfl rfl) rfl rfl fun a E => ?_
      refine l_val E ok (y_pickF rfl rfl) rfl rfl fun a E => ?_
      refine l_val E ok (y_assign rfl) rfl rfl fun a E => ?_
      refine wpList_nil ?_
      refine t_norm ?_
      refine c_if E rfl (fun hc73 => ?_) (fun hc73 => ?_)
      rotate_left
      · replace hF := cond_f hc73 hF
        refine wp_skip ?_
        refine b_norm ?_
        refine b_norm ?_
        refine t_norm ?_
        refine c_region ?_
        refine l_val E ok (y_move rfl) rfl rfl fun a E => ?_
        refine l_val E ok (y_add rfl rfl (InR.inc r28 (InR.len ls_0) hc38)) rfl rfl fun a E => ?_
        refine l_val E ok (y_assign rfl) rfl rfl fun a E => ?_
        refine wpList_nil ?_
        obtain rfl := Option.some.inj hF
        exact step_n ⟨ok, E.keep [0, 1, 5, 6], (InR.inc r28 (InR.len ls_0) hc38), r29, r30, r31, r32, r33, r34, r35, r36, r37⟩
      replace hF := cond_t hc73 hF
      refine wp_seq ?_
      refine c_region ?_
      refine l_val E ok (y_assign rfl) rfl rfl fun a E => ?_
      refine wpList_nil ?_
      refine t_norm ?_
      refine wp_ret ?_
      refine b_ret ?_
      refine b_ret ?_
      refine t_ret ?_
      have hret : calqueref13_Pattern_R u m0 S false a w := ⟨ok.drop, E.d, ⟨rv_t E rfl, trivial⟩⟩
      obtain rfl := Option.some.inj hF
      exact step_o (by nofun) (sr ⟨rfl, hret⟩)
  replace hF := cond_t hc48 hF
  replace E := E.upd 47 hc48 rfl
  refine l_val E ok (y_move rfl) rfl rfl fun a E => ?_
  refine l_val E ok (y_move rfl) rfl rfl fun a E => ?_
  refine l_val E ok (y_add rfl rfl (InR.inc r28 (InR.len ls_0) hc38)) rfl rfl fun a E => ?_
  obtain ⟨c49, e50, hF⟩ := bnd hF
  refine l_val E ok (y_index Tryd.underlying9 rfl rfl e50) rfl rfl fun a E => ?_
  refine l_val E ok (y_subw rfl rfl) rfl rfl fun a E => ?_
  refine l_val E ok (y_convw Tryd.underlying5 Tryd.underlying3 rfl (InR.wrap _ _) (by decide)) rfl rfl fun a E => ?_
  refine l_val E ok (y_move rfl) rfl rfl fun a E => ?_
  refine l_val E ok (y_lss rfl rfl) rfl rfl fun a E => ?_
  refine l_val E ok (y_pickT rfl rfl) rfl rfl fun a E => ?_
  refine l_val E ok (y_assign rfl) rfl rfl fun a E => ?_
  refine wpList_nil ?_
  refine t_norm ?_
  refine c_if E rfl (fun hc51 => ?_) (fun hc51 => ?_)
  · replace hF := cond_t hc51 hF
    refine wp_seq ?_
    refine c_region ?_
    refine l_val E ok (y_move rfl) rfl rfl fun a E => ?_
    refine l_val E ok (y_move rfl) rfl rfl fun a E => ?_
    refine l_val E ok (y_add rfl rfl (InR.inc r28 (InR.len ls_0) hc38)) rfl rfl fun a E => ?_
    obtain ⟨c52, e53, hF⟩ := bnd hF
    refine l_val E ok (y_index Tryd.underlying9 rfl rfl e53) rfl rfl fun a E => ?_
    refine l_val E ok (y_subw rfl rfl) rfl rfl fun a E => ?_
    obtain ⟨x54, e55, hF⟩ := bnd hF
    replace e55 : idx (Arr9_Int.list x_27) (IntKind.wrap .u8 ((c52.toNat : Int) - 48)) = some x54 := e55
    refine l_val E ok (y_arAt art_50 rfl rfl (idx_range e55).1 (idx_range e55).2) rfl rfl fun a E => ?_
    refine l_val E ok (y_load one_3 rfl (Holds.idx (xs := Arr9_Int.list x_27) (f := (Value.int .i64)) (Holds.own 0 rfl rfl) e55)) rfl rfl fun a E => ?_
    refine l_val E ok (y_addw rfl rfl) rfl rfl fun a E => ?_
    obtain ⟨x56, e57, hF⟩ := bnd hF
    replace e57 : idx (Arr9_Int.list x_27) (IntKind.wrap .u8 ((c52.toNat : Int) - 48)) = some x56 := e57
    refine l_val E ok (y_arAt art_50 rfl rfl (idx_range e57).1 (idx_range e57).2) rfl rfl fun a E => ?_
    obtain ⟨z58, e59, hF⟩ := bnd hF
    have h60 := Arr9_Int.set_list e59
    have h61 := AllP.setI (q := (InR .i64)) (xs := Arr9_Int.list x_27) ⟨r29, r30, r31, r32, r33, r34, r35, r36, r37, trivial⟩ (InR.wrap _ _) h60
    refine l_storeBI (c := [(Value.int .i64 x_27.e0), (Value.int .i64 x_27.e1), (Value.int .i64 x_27.e2), (Value.int .i64 x_27.e3), (Value.int .i64 x_27.e4), (Value.int .i64 x_27.e5), (Value.int .i64 x_27.e6), (Value.int .i64 x_27.e7), (Value.int .i64 x_27.e8)]) (c' := [(Value.int .i64 z58.e0), (Value.int .i64 z58.e1), (Value.int .i64 z58.e2), (Value.int .i64 z58.e3), (Value.int .i64 z58.e4), (Value.int .i64 z58.e5), (Value.int .i64 z58.e6), (Value.int .i64 z58.e7), (Value.int .i64 z58.e8)]) E ok 0 rfl rfl rfl inf_3 rfl rfl ⟨rfl, trivial⟩ (stb_le (n := 9) (idx_range e57).2 (Nat.le_of_ble_eq_true rfl)) (wr_at (f := (Value.int .i64)) (pre := []) (post := []) (xs := Arr9_Int.list x_27) (ys := z58.list) rfl h60) rfl fun w ok => ?_
    refine wpList_nil ?_
    refine t_norm ?_
    refine c_region ?_
    refine l_val E ok (y_move rfl) rfl rfl fun a E => ?_
    refine l_val E ok (y_addw rfl rfl) rfl rfl fun a E => ?_
    refine l_val E ok (y_assign rfl) rfl rfl fun a E => ?_
    refine wpList_nil ?_
    refine b_norm ?_
    refine b_norm ?_
    refine t_norm ?_
    refine c_region ?_
    refine l_val E ok (y_move rfl) rfl rfl fun a E => ?_
    refine l_val E ok (y_add rfl rfl (InR.inc (InR.wrap _ _) (InR.len ls_0) hc42)) rfl rfl fun a E => ?_
    refine l_val E ok (y_assign rfl) rfl rfl fun a E => ?_
    refine wpList_nil ?_
    obtain rfl := Option.some.inj hF
    exact step_n ⟨ok, E.keep [0, 1, 5, 6], (InR.inc (InR.wrap _ _) (InR.len ls_0) hc42), h61.1, h61.2.1, h61.2.2.1, h61.2.2.2.1, h61.2.2.2.2.1, h61.2.2.2.2.2.1, h61.2.2.2.2.2.2.1, h61.2.2.2.2.2.2.2.1, h61.2.2.2.2.2.2.2.2.1⟩
  replace hF := cond_f hc51 hF
  refine wp_seq ?_
  refine c_region ?_
  refine l_val E ok (y_move rfl) rfl rfl fun a E => ?_
  refine l_val E ok (y_move rfl) rfl rfl fun a E => ?_
  obtain ⟨c62, e63, hF⟩ := bnd hF
  refine l_val E ok (y_index Tryd.underlying9 rfl rfl e63) rfl rfl fun a E => ?_
  refine l_val E ok (y_eql rfl rfl) rfl rfl fun a E => ?_
  refine l_val E ok (y_move rfl) rfl rfl fun a E => ?_
  refine bsplit ((c62.toNat : Int) == 123) (fun hc64 => ?_) (fun hc64 => ?_)
  · replace hF := cond_t hc64 hF
    replace E := E.upd 73 hc64 rfl
    refine l_skip E rfl rfl fun a E => ?_
    refine l_skip E rfl rfl fun a E => ?_
    refine l_skip E rfl rfl fun a E => ?_
    refine l_skip E rfl rfl fun a E => ?_
    refine l_val E ok (y_pickT rfl rfl) rfl rfl fun a E => ?_
    refine l_val E ok (y_assign rfl) rfl rfl fun a E => ?_
    refine wpList_nil ?_
    refine t_norm ?_
    refine c_if E rfl (fun _ => ?_) (fun h => by cases h)
    refine wp_seq ?_
    refine c_region ?_
    refine l_val E ok (y_assign rfl) rfl rfl fun a E => ?_
    refine wpList_nil ?_
    refine t_norm ?_
    refine wp_ret ?_
    refine b_ret ?_
    refine b_ret ?_
    refine t_ret ?_
    have hret : calqueref13_Pattern_R u m0 S false a w := ⟨ok.drop, E.d, ⟨rv_t E rfl, trivial⟩⟩
    obtain rfl := Option.some.inj hF
    exact step_o (by nofun) (sr ⟨rfl, hret⟩)
  replace hF := cond_f hc64 hF
  replace E := E.upd 73 hc64 rfl
  refine l_val E ok (y_move rfl) rfl rfl fun a E => ?_
  refine l_val E ok (y_move rfl) rfl rfl fun a E => ?_
  obtain ⟨c65, e66, hF⟩ := bnd hF
  refine l_val E ok (y_index Tryd.underlying9 rfl rfl e66) rfl rfl fun a E => ?_
  refine l_val E ok (y_eql rfl rfl) rfl rfl fun a E => ?_
  refine l_val E ok (y_pickF rfl rfl) rfl rfl fun a E => ?_
  refine l_val E ok (y_assign rfl) rfl rfl fun a E => ?_
  refine wpList_nil ?_
  refine t_norm ?_
  refine c_if E rfl (fun hc67 => ?_) (fun hc67 => ?_)
  rotate_left
  · replace hF := cond_f hc67 hF
    refine wp_skip ?_
    refine b_norm ?_
    refine b_norm ?_
    refine t_norm ?_
    refine c_region ?_
    refine l_val E ok (y_move rfl) rfl rfl fun a E => ?_
    refine l_val E ok (y_add rfl rfl (InR.inc r28 (InR.len ls_0) hc38)) rfl rfl fun a E => ?_
    refine l_val E ok (y_assign rfl) rfl rfl fun a E => ?_
    refine wpList_nil ?_
    obtain rfl := Option.some.inj hF
    exact step_n ⟨ok, E.keep [0, 1, 5, 6], (InR.inc r28 (InR.len ls_0) hc38), r29, r30, r31, r32, r33, r34, r35, r36, r37⟩
  replace hF := cond_t hc67 hF
  refine wp_seq ?_
  refine c_region ?_
  refine l_val E ok (y_assign rfl) rfl rfl fun a E => ?_
  refine wpList_nil ?_
  refine t_norm ?_
  refine wp_ret ?_
  refine b_ret ?_
  refine b_ret ?_
  refine t_ret ?_
  have hret : calqueref13_Pattern_R u m0 S false a w := ⟨ok.drop, E.d, ⟨rv_t E rfl, trivial⟩⟩
  obtain rfl := Option.some.inj hF
  exact step_o (by nofun) (sr ⟨rfl, hret⟩)

def list_Find_R (u : World) (m0 : Mem) (S : Segs) (r : ListPattern × Bool) (a : Act) (w : World) : Prop :=
  ∃ m1 v0, m0.le m1 ∧ Ok u m1 S w ∧ a.defers = [] ∧ RVs Tryd.prog a w [.c 4 23 (.agg v0.toArray), .t 5 (.bool r.2)] ∧ pListPattern m1 v0 r.1
set_option maxHeartbeats 4000000 in
set_option maxRecDepth 100000 in
theorem list_Find_w {u : World} {m0 : Mem} {S : Segs} {w : World} (N : Nat) (vloc_0 : List Value) (loc_0 : Locale) (hloc_0 : pLocale m0 vloc_0 loc_0) (style_1 : List UInt8) (lstyle_1 : style_1.length ≤ LIMS) {r : ListPattern × Bool} (hF : list_Find N loc_0 style_1 = some r) (hG : Glob u) (ok : Ok u m0 S w) :
    Calls Tryd.prog 15 [.agg vloc_0.toArray, Value.string (bs style_1)].toArray w fun e w' => ∃ m1 v0, e = .returned (.tuple [(.agg v0.toArray), (.bool r.2)].toArray) ∧ m0.le m1 ∧ Ok u m1 S w' ∧ pListPattern m1 v0 r.1 := by
  obtain ⟨c4, c6, c14, c16, c18, c20, c22, rfl, l1, l2, l3, h5, h7, l8, l9, l10, l11, r12, r13, h15, h17, h19, h21, h23⟩ := hloc_0
  have le_m0 := Mem.le.refl m0
  unfold list_Find at hF
  have fin : ∀ a w, list_Find_R u m0 S r a w → bodyPost Tryd.prog Tryd.f15 (fun e w' => ∃ m1 v0, e = .returned (.tuple [(.agg v0.toArray), (.bool r.2)].toArray) ∧ m0.le m1 ∧ Ok u m1 S w' ∧ pListPattern m1 v0 r.1) .ret a w := by
    intro a w h
    obtain ⟨m1, v0, hle, ok, hd, hrv, h0⟩ := h
    exact c_ret2 [.c 4 23 (.agg v0.toArray), .t 5 (.bool r.2)] hd rfl hrv ⟨m1, v0, rfl, hle, ok, h0⟩
  refine enter Tryd.func15 rfl rfl rfl fun a E => ?_
  refine wp_seq ?_
  refine c_region ?_
  refine l_box E ok rfl rfl rfl fun b24 a w E ok => ?_
  refine l_alloc E ok zero_23 rfl rfl fun b25 a w E ok => ?_
  refine l_val E ok (y_assign rfl) rfl rfl fun a E => ?_
  refine wpList_nil ?_
  refine t_norm ?_
  refine wp_seq ?_
  refine wp_seq ?_
  refine c_region ?_
  refine l_val E ok (y_fieldAddr fo_37_6 rfl) rfl rfl fun a E => ?_
  refine l_val E ok (y_load one_33 rfl (Holds.own 1 rfl rfl)) rfl rfl fun a E => ?_
  refine l_val E ok (y_lenL sl_33 h15 rfl) rfl rfl fun a E => ?_
  refine l_val E ok (y_move rfl) rfl rfl fun a E => ?_
  refine wpList_nil ?_
  refine t_norm ?_
  refine wp_block ?_
  obtain ⟨o27, hL, hF⟩ := bnd hF
  refine c_loop _ (fun (s : Int) a w => Ok u m0 ([(b25, Obj.cells [(Value.string (bs ([]))), (Value.string (bs ([]))), (Value.string (bs ([]))), (Value.string (bs ([]))), (Value.string (bs ([])))].toArray 23 (0, 0))] :: [(b24, Obj.cells [(Value.string (bs loc_0.Tag)), (Value.string (bs loc_0.Parent)), (Value.string (bs loc_0.Direction)), c4, c6, (Value.string (bs loc_0.Symbols.Decimal)), (Value.string (bs loc_0.Symbols.Group)), (Value.string (bs loc_0.Symbols.Minus)), (Value.string (bs loc_0.Symbols.Percent)), (Value.int .i64 loc_0.Symbols.Primary), (Value.int .i64 loc_0.Symbols.Secondary), c14, c16, c18, c20, c22].toArray 37 (0, 0))] :: S) w ∧ Env 22 a [(1, (Value.string (bs style_1))), (4, (Value.pointer (some ⟨b25, 0, none⟩))), (9, c14), (10, (Value.int .i64 (loc_0.Lists.length : Int))), (11, (Value.int .i64 s))] ∧ InR .i64 s) (fun (b : (Unit ⊕ (ListPattern × Bool))) e a w => (Sum.elim (fun b48 => e = (.exit 0) ∧ Ok u m0 ([(b25, Obj.cells [(Value.string (bs ([]))), (Value.string (bs ([]))), (Value.string (bs ([]))), (Value.string (bs ([]))), (Value.string (bs ([])))].toArray 23 (0, 0))] :: [(b24, Obj.cells [(Value.string (bs loc_0.Tag)), (Value.string (bs loc_0.Parent)), (Value.string (bs loc_0.Direction)), c4, c6, (Value.string (bs loc_0.Symbols.Decimal)), (Value.string (bs loc_0.Symbols.Group)), (Value.string (bs loc_0.Symbols.Minus)), (Value.string (bs loc_0.Symbols.Percent)), (Value.int .i64 loc_0.Symbols.Primary), (Value.int .i64 loc_0.Symbols.Secondary), c14, c16, c18, c20, c22].toArray 37 (0, 0))] :: S) w ∧ Env 22 a [(4, (Value.pointer (some ⟨b25, 0, none⟩)))]) (fun b49 => e = .ret ∧ list_Find_R u m0 S b49 a w)) b) ?_ ?_ N _ a w hL ⟨ok, E.keep [1, 4, 9, 10, 11], (show InR .i64 (0) by decide)⟩
  rotate_left
  · intro e a w _ hO
    rcases o27 with o27 | o27
    rotate_left
    · replace hF := elim_r hF
      obtain ⟨rfl, hret⟩ := hO
      refine b_ret ?_
      refine t_ret ?_
      obtain rfl := Option.some.inj hF
      exact fin _ _ hret
    replace hF := elim_l hF
    obtain ⟨rfl, ok, E⟩ := hO
    refine b_hit ?_
    refine t_norm ?_
    refine wp_seq ?_
    refine c_region ?_
    refine l_val E ok (y_build (ps := []) (qs := []) (cs := [(Value.string (bs ([]))), (Value.string (bs ([]))), (Value.string (bs ([]))), (Value.string (bs ([]))), (Value.string (bs ([])))]) zero_23 places_23 rfl trivial rfl) rfl rfl fun a E => ?_
    refine l_storeB E ok 0 rfl rfl rfl inf_23 rfl rfl ⟨rfl, rfl, rfl, rfl, rfl, trivial⟩ rfl rfl fun w ok => ?_
    refine l_val E ok (y_assign rfl) rfl rfl fun a E => ?_
    refine wpList_nil ?_
    refine t_norm ?_
    refine wp_ret ?_
    have hret : list_Find_R u m0 S ((ListPattern.mk ([]) ([]) ([]) ([]) ([])), false) a w := ⟨m0, [(Value.string (bs ([]))), (Value.string (bs ([]))), (Value.string (bs ([]))), (Value.string (bs ([]))), (Value.string (bs ([])))], le_m0, ok.drop.drop, E.d, ⟨rv_c (cs := [(Value.string (bs ([]))), (Value.string (bs ([]))), (Value.string (bs ([]))), (Value.string (bs ([]))), (Value.string (bs ([])))]) E ok rfl agg_23 rfl (Holds.own 0 rfl rfl), rv_t E rfl, trivial⟩, ⟨rfl, (Nat.zero_le _), (Nat.zero_le _), (Nat.zero_le _), (Nat.zero_le _), (Nat.zero_le _)⟩⟩
    obtain rfl := Option.some.inj hF
    exact fin _ _ hret
  rintro x_29 a w r ⟨ok, E, r30⟩ hF
  replace hF : list_Find_b1 N loc_0 style_1 x_29 = some r := hF
  unfold list_Find_b1 at hF
  refine wp_seq ?_
  refine c_region ?_
  refine l_val E ok (y_lss rfl rfl) rfl rfl fun a E => ?_
  refine wpList_nil ?_
  refine t_norm ?_
  refine wp_seq ?_
  refine c_if E rfl (fun hc31 => ?_) (fun hc31 => ?_)
  rotate_left
  · replace hF := cond_f hc31 hF
    refine wp_exit ?_
    refine t_exit ?_
    obtain rfl := Option.some.inj hF
    exact step_o (by nofun) (sl ⟨rfl, ⟨ok, E.keep [4]⟩⟩)
  replace hF := cond_t hc31 hF
  refine wp_skip ?_
  refine t_norm ?_
  refine wp_seq ?_
  refine wp_block ?_
  refine wp_seq ?_
  refine c_region ?_
  obtain ⟨x32, e33, hF⟩ := bnd hF
  obtain ⟨b34, o35, es36, hl37, rr38, at39, yy40⟩ := idxAt sl_33 h15 e33 (P := Tryd.prog) (X := .tmp 9) (I := .tmp 11) (kd := .i64) (ev_of E rfl) (ev_of E rfl)
  obtain ⟨rfl, l41, l42, l43, l44, l45⟩ := rr38
  refine l_val E ok (yy40 _ _) rfl rfl fun a E => ?_
  refine l_val E ok (y_loadAgg (cs := [(Value.string (bs x32.Style)), (Value.string (bs x32.Two)), (Value.string (bs x32.Start)), (Value.string (bs x32.Middle)), (Value.string (bs x32.End))]) agg_23 rfl rfl (Holds.ro at39)) rfl rfl fun a E => ?_
  refine l_alloc E ok zero_23 rfl rfl fun b46 a w E ok => ?_
  refine l_storeB E ok 0 rfl rfl rfl inf_23 rfl rfl ⟨rfl, rfl, rfl, rfl, rfl, trivial⟩ rfl rfl fun w ok => ?_
  refine wpList_nil ?_
  refine t_norm ?_
  refine wp_seq ?_
  refine c_region ?_
  refine l_val E ok (y_fieldAddr fo_23_0 rfl) rfl rfl fun a E => ?_
  refine l_val E ok (y_load one_9 rfl (Holds.own 0 rfl rfl)) rfl rfl fun a E => ?_
  refine l_val E ok (y_move rfl) rfl rfl fun a E => ?_
  refine l_val E ok (y_seql rfl rfl) rfl rfl fun a E => ?_
  refine wpList_nil ?_
  refine t_norm ?_
  refine c_if E rfl (fun hc47 => ?_) (fun hc47 => ?_)
  rotate_left
  · replace hF := cond_f hc47 hF
    refine wp_skip ?_
    refine b_norm ?_
    refine t_norm ?_
    refine c_region ?_
    refine l_val E ok (y_add rfl rfl (InR.inc r30 (pL_InR h15) hc31)) rfl rfl fun a E => ?_
    refine l_val E ok (y_move rfl) rfl rfl fun a E => ?_
    refine wpList_nil ?_
    obtain rfl := Option.some.inj hF
    exact step_n ⟨(ok.pk 3 [1, 2] rfl (by decide)), E.keep [1, 4, 9, 10, 11], (InR.inc r30 (pL_InR h15) hc31)⟩
  replace hF := cond_t hc47 hF
  refine wp_seq ?_
  refine c_region ?_
  refine l_val E ok (y_loadAgg (cs := [(Value.string (bs x32.Style)), (Value.string (bs x32.Two)), (Value.string (bs x32.Start)), (Value.string (bs x32.Middle)), (Value.string (bs x32.End))]) agg_23 rfl rfl (Holds.own 0 rfl rfl)) rfl rfl fun a E => ?_
  refine l_storeB E ok 1 rfl rfl rfl inf_23 rfl rfl ⟨rfl, rfl, rfl, rfl, rfl, trivial⟩ rfl rfl fun w ok => ?_
  refine l_val E ok (y_assign rfl) rfl rfl fun a E => ?_
  refine wpList_nil ?_
  refine t_norm ?_
  refine wp_ret ?_
  refine b_ret ?_
  refine t_ret ?_
  have hret : list_Find_R u m0 S (x32, true) a w := ⟨m0, [(Value.string (bs x32.Style)), (Value.string (bs x32.Two)), (Value.string (bs x32.Start)), (Value.string (bs x32.Middle)), (Value.string (bs x32.End))], le_m0, ok.drop.drop.drop, E.d, ⟨rv_c (cs := [(Value.string (bs x32.Style)), (Value.string (bs x32.Two)), (Value.string (bs x32.Start)), (Value.string (bs x32.Middle)), (Value.string (bs x32.End))]) E ok rfl agg_23 rfl (Holds.own 1 rfl rfl), rv_t E rfl, trivial⟩, ⟨rfl, l41, l42, l43, l44, l45⟩⟩
  obtain rfl := Option.some.inj hF
  exact step_o (by nofun) (sr ⟨rfl, hret⟩)

def calqueref16_Find_R (u : World) (m0 : Mem) (S : Segs) (r : ListPattern × Bool) (a : Act) (w : World) : Prop :=
  ∃ m1 v0, m0.le m1 ∧ Ok u m1 S w ∧ a.defers = [] ∧ RVs Tryd.prog a w [.c 4 23 (.agg v0.toArray), .t 5 (.bool r.2)] ∧ pListPattern m1 v0 r.1
set_option maxHeartbeats 4000000 in
set_option maxRecDepth 100000 in
theorem calqueref16_Find_w {u : World} {m0 : Mem} {S : Segs} {w : World} (N : Nat) (vloc_0 : List Value) (loc_0 : Locale) (hloc_0 : pLocale m0 vloc_0 loc_0) (style_1 : List UInt8) (lstyle_1 : style_1.length ≤ LIMS) {r : ListPattern × Bool} (hF : calqueref16_Find N loc_0 style_1 = some r) (hG : Glob u) (ok : Ok u m0 S w) :
    Calls Tryd.prog 16 [.agg vloc_0.toArray, Value.string (bs style_1)].toArray w fun e w' => ∃ m1 v0, e = .returned (.tuple [(.agg v0.toArray), (.bool r.2)].toArray) ∧ m0.le m1 ∧ Ok u m1 S w' ∧ pListPattern m1 v0 r.1 := by
  obtain ⟨c4, c6, c14, c16, c18, c20, c22, rfl, l1, l2, l3, h5, h7, l8, l9, l10, l11, r12, r13, h15, h17, h19, h21, h23⟩ := hloc_0
  have le_m0 := Mem.le.refl m0
  unfold calqueref16_Find at hF
  have fin : ∀ a w, calqueref16_Find_R u m0 S r a w → bodyPost Tryd.prog Tryd.f16 (fun e w' => ∃ m1 v0, e = .returned (.tuple [(.agg v0.toArray), (.bool r.2)].toArray) ∧ m0.le m1 ∧ Ok u m1 S w' ∧ pListPattern m1 v0 r.1) .ret a w := by
    intro a w h
    obtain ⟨m1, v0, hle, ok, hd, hrv, h0⟩ := h
    exact c_ret2 [.c 4 23 (.agg v0.toArray), .t 5 (.bool r.2)] hd rfl hrv ⟨m1, v0, rfl, hle, ok, h0⟩
  refine enter Tryd.func16 rfl rfl rfl fun a E => ?_
  refine wp_seq ?_
  refine c_region ?_
  refine l_box E ok rfl rfl rfl fun b24 a w E ok => ?_
  refine l_alloc E ok zero_23 rfl rfl fun b25 a w E ok => ?_
  refine l_val E ok (y_assign rfl) rfl rfl fun a E => ?_
  refine wpList_nil ?_
  refine t_norm ?_
  refine wp_seq ?_
  refine wp_seq ?_
  refine c_region ?_
  refine l_val E ok (y_assign rfl) rfl rfl fun a E => ?_
  refine wpList_nil ?_
  refine t_norm ?_
  refine wp_block ?_
  obtain ⟨o27, hL, hF⟩ := bnd hF
  refine c_loop _ (fun (s : Int) a w => Ok u m0 ([(b25, Obj.cells [(Value.string (bs ([]))), (Value.string (bs ([]))), (Value.string (bs ([]))), (Value.string (bs ([]))), (Value.string (bs ([])))].toArray 23 (0, 0))] :: [(b24, Obj.cells [(Value.string (bs loc_0.Tag)), (Value.string (bs loc_0.Parent)), (Value.string (bs loc_0.Direction)), c4, c6, (Value.string (bs loc_0.Symbols.Decimal)), (Value.string (bs loc_0.Symbols.Group)), (Value.string (bs loc_0.Symbols.Minus)), (Value.string (bs loc_0.Symbols.Percent)), (Value.int .i64 loc_0.Symbols.Primary), (Value.int .i64 loc_0.Symbols.Secondary), c14, c16, c18, c20, c22].toArray 37 (0, 0))] :: S) w ∧ Env 28 a [(1, (Value.string (bs style_1))), (2, (Value.pointer (some ⟨b24, 0, none⟩))), (4, (Value.pointer (some ⟨b25, 0, none⟩))), (6, (Value.int .i64 s))] ∧ InR .i64 s) (fun (b : (Unit ⊕ (ListPattern × Bool))) e a w => (Sum.elim (fun b61 => e = (.exit 0) ∧ Ok u m0 ([(b25, Obj.cells [(Value.string (bs ([]))), (Value.string (bs ([]))), (Value.string (bs ([]))), (Value.string (bs ([]))), (Value.string (bs ([])))].toArray 23 (0, 0))] :: [(b24, Obj.cells [(Value.string (bs loc_0.Tag)), (Value.string (bs loc_0.Parent)), (Value.string (bs loc_0.Direction)), c4, c6, (Value.string (bs loc_0.Symbols.Decimal)), (Value.string (bs loc_0.Symbols.Group)), (Value.string (bs loc_0.Symbols.Minus)), (Value.string (bs loc_0.Symbols.Percent)), (Value.int .i64 loc_0.Symbols.Primary), (Value.int .i64 loc_0.Symbols.Secondary), c14, c16, c18, c20, c22].toArray 37 (0, 0))] :: S) w ∧ Env 28 a [(4, (Value.pointer (some ⟨b25, 0, none⟩)))]) (fun b62 => e = .ret ∧ calqueref16_Find_R u m0 S b62 a w)) b) ?_ ?_ N _ a w hL ⟨ok, E.keep [1, 2, 4, 6], (show InR .i64 (0) by decide)⟩
  rotate_left
  · intro e a w _ hO
    rcases o27 with o27 | o27
    rotate_left
    · replace hF := elim_r hF
      obtain ⟨rfl, hret⟩ := hO
      refine b_ret ?_
      refine t_ret ?_
      obtain rfl := Option.some.inj hF
      exact fin _ _ hret
    replace hF := elim_l hF
    obtain ⟨rfl, ok, E⟩ := hO
    refine b_hit ?_
    refine t_norm ?_
    refine wp_seq ?_
    refine c_region ?_
    refine l_val E ok (y_build (ps := []) (qs := []) (cs := [(Value.string (bs ([]))), (Value.string (bs ([]))), (Value.string (bs ([]))), (Value.string (bs ([]))), (Value.string (bs ([])))]) zero_23 places_23 rfl trivial rfl) rfl rfl fun a E => ?_
    refine l_storeB E ok 0 rfl rfl rfl inf_23 rfl rfl ⟨rfl, rfl, rfl, rfl, rfl, trivial⟩ rfl rfl fun w ok => ?_
    refine l_val E ok (y_assign rfl) rfl rfl fun a E => ?_
    refine wpList_nil ?_
    refine t_norm ?_
    refine wp_ret ?_
    have hret : calqueref16_Find_R u m0 S ((ListPattern.mk ([]) ([]) ([]) ([]) ([])), false) a w := ⟨m0, [(Value.string (bs ([]))), (Value.string (bs ([]))), (Value.string (bs ([]))), (Value.string (bs ([]))), (Value.string (bs ([])))], le_m0, ok.drop.drop, E.d, ⟨rv_c (cs := [(Value.string (bs ([]))), (Value.string (bs ([]))), (Value.string (bs ([]))), (Value.string (bs ([]))), (Value.string (bs ([])))]) E ok rfl agg_23 rfl (Holds.own 0 rfl rfl), rv_t E rfl, trivial⟩, ⟨rfl, (Nat.zero_le _), (Nat.zero_le _), (Nat.zero_le _), (Nat.zero_le _), (Nat.zero_le _)⟩⟩
    obtain rfl := Option.some.inj hF
    exact fin _ _ hret
  rintro i_29 a w r ⟨ok, E, r30⟩ hF
  replace hF : calqueref16_Find_b1 N loc_0 style_1 i_29 = some r := hF
  unfold calqueref16_Find_b1 at hF
  refine wp_seq ?_
  refine wp_seq ?_
  refine c_region ?_
  refine l_val E ok (y_move rfl) rfl rfl fun a E => ?_
  refine l_val E ok (y_fieldAddr fo_37_6 rfl) rfl rfl fun a E => ?_
  refine l_val E ok (y_load one_33 rfl (Holds.own 1 rfl rfl)) rfl rfl fun a E => ?_
  refine l_val E ok (y_lenL sl_33 h15 rfl) rfl rfl fun a E => ?_
  refine l_val E ok (y_lss rfl rfl) rfl rfl fun a E => ?_
  refine wpList_nil ?_
  refine t_norm ?_
  refine c_if E rfl (fun hc31 => ?_) (fun hc31 => ?_)
  rotate_left
  · replace hF := cond_f hc31 hF
    refine wp_exit ?_
    refine t_exit ?_
    obtain rfl := Option.some.inj hF
    exact step_o (by nofun) (sl ⟨rfl, ⟨ok, E.keep [4]⟩⟩)
  replace hF := cond_t hc31 hF
  refine wp_skip ?_
  refine t_norm ?_
  refine wp_seq ?_
  refine wp_block ?_
  refine wp_seq ?_
  refine c_region ?_
  refine l_val E ok (y_fieldAddr fo_37_6 rfl) rfl rfl fun a E => ?_
  refine l_val E ok (y_load one_33 rfl (Holds.own 1 rfl rfl)) rfl rfl fun a E => ?_
  refine l_val E ok (y_move rfl) rfl rfl fun a E => ?_
  obtain ⟨x32, e33, hF⟩ := bnd hF
  obtain ⟨b34, o35, es36, hl37, rr38, at39, yy40⟩ := idxAt sl_33 h15 e33 (P := Tryd.prog) (X := .tmp 15) (I := .tmp 16) (kd := .i64) (ev_of E rfl) (ev_of E rfl)
  obtain ⟨rfl, l41, l42, l43, l44, l45⟩ := rr38
  refine l_val E ok (yy40 _ _) rfl rfl fun a E => ?_
  refine l_val E ok (y_fieldAddr fo_23_0 rfl) rfl rfl fun a E => ?_
  refine l_val E ok (y_load one_9 rfl (Holds.ro (At.sub 0 1 at39))) rfl rfl fun a E => ?_
  refine l_val E ok (y_move rfl) rfl rfl fun a E => ?_
  refine l_val E ok (y_seql rfl rfl) rfl rfl fun a E => ?_
  refine wpList_nil ?_
  refine t_norm ?_
  refine c_if E rfl (fun hc46 => ?_) (fun hc46 => ?_)
  rotate_left
  · replace hF := cond_f hc46 hF
    refine wp_skip ?_
    refine b_norm ?_
    refine t_norm ?_
    refine c_region ?_
    refine l_val E ok (y_move rfl) rfl rfl fun a E => ?_
    refine l_val E ok (y_add rfl rfl (InR.inc r30 (pL_InR h15) hc31)) rfl rfl fun a E => ?_
    refine l_val E ok (y_assign rfl) rfl rfl fun a E => ?_
    refine wpList_nil ?_
    obtain rfl := Option.some.inj hF
    exact step_n ⟨ok, E.keep [1, 2, 4, 6], (InR.inc r30 (pL_InR h15) hc31)⟩
  replace hF := cond_t hc46 hF
  refine wp_seq ?_
  refine c_region ?_
  refine l_val E ok (y_fieldAddr fo_37_6 rfl) rfl rfl fun a E => ?_
  refine l_val E ok (y_load one_33 rfl (Holds.own 1 rfl rfl)) rfl rfl fun a E => ?_
  refine l_val E ok (y_move rfl) rfl rfl fun a E => ?_
  obtain ⟨x47, e48, hF⟩ := bnd hF
  obtain ⟨b49, o50, es51, hl52, rr53, at54, yy55⟩ := idxAt sl_33 h15 e48 (P := Tryd.prog) (X := .tmp 23) (I := .tmp 24) (kd := .i64) (ev_of E rfl) (ev_of E rfl)
  obtain ⟨rfl, l56, l57, l58, l59, l60⟩ := rr53
  refine l_val E ok (yy55 _ _) rfl rfl fun a E => ?_
  refine l_val E ok (y_loadAgg (cs := [(Value.string (bs x47.Style)), (Value.string (bs x47.Two)), (Value.string (bs x47.Start)), (Value.string (bs x47.Middle)), (Value.string (bs x47.End))]) agg_23 rfl rfl (Holds.ro at54)) rfl rfl fun a E => ?_
  refine l_storeB E ok 0 rfl rfl rfl inf_23 rfl rfl ⟨rfl, rfl, rfl, rfl, rfl, trivial⟩ rfl rfl fun w ok => ?_
  refine l_val E ok (y_assign rfl) rfl rfl fun a E => ?_
  refine wpList_nil ?_
  refine t_norm ?_
  refine wp_ret ?_
  refine b_ret ?_
  refine t_ret ?_
  have hret : calqueref16_Find_R u m0 S (x47, true) a w := ⟨m0, [(Value.string (bs x47.Style)), (Value.string (bs x47.Two)), (Value.string (bs x47.Start)), (Value.string (bs x47.Middle)), (Value.string (bs x47.End))], le_m0, ok.drop.drop, E.d, ⟨rv_c (cs := [(Value.string (bs x47.Style)), (Value.string (bs x47.Two)), (Value.string (bs x47.Start)), (Value.string (bs x47.Middle)), (Value.string (bs x47.End))]) E ok rfl agg_23 rfl (Holds.own 0 rfl rfl), rv_t E rfl, trivial⟩, ⟨rfl, l56, l57, l58, l59, l60⟩⟩
  obtain rfl := Option.some.inj hF
  exact step_o (by nofun) (sr ⟨rfl, hret⟩)

theorem strings_Cut_w {u : World} {m0 : Mem} {S : Segs} {w : World} (N : Nat) (p0_0 : List UInt8) (lp0_0 : p0_0.length ≤ LIMS) (p1_1 : List UInt8) (lp1_1 : p1_1.length ≤ LIMS) {r : (List UInt8) × (List UInt8) × Bool} (hF : strings_Cut N p0_0 p1_1 = some r) (hG : Glob u) (ok : Ok u m0 S w) :
    Calls Tryd.prog 28 [Value.string (bs p0_0), Value.string (bs p1_1)].toArray w fun e w' => (e = .returned (.tuple [(.string (bs r.1)), (.string (bs r.2.1)), (.bool r.2.2)].toArray) ∧ Ok u m0 S w') ∧ r.1.length ≤ LIMS ∧ r.2.1.length ≤ LIMS := by
  obtain ⟨mx, hmx⟩ := hG
  exact lib_Cut Tryd.lays145 hmx p0_0 p1_1 hF lp0_0 ok

def list_fill_R (u : World) (m0 : Mem) (S : Segs) (r : (List UInt8)) (a : Act) (w : World) : Prop :=
  Ok u m0 S w ∧ a.defers = [] ∧ RVs Tryd.prog a w [.t 6 (.string (bs r))] ∧ r.length ≤ LIMS
set_option maxHeartbeats 4000000 in
set_option maxRecDepth 100000 in
theorem list_fill_w {u : World} {m0 : Mem} {S : Segs} {w : World} (N : Nat) (pattern_0 : List UInt8) (lpattern_0 : pattern_0.length ≤ LIMS) (a_1 : List UInt8) (la_1 : a_1.length ≤ LIMS) (b_2 : List UInt8) (lb_2 : b_2.length ≤ LIMS) {r : (List UInt8)} (hF : list_fill N pattern_0 a_1 b_2 = some r) (hG : Glob u) (ok : Ok u m0 S w) :
    Calls Tryd.prog 22 [Value.string (bs pattern_0), Value.string (bs a_1), Value.string (bs b_2)].toArray w fun e w' => (e = .returned (.string (bs r)) ∧ Ok u m0 S w') ∧ r.length ≤ LIMS := by
  have hb0 := ok.base
  have le_m0 := Mem.le.refl m0
  unfold list_fill at hF
  have fin : ∀ a w, list_fill_R u m0 S r a w → bodyPost Tryd.prog Tryd.f22 (fun e w' => (e = .returned (.string (bs r)) ∧ Ok u m0 S w') ∧ r.length ≤ LIMS) .ret a w := by
    intro a w h
    obtain ⟨ok, hd, hrv, h0⟩ := h
    exact c_ret2 [.t 6 (.string (bs r))] hd rfl hrv ⟨⟨rfl, ok⟩, h0⟩
  refine enter Tryd.func22 rfl rfl rfl fun a E => ?_
  refine wp_seq ?_
  refine c_region ?_
  refine l_val E ok (y_assign rfl) rfl rfl fun a E => ?_
  refine wpList_nil ?_
  refine t_norm ?_
  refine wp_seq ?_
  refine c_region ?_
  refine l_val E ok (y_move rfl) rfl rfl fun a E => ?_
  obtain ⟨r1, e2, hF⟩ := bnd hF
  refine l_call E go_28 rfl (strings_Cut_w N pattern_0 lpattern_0 ([123, 48, 125]) (show ([123, 48, 125] : List UInt8).length ≤ LIMS by decide) e2 hG ok) rfl rfl ?_
  rintro _ w ⟨⟨rfl, ok⟩, l3, l4⟩
  refine ⟨_, rfl, fun a E => ?_⟩
  refine l_val E ok (y_move rfl) rfl rfl fun a E => ?_
  refine l_val E ok (y_extract rfl rfl) rfl rfl fun a E => ?_
  refine l_val E ok (y_extract rfl rfl) rfl rfl fun a E => ?_
  refine l_val E ok (y_extract rfl rfl) rfl rfl fun a E => ?_
  refine l_val E ok (y_assign rfl) rfl rfl fun a E => ?_
  refine l_val E ok (y_assign rfl) rfl rfl fun a E => ?_
  refine l_val E ok (y_assign rfl) rfl rfl fun a E => ?_
  refine wpList_nil ?_
  refine t_norm ?_
  refine wp_seq ?_
  refine wp_seq ?_
  refine c_region ?_
  refine l_val E ok (y_move rfl) rfl rfl fun a E => ?_
  obtain ⟨r5, e6, hF⟩ := bnd hF
  refine l_call E go_28 rfl (strings_Cut_w N r1.1 l3 ([123, 49, 125]) (show ([123, 49, 125] : List UInt8).length ≤ LIMS by decide) e6 hG ok) rfl rfl ?_
  rintro _ w ⟨⟨rfl, ok⟩, l7, l8⟩
  refine ⟨_, rfl, fun a E => ?_⟩
  refine l_val E ok (y_move rfl) rfl rfl fun a E => ?_
  refine l_val E ok (y_extract rfl rfl) rfl rfl fun a E => ?_
  refine l_val E ok (y_extract rfl rfl) rfl rfl fun a E => ?_
  refine l_val E ok (y_extract rfl rfl) rfl rfl fun a E => ?_
  refine l_val E ok (y_assign rfl) rfl rfl fun a E => ?_
  refine l_val E ok (y_assign rfl) rfl rfl fun a E => ?_
  refine l_val E ok (y_assign rfl) rfl rfl fun a E => ?_
  refine wpList_nil ?_
  refine t_norm ?_
  refine wp_seq ?_
  refine c_region ?_
  refine l_val E ok (y_move rfl) rfl rfl fun a E => ?_
  refine wpList_nil ?_
  refine t_norm ?_
  refine c_if E rfl (fun hc9 => ?_) (fun hc9 => ?_)
  · replace hF := cond_t hc9 hF
    refine wp_seq ?_
    refine c_region ?_
    refine l_val E ok (y_move rfl) rfl rfl fun a E => ?_
    refine l_val E ok (y_move rfl) rfl rfl fun a E => ?_
    obtain ⟨s10, e11, hF⟩ := bnd hF
    refine l_val E ok (y_cat rfl rfl e11) rfl rfl fun a E => ?_
    refine l_val E ok (y_move rfl) rfl rfl fun a E => ?_
    obtain ⟨s12, e13, hF⟩ := bnd hF
    refine l_val E ok (y_cat rfl rfl e13) rfl rfl fun a E => ?_
    refine l_val E ok (y_move rfl) rfl rfl fun a E => ?_
    obtain ⟨s14, e15, hF⟩ := bnd hF
    refine l_val E ok (y_cat rfl rfl e15) rfl rfl fun a E => ?_
    refine l_val E ok (y_move rfl) rfl rfl fun a E => ?_
    obtain ⟨s16, e17, hF⟩ := bnd hF
    refine l_val E ok (y_cat rfl rfl e17) rfl rfl fun a E => ?_
    refine l_val E ok (y_assign rfl) rfl rfl fun a E => ?_
    refine wpList_nil ?_
    refine t_norm ?_
    refine wp_ret ?_
    refine t_ret ?_
    have hret : list_fill_R u m0 S s16 a w := ⟨ok, E.d, ⟨rv_t E rfl, trivial⟩, (cat_len e17)⟩
    obtain rfl := Option.some.inj hF
    exact fin _ _ hret
  replace hF := cond_f hc9 hF
  refine wp_skip ?_
  refine t_norm ?_
  refine wp_seq ?_
  refine c_region ?_
  refine l_val E ok (y_move rfl) rfl rfl fun a E => ?_
  obtain ⟨r18, e19, hF⟩ := bnd hF
  refine l_call E go_28 rfl (strings_Cut_w N r1.2.1 l4 ([123, 49, 125]) (show ([123, 49, 125] : List UInt8).length ≤ LIMS by decide) e19 hG ok) rfl rfl ?_
  rintro _ w ⟨⟨rfl, ok⟩, l20, l21⟩
  refine ⟨_, rfl, fun a E => ?_⟩
  refine l_val E ok (y_move rfl) rfl rfl fun a E => ?_
  refine l_val E ok (y_extract rfl rfl) rfl rfl fun a E => ?_
  refine l_val E ok (y_extract rfl rfl) rfl rfl fun a E => ?_
  refine l_val E ok (y_extract rfl rfl) rfl rfl fun a E => ?_
  refine l_val E ok (y_assign rfl) rfl rfl fun a E => ?_
  refine l_val E ok (y_assign rfl) rfl rfl fun a E => ?_
  refine l_val E ok (y_assign rfl) rfl rfl fun a E => ?_
  refine wpList_nil ?_
  refine t_norm ?_
  refine wp_seq ?_
  refine c_region ?_
  refine l_val E ok (y_move rfl) rfl rfl fun a E => ?_
  refine l_val E ok (y_move rfl) rfl rfl fun a E => ?_
  obtain ⟨s22, e23, hF⟩ := bnd hF
  refine l_val E ok (y_cat rfl rfl e23) rfl rfl fun a E => ?_
  refine l_val E ok (y_move rfl) rfl rfl fun a E => ?_
  obtain ⟨s24, e25, hF⟩ := bnd hF
  refine l_val E ok (y_cat rfl rfl e25) rfl rfl fun a E => ?_
  refine l_val E ok (y_move rfl) rfl rfl fun a E => ?_
  obtain ⟨s26, e27, hF⟩ := bnd hF
  refine l_val E ok (y_cat rfl rfl e27) rfl rfl fun a E => ?_
  refine l_val E ok (y_move rfl) rfl rfl fun a E => ?_
  obtain ⟨s28, e29, hF⟩ := bnd hF
  refine l_val E ok (y_cat rfl rfl e29) rfl rfl fun a E => ?_
  refine l_val E ok (y_assign rfl) rfl rfl fun a E => ?_
  refine wpList_nil ?_
  refine t_norm ?_
  refine wp_ret ?_
  have hret : list_fill_R u m0 S s28 a w := ⟨ok, E.d, ⟨rv_t E rfl, trivial⟩, (cat_len e29)⟩
  obtain rfl := Option.some.inj hF
  exact fin _ _ hret

def list_Fill_R (u : World) (m0 : Mem) (S : Segs) (r : (List UInt8) × Int) (a : Act) (w : World) : Prop :=
  Ok u m0 S w ∧ a.defers = [] ∧ RVs Tryd.prog a w [.t 6 (.string (bs r.1)), .t 7 (.int .i64 r.2)] ∧ r.1.length ≤ LIMS ∧ InR .i64 r.2
set_option maxHeartbeats 4000000 in
set_option maxRecDepth 100000 in
theorem list_Fill_w {u : World} {m0 : Mem} {S : Segs} {w : World} (N : Nat) (pattern_0 : List UInt8) (lpattern_0 : pattern_0.length ≤ LIMS) (a_1 : List UInt8) (la_1 : a_1.length ≤ LIMS) (b_2 : List UInt8) (lb_2 : b_2.length ≤ LIMS) {r : (List UInt8) × Int} (hF : list_Fill N pattern_0 a_1 b_2 = some r) (hG : Glob u) (ok : Ok u m0 S w) :
    Calls Tryd.prog 17 [Value.string (bs pattern_0), Value.string (bs a_1), Value.string (bs b_2)].toArray w fun e w' => (e = .returned (.tuple [(.string (bs r.1)), (.int .i64 r.2)].toArray) ∧ Ok u m0 S w') ∧ r.1.length ≤ LIMS ∧ InR .i64 r.2 := by
  have hb0 := ok.base
  have le_m0 := Mem.le.refl m0
  unfold list_Fill at hF
  have fin : ∀ a w, list_Fill_R u m0 S r a w → bodyPost Tryd.prog Tryd.f17 (fun e w' => (e = .returned (.tuple [(.string (bs r.1)), (.int .i64 r.2)].toArray) ∧ Ok u m0 S w') ∧ r.1.length ≤ LIMS ∧ InR .i64 r.2) .ret a w := by
    intro a w h
    obtain ⟨ok, hd, hrv, h0, h1⟩ := h
    exact c_ret2 [.t 6 (.string (bs r.1)), .t 7 (.int .i64 r.2)] hd rfl hrv ⟨⟨rfl, ok⟩, h0, h1⟩
  refine enter Tryd.func17 rfl rfl rfl fun a E => ?_
  refine wp_seq ?_
  refine c_region ?_
  refine l_val E ok (y_assign rfl) rfl rfl fun a E => ?_
  refine l_val E ok (y_assign rfl) rfl rfl fun a E => ?_
  refine wpList_nil ?_
  refine t_norm ?_
  refine wp_seq ?_
  refine wp_seq ?_
  refine c_region ?_
  refine l_val E ok (y_move rfl) rfl rfl fun a E => ?_
  obtain ⟨r1, e2, hF⟩ := bnd hF
  refine l_call E go_19 rfl (validate_Pattern_w N pattern_0 lpattern_0 2 (show InR .i64 (2) by decide) e2 hG ok) rfl rfl ?_
  rintro _ w ⟨rfl, ok⟩
  refine ⟨_, rfl, fun a E => ?_⟩
  refine l_val E ok (y_not rfl) rfl rfl fun a E => ?_
  refine wpList_nil ?_
  refine t_norm ?_
  refine c_if E rfl (fun hc3 => ?_) (fun hc3 => ?_)
  · replace hF := cond_t hc3 hF
    refine wp_seq ?_
    refine c_region ?_
    refine l_val E ok (y_assign rfl) rfl rfl fun a E => ?_
    refine l_val E ok (y_assign rfl) rfl rfl fun a E => ?_
    refine wpList_nil ?_
    refine t_norm ?_
    refine wp_ret ?_
    refine t_ret ?_
    have hret : list_Fill_R u m0 S ([], 4) a w := ⟨ok, E.d, ⟨rv_t E rfl, rv_t E rfl, trivial⟩, (show ([] : List UInt8).length ≤ LIMS by decide), (show InR .i64 (4) by decide)⟩
    obtain rfl := Option.some.inj hF
    exact fin _ _ hret
  replace hF := cond_f hc3 hF
  refine wp_skip ?_
  refine t_norm ?_
  refine wp_seq ?_
  refine c_region ?_
  refine l_val E ok (y_move rfl) rfl rfl fun a E => ?_
  refine l_val E ok (y_move rfl) rfl rfl fun a E => ?_
  refine l_val E ok (y_move rfl) rfl rfl fun a E => ?_
  obtain ⟨r4, e5, hF⟩ := bnd hF
  refine l_call E go_22 rfl (list_fill_w N pattern_0 lpattern_0 a_1 la_1 b_2 lb_2 e5 hG ok) rfl rfl ?_
  rintro _ w ⟨⟨rfl, ok⟩, l6⟩
  refine ⟨_, rfl, fun a E => ?_⟩
  refine l_val E ok (y_assign rfl) rfl rfl fun a E => ?_
  refine l_val E ok (y_assign rfl) rfl rfl fun a E => ?_
  refine wpList_nil ?_
  refine t_norm ?_
  refine wp_ret ?_
  have hret : list_Fill_R u m0 S (r4, 0) a w := ⟨ok, E.d, ⟨rv_t E rfl, rv_t E rfl, trivial⟩, l6, (show InR .i64 (0) by decide)⟩
  obtain rfl := Option.some.inj hF
  exact fin _ _ hret

def calqueref16_fill_R (u : World) (m0 : Mem) (S : Segs) (r : (List UInt8)) (a : Act) (w : World) : Prop :=
  Ok u m0 S w ∧ a.defers = [] ∧ RVs Tryd.prog a w [.t 6 (.string (bs r))] ∧ r.length ≤ LIMS
set_option maxHeartbeats 4000000 in
set_option maxRecDepth 100000 in
theorem calqueref16_fill_w {u : World} {m0 : Mem} {S : Segs} {w : World} (N : Nat) (pattern_0 : List UInt8) (lpattern_0 : pattern_0.length ≤ LIMS) (a_1 : List UInt8) (la_1 : a_1.length ≤ LIMS) (b_2 : List UInt8) (lb_2 : b_2.length ≤ LIMS) {r : (List UInt8)} (hF : calqueref16_fill N pattern_0 a_1 b_2 = some r) (hG : Glob u) (ok : Ok u m0 S w) :
    Calls Tryd.prog 21 [Value.string (bs pattern_0), Value.string (bs a_1), Value.string (bs b_2)].toArray w fun e w' => (e = .returned (.string (bs r)) ∧ Ok u m0 S w') ∧ r.length ≤ LIMS := by
  have hb0 := ok.base
  have le_m0 := Mem.le.refl m0
  unfold calqueref16_fill at hF
  have fin : ∀ a w, calqueref16_fill_R u m0 S r a w → bodyPost Tryd.prog Tryd.f21 (fun e w' => (e = .returned (.string (bs r)) ∧ Ok u m0 S w') ∧ r.length ≤ LIMS) .ret a w := by
    intro a w h
    obtain ⟨ok, hd, hrv, h0⟩ := h
    exact c_ret2 [.t 6 (.string (bs r))] hd rfl hrv ⟨⟨rfl, ok⟩, h0⟩
  refine enter Tryd.func21 rfl rfl rfl fun a E => ?_
  refine wp_seq ?_
  refine c_region ?_
  refine l_val E ok (y_assign rfl) rfl rfl fun a E => ?_
  refine wpList_nil ?_
  refine t_norm ?_
  refine wp_seq ?_
  refine c_region ?_
  refine l_val E ok (y_assign rfl) rfl rfl fun a E => ?_
  refine wpList_nil ?_
  refine t_norm ?_
  refine wp_seq ?_
  refine wp_seq ?_
  refine c_region ?_
  refine l_val E ok (y_assign rfl) rfl rfl fun a E => ?_
  refine wpList_nil ?_
  refine t_norm ?_
  refine wp_block ?_
  obtain ⟨o3, hL, hF⟩ := bnd hF
  refine c_loop _ (fun (s : (List UInt8) × Int) a w => Ok u m0 (S) w ∧ Env 42 a [(0, (Value.string (bs pattern_0))), (1, (Value.string (bs a_1))), (2, (Value.string (bs b_2))), (7, (Value.string (bs s.1))), (8, (Value.int .i64 s.2))] ∧ s.1.length ≤ LIMS ∧ InR .i64 s.2) (fun (b : ((List UInt8))) e a w => e = (.exit 0) ∧ Ok u m0 (S) w ∧ Env 42 a [(7, (Value.string (bs b)))] ∧ b.length ≤ LIMS) ?_ ?_ N _ a w hL ⟨ok, E.keep [0, 1, 2, 7, 8], (show ([] : List UInt8).length ≤ LIMS by decide), (show InR .i64 (0) by decide)⟩
  rotate_left
  · intro e a w _ hO
    obtain ⟨rfl, ok, E, l25⟩ := hO
    refine b_hit ?_
    refine t_norm ?_
    refine wp_seq ?_
    refine c_region ?_
    refine l_val E ok (y_move rfl) rfl rfl fun a E => ?_
    refine l_val E ok (y_assign rfl) rfl rfl fun a E => ?_
    refine wpList_nil ?_
    refine t_norm ?_
    refine wp_ret ?_
    have hret : calqueref16_fill_R u m0 S o3 a w := ⟨ok, E.d, ⟨rv_t E rfl, trivial⟩, l25⟩
    obtain rfl := Option.some.inj hF
    exact fin _ _ hret
  rintro ⟨out_6, i_7⟩ a w r ⟨ok, E, l8, r9⟩ hF
  replace hF : calqueref16_fill_b1 N pattern_0 a_1 b_2 out_6 i_7 = some r := hF
  unfold calqueref16_fill_b1 at hF
  refine wp_seq ?_
  refine wp_seq ?_
  refine c_region ?_
  refine l_val E ok (y_move rfl) rfl rfl fun a E => ?_
  refine l_val E ok (y_move rfl) rfl rfl fun a E => ?_
  refine l_val E ok (y_slen Tryd.underlying9 rfl) rfl rfl fun a E => ?_
  refine l_val E ok (y_lss rfl rfl) rfl rfl fun a E => ?_
  refine wpList_nil ?_
  refine t_norm ?_
  refine c_if E rfl (fun hc10 => ?_) (fun hc10 => ?_)
  rotate_left
  · replace hF := cond_f hc10 hF
    refine wp_exit ?_
    refine t_exit ?_
    obtain rfl := Option.some.inj hF
    exact step_o (by nofun) (⟨rfl, ⟨ok, E.keep [7], l8⟩⟩)
  replace hF := cond_t hc10 hF
  refine wp_skip ?_
  refine t_norm ?_
  refine wp_seq ?_
  refine wp_block ?_
  refine wp_seq ?_
  refine wp_block ?_
  refine wp_seq ?_
  refine c_region ?_
  refine l_val E ok (y_move rfl) rfl rfl fun a E => ?_
  refine l_val E ok (y_move rfl) rfl rfl fun a E => ?_
  obtain ⟨c11, e12, hF⟩ := bnd hF
  refine l_val E ok (y_index Tryd.underlying9 rfl rfl e12) rfl rfl fun a E => ?_
  refine l_val E ok (y_neq rfl rfl) rfl rfl fun a E => ?_
  refine l_val E ok (y_assign rfl) rfl rfl fun a E => ?_
  refine wpList_nil ?_
  refine t_norm ?_
  refine c_if E rfl (fun hc13 => ?_) (fun hc13 => ?_)
  · replace hF := cond_t hc13 hF
    refine wp_seq ?_
    refine c_region ?_
    refine l_val E ok (y_move rfl) rfl rfl fun a E => ?_
    refine l_val E ok (y_move rfl) rfl rfl fun a E => ?_
    refine l_val E ok (y_move rfl) rfl rfl fun a E => ?_
    refine l_val E ok (y_move rfl) rfl rfl fun a E => ?_
    refine l_val E ok (y_add rfl rfl (InR.inc r9 (InR.len lpattern_0) hc10)) rfl rfl fun a E => ?_
    obtain ⟨s14, e15, hF⟩ := bnd hF
    refine l_val E ok (y_sslice Tryd.underlying9 e15 rfl ⟨_, rfl⟩ ⟨_, rfl⟩) rfl rfl fun a E => ?_
    obtain ⟨s16, e17, hF⟩ := bnd hF
    refine l_val E ok (y_cat rfl rfl e17) rfl rfl fun a E => ?_
    refine l_val E ok (y_assign rfl) rfl rfl fun a E => ?_
    refine wpList_nil ?_
    refine t_norm ?_
    refine wp_exit ?_
    refine b_miss rfl ?_
    refine t_exit ?_
    refine b_hit ?_
    refine t_norm ?_
    refine c_region ?_
    refine l_val E ok (y_move rfl) rfl rfl fun a E => ?_
    refine l_val E ok (y_add rfl rfl (InR.inc r9 (InR.len lpattern_0) hc10)) rfl rfl fun a E => ?_
    refine l_val E ok (y_assign rfl) rfl rfl fun a E => ?_
    refine wpList_nil ?_
    obtain rfl := Option.some.inj hF
    exact step_n ⟨ok, E.keep [0, 1, 2, 7, 8], (cat_len e17), (InR.inc r9 (InR.len lpattern_0) hc10)⟩
  replace hF := cond_f hc13 hF
  refine wp_seq ?_
  refine c_region ?_
  refine l_val E ok (y_move rfl) rfl rfl fun a E => ?_
  refine l_val E ok (y_move rfl) rfl rfl fun a E => ?_
  refine l_val E ok (y_add rfl rfl (InR.inc r9 (InR.len lpattern_0) hc10)) rfl rfl fun a E => ?_
  obtain ⟨c18, e19, hF⟩ := bnd hF
  refine l_val E ok (y_index Tryd.underlying9 rfl rfl e19) rfl rfl fun a E => ?_
  refine l_val E ok (y_eql rfl rfl) rfl rfl fun a E => ?_
  refine l_val E ok (y_assign rfl) rfl rfl fun a E => ?_
  refine wpList_nil ?_
  refine t_norm ?_
  refine c_if E rfl (fun hc20 => ?_) (fun hc20 => ?_)
  · replace hF := cond_t hc20 hF
    refine c_region ?_
    refine l_val E ok (y_move rfl) rfl rfl fun a E => ?_
    refine l_val E ok (y_move rfl) rfl rfl fun a E => ?_
    obtain ⟨s21, e22, hF⟩ := bnd hF
    refine l_val E ok (y_cat rfl rfl e22) rfl rfl fun a E => ?_
    refine l_val E ok (y_assign rfl) rfl rfl fun a E => ?_
    refine wpList_nil ?_
    refine b_norm ?_
    refine t_norm ?_
    refine c_region ?_
    refine l_val E ok (y_move rfl) rfl rfl fun a E => ?_
    refine l_val E ok (y_addw rfl rfl) rfl rfl fun a E => ?_
    refine l_val E ok (y_assign rfl) rfl rfl fun a E => ?_
    refine wpList_nil ?_
    refine b_norm ?_
    refine t_norm ?_
    refine c_region ?_
    refine l_val E ok (y_move rfl) rfl rfl fun a E => ?_
    refine l_val E ok (y_addw rfl rfl) rfl rfl fun a E => ?_
    refine l_val E ok (y_assign rfl) rfl rfl fun a E => ?_
    refine wpList_nil ?_
    obtain rfl := Option.some.inj hF
    exact step_n ⟨ok, E.keep [0, 1, 2, 7, 8], (cat_len e22), (InR.wrap _ _)⟩
  replace hF := cond_f hc20 hF
  refine c_region ?_
  refine l_val E ok (y_move rfl) rfl rfl fun a E => ?_
  refine l_val E ok (y_move rfl) rfl rfl fun a E => ?_
  obtain ⟨s23, e24, hF⟩ := bnd hF
  refine l_val E ok (y_cat rfl rfl e24) rfl rfl fun a E => ?_
  refine l_val E ok (y_assign rfl) rfl rfl fun a E => ?_
  refine wpList_nil ?_
  refine b_norm ?_
  refine t_norm ?_
  refine c_region ?_
  refine l_val E ok (y_move rfl) rfl rfl fun a E => ?_
  refine l_val E ok (y_addw rfl rfl) rfl rfl fun a E => ?_
  refine l_val E ok (y_assign rfl) rfl rfl fun a E => ?_
  refine wpList_nil ?_
  refine b_norm ?_
  refine t_norm ?_
  refine c_region ?_
  refine l_val E ok (y_move rfl) rfl rfl fun a E => ?_
  refine l_val E ok (y_addw rfl rfl) rfl rfl fun a E => ?_
  refine l_val E ok (y_assign rfl) rfl rfl fun a E => ?_
  refine wpList_nil ?_
  obtain rfl := Option.some.inj hF
  exact step_n ⟨ok, E.keep [0, 1, 2, 7, 8], (cat_len e24), (InR.wrap _ _)⟩

def calqueref16_Join_R (u : World) (m0 : Mem) (S : Segs) (r : (List UInt8) × Int) (a : Act) (w : World) : Prop :=
  Ok u m0 S w ∧ a.defers = [] ∧ RVs Tryd.prog a w [.t 6 (.string (bs r.1)), .t 7 (.int .i64 r.2)] ∧ r.1.length ≤ LIMS ∧ InR .i64 r.2
set_option maxHeartbeats 4000000 in
set_option maxRecDepth 100000 in
theorem calqueref16_Join_w {u : World} {m0 : Mem} {S : Segs} {w : World} (N : Nat) (vloc_0 : List Value) (loc_0 : Locale) (hloc_0 : pLocale m0 vloc_0 loc_0) (style_1 : List UInt8) (lstyle_1 : style_1.length ≤ LIMS) (vitems_2 : Value) (items_2 : List (List UInt8)) (hitems_2 : (pL 1 pS) m0 [vitems_2] items_2) {r : (List UInt8) × Int} (hF : calqueref16_Join N loc_0 style_1 items_2 = some r) (hG : Glob u) (ok : Ok u m0 S w) :
    Calls Tryd.prog 12 [.agg vloc_0.toArray, Value.string (bs style_1), vitems_2].toArray w fun e w' => (e = .returned (.tuple [(.string (bs r.1)), (.int .i64 r.2)].toArray) ∧ Ok u m0 S w') ∧ r.1.length ≤ LIMS ∧ InR .i64 r.2 := by
  obtain ⟨c4, c6, c14, c16, c18, c20, c22, rfl, l1, l2, l3, h5, h7, l8, l9, l10, l11, r12, r13, h15, h17, h19, h21, h23⟩ := hloc_0
  have hb0 := ok.base
  have le_m0 := Mem.le.refl m0
  unfold calqueref16_Join at hF
  have fin : ∀ a w, calqueref16_Join_R u m0 S r a w → bodyPost Tryd.prog Tryd.f12 (fun e w' => (e = .returned (.tuple [(.string (bs r.1)), (.int .i64 r.2)].toArray) ∧ Ok u m0 S w') ∧ r.1.length ≤ LIMS ∧ InR .i64 r.2) .ret a w := by
    intro a w h
    obtain ⟨ok, hd, hrv, h0, h1⟩ := h
    exact c_ret2 [.t 6 (.string (bs r.1)), .t 7 (.int .i64 r.2)] hd rfl hrv ⟨⟨rfl, ok⟩, h0, h1⟩
  refine enter Tryd.func12 rfl rfl rfl fun a E => ?_
  refine wp_seq ?_
  refine c_region ?_
  refine l_box E ok rfl rfl rfl fun b24 a w E ok => ?_
  refine l_val E ok (y_assign rfl) rfl rfl fun a E => ?_
  refine l_val E ok (y_assign rfl) rfl rfl fun a E => ?_
  refine wpList_nil ?_
  refine t_norm ?_
  refine wp_seq ?_
  refine c_region ?_
  refine l_val E ok (y_loadAgg (cs := [(Value.string (bs loc_0.Tag)), (Value.string (bs loc_0.Parent)), (Value.string (bs loc_0.Direction)), c4, c6, (Value.string (bs loc_0.Symbols.Decimal)), (Value.string (bs loc_0.Symbols.Group)), (Value.string (bs loc_0.Symbols.Minus)), (Value.string (bs loc_0.Symbols.Percent)), (Value.int .i64 loc_0.Symbols.Primary), (Value.int .i64 loc_0.Symbols.Secondary), c14, c16, c18, c20, c22]) agg_37 rfl rfl (Holds.own 0 rfl rfl)) rfl rfl fun a E => ?_
  refine l_val E ok (y_move rfl) rfl rfl fun a E => ?_
  obtain ⟨r25, e26, hF⟩ := bnd hF
  refine l_call E go_16 rfl (calqueref16_Find_w N _ loc_0 ⟨_, _, _, _, _, _, _, rfl, l1, l2, l3, h5, h7, l8, l9, l10, l11, r12, r13, h15, h17, h19, h21, h23⟩ style_1 lstyle_1 e26 hG ok) rfl rfl ?_
  rintro _ w ⟨m27, vs28, rfl, hle, ok, h29⟩
  have le_m0 := le_m0.trans hle
  have h5 := (mL mRule).up hle h5
  have h7 := (mL mRule).up hle h7
  have h15 := (mL mListPattern).up hle h15
  have h17 := (mL mUnitPattern).up hle h17
  have h19 := (mL mDatePattern).up hle h19
  have h21 := (mL mS).up hle h21
  have h23 := (mL mS).up hle h23
  have hitems_2 := (mL mS).up hle hitems_2
  obtain ⟨rfl, l30, l31, l32, l33, l34⟩ := h29
  refine ⟨_, rfl, fun a E => ?_⟩
  refine l_val E ok (y_move rfl) rfl rfl fun a E => ?_
  refine l_val E ok (y_extract rfl rfl) rfl rfl fun a E => ?_
  refine l_val E ok (y_extract rfl rfl) rfl rfl fun a E => ?_
  refine l_alloc E ok zero_23 rfl rfl fun b35 a w E ok => ?_
  refine l_storeB E ok 0 rfl rfl rfl inf_23 rfl rfl ⟨rfl, rfl, rfl, rfl, rfl, trivial⟩ rfl rfl fun w ok => ?_
  refine l_val E ok (y_assign rfl) rfl rfl fun a E => ?_
  refine wpList_nil ?_
  refine t_norm ?_
  refine wp_seq ?_
  refine wp_seq ?_
  refine c_region ?_
  refine l_val E ok (y_move rfl) rfl rfl fun a E => ?_
  refine l_val E ok (y_not rfl) rfl rfl fun a E => ?_
  refine wpList_nil ?_
  refine t_norm ?_
  refine c_if E rfl (fun hc36 => ?_) (fun hc36 => ?_)
  · replace hF := cond_t hc36 hF
    refine wp_seq ?_
    refine c_region ?_
    refine l_val E ok (y_assign rfl) rfl rfl fun a E => ?_
    refine l_val E ok (y_assign rfl) rfl rfl fun a E => ?_
    refine wpList_nil ?_
    refine t_norm ?_
    refine wp_ret ?_
    refine t_ret ?_
    have hret : calqueref16_Join_R u m0 S ([], 18) a w := ⟨(ok.drop.drop).down hb0 le_m0, E.d, ⟨rv_t E rfl, rv_t E rfl, trivial⟩, (show ([] : List UInt8).length ≤ LIMS by decide), (show InR .i64 (18) by decide)⟩
    obtain rfl := Option.some.inj hF
    exact fin _ _ hret
  replace hF := cond_f hc36 hF
  refine wp_skip ?_
  refine t_norm ?_
  refine wp_seq ?_
  refine wp_seq ?_
  refine c_region ?_
  refine l_val E ok (y_fieldAddr fo_23_1 rfl) rfl rfl fun a E => ?_
  refine l_val E ok (y_load one_9 rfl (Holds.own 0 rfl rfl)) rfl rfl fun a E => ?_
  obtain ⟨r37, e38, hF⟩ := bnd hF
  refine l_call E go_14 rfl (calqueref13_Pattern_w N r25.1.Two l31 2 (show InR .i64 (2) by decide) e38 hG ok) rfl rfl ?_
  rintro _ w ⟨rfl, ok⟩
  refine ⟨_, rfl, fun a E => ?_⟩
  refine l_val E ok (y_not rfl) rfl rfl fun a E => ?_
  refine l_val E ok (y_move rfl) rfl rfl fun a E => ?_
  refine bsplit (!r37) (fun hc39 => ?_) (fun hc39 => ?_)
  · replace hF := cond_t hc39 hF
    replace E := E.upd 25 hc39 rfl
    refine l_skip E rfl rfl fun a E => ?_
    refine l_skip E rfl rfl fun a E => ?_
    refine l_skip E rfl rfl fun a E => ?_
    refine l_skip E rfl rfl fun a E => ?_
    refine l_val E ok (y_pickT rfl rfl) rfl rfl fun a E => ?_
    refine l_val E ok (y_move rfl) rfl rfl fun a E => ?_
    refine l_skip E rfl rfl fun a E => ?_
    refine l_skip E rfl rfl fun a E => ?_
    refine l_skip E rfl rfl fun a E => ?_
    refine l_skip E rfl rfl fun a E => ?_
    refine l_val E ok (y_pickT rfl rfl) rfl rfl fun a E => ?_
    refine l_val E ok (y_move rfl) rfl rfl fun a E => ?_
    refine l_skip E rfl rfl fun a E => ?_
    refine l_skip E rfl rfl fun a E => ?_
    refine l_skip E rfl rfl fun a E => ?_
    refine l_skip E rfl rfl fun a E => ?_
    refine l_val E ok (y_pickT rfl rfl) rfl rfl fun a E => ?_
    refine wpList_nil ?_
    refine t_norm ?_
    refine c_if E rfl (fun _ => ?_) (fun h => by cases h)
    refine wp_seq ?_
    refine c_region ?_
    refine l_val E ok (y_assign rfl) rfl rfl fun a E => ?_
    refine l_val E ok (y_assign rfl) rfl rfl fun a E => ?_
    refine wpList_nil ?_
    refine t_norm ?_
    refine wp_ret ?_
    refine t_ret ?_
    have hret : calqueref16_Join_R u m0 S ([], 4) a w := ⟨(ok.drop.drop).down hb0 le_m0, E.d, ⟨rv_t E rfl, rv_t E rfl, trivial⟩, (show ([] : List UInt8).length ≤ LIMS by decide), (show InR .i64 (4) by decide)⟩
    obtain rfl := Option.some.inj hF
    exact fin _ _ hret
  replace hF := cond_f hc39 hF
  replace E := E.upd 25 hc39 rfl
  refine l_val E ok (y_fieldAddr fo_23_2 rfl) rfl rfl fun a E => ?_
  refine l_val E ok (y_load one_9 rfl (Holds.own 0 rfl rfl)) rfl rfl fun a E => ?_
  obtain ⟨r40, e41, hF⟩ := bnd hF
  refine l_call E go_14 rfl (calqueref13_Pattern_w N r25.1.Start l32 2 (show InR .i64 (2) by decide) e41 hG ok) rfl rfl ?_
  rintro _ w ⟨rfl, ok⟩
  refine ⟨_, rfl, fun a E => ?_⟩
  refine l_val E ok (y_not rfl) rfl rfl fun a E => ?_
  refine l_val E ok (y_pickF rfl rfl) rfl rfl fun a E => ?_
  refine l_val E ok (y_move rfl) rfl rfl fun a E => ?_
  refine bsplit (!r40) (fun hc42 => ?_) (fun hc42 => ?_)
  · replace hF := cond_t hc42 hF
    replace E := E.upd 31 hc42 rfl
    refine l_skip E rfl rfl fun a E => ?_
    refine l_skip E rfl rfl fun a E => ?_
    refine l_skip E rfl rfl fun a E => ?_
    refine l_skip E rfl rfl fun a E => ?_
    refine l_val E ok (y_pickT rfl rfl) rfl rfl fun a E => ?_
    refine l_val E ok (y_move rfl) rfl rfl fun a E => ?_
    refine l_skip E rfl rfl fun a E => ?_
    refine l_skip E rfl rfl fun a E => ?_
    refine l_skip E rfl rfl fun a E => ?_
    refine l_skip E rfl rfl fun a E => ?_
    refine l_val E ok (y_pickT rfl rfl) rfl rfl fun a E => ?_
    refine wpList_nil ?_
    refine t_norm ?_
    refine c_if E rfl (fun _ => ?_) (fun h => by cases h)
    refine wp_seq ?_
    refine c_region ?_
    refine l_val E ok (y_assign rfl) rfl rfl fun a E => ?_
    refine l_val E ok (y_assign rfl) rfl rfl fun a E => ?_
    refine wpList_nil ?_
    refine t_norm ?_
    refine wp_ret ?_
    refine t_ret ?_
    have hret : calqueref16_Join_R u m0 S ([], 4) a w := ⟨(ok.drop.drop).down hb0 le_m0, E.d, ⟨rv_t E rfl, rv_t E rfl, trivial⟩, (show ([] : List UInt8).length ≤ LIMS by decide), (show InR .i64 (4) by decide)⟩
    obtain rfl := Option.some.inj hF
    exact fin _ _ hret
  replace hF := cond_f hc42 hF
  replace E := E.upd 31 hc42 rfl
  refine l_val E ok (y_fieldAddr fo_23_3 rfl) rfl rfl fun a E => ?_
  refine l_val E ok (y_load one_9 rfl (Holds.own 0 rfl rfl)) rfl rfl fun a E => ?_
  obtain ⟨r43, e44, hF⟩ := bnd hF
  refine l_call E go_14 rfl (calqueref13_Pattern_w N r25.1.Middle l33 2 (show InR .i64 (2) by decide) e44 hG ok) rfl rfl ?_
  rintro _ w ⟨rfl, ok⟩
  refine ⟨_, rfl, fun a E => ?_⟩
  refine l_val E ok (y_not rfl) rfl rfl fun a E => ?_
  refine l_val E ok (y_pickF rfl rfl) rfl rfl fun a E => ?_
  refine l_val E ok (y_move rfl) rfl rfl fun a E => ?_
  refine bsplit (!r43) (fun hc45 => ?_) (fun hc45 => ?_)
  · replace hF := cond_t hc45 hF
    replace E := E.upd 37 hc45 rfl
    refine l_skip E rfl rfl fun a E => ?_
    refine l_skip E rfl rfl fun a E => ?_
    refine l_skip E rfl rfl fun a E => ?_
    refine l_skip E rfl rfl fun a E => ?_
    refine l_val E ok (y_pickT rfl rfl) rfl rfl fun a E => ?_
    refine wpList_nil ?_
    refine t_norm ?_
    refine c_if E rfl (fun _ => ?_) (fun h => by cases h)
    refine wp_seq ?_
    refine c_region ?_
    refine l_val E ok (y_assign rfl) rfl rfl fun a E => ?_
    refine l_val E ok (y_assign rfl) rfl rfl fun a E => ?_
    refine wpList_nil ?_
    refine t_norm ?_
    refine wp_ret ?_
    refine t_ret ?_
    have hret : calqueref16_Join_R u m0 S ([], 4) a w := ⟨(ok.drop.drop).down hb0 le_m0, E.d, ⟨rv_t E rfl, rv_t E rfl, trivial⟩, (show ([] : List UInt8).length ≤ LIMS by decide), (show InR .i64 (4) by decide)⟩
    obtain rfl := Option.some.inj hF
    exact fin _ _ hret
  replace hF := cond_f hc45 hF
  replace E := E.upd 37 hc45 rfl
  refine l_val E ok (y_fieldAddr fo_23_4 rfl) rfl rfl fun a E => ?_
  refine l_val E ok (y_load one_9 rfl (Holds.own 0 rfl rfl)) rfl rfl fun a E => ?_
  obtain ⟨r46, e47, hF⟩ := bnd hF
  refine l_call E go_14 rfl (calqueref13_Pattern_w N r25.1.End l34 2 (show InR .i64 (2) by decide) e47 hG ok) rfl rfl ?_
  rintro _ w ⟨rfl, ok⟩
  refine ⟨_, rfl, fun a E => ?_⟩
  refine l_val E ok (y_not rfl) rfl rfl fun a E => ?_
  refine l_val E ok (y_pickF rfl rfl) rfl rfl fun a E => ?_
  refine wpList_nil ?_
  refine t_norm ?_
  refine c_if E rfl (fun hc48 => ?_) (fun hc48 => ?_)
  · replace hF := cond_t hc48 hF
    refine wp_seq ?_
    refine c_region ?_
    refine l_val E ok (y_assign rfl) rfl rfl fun a E => ?_
    refine l_val E ok (y_assign rfl) rfl rfl fun a E => ?_
    refine wpList_nil ?_
    refine t_norm ?_
    refine wp_ret ?_
    refine t_ret ?_
    have hret : calqueref16_Join_R u m0 S ([], 4) a w := ⟨(ok.drop.drop).down hb0 le_m0, E.d, ⟨rv_t E rfl, rv_t E rfl, trivial⟩, (show ([] : List UInt8).length ≤ LIMS by decide), (show InR .i64 (4) by decide)⟩
    obtain rfl := Option.some.inj hF
    exact fin _ _ hret
  replace hF := cond_f hc48 hF
  refine wp_skip ?_
  refine t_norm ?_
  refine wp_seq ?_
  refine c_region ?_
  refine l_val E ok (y_move rfl) rfl rfl fun a E => ?_
  refine l_val E ok (y_lenL sl_24 hitems_2 rfl) rfl rfl fun a E => ?_
  refine l_val E ok (y_assign rfl) rfl rfl fun a E => ?_
  refine wpList_nil ?_
  refine t_norm ?_
  refine wp_seq ?_
  refine wp_seq ?_
  refine c_region ?_
  refine l_val E ok (y_move rfl) rfl rfl fun a E => ?_
  refine l_val E ok (y_gtr rfl rfl) rfl rfl fun a E => ?_
  refine wpList_nil ?_
  refine t_norm ?_
  refine c_if E rfl (fun hc49 => ?_) (fun hc49 => ?_)
  · replace hF := cond_t hc49 hF
    refine wp_seq ?_
    refine c_region ?_
    refine l_val E ok (y_assign rfl) rfl rfl fun a E => ?_
    refine l_val E ok (y_assign rfl) rfl rfl fun a E => ?_
    refine wpList_nil ?_
    refine t_norm ?_
    refine wp_ret ?_
    refine t_ret ?_
    have hret : calqueref16_Join_R u m0 S ([], 6) a w := ⟨(ok.drop.drop).down hb0 le_m0, E.d, ⟨rv_t E rfl, rv_t E rfl, trivial⟩, (show ([] : List UInt8).length ≤ LIMS by decide), (show InR .i64 (6) by decide)⟩
    obtain rfl := Option.some.inj hF
    exact fin _ _ hret
  replace hF := cond_f hc49 hF
  refine wp_skip ?_
  refine t_norm ?_
  refine wp_seq ?_
  refine c_region ?_
  refine l_val E ok (y_assign rfl) rfl rfl fun a E => ?_
  refine wpList_nil ?_
  refine t_norm ?_
  refine wp_seq ?_
  refine wp_block ?_
  refine wp_seq ?_
  refine c_region ?_
  refine l_val E ok (y_move rfl) rfl rfl fun a E => ?_
  refine l_val E ok (y_eql rfl rfl) rfl rfl fun a E => ?_
  refine l_val E ok (y_assign rfl) rfl rfl fun a E => ?_
  refine wpList_nil ?_
  refine t_norm ?_
  obtain ⟨o50, hJ, hF⟩ := bnd hF
  refine c_mono (Q' := fun e a w => e = .normal ∧ Ok u m27 ([(b35, Obj.cells [(Value.string (bs r25.1.Style)), (Value.string (bs r25.1.Two)), (Value.string (bs r25.1.Start)), (Value.string (bs r25.1.Middle)), (Value.string (bs r25.1.End))].toArray 23 (0, 0))] :: [(b24, Obj.cells [(Value.string (bs loc_0.Tag)), (Value.string (bs loc_0.Parent)), (Value.string (bs loc_0.Direction)), c4, c6, (Value.string (bs loc_0.Symbols.Decimal)), (Value.string (bs loc_0.Symbols.Group)), (Value.string (bs loc_0.Symbols.Minus)), (Value.string (bs loc_0.Symbols.Percent)), (Value.int .i64 loc_0.Symbols.Primary), (Value.int .i64 loc_0.Symbols.Secondary), c14, c16, c18, c20, c22].toArray 37 (0, 0))] :: S) w ∧ Env 106 a [(11, (Value.string (bs o50)))] ∧ o50.length ≤ LIMS) ?_ ?_
  rotate_left
  · clear hJ
    intro e a w hO
    obtain ⟨rfl, ok, E, l149⟩ := hO
    refine b_norm ?_
    refine t_norm ?_
    refine wp_seq ?_
    refine wp_seq ?_
    refine c_region ?_
    refine l_val E ok (y_move rfl) rfl rfl fun a E => ?_
    refine l_val E ok (y_slen Tryd.underlying9 rfl) rfl rfl fun a E => ?_
    refine l_val E ok (y_gtr rfl rfl) rfl rfl fun a E => ?_
    refine wpList_nil ?_
    refine t_norm ?_
    refine c_if E rfl (fun hc150 => ?_) (fun hc150 => ?_)
    · replace hF := cond_t hc150 hF
      refine wp_seq ?_
      refine c_region ?_
      refine l_val E ok (y_assign rfl) rfl rfl fun a E => ?_
      refine l_val E ok (y_assign rfl) rfl rfl fun a E => ?_
      refine wpList_nil ?_
      refine t_norm ?_
      refine wp_ret ?_
      refine t_ret ?_
      have hret : calqueref16_Join_R u m0 S ([], 6) a w := ⟨(ok.drop.drop).down hb0 le_m0, E.d, ⟨rv_t E rfl, rv_t E rfl, trivial⟩, (show ([] : List UInt8).length ≤ LIMS by decide), (show InR .i64 (6) by decide)⟩
      obtain rfl := Option.some.inj hF
      exact fin _ _ hret
    replace hF := cond_f hc150 hF
    refine wp_skip ?_
    refine t_norm ?_
    refine wp_seq ?_
    refine c_region ?_
    refine l_val E ok (y_move rfl) rfl rfl fun a E => ?_
    refine l_val E ok (y_assign rfl) rfl rfl fun a E => ?_
    refine l_val E ok (y_assign rfl) rfl rfl fun a E => ?_
    refine wpList_nil ?_
    refine t_norm ?_
    refine wp_ret ?_
    have hret : calqueref16_Join_R u m0 S (o50, 0) a w := ⟨(ok.drop.drop).down hb0 le_m0, E.d, ⟨rv_t E rfl, rv_t E rfl, trivial⟩, l149, (show InR .i64 (0) by decide)⟩
    obtain rfl := Option.some.inj hF
    exact fin _ _ hret
  replace hF := hJ
  clear hJ
  refine c_if E rfl (fun hc52 => ?_) (fun hc52 => ?_)
  · replace hF := cond_t hc52 hF
    refine c_region ?_
    refine l_val E ok (y_move rfl) rfl rfl fun a E => ?_
    obtain ⟨x53, e54, hF⟩ := bnd hF
    obtain ⟨b55, o56, es57, hl58, rr59, at60, yy61⟩ := idxAt sl_24 hitems_2 e54 (P := Tryd.prog) (X := .tmp 50) (I := .const (Value.int .i64 0)) (kd := .i64) (ev_of E rfl) (ev_of E rfl)
    obtain ⟨rfl, l62⟩ := rr59
    refine l_val E ok (yy61 _ _) rfl rfl fun a E => ?_
    refine l_val E ok (y_load one_9 rfl (Holds.ro at60)) rfl rfl fun a E => ?_
    refine l_val E ok (y_assign rfl) rfl rfl fun a E => ?_
    refine wpList_nil ?_
    obtain rfl := Option.some.inj hF
    exact ⟨rfl, ⟨ok, E.keep [11], l62⟩⟩
  replace hF := cond_f hc52 hF
  refine wp_seq ?_
  refine c_region ?_
  refine l_val E ok (y_move rfl) rfl rfl fun a E => ?_
  refine l_val E ok (y_eql rfl rfl) rfl rfl fun a E => ?_
  refine l_val E ok (y_assign rfl) rfl rfl fun a E => ?_
  refine wpList_nil ?_
  refine t_norm ?_
  refine c_if E rfl (fun hc63 => ?_) (fun hc63 => ?_)
  · replace hF := cond_t hc63 hF
    refine c_draw (by kernel_rfl) (by kernel_rfl) ok ?_
    refine q_val E (y_fieldAddr fo_23_1 rfl) rfl rfl fun a E => ?_
    refine q_val E (y_load one_9 rfl (Holds.own 0 rfl rfl)) rfl rfl fun a E => ?_
    refine q_val E (y_move rfl) rfl rfl fun a E => ?_
    obtain ⟨x64, e65, hF⟩ := bnd hF
    obtain ⟨b66, o67, es68, hl69, rr70, at71, yy72⟩ := idxAt sl_24 hitems_2 e65 (P := Tryd.prog) (X := .tmp 58) (I := .const (Value.int .i64 0)) (kd := .i64) (ev_of E rfl) (ev_of E rfl)
    obtain ⟨rfl, l73⟩ := rr70
    refine q_val E (yy72 _ _) rfl rfl fun a E => ?_
    refine q_val E (y_load one_9 rfl (Holds.ro at71)) rfl rfl fun a E => ?_
    refine q_val E (y_move rfl) rfl rfl fun a E => ?_
    obtain ⟨x74, e75, hF⟩ := bnd hF
    obtain ⟨b76, o77, es78, hl79, rr80, at81, yy82⟩ := idxAt sl_24 hitems_2 e75 (P := Tryd.prog) (X := .tmp 61) (I := .const (Value.int .i64 1)) (kd := .i64) (ev_of E rfl) (ev_of E rfl)
    obtain ⟨rfl, l83⟩ := rr80
    refine q_val E (yy82 _ _) rfl rfl fun a E => ?_
    refine q_val E (y_load one_9 rfl (Holds.ro at81)) rfl rfl fun a E => ?_
    obtain ⟨r84, e85, hF⟩ := bnd hF
    obtain ⟨_, _, ⟨_, _⟩, l86⟩ := Go.X.Calls.get (calqueref16_fill_w N r25.1.Two l31 x64 l73 x74 l83 e85 hG ok)
    refine q_call E go_21 rfl (fun w ok => (calqueref16_fill_w N r25.1.Two l31 x64 l73 x74 l83 e85 hG ok).mono (fun _ _ h => h.1)) rfl rfl fun a E => ?_
    refine q_val E (y_assign rfl) rfl rfl fun a E => ?_
    refine wpQuiet_nil ?_
    intro w ok
    obtain rfl := Option.some.inj hF
    exact ⟨rfl, ⟨ok, E.keep [11], l86⟩⟩
  replace hF := cond_f hc63 hF
  refine wp_seq ?_
  refine c_region ?_
  refine l_val E ok (y_move rfl) rfl rfl fun a E => ?_
  refine l_val E ok (y_gtr rfl rfl) rfl rfl fun a E => ?_
  refine l_val E ok (y_assign rfl) rfl rfl fun a E => ?_
  refine wpList_nil ?_
  refine t_norm ?_
  refine c_if E rfl (fun hc87 => ?_) (fun hc87 => ?_)
  rotate_left
  · replace hF := cond_f hc87 hF
    refine wp_skip ?_
    obtain rfl := Option.some.inj hF
    exact ⟨rfl, ⟨ok, E.keep [11], (show ([] : List UInt8).length ≤ LIMS by decide)⟩⟩
  replace hF := cond_t hc87 hF
  refine wp_seq ?_
  refine c_draw (by kernel_rfl) (by kernel_rfl) ok ?_
  refine q_val E (y_fieldAddr fo_23_4 rfl) rfl rfl fun a E => ?_
  refine q_val E (y_load one_9 rfl (Holds.own 0 rfl rfl)) rfl rfl fun a E => ?_
  refine q_val E (y_move rfl) rfl rfl fun a E => ?_
  refine q_val E (y_move rfl) rfl rfl fun a E => ?_
  refine q_val E (y_subw rfl rfl) rfl rfl fun a E => ?_
  obtain ⟨x88, e89, hF⟩ := bnd hF
  obtain ⟨b90, o91, es92, hl93, rr94, at95, yy96⟩ := idxAt sl_24 hitems_2 e89 (P := Tryd.prog) (X := .tmp 70) (I := .tmp 72) (kd := .i64) (ev_of E rfl) (ev_of E rfl)
  obtain ⟨rfl, l97⟩ := rr94
  refine q_val E (yy96 _ _) rfl rfl fun a E => ?_
  refine q_val E (y_load one_9 rfl (Holds.ro at95)) rfl rfl fun a E => ?_
  refine q_val E (y_move rfl) rfl rfl fun a E => ?_
  refine q_val E (y_move rfl) rfl rfl fun a E => ?_
  refine q_val E (y_sub rfl rfl (InR.dec (pL_InR hitems_2) (show InR .i64 (2) by decide) hc87)) rfl rfl fun a E => ?_
  obtain ⟨x98, e99, hF⟩ := bnd hF
  obtain ⟨b100, o101, es102, hl103, rr104, at105, yy106⟩ := idxAt sl_24 hitems_2 e99 (P := Tryd.prog) (X := .tmp 75) (I := .tmp 77) (kd := .i64) (ev_of E rfl) (ev_of E rfl)
  obtain ⟨rfl, l107⟩ := rr104
  refine q_val E (yy106 _ _) rfl rfl fun a E => ?_
  refine q_val E (y_load one_9 rfl (Holds.ro at105)) rfl rfl fun a E => ?_
  obtain ⟨r108, e109, hF⟩ := bnd hF
  obtain ⟨_, _, ⟨_, _⟩, l110⟩ := Go.X.Calls.get (calqueref16_fill_w N r25.1.End l34 x88 l97 x98 l107 e109 hG ok)
  refine q_call E go_21 rfl (fun w ok => (calqueref16_fill_w N r25.1.End l34 x88 l97 x98 l107 e109 hG ok).mono (fun _ _ h => h.1)) rfl rfl fun a E => ?_
  refine q_val E (y_assign rfl) rfl rfl fun a E => ?_
  refine wpQuiet_nil ?_
  intro w ok
  refine t_norm ?_
  refine wp_seq ?_
  refine wp_seq ?_
  refine c_region ?_
  refine l_val E ok (y_move rfl) rfl rfl fun a E => ?_
  refine l_val E ok (y_subw rfl rfl) rfl rfl fun a E => ?_
  refine l_val E ok (y_assign rfl) rfl rfl fun a E => ?_
  refine wpList_nil ?_
  refine t_norm ?_
  refine wp_block ?_
  obtain ⟨o113, hL, hF⟩ := bnd hF
  refine c_loop _ (fun (s : (List UInt8) × Int) a w => Ok u m27 ([(b35, Obj.cells [(Value.string (bs r25.1.Style)), (Value.string (bs r25.1.Two)), (Value.string (bs r25.1.Start)), (Value.string (bs r25.1.Middle)), (Value.string (bs r25.1.End))].toArray 23 (0, 0))] :: [(b24, Obj.cells [(Value.string (bs loc_0.Tag)), (Value.string (bs loc_0.Parent)), (Value.string (bs loc_0.Direction)), c4, c6, (Value.string (bs loc_0.Symbols.Decimal)), (Value.string (bs loc_0.Symbols.Group)), (Value.string (bs loc_0.Symbols.Minus)), (Value.string (bs loc_0.Symbols.Percent)), (Value.int .i64 loc_0.Symbols.Primary), (Value.int .i64 loc_0.Symbols.Secondary), c14, c16, c18, c20, c22].toArray 37 (0, 0))] :: S) w ∧ Env 106 a [(2, vitems_2), (8, (Value.pointer (some ⟨b35, 0, none⟩))), (11, (Value.string (bs s.1))), (12, (Value.int .i64 s.2))] ∧ s.1.length ≤ LIMS ∧ InR .i64 s.2) (fun (b : ((List UInt8))) e a w => e = (.exit 1) ∧ Ok u m27 ([(b35, Obj.cells [(Value.string (bs r25.1.Style)), (Value.string (bs r25.1.Two)), (Value.string (bs r25.1.Start)), (Value.string (bs r25.1.Middle)), (Value.string (bs r25.1.End))].toArray 23 (0, 0))] :: [(b24, Obj.cells [(Value.string (bs loc_0.Tag)), (Value.string (bs loc_0.Parent)), (Value.string (bs loc_0.Direction)), c4, c6, (Value.string (bs loc_0.Symbols.Decimal)), (Value.string (bs loc_0.Symbols.Group)), (Value.string (bs loc_0.Symbols.Minus)), (Value.string (bs loc_0.Symbols.Percent)), (Value.int .i64 loc_0.Symbols.Primary), (Value.int .i64 loc_0.Symbols.Secondary), c14, c16, c18, c20, c22].toArray 37 (0, 0))] :: S) w ∧ Env 106 a [(2, vitems_2), (8, (Value.pointer (some ⟨b35, 0, none⟩))), (11, (Value.string (bs b)))] ∧ b.length ≤ LIMS) ?_ ?_ N _ a w hL ⟨ok, E.keep [2, 8, 11, 12], l110, (InR.wrap _ _)⟩
  rotate_left
  · intro e a w _ hO
    obtain ⟨rfl, ok, E, l134⟩ := hO
    refine b_hit ?_
    refine t_norm ?_
    refine c_draw (by kernel_rfl) (by kernel_rfl) ok ?_
    refine q_val E (y_fieldAddr fo_23_2 rfl) rfl rfl fun a E => ?_
    refine q_val E (y_load one_9 rfl (Holds.own 0 rfl rfl)) rfl rfl fun a E => ?_
    refine q_val E (y_move rfl) rfl rfl fun a E => ?_
    obtain ⟨x135, e136, hF⟩ := bnd hF
    obtain ⟨b137, o138, es139, hl140, rr141, at142, yy143⟩ := idxAt sl_24 hitems_2 e136 (P := Tryd.prog) (X := .tmp 97) (I := .const (Value.int .i64 0)) (kd := .i64) (ev_of E rfl) (ev_of E rfl)
    obtain ⟨rfl, l144⟩ := rr141
    refine q_val E (yy143 _ _) rfl rfl fun a E => ?_
    refine q_val E (y_load one_9 rfl (Holds.ro at142)) rfl rfl fun a E => ?_
    refine q_val E (y_move rfl) rfl rfl fun a E => ?_
    obtain ⟨r145, e146, hF⟩ := bnd hF
    obtain ⟨_, _, ⟨_, _⟩, l147⟩ := Go.X.Calls.get (calqueref16_fill_w N r25.1.Start l32 x135 l144 o113 l134 e146 hG ok)
    refine q_call E go_21 rfl (fun w ok => (calqueref16_fill_w N r25.1.Start l32 x135 l144 o113 l134 e146 hG ok).mono (fun _ _ h => h.1)) rfl rfl fun a E => ?_
    refine q_val E (y_assign rfl) rfl rfl fun a E => ?_
    refine wpQuiet_nil ?_
    intro w ok
    obtain rfl := Option.some.inj hF
    exact ⟨rfl, ⟨ok, E.keep [11], l147⟩⟩
  rintro ⟨s_116, i_117⟩ a w r ⟨ok, E, l118, r119⟩ hF
  replace hF : calqueref16_Join_b1 N items_2 r25 s_116 i_117 = some r := hF
  unfold calqueref16_Join_b1 at hF
  refine wp_seq ?_
  refine wp_seq ?_
  refine c_region ?_
  refine l_val E ok (y_move rfl) rfl rfl fun a E => ?_
  refine l_val E ok (y_gtr rfl rfl) rfl rfl fun a E => ?_
  refine wpList_nil ?_
  refine t_norm ?_
  refine c_if E rfl (fun hc120 => ?_) (fun hc120 => ?_)
  rotate_left
  · replace hF := cond_f hc120 hF
    refine wp_exit ?_
    refine t_exit ?_
    obtain rfl := Option.some.inj hF
    exact step_o (by nofun) (⟨rfl, ⟨ok, E.keep [2, 8, 11], l118⟩⟩)
  replace hF := cond_t hc120 hF
  refine wp_skip ?_
  refine t_norm ?_
  refine wp_seq ?_
  refine wp_block ?_
  refine c_draw (by kernel_rfl) (by kernel_rfl) ok ?_
  refine q_val E (y_fieldAddr fo_23_3 rfl) rfl rfl fun a E => ?_
  refine q_val E (y_load one_9 rfl (Holds.own 0 rfl rfl)) rfl rfl fun a E => ?_
  refine q_val E (y_move rfl) rfl rfl fun a E => ?_
  refine q_val E (y_move rfl) rfl rfl fun a E => ?_
  obtain ⟨x121, e122, hF⟩ := bnd hF
  obtain ⟨b123, o124, es125, hl126, rr127, at128, yy129⟩ := idxAt sl_24 hitems_2 e122 (P := Tryd.prog) (X := .tmp 89) (I := .tmp 90) (kd := .i64) (ev_of E rfl) (ev_of E rfl)
  obtain ⟨rfl, l130⟩ := rr127
  refine q_val E (yy129 _ _) rfl rfl fun a E => ?_
  refine q_val E (y_load one_9 rfl (Holds.ro at128)) rfl rfl fun a E => ?_
  refine q_val E (y_move rfl) rfl rfl fun a E => ?_
  obtain ⟨r131, e132, hF⟩ := bnd hF
  obtain ⟨_, _, ⟨_, _⟩, l133⟩ := Go.X.Calls.get (calqueref16_fill_w N r25.1.Middle l33 x121 l130 s_116 l118 e132 hG ok)
  refine q_call E go_21 rfl (fun w ok => (calqueref16_fill_w N r25.1.Middle l33 x121 l130 s_116 l118 e132 hG ok).mono (fun _ _ h => h.1)) rfl rfl fun a E => ?_
  refine q_val E (y_assign rfl) rfl rfl fun a E => ?_
  refine wpQuiet_nil ?_
  intro w ok
  refine b_norm ?_
  refine t_norm ?_
  refine c_region ?_
  refine l_val E ok (y_move rfl) rfl rfl fun a E => ?_
  refine l_val E ok (y_sub rfl rfl (InR.dec r119 (show InR .i64 (0) by decide) hc120)) rfl rfl fun a E => ?_
  refine l_val E ok (y_assign rfl) rfl rfl fun a E => ?_
  refine wpList_nil ?_
  obtain rfl := Option.some.inj hF
  exact step_n ⟨ok, E.keep [2, 8, 11, 12], l133, (InR.dec r119 (show InR .i64 (0) by decide) hc120)⟩

def calqueref16_Fill_R (u : World) (m0 : Mem) (S : Segs) (r : (List UInt8) × Int) (a : Act) (w : World) : Prop :=
  Ok u m0 S w ∧ a.defers = [] ∧ RVs Tryd.prog a w [.t 6 (.string (bs r.1)), .t 7 (.int .i64 r.2)] ∧ r.1.length ≤ LIMS ∧ InR .i64 r.2
set_option maxHeartbeats 4000000 in
set_option maxRecDepth 100000 in
theorem calqueref16_Fill_w {u : World} {m0 : Mem} {S : Segs} {w : World} (N : Nat) (pattern_0 : List UInt8) (lpattern_0 : pattern_0.length ≤ LIMS) (a_1 : List UInt8) (la_1 : a_1.length ≤ LIMS) (b_2 : List UInt8) (lb_2 : b_2.length ≤ LIMS) {r : (List UInt8) × Int} (hF : calqueref16_Fill N pattern_0 a_1 b_2 = some r) (hG : Glob u) (ok : Ok u m0 S w) :
    Calls Tryd.prog 18 [Value.string (bs pattern_0), Value.string (bs a_1), Value.string (bs b_2)].toArray w fun e w' => (e = .returned (.tuple [(.string (bs r.1)), (.int .i64 r.2)].toArray) ∧ Ok u m0 S w') ∧ r.1.length ≤ LIMS ∧ InR .i64 r.2 := by
  have hb0 := ok.base
  have le_m0 := Mem.le.refl m0
  unfold calqueref16_Fill at hF
  have fin : ∀ a w, calqueref16_Fill_R u m0 S r a w → bodyPost Tryd.prog Tryd.f18 (fun e w' => (e = .returned (.tuple [(.string (bs r.1)), (.int .i64 r.2)].toArray) ∧ Ok u m0 S w') ∧ r.1.length ≤ LIMS ∧ InR .i64 r.2) .ret a w := by
    intro a w h
    obtain ⟨ok, hd, hrv, h0, h1⟩ := h
    exact c_ret2 [.t 6 (.string (bs r.1)), .t 7 (.int .i64 r.2)] hd rfl hrv ⟨⟨rfl, ok⟩, h0, h1⟩
  refine enter Tryd.func18 rfl rfl rfl fun a E => ?_
  refine wp_seq ?_
  refine c_region ?_
  refine l_val E ok (y_assign rfl) rfl rfl fun a E => ?_
  refine l_val E ok (y_assign rfl) rfl rfl fun a E => ?_
  refine wpList_nil ?_
  refine t_norm ?_
  refine wp_seq ?_
  refine wp_seq ?_
  refine c_region ?_
  refine l_val E ok (y_move rfl) rfl rfl fun a E => ?_
  obtain ⟨r1, e2, hF⟩ := bnd hF
  refine l_call E go_14 rfl (calqueref13_Pattern_w N pattern_0 lpattern_0 2 (show InR .i64 (2) by decide) e2 hG ok) rfl rfl ?_
  rintro _ w ⟨rfl, ok⟩
  refine ⟨_, rfl, fun a E => ?_⟩
  refine l_val E ok (y_not rfl) rfl rfl fun a E => ?_
  refine wpList_nil ?_
  refine t_norm ?_
  refine c_if E rfl (fun hc3 => ?_) (fun hc3 => ?_)
  · replace hF := cond_t hc3 hF
    refine wp_seq ?_
    refine c_region ?_
    refine l_val E ok (y_assign rfl) rfl rfl fun a E => ?_
    refine l_val E ok (y_assign rfl) rfl rfl fun a E => ?_
    refine wpList_nil ?_
    refine t_norm ?_
    refine wp_ret ?_
    refine t_ret ?_
    have hret : calqueref16_Fill_R u m0 S ([], 4) a w := ⟨ok, E.d, ⟨rv_t E rfl, rv_t E rfl, trivial⟩, (show ([] : List UInt8).length ≤ LIMS by decide), (show InR .i64 (4) by decide)⟩
    obtain rfl := Option.some.inj hF
    exact fin _ _ hret
  replace hF := cond_f hc3 hF
  refine wp_skip ?_
  refine t_norm ?_
  refine wp_seq ?_
  refine c_region ?_
  refine l_val E ok (y_move rfl) rfl rfl fun a E => ?_
  refine l_val E ok (y_move rfl) rfl rfl fun a E => ?_
  refine l_val E ok (y_move rfl) rfl rfl fun a E => ?_
  obtain ⟨r4, e5, hF⟩ := bnd hF
  refine l_call E go_21 rfl (calqueref16_fill_w N pattern_0 lpattern_0 a_1 la_1 b_2 lb_2 e5 hG ok) rfl rfl ?_
  rintro _ w ⟨⟨rfl, ok⟩, l6⟩
  refine ⟨_, rfl, fun a E => ?_⟩
  refine l_val E ok (y_assign rfl) rfl rfl fun a E => ?_
  refine l_val E ok (y_assign rfl) rfl rfl fun a E => ?_
  refine wpList_nil ?_
  refine t_norm ?_
  refine wp_ret ?_
  have hret : calqueref16_Fill_R u m0 S (r4, 0) a w := ⟨ok, E.d, ⟨rv_t E rfl, rv_t E rfl, trivial⟩, l6, (show InR .i64 (0) by decide)⟩
  obtain rfl := Option.some.inj hF
  exact fin _ _ hret

def calqueref16_Few_R (u : World) (m0 : Mem) (S : Segs) (r : Bool) (a : Act) (w : World) : Prop :=
  Ok u m0 S w ∧ a.defers = [] ∧ RVs Tryd.prog a w [.t 4 (.bool r)]
set_option maxHeartbeats 4000000 in
set_option maxRecDepth 100000 in
theorem calqueref16_Few_w {u : World} {m0 : Mem} {S : Segs} {w : World} (N : Nat) (vp_0 : List Value) (p_0 : ListPattern) (hp_0 : pListPattern m0 vp_0 p_0) (vitems_1 : Value) (items_1 : List (List UInt8)) (hitems_1 : (pL 1 pS) m0 [vitems_1] items_1) {r : Bool} (hF : calqueref16_Few N p_0 items_1 = some r) (hG : Glob u) (ok : Ok u m0 S w) :
    Calls Tryd.prog 9 [.agg vp_0.toArray, vitems_1].toArray w fun e w' => (e = .returned (.bool r) ∧ Ok u m0 S w') := by
  obtain ⟨rfl, l1, l2, l3, l4, l5⟩ := hp_0
  have hb0 := ok.base
  have le_m0 := Mem.le.refl m0
  unfold calqueref16_Few at hF
  have fin : ∀ a w, calqueref16_Few_R u m0 S r a w → bodyPost Tryd.prog Tryd.f9 (fun e w' => (e = .returned (.bool r) ∧ Ok u m0 S w')) .ret a w := by
    intro a w h
    obtain ⟨ok, hd, hrv⟩ := h
    exact c_ret2 [.t 4 (.bool r)] hd rfl hrv ⟨rfl, ok⟩
  refine enter Tryd.func9 rfl rfl rfl fun a E => ?_
  refine wp_seq ?_
  refine c_region ?_
  refine l_box E ok rfl rfl rfl fun b6 a w E ok => ?_
  refine l_val E ok (y_assign rfl) rfl rfl fun a E => ?_
  refine wpList_nil ?_
  refine t_norm ?_
  refine wp_seq ?_
  refine c_region ?_
  refine l_val E ok (y_assign rfl) rfl rfl fun a E => ?_
  refine wpList_nil ?_
  refine t_norm ?_
  refine wp_seq ?_
  refine wp_seq ?_
  refine c_region ?_
  refine l_val E ok (y_assign rfl) rfl rfl fun a E => ?_
  refine wpList_nil ?_
  refine t_norm ?_
  refine wp_block ?_
  obtain ⟨o9, hL, hF⟩ := bnd hF
  refine c_loop _ (fun (s : Int × Int) a w => Ok u m0 ([(b6, Obj.cells [(Value.string (bs p_0.Style)), (Value.string (bs p_0.Two)), (Value.string (bs p_0.Start)), (Value.string (bs p_0.Middle)), (Value.string (bs p_0.End))].toArray 23 (0, 0))] :: S) w ∧ Env 49 a [(1, vitems_1), (2, (Value.pointer (some ⟨b6, 0, none⟩))), (5, (Value.int .i64 s.1)), (6, (Value.int .i64 s.2))] ∧ InR .i64 s.1 ∧ InR .i64 s.2) (fun (b : Int) e a w => e = (.exit 0) ∧ Ok u m0 ([(b6, Obj.cells [(Value.string (bs p_0.Style)), (Value.string (bs p_0.Two)), (Value.string (bs p_0.Start)), (Value.string (bs p_0.Middle)), (Value.string (bs p_0.End))].toArray 23 (0, 0))] :: S) w ∧ Env 49 a [(1, vitems_1), (2, (Value.pointer (some ⟨b6, 0, none⟩))), (5, (Value.int .i64 b))] ∧ InR .i64 b) ?_ ?_ N _ a w hL ⟨ok, E.keep [1, 2, 5, 6], (show InR .i64 (0) by decide), (show InR .i64 (0) by decide)⟩
  · rintro ⟨n_12, i_13⟩ a w r ⟨ok, E, r14, r15⟩ hF
    replace hF : calqueref16_Few_b1 N items_1 n_12 i_13 = some r := hF
    unfold calqueref16_Few_b1 at hF
    refine wp_seq ?_
    refine wp_seq ?_
    refine c_region ?_
    refine l_val E ok (y_move rfl) rfl rfl fun a E => ?_
    refine l_val E ok (y_move rfl) rfl rfl fun a E => ?_
    refine l_val E ok (y_lenL sl_24 hitems_1 rfl) rfl rfl fun a E => ?_
    refine l_val E ok (y_lss rfl rfl) rfl rfl fun a E => ?_
    refine wpList_nil ?_
    refine t_norm ?_
    refine c_if E rfl (fun hc16 => ?_) (fun hc16 => ?_)
    rotate_left
    · replace hF := cond_f hc16 hF
      refine wp_exit ?_
      refine t_exit ?_
      obtain rfl := Option.some.inj hF
      exact step_o (by nofun) (⟨rfl, ⟨ok, E.keep [1, 2, 5], r14⟩⟩)
    replace hF := cond_t hc16 hF
    refine wp_skip ?_
    refine t_norm ?_
    refine wp_seq ?_
    refine wp_block ?_
    refine c_region ?_
    refine l_val E ok (y_move rfl) rfl rfl fun a E => ?_
    refine l_val E ok (y_move rfl) rfl rfl fun a E => ?_
    refine l_val E ok (y_move rfl) rfl rfl fun a E => ?_
    obtain ⟨x17, e18, hF⟩ := bnd hF
    obtain ⟨b19, o20, es21, hl22, rr23, at24, yy25⟩ := idxAt sl_24 hitems_1 e18 (P := Tryd.prog) (X := .tmp 14) (I := .tmp 15) (kd := .i64) (ev_of E rfl) (ev_of E rfl)
    obtain ⟨rfl, l26⟩ := rr23
    refine l_val E ok (yy25 _ _) rfl rfl fun a E => ?_
    refine l_val E ok (y_load one_9 rfl (Holds.ro at24)) rfl rfl fun a E => ?_
    refine l_val E ok (y_slen Tryd.underlying9 rfl) rfl rfl fun a E => ?_
    refine l_val E ok (y_addw rfl rfl) rfl rfl fun a E => ?_
    refine l_val E ok (y_assign rfl) rfl rfl fun a E => ?_
    refine wpList_nil ?_
    refine b_norm ?_
    refine t_norm ?_
    refine c_region ?_
    refine l_val E ok (y_move rfl) rfl rfl fun a E => ?_
    refine l_val E ok (y_add rfl rfl (InR.inc r15 (pL_InR hitems_1) hc16)) rfl rfl fun a E => ?_
    refine l_val E ok (y_assign rfl) rfl rfl fun a E => ?_
    refine wpList_nil ?_
    obtain rfl := Option.some.inj hF
    exact step_n ⟨ok, E.keep [1, 2, 5, 6], (InR.wrap _ _), (InR.inc r15 (pL_InR hitems_1) hc16)⟩
  intro e a w _ hO
  obtain ⟨rfl, ok, E, r27⟩ := hO
  refine b_hit ?_
  refine t_norm ?_
  refine wp_seq ?_
  refine c_region ?_
  refine l_val E ok (y_fieldAddr fo_23_0 rfl) rfl rfl fun a E => ?_
  refine l_val E ok (y_load one_9 rfl (Holds.own 0 rfl rfl)) rfl rfl fun a E => ?_
  refine l_val E ok (y_slen Tryd.underlying9 rfl) rfl rfl fun a E => ?_
  refine l_val E ok (y_fieldAddr fo_23_1 rfl) rfl rfl fun a E => ?_
  refine l_val E ok (y_load one_9 rfl (Holds.own 0 rfl rfl)) rfl rfl fun a E => ?_
  refine l_val E ok (y_slen Tryd.underlying9 rfl) rfl rfl fun a E => ?_
  refine l_val E ok (y_addw rfl rfl) rfl rfl fun a E => ?_
  refine l_val E ok (y_fieldAddr fo_23_2 rfl) rfl rfl fun a E => ?_
  refine l_val E ok (y_load one_9 rfl (Holds.own 0 rfl rfl)) rfl rfl fun a E => ?_
  refine l_val E ok (y_slen Tryd.underlying9 rfl) rfl rfl fun a E => ?_
  refine l_val E ok (y_addw rfl rfl) rfl rfl fun a E => ?_
  refine l_val E ok (y_fieldAddr fo_23_3 rfl) rfl rfl fun a E => ?_
  refine l_val E ok (y_load one_9 rfl (Holds.own 0 rfl rfl)) rfl rfl fun a E => ?_
  refine l_val E ok (y_slen Tryd.underlying9 rfl) rfl rfl fun a E => ?_
  refine l_val E ok (y_addw rfl rfl) rfl rfl fun a E => ?_
  refine l_val E ok (y_fieldAddr fo_23_4 rfl) rfl rfl fun a E => ?_
  refine l_val E ok (y_load one_9 rfl (Holds.own 0 rfl rfl)) rfl rfl fun a E => ?_
  refine l_val E ok (y_slen Tryd.underlying9 rfl) rfl rfl fun a E => ?_
  refine l_val E ok (y_addw rfl rfl) rfl rfl fun a E => ?_
  refine l_val E ok (y_leq rfl rfl) rfl rfl fun a E => ?_
  refine l_val E ok (y_move rfl) rfl rfl fun a E => ?_
  refine bsplit (decide ((IntKind.wrap .i64 ((IntKind.wrap .i64 ((IntKind.wrap .i64 ((IntKind.wrap .i64 ((p_0.Style.length : Int) + (p_0.Two.length : Int))) + (p_0.Start.length : Int))) + (p_0.Middle.length : Int))) + (p_0.End.length : Int))) ≤ 400)) (fun hc28 => ?_) (fun hc28 => ?_)
  rotate_left
  · replace hF := cond_f hc28 hF
    replace E := E.upd 40 hc28 rfl
    refine l_skip E rfl rfl fun a E => ?_
    refine l_skip E rfl rfl fun a E => ?_
    refine l_val E ok (y_pickF rfl rfl) rfl rfl fun a E => ?_
    refine l_val E ok (y_move rfl) rfl rfl fun a E => ?_
    refine l_skip E rfl rfl fun a E => ?_
    refine l_skip E rfl rfl fun a E => ?_
    refine l_skip E rfl rfl fun a E => ?_
    refine l_val E ok (y_pickF rfl rfl) rfl rfl fun a E => ?_
    refine l_val E ok (y_assign rfl) rfl rfl fun a E => ?_
    refine wpList_nil ?_
    refine t_norm ?_
    refine wp_ret ?_
    have hret : calqueref16_Few_R u m0 S false a w := ⟨ok.drop, E.d, ⟨rv_t E rfl, trivial⟩⟩
    obtain rfl := Option.some.inj hF
    exact fin _ _ hret
  replace hF := cond_t hc28 hF
  replace E := E.upd 40 hc28 rfl
  refine l_val E ok (y_move rfl) rfl rfl fun a E => ?_
  refine l_val E ok (y_leq rfl rfl) rfl rfl fun a E => ?_
  refine l_val E ok (y_pickT rfl rfl) rfl rfl fun a E => ?_
  refine l_val E ok (y_move rfl) rfl rfl fun a E => ?_
  refine bsplit (decide (o9 ≤ 30000)) (fun hc29 => ?_) (fun hc29 => ?_)
  · replace hF := cond_t hc29 hF
    replace E := E.upd 44 hc29 rfl
    refine l_val E ok (y_move rfl) rfl rfl fun a E => ?_
    refine l_val E ok (y_lenL sl_24 hitems_1 rfl) rfl rfl fun a E => ?_
    refine l_val E ok (y_leq rfl rfl) rfl rfl fun a E => ?_
    refine l_val E ok (y_pickT rfl rfl) rfl rfl fun a E => ?_
    refine l_val E ok (y_assign rfl) rfl rfl fun a E => ?_
    refine wpList_nil ?_
    refine t_norm ?_
    refine wp_ret ?_
    have hret : calqueref16_Few_R u m0 S (decide ((items_1.length : Int) ≤ 40)) a w := ⟨ok.drop, E.d, ⟨rv_t E rfl, trivial⟩⟩
    obtain rfl := Option.some.inj hF
    exact fin _ _ hret
  replace hF := cond_f hc29 hF
  replace E := E.upd 44 hc29 rfl
  refine l_skip E rfl rfl fun a E => ?_
  refine l_skip E rfl rfl fun a E => ?_
  refine l_skip E rfl rfl fun a E => ?_
  refine l_val E ok (y_pickF rfl rfl) rfl rfl fun a E => ?_
  refine l_val E ok (y_assign rfl) rfl rfl fun a E => ?_
  refine wpList_nil ?_
  refine t_norm ?_
  refine wp_ret ?_
  have hret : calqueref16_Few_R u m0 S false a w := ⟨ok.drop, E.d, ⟨rv_t E rfl, trivial⟩⟩
  obtain rfl := Option.some.inj hF
  exact fin _ _ hret

end Go.Proofs.YtnmiodonophfbaaDoor
